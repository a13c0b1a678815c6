/-
  Slices of bytes: a copy; what stands in one, as a string.
-/
import Derived.Test.YtodlabpgjgbbpahProg
import Derived.Test.YtodlabpgjgbbpahWords
import Derived.Test.YtodlabpgjgbbpahAppend
import Derived.Test.YtodlabpgjgbbpahStep
import Derived.WalkKit
import Derived.WalkSpells
import Derived.WalkLawsBesides
import Derived.Handy
import Derived.Laws.BytesArg
namespace Go.Proofs.Ytodlabpgjgbbpah
open Go.RowKit Go.Agio

abbrev bys (xs : List Int) : List Value := xs.map (Value.int .u8)
theorem info8 : (Try.prog.info? 5).map (fun i => (i.zero, i.size, i.bytes)) = some (some (.int .u8 0), 1, 1) := by kernel_rfl
theorem size8 (w : World) : (sizeOf (Try.prog.elem 24)).run Try.prog w = .ok 1 w := by kernel_rfl
theorem elem8 : Try.prog.underlying 24 = some (.slice (Try.prog.elem 24)) := by kernel_rfl

set_option maxHeartbeats 1000000 in
theorem clone_any (A : Option Addr) (n c : Nat) (xs : List Int) (w : World) (hR : Reads w A (bys xs)) (hn : xs.length = n) (hm : n ≤ 140737488355328) :
    Calls Try.prog 25 #[.slice A n c] w fun e w' => ∃ A' c', e = .returned (.slice A' n c') ∧ w'.ownsRow w.heap.size 5 1 (.slice A' n c') n (bys xs) ∧ Below w.heap.size w w' := by
  obtain ⟨i0, hi, hz0, hz1, hz2⟩ := info_parts info8
  have q := fun (w : World) (a : Option Addr) (n c n' c' : Nat) => Go.Lib.run_eql_slice_nil (P := Try.prog) w 24 5 a n c n' c' Try.underlying24
  rcases A with _ | ad
  · have h0 : xs = [] := by
      rcases hR with h | ⟨_, _, h, _⟩
      · simpa using h
      · cases h
    subst h0
    simp at hn
    subst hn
    go_enter Try.func25, Try.ntmps25
    go_wp2
    go_ret
    exact ⟨none, 0, rfl, World.ownsRow_nil _ _ _ _, Below.refl _ _⟩
  · have HR := hide hR
    clear hR
    go_enter Try.func25, Try.ntmps25
    go_wp2_with (at_builtin; apply halted)
    refine unhalt (wpList_append_reads rfl (.tmp 5) (.tmp 6) 24 rfl w.heap.size 5 i0 (.int .u8 0) 1 Try.underlying24 hi hz0 hz1 hz2 rfl _ 0 [] rfl (own_new w _ _ [] 0 (Nat.le_refl _) rfl (by unfold maxLen; omega)) (some ad) n c (bys xs) rfl (HR.out.alloc _) (by rw [List.length_map]; exact hn) (ints_one _ _) (by unfold maxLen; omega) (by omega) (by simp) ?_)
    intro A' c' w1 n1 g1 t1
    rw [Nat.zero_add] at n1
    rw [Nat.zero_add]
    have N1 := hide n1
    have hb1 := ((Below.refl w.heap.size w).alloc (Nat.le_refl _) _).grown g1 (by simp) (fun g hg => by cases hg; exact Nat.le_refl _)
    clear n1 g1 t1
    go_wp2
    go_ret
    exact ⟨A', c', rfl, by simpa using N1.out, hb1⟩

/-- The same, behind whatever has kept what was there. -/
theorem clone_at {w0 : World} (A : Option Addr) (n c : Nat) (xs : List Int) (w : World) (hb : Below w0.heap.size w0 w) (hR : Reads w0 A (bys xs)) (hn : xs.length = n) (hm : n ≤ 140737488355328) :
    Calls Try.prog 25 #[.slice A n c] w fun e w' => ∃ A' c', e = .returned (.slice A' n c') ∧ Reads w' A' (bys xs) ∧ (∀ a, A' = some a → w0.heap.size ≤ a.block ∧ a.block < w'.heap.size) ∧ Below w0.heap.size w0 w' := by
  refine (clone_any A n c xs w (hR.below hb) hn hm).mono ?_
  rintro e w' ⟨A', c', h1, h2, h3⟩
  exact ⟨A', c', h1, Reads.of_own h2, fun a ha => by subst ha; have := h2.lt a.block rfl; exact ⟨Nat.le_trans hb.size this.1, this.2⟩, below_next hb h3⟩

/-- A slice of bytes that reads as a list, as a string. -/
theorem str_reads (w : World) (A : Option Addr) (n c : Nat) (xs : List Int) (hR : Reads w A (bys xs)) (hn : xs.length = n) :
    (convert 24 9 (.slice A n c)).run Try.prog w = .ok (.string (strOfNums xs)) w := by
  subst hn
  have hs := Try.underlying24
  have he := Try.underlying5
  have hd := Try.underlying9
  rcases A with _ | a
  · have h0 : xs = [] := by
      rcases hR with h | ⟨_, _, h, _⟩
      · simpa using h
      · cases h
    subst h0
    exact run_convert_bytes_nil w _ _ hs he _ _ _ hd
  · rcases hR with h | ⟨b, off, h, _, hc⟩
    · have h0 : xs = [] := by simpa using h
      subst h0
      rw [run_convert_bytes_string w _ _ _ _ _ _ hs he hd, run_bytesToString w a _ c [] (by simp [loadCells, loadCellsFrom])]
      rfl
    · injection h with h
      subst h
      refine run_convert_bytes_arg w _ _ hs he b off _ c xs rfl (fun i hi => ?_) _ hd
      rw [hc i (by simpa using hi)]
      simp [List.getD_eq_getElem?_getD, hi]

/-- Bytes that are the same string are the same. -/
theorem str_inj {xs ys : List Int} (hx : ∀ z ∈ xs, 0 ≤ z ∧ z ≤ 255) (hy : ∀ z ∈ ys, 0 ≤ z ∧ z ≤ 255) (h : strOfNums xs = strOfNums ys) : xs = ys := by
  have h1 : xs.map (fun n => UInt8.ofNat n.toNat) = ys.map (fun n => UInt8.ofNat n.toNat) := by
    rw [← strOfNums_data, ← strOfNums_data, h]
  have key : ∀ (xs ys : List Int), (∀ z ∈ xs, 0 ≤ z ∧ z ≤ 255) → (∀ z ∈ ys, 0 ≤ z ∧ z ≤ 255) → xs.map (fun n => UInt8.ofNat n.toNat) = ys.map (fun n => UInt8.ofNat n.toNat) → xs = ys := by
    intro xs
    induction xs with
    | nil => intro ys _ _ h; cases ys with
      | nil => rfl
      | cons y ys => simp at h
    | cons x xs ih => intro ys hx hy h; cases ys with
      | nil => simp at h
      | cons y ys =>
        simp only [List.map_cons, List.cons.injEq] at h
        have hx0 := hx x (by simp)
        have hy0 := hy y (by simp)
        have h2 := congrArg UInt8.toNat h.1
        simp only [UInt8.toNat_ofNat'] at h2
        rw [ih ys (fun z hz => hx z (by simp [hz])) (fun z hz => hy z (by simp [hz])) h.2]
        congr 1
        omega
  exact key xs ys hx hy h1
/-- As the walk compares two strings. -/
theorem str_beq {xs ys : List Int} (hx : ∀ z ∈ xs, 0 ≤ z ∧ z ≤ 255) (hy : ∀ z ∈ ys, 0 ≤ z ∧ z ≤ 255) : ((strOfNums xs).toList == (strOfNums ys).toList) = decide (xs = ys) := by
  by_cases h : xs = ys
  · subst h; simp
  · rw [decide_eq_false h, beq_eq_false_iff_ne]
    intro he
    rw [ByteArray.toList_eq, ByteArray.toList_eq] at he
    exact h (str_inj hx hy (WideShapes.bytes_inj he))

end Go.Proofs.Ytodlabpgjgbbpah
