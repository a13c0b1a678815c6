/-
  What the disk's functions do, each by a contract.
-/
import Derived.Test.YtodlabpgjgbbpadProg
import Derived.Test.YtodlabpgjgbbpadWords
import Derived.Test.YtodlabpgjgbbpadAppend
import Derived.Test.YtodlabpgjgbbpadRow
import Derived.WalkKit
import Derived.WalkSpells
import Derived.WalkLawsBesides
import Derived.Handy
import Derived.Deep.RegionHeld3
import Derived.BigQuiet
import Derived.Deep.QuietTactic
import Derived.Lib.SmallJoins
namespace Go.Proofs.Ytodlabpgjgbbpad
open Go.RowKit Go.Agio

abbrev bys (xs : List Int) : List Value := xs.map (Value.int .u8)

/-- A disk: its block, what it has, how much of it is synced. -/
def Disk (base : Nat) (w : World) (d : Nat) (xs : List Int) (s : Nat) (A : Option Addr) (c : Nat) : Prop :=
  base ≤ d ∧ w.heap[d]? = some (.cells #[.slice A xs.length c, .int .i64 s] 50) ∧ Rowed w base 5 A xs.length c (bys xs) ∧ s ≤ xs.length ∧ xs.length ≤ 1048576 ∧ ∀ a, A = some a → a.block ≠ d

theorem Disk.moved {base d : Nat} {w w' : World} {xs : List Int} {s c : Nat} {A : Option Addr} (h : Disk base w d xs s A c) (hb : Below w.heap.size w w') : Disk base w' d xs s A c := by
  obtain ⟨h1, h2, h3, h4, h5, h6⟩ := h
  exact ⟨h1, (hb.block d (blk_lt h2)).trans h2, h3.same hb.size (fun a ha => hb.block _ (h3.low a ha).2), h4, h5, h6⟩

theorem info8 : (Try.prog.info? 5).map (fun i => (i.zero, i.size, i.bytes)) = some (some (.int .u8 0), 1, 1) := by kernel_rfl
theorem size8 (w : World) : (sizeOf (Try.prog.elem 26)).run Try.prog w = .ok 1 w := by kernel_rfl
theorem elem8 : Try.prog.underlying 26 = some (.slice (Try.prog.elem 26)) := by kernel_rfl

set_option maxHeartbeats 1000000 in
theorem clone_any (A : Option Addr) (n c : Nat) (xs : List Int) (w : World) (hR : Reads w A (bys xs)) (hn : xs.length = n) (hm : n ≤ 140737488355328) :
    Calls Try.prog 24 #[.slice A n c] w fun e w' => ∃ A' c', e = .returned (.slice A' n c') ∧ w'.ownsRow w.heap.size 5 1 (.slice A' n c') n (bys xs) ∧ Below w.heap.size w w' := by
  obtain ⟨i0, hi, hz0, hz1, hz2⟩ := info_parts info8
  have q := fun (w : World) (a : Option Addr) (n c n' c' : Nat) => Go.Lib.run_eql_slice_nil (P := Try.prog) w 26 5 a n c n' c' Try.underlying26
  rcases A with _ | ad
  · have h0 : xs = [] := by
      rcases hR with h | ⟨_, _, h, _⟩
      · simpa using h
      · cases h
    subst h0
    simp at hn
    subst hn
    go_enter Try.func24, Try.ntmps24
    go_wp2
    go_ret
    exact ⟨none, 0, rfl, World.ownsRow_nil _ _ _ _, Below.refl _ _⟩
  · have HR := hide hR
    clear hR
    go_enter Try.func24, Try.ntmps24
    go_wp2_with (at_builtin; apply halted)
    refine unhalt (wpList_append_reads rfl (.tmp 5) (.tmp 6) 26 rfl w.heap.size 5 i0 (.int .u8 0) 1 Try.underlying26 hi hz0 hz1 hz2 rfl _ 0 [] rfl (own_new w _ _ [] 0 (Nat.le_refl _) rfl (by unfold maxLen; omega)) (some ad) n c (bys xs) rfl (HR.out.alloc _) (by rw [List.length_map]; exact hn) (ints_one _ _) (by unfold maxLen; omega) (by omega) (by simp) ?_)
    intro A' c' w1 n1 g1 t1
    rw [Nat.zero_add] at n1
    rw [Nat.zero_add]
    have N1 := hide n1
    have hb1 := ((Below.refl w.heap.size w).alloc (Nat.le_refl _) _).grown g1 (by simp) (fun g hg => by cases hg; exact Nat.le_refl _)
    clear n1 g1 t1
    go_wp2
    go_ret
    exact ⟨A', c', rfl, by simpa using N1.out, hb1⟩

theorem new_any (w : World) : Calls Try.prog 10 #[] w fun e w' => e = .returned (.pointer (some ⟨w.heap.size, 0, none⟩)) ∧ w' = w.alloc (.cells #[.slice none 0 0, .int .i64 0] 50) := by
  go_enter Try.func10, Try.ntmps10
  go_wp2
  go_ret
  exact ⟨rfl, rfl⟩
theorem disk_new (base : Nat) (w : World) (hb : base ≤ w.heap.size) : Disk base (w.alloc (.cells #[.slice none 0 0, .int .i64 0] 50)) w.heap.size [] 0 none 0 :=
  ⟨hb, heap_new _ _, Rowed.nil _ _ _, Nat.le_refl _, by simp, by simp⟩

set_option maxHeartbeats 1000000 in
theorem append_any (base d : Nat) (xs : List Int) (s : Nat) (A : Option Addr) (c : Nat) (B : Option Addr) (m cb : Nat) (ys : List Int) (w : World) (hD : Disk base w d xs s A c) (hR : Reads w B (bys ys)) (hm : ys.length = m) (hroom : xs.length + m ≤ 1048576) :
    Calls Try.prog 12 #[.pointer (some ⟨d, 0, none⟩), .slice B m cb] w fun e w' => e = .returned (.int .i64 0) ∧ ∃ A' c', Disk base w' d (xs ++ ys) s A' c' ∧ Moved d A A' w w' := by
  obtain ⟨h1, h2, h3, h4, h5, h6⟩ := hD
  obtain ⟨i0, hi, hz0, hz1, hz2⟩ := info_parts info8
  have hlt := blk_lt h2
  obtain ⟨a0, a1⟩ := two_cells (Below.refl _ w) h2
  have H2 := hide h2; have H3 := hide h3; have H6 := hide h6; have HR := hide hR
  clear h2 h3 h6 hR
  go_enter Try.func12, Try.ntmps12
  go_wp2_with (at_builtin; apply halted)
  refine unhalt (wpList_append_rowed rfl (.tmp 20) (.tmp 21) 26 rfl base 5 i0 (.int .u8 0) 1 Try.underlying26 hi hz0 hz1 hz2 rfl A xs.length c (bys xs) rfl H3.out B m cb (bys ys) rfl HR.out (by rw [List.length_map]; exact hm) (ints_one _ _) (by unfold maxLen; omega) (by omega) (by omega) ?_)
  intro A' c' w1 n1 g1 t1
  have k1 : w1.heap[d]? = _ := (g1.block d hlt (fun he => by
    cases A with
    | none => cases he
    | some a => injection he with he; exact H6.out a rfl he.symm)).trans H2.out
  obtain ⟨b0, b1⟩ := two_cells (Below.refl _ w1) k1
  have f0 := live_blk k1 0; have f1 := live_blk k1 1
  have K1 := hide k1; have N1 := hide n1; have G1 := hide g1; have T1 := hide t1
  clear k1 n1 g1 t1
  go_wp2
  go_ret
  have hl : (xs ++ ys).length = xs.length + m := by rw [List.length_append, hm]
  refine ⟨rfl, A', c', ⟨h1, by rw [hl]; exact two_set0 K1.out _, ?_, by omega, by omega, ?_⟩, ?_⟩
  · rw [hl]
    have hap : bys (xs ++ ys) = bys xs ++ bys ys := by simp
    rw [hap]
    refine N1.out.same (by simp [World.setCell]) (fun a ha => Below.heap_setCell _ _ _ _ ?_)
    exact apart_next H6.out T1.out hlt a ha
  · exact fun a ha => apart_next H6.out T1.out hlt a ha
  · exact Moved.set (Moved.of_grown G1.out T1.out) 0 _

set_option maxHeartbeats 1000000 in
theorem append_full (base d : Nat) (xs : List Int) (s : Nat) (A : Option Addr) (c : Nat) (B : Option Addr) (m cb : Nat) (w : World) (hD : Disk base w d xs s A c) (hroom : 1048576 < xs.length + m) :
    Calls Try.prog 12 #[.pointer (some ⟨d, 0, none⟩), .slice B m cb] w fun e w' => e = .returned (.int .i64 5) ∧ w = w' := by
  obtain ⟨h1, h2, h3, h4, h5, h6⟩ := hD
  obtain ⟨a0, a1⟩ := two_cells (Below.refl _ w) h2
  clear h2 h3 h6
  go_enter Try.func12, Try.ntmps12
  go_wp2
  go_ret
  exact ⟨rfl, rfl⟩

set_option maxHeartbeats 1000000 in
theorem sync_any (base d : Nat) (xs : List Int) (s : Nat) (A : Option Addr) (c : Nat) (w : World) (hD : Disk base w d xs s A c) :
    Calls Try.prog 13 #[.pointer (some ⟨d, 0, none⟩)] w fun e w' => e = .returned (.tuple #[]) ∧ Disk base w' d xs xs.length A c ∧ Moved d A A w w' := by
  obtain ⟨h1, h2, h3, h4, h5, h6⟩ := hD
  obtain ⟨a0, a1⟩ := two_cells (Below.refl _ w) h2
  have f1 := live_blk h2 1
  have H2 := hide h2; have H3 := hide h3; have H6 := hide h6
  clear h2 h3 h6
  go_enter Try.func13, Try.ntmps13
  go_wp2
  refine bodyPost_end (v := .tuple #[]) (by simp [results, Try.results13, go_sem]) rfl ?_
  exact ⟨rfl, ⟨h1, two_set1 H2.out _, H3.out.same (by simp [World.setCell]) (fun a ha => Below.heap_setCell _ _ _ _ (H6.out a ha)), Nat.le_refl _, h5, H6.out⟩, (Moved.refl d A w).set 1 _⟩

set_option maxHeartbeats 1000000 in
theorem first_any (base d : Nat) (xs : List Int) (s k : Nat) (A : Option Addr) (c : Nat) (w : World) (hD : Disk base w d xs s A c) (hk : k ≤ xs.length) :
    Calls Try.prog 25 #[.pointer (some ⟨d, 0, none⟩), .int .i64 k] w fun e w' => e = .returned (.tuple #[]) ∧ (w'.heap[d]? = some (.cells #[.slice A k k, .int .i64 s] 50) ∧ Rowed w' base 5 A k k (bys (xs.take k)) ∧ ∀ a, A = some a → a.block ≠ d) ∧ Moved d A A w w' := by
  obtain ⟨h1, h2, h3, h4, h5, h6⟩ := hD
  obtain ⟨a0, a1⟩ := two_cells (Below.refl _ w) h2
  have f0 := live_blk h2 0
  have hc := h3.cap
  have H2 := hide h2; have H3 := hide h3; have H6 := hide h6
  clear h2 h3 h6
  go_enter Try.func25, Try.ntmps25
  go_wp2
  refine bodyPost_end (v := .tuple #[]) (by simp [results, Try.results25, go_sem]) rfl ?_
  refine ⟨rfl, ⟨two_set0 H2.out _, ?_, H6.out⟩, (Moved.refl d A w).set 0 _⟩
  refine Rowed.same (w := w) ?_ (by simp [World.setCell]) (fun a ha => Below.heap_setCell _ _ _ _ (H6.out a ha))
  have hr := H3.out.first k hk
  rwa [← List.map_take] at hr

set_option maxHeartbeats 1000000 in
theorem crash_any (base d : Nat) (xs : List Int) (s k : Nat) (keep : Int) (A : Option Addr) (c : Nat) (w : World) (hD : Disk base w d xs s A c) (hk : (k : Int) = max 0 (min keep ((xs.length : Int) - s))) :
    Calls Try.prog 14 #[.pointer (some ⟨d, 0, none⟩), .int .i64 keep] w fun e w' => e = .returned (.tuple #[]) ∧ ∃ c', Disk base w' d (xs.take (s + k)) (s + k) A c' ∧ Moved d A A w w' := by
  have hle := hD.2.2.2.1
  have hr := hD.2.2.2.2.1
  have hlow := hD.1
  have hsk : s + k ≤ xs.length := by omega
  have C := hide (fun (W : World) (z : Int) (hz : z = ((s + k : Nat) : Int)) (hW : Disk base W d xs s A c) => hz ▸ first_any base d xs s (s + k) A c W hW hsk)
  have H2 := hide hD.2.1
  obtain ⟨a0, a1⟩ := two_cells (Below.refl _ w) H2.out
  have HD := hide hD
  have hlen := hide (show (xs.take (s + k)).length = s + k by rw [List.length_take]; omega)
  have FIN : Hid (∀ (w1 w2 : World) (z : Int), (w1.heap[d]? = some (.cells #[.slice A (s + k) (s + k), .int .i64 s] 50) ∧ Rowed w1 base 5 A (s + k) (s + k) (bys (xs.take (s + k))) ∧ ∀ a, A = some a → a.block ≠ d) → Moved d A A w.drew w1 → w2 = w1.setCell ⟨d, 1, none⟩ (.int .i64 z) → z = ((s + k : Nat) : Int) → ∃ c', Disk base w2 d (xs.take (s + k)) (s + k) A c' ∧ Moved d A A w w2) := hide (fun w1 w2 z hx hM e e' => by
    subst e e'
    obtain ⟨g1, g2, g3⟩ := hx
    have hM' : Moved d A A w w1 := ⟨hM.os, hM.tape, hM.output, hM.size, hM.rest, hM.next⟩
    refine ⟨s + k, ⟨hlow, ?_, ?_, ?_, ?_, g3⟩, hM'.set 1 _⟩
    · rw [hlen.out]; exact two_set1 g1 _
    · rw [hlen.out]; exact g2.same (by simp [World.setCell]) (fun a ha => Below.heap_setCell _ _ _ _ (g3 a ha))
    · rw [hlen.out]
      exact Nat.le_refl _
    · rw [hlen.out]; omega)
  rcases (show (keep < 0 ∧ k = 0) ∨ (0 ≤ keep ∧ keep = (k : Int) ∧ (k : Int) ≤ (xs.length : Int) - s) ∨ (0 ≤ (xs.length : Int) - s ∧ (xs.length : Int) - s < keep ∧ (k : Int) = (xs.length : Int) - s) by omega) with ⟨q1, rfl⟩ | ⟨q0, rfl, q1⟩ | ⟨q0, q1, q2⟩
  all_goals clear hD hk
  all_goals go_enter Try.func14, Try.ntmps14
  all_goals go_wp2_with fail
  all_goals go_region
  all_goals go_wp2_with fail
  all_goals refine Calls.mono (C.out w.drew _ ?_ HD.out) ?_
  all_goals first | omega | skip
  all_goals rintro e w1 ⟨rfl, hx, hM⟩
  all_goals obtain ⟨b0, b1⟩ := two_cells (Below.refl _ w1) hx.1
  all_goals have f1 := live_blk hx.1 1
  all_goals have HX := hide hx
  all_goals clear hx
  all_goals go_wp2
  all_goals refine bodyPost_end (v := .tuple #[]) (by simp [results, Try.results14, go_sem]) rfl ?_
  all_goals refine ⟨rfl, FIN.out _ _ _ HX.out hM rfl ?_⟩
  all_goals omega

set_option maxHeartbeats 1000000 in
theorem bytes_any (base d : Nat) (xs : List Int) (s : Nat) (A : Option Addr) (c : Nat) (w : World) (hD : Disk base w d xs s A c) :
    Calls Try.prog 11 #[.pointer (some ⟨d, 0, none⟩)] w fun e w' => ∃ A' c', e = .returned (.slice A' xs.length c') ∧ w'.ownsRow w.heap.size 5 1 (.slice A' xs.length c') xs.length (bys xs) ∧ Below w.heap.size w w' := by
  obtain ⟨h1, h2, h3, h4, h5, h6⟩ := hD
  obtain ⟨a0, a1⟩ := two_cells (Below.refl _ w) h2
  have C := hide (fun n (hn : xs.length = n) (hm : n ≤ 140737488355328) => clone_any A n c xs w h3.reads hn hm)
  clear h2 h3 h6
  go_enter Try.func11, Try.ntmps11
  go_wp2_with fail
  refine (C.out _ rfl (by omega)).mono ?_
  rintro e w1 ⟨A', c', rfl, g1, g2⟩
  go_wp2
  go_ret
  exact ⟨A', c', rfl, g1, g2⟩

theorem synced_any (base d : Nat) (xs : List Int) (s : Nat) (A : Option Addr) (c : Nat) (w : World) (hD : Disk base w d xs s A c) :
    Calls Try.prog 15 #[.pointer (some ⟨d, 0, none⟩)] w fun e w' => e = .returned (.int .i64 s) ∧ w = w' := by
  obtain ⟨h1, h2, h3, h4, h5, h6⟩ := hD
  obtain ⟨a0, a1⟩ := two_cells (Below.refl _ w) h2
  clear h2 h3 h6
  go_enter Try.func15, Try.ntmps15
  go_wp2
  go_ret
  exact ⟨rfl, rfl⟩

end Go.Proofs.Ytodlabpgjgbbpad
