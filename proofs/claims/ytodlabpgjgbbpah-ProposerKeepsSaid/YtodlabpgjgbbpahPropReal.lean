/-
  What the law's own real and votes do: the same promises, the same votes.
-/
import Derived.Test.YtodlabpgjgbbpahPropChoose
import Derived.Test.YtodlabpgjgbbpahAppendMany
namespace Go.Proofs.Ytodlabpgjgbbpah
open Go.RowKit Go.Agio Go.Prp

theorem infoRP : (Try.prog.info? 68).map (fun i => (i.zero, i.size, i.bytes)) = some (some (.agg #[.int .i64 0, .bool false, .int .i64 0, .int .i64 0, .slice none 0 0]), 5, 56) := by kernel_rfl
theorem infoRV : (Try.prog.info? 72).map (fun i => (i.zero, i.size, i.bytes)) = some (some (.agg #[.int .i64 0, .int .i64 0, .int .i64 0]), 3, 24) := by kernel_rfl

theorem pat_one (x : PAt) : ∀ u ∈ x.cells, u.oneCell' = true := fun u hu => by
  simp only [PAt.cells, List.mem_cons, List.not_mem_nil, or_false] at hu
  rcases hu with rfl | rfl | rfl | rfl | rfl <;> rfl
theorem vt_one (x : Vt) : ∀ u ∈ x.cells, u.oneCell' = true := fun u hu => by
  simp only [Vt.cells, List.mem_cons, List.not_mem_nil, or_false] at hu
  rcases hu with rfl | rfl | rfl <;> rfl
theorem take_next {α : Type} {X : List α} (d : α) {k : Nat} (h : k < X.length) (f : α → List Value) : (X.take (k + 1)).flatMap f = (X.take k).flatMap f ++ f (X.getD k d) := by
  rw [Agio.take_snoc X d k h, List.flatMap_append]
  simp

set_option maxRecDepth 100000 in
set_option maxHeartbeats 4000000 in
theorem real_any (A : Option Addr) (c : Nat) (X : List PAt) (w : World) (hR : PsRd w A X) (hm : X.length ≤ 1000000) :
    Calls Try.prog 12 #[.slice A X.length c] w fun e w' => ∃ B q, e = .returned (.slice B X.length q) ∧ PsRd w' B X ∧ Below w.heap.size w w' := by
  obtain ⟨i0, hi, hz0, hz1, hz2⟩ := info_parts infoRP
  have HR := hide hR
  clear hR
  go_enter Try.func12, Try.ntmps12
  go_wp2_with fail
  go_loopw [3, 4] (fun v i wr => ∃ (k : Nat) (B : Option Addr) (q : Nat), k ≤ X.length ∧ i = .int .i64 k ∧ v = .slice B k q ∧ wr.ownsRow w.heap.size 68 5 (.slice B k q) k ((X.take k).flatMap PAt.cells) ∧ Below w.heap.size w wr) (fun _ i _ => X.length - (intOf i).toNat)
  case atStart => exact ⟨0, none, 0, Nat.zero_le _, rfl, rfl, ⟨rfl, .inl ⟨rfl, rfl⟩⟩, Below.refl _ _⟩
  case round =>
    obtain ⟨k, B, q, hk, rfl, rfl, ho, hbr⟩ := hrel
    have HO := hide ho; have HB := hide hbr
    clear ho hbr
    by_cases h : k < X.length
    · obtain ⟨b1, off, rfl, hb1, c0, c1, c2, c3, c4⟩ := (HR.out.below HB.out).at_ h
      have HS := hide (take_next pa0 h PAt.cells)
      obtain ⟨x, hx⟩ : ∃ x, x = X.getD k pa0 := ⟨_, rfl⟩
      rw [← hx] at c0 c1 c2 c3 c4 HS
      clear hx
      have hkm : (k : Int) < (X.length : Int) := by omega
      go_wp2_with (at_builtin; apply halted)
      refine unhalt (wpList_append_wide rfl (.tmp 11) (.tmp 16) 28 rfl w.heap.size 68 i0 (.agg #[.int .i64 0, .bool false, .int .i64 0, .int .i64 0, .slice none 0 0]) 5 56 Try.underlying28 hi hz0 hz1 hz2 rfl (by omega) _ k ((X.take k).flatMap PAt.cells) rfl (own_below HO.out ((Below.refl _ _).alloc (Nat.le_refl _) _)) (some ⟨wr.heap.size, 0, none⟩) 1 1 x.cells rfl (Reads.new_at wr x.cells _ _ _ rfl) rfl (pat_one x) (by unfold maxLen; omega) (by omega) (by have := HB.out.size; simp; omega) ?_)
      intro B4 d4 w4 n4 g4 t4
      have HB4 := hide ((HB.out.alloc HB.out.size (.cells x.cells.toArray 68)).grown g4 (by have := HB.out.size; simp; omega) (fun g hg => (HO.out.lt g hg).1))
      have N4 := hide n4
      clear n4 g4 t4 c0 c1 c2 c3 c4
      go_wp2
      go_roundw
      case rel => exact ⟨k + 1, B4, d4, by omega, by go_num, rfl, by rw [HS.out]; exact N4.out, HB4.out⟩
      case measure => simp [intOf]; omega
    · obtain rfl : k = X.length := by omega
      rw [List.take_length] at HO
      go_wp2
      go_ret
      exact ⟨B, q, rfl, ⟨reads_own HO.out, fun x hx => (HR.out.2 x hx).below HB.out⟩, HB.out⟩

set_option maxRecDepth 100000 in
set_option maxHeartbeats 4000000 in
theorem votes_any (A : Option Addr) (c : Nat) (X : List Vt) (w : World) (hR : VsRd w A X) (hm : X.length ≤ 1000000) :
    Calls Try.prog 15 #[.slice A X.length c] w fun e w' => ∃ B q, e = .returned (.slice B X.length q) ∧ VsRd w' B X ∧ Below w.heap.size w w' := by
  obtain ⟨i0, hi, hz0, hz1, hz2⟩ := info_parts infoRV
  have HR := hide hR
  clear hR
  go_enter Try.func15, Try.ntmps15
  go_wp2_with fail
  go_loopw [3, 4] (fun v i wr => ∃ (k : Nat) (B : Option Addr) (q : Nat), k ≤ X.length ∧ i = .int .i64 k ∧ v = .slice B k q ∧ wr.ownsRow w.heap.size 72 3 (.slice B k q) k ((X.take k).flatMap Vt.cells) ∧ Below w.heap.size w wr) (fun _ i _ => X.length - (intOf i).toNat)
  case atStart => exact ⟨0, none, 0, Nat.zero_le _, rfl, rfl, ⟨rfl, .inl ⟨rfl, rfl⟩⟩, Below.refl _ _⟩
  case round =>
    obtain ⟨k, B, q, hk, rfl, rfl, ho, hbr⟩ := hrel
    have HO := hide ho; have HB := hide hbr
    clear ho hbr
    by_cases h : k < X.length
    · obtain ⟨b1, off, rfl, hb1, c0, c1, c2⟩ := (HR.out.below HB.out).at_ h
      have HS := hide (take_next vt0 h Vt.cells)
      obtain ⟨x, hx⟩ : ∃ x, x = X.getD k vt0 := ⟨_, rfl⟩
      rw [← hx] at c0 c1 c2 HS
      clear hx
      have hkm : (k : Int) < (X.length : Int) := by omega
      go_wp2_with (at_builtin; apply halted)
      refine unhalt (wpList_append_wide rfl (.tmp 11) (.tmp 16) 39 rfl w.heap.size 72 i0 (.agg #[.int .i64 0, .int .i64 0, .int .i64 0]) 3 24 Try.underlying39 hi hz0 hz1 hz2 rfl (by omega) _ k ((X.take k).flatMap Vt.cells) rfl (own_below HO.out ((Below.refl _ _).alloc (Nat.le_refl _) _)) (some ⟨wr.heap.size, 0, none⟩) 1 1 x.cells rfl (Reads.new_at wr x.cells _ _ _ rfl) rfl (vt_one x) (by unfold maxLen; omega) (by omega) (by have := HB.out.size; simp; omega) ?_)
      intro B4 d4 w4 n4 g4 t4
      have HB4 := hide ((HB.out.alloc HB.out.size (.cells x.cells.toArray 72)).grown g4 (by have := HB.out.size; simp; omega) (fun g hg => (HO.out.lt g hg).1))
      have N4 := hide n4
      clear n4 g4 t4 c0 c1 c2
      go_wp2
      go_roundw
      case rel => exact ⟨k + 1, B4, d4, by omega, by go_num, rfl, by rw [HS.out]; exact N4.out, HB4.out⟩
      case measure => simp [intOf]; omega
    · obtain rfl : k = X.length := by omega
      rw [List.take_length] at HO
      go_wp2
      go_ret
      exact ⟨B, q, rfl, reads_own HO.out, HB.out⟩

end Go.Proofs.Ytodlabpgjgbbpah
