/-
  The first frame of bytes, and what stands behind it: what the program's Take hands back.
-/
import Derived.Test.YtodlabpgjgbbpafFrmAwake
namespace Go.Proofs.Ytodlabpgjgbbpaf
open Go.RowKit Go.Agio

theorem clone_two {w0 : World} (A : Option Addr) (n c : Nat) (xs : List Int) (w : World) (hb : Below w0.heap.size w0 w) (hR : Reads w0 A (bys xs)) (hn : xs.length = n) (hm : n ≤ 140737488355328) :
    Calls Try.prog 25 #[.slice A n c] w fun e w' => ∃ A' c', e = .returned (.slice A' n c') ∧ Reads w' A' (bys xs) ∧ Below w0.heap.size w0 w' ∧ Below w.heap.size w w' := by
  refine (clone_any A n c xs w (hR.below hb) hn hm).mono ?_
  rintro e w' ⟨A', c', h1, h2, h3⟩
  exact ⟨A', c', h1, Reads.of_own h2, below_next hb h3, h3⟩

set_option maxRecDepth 100000 in
set_option maxHeartbeats 4000000 in
theorem take_bad (A : Option Addr) (c : Nat) (xs : List Int) (w : World) (hR : Reads w A (bys xs)) (hx : Frm.ok xs) (hl : xs.length ≤ 140737488351232) (hc : xs.length ≤ c) (hcd : Frm.code xs ≠ 0) :
    Calls Try.prog 16 #[.slice A xs.length c] w fun e w' => e = .returned (.tuple #[.slice none 0 0, .slice none 0 0, .int .i64 (Frm.code xs)]) ∧ Below w.heap.size w w' := by
  have CF := hide (first_any A c xs w hR hx (by omega) hc)
  have HCD := hide hcd
  obtain ⟨k, hk⟩ : ∃ k, k = Frm.code xs := ⟨_, rfl⟩
  have t1 : (k != 0) = true := by rw [bne_iff_ne, hk]; exact hcd
  rw [← hk]
  have HK := hide hk
  clear hR hx hk hcd
  go_enter Try.func16, Try.ntmps16
  go_wp2_with fail
  refine CF.out.mono ?_
  intro e w1 hf
  obtain ⟨rfl, hb1⟩ := hf
  rw [if_neg HCD.out, ← HK.out]
  go_wp2
  go_ret3
  exact ⟨rfl, hb1⟩

/-- What Take hands back of a frame that is whole. -/
def TakeGot (xs : List Int) (w : World) (e : Ending) (w' : World) : Prop :=
  ∃ A1 c1 A2 c2, e = .returned (.tuple #[.slice A1 (Frm.body xs).length c1, .slice A2 (Frm.rest xs).length c2, .int .i64 0]) ∧ Reads w' A1 (bys (Frm.body xs)) ∧ Reads w' A2 (bys (Frm.rest xs)) ∧ Below w.heap.size w w'

set_option maxRecDepth 100000 in
set_option maxHeartbeats 4000000 in
theorem take_good (A : Option Addr) (c : Nat) (xs : List Int) (w : World) (hR : Reads w A (bys xs)) (hx : Frm.ok xs) (hl : xs.length ≤ 281474976710656) (hrl : (Frm.rest xs).length ≤ 140737488355328) (hc : xs.length ≤ c) (hcd : Frm.code xs = 0) :
    Calls Try.prog 16 #[.slice A xs.length c] w (TakeGot xs w) := by
  have CF := hide (first_any A c xs w hR hx (by omega) hc)
  obtain ⟨g1, g2, g3, g4⟩ := Frm.code_zero hx hcd
  have HCD := hide hcd
  obtain ⟨m, hm⟩ : ∃ m, m = Frm.bodyN xs := ⟨_, rfl⟩
  have HBO := hide (show Frm.body xs = (xs.drop 8).take m by rw [hm]; rfl)
  have HRE := hide (show Frm.rest xs = xs.drop (8 + m) by rw [hm]; rfl)
  rw [← hm] at g1 g2 g3
  have HM := hide hm
  have HG3 := hide g3
  clear g3 g4 hm hcd
  obtain ⟨A3, n3, c3, hn3, hc3, hs3, hr3⟩ := cut_lh 22 elem8 size8 A xs.length c 8 (8 + m) (by omega) (by omega) hc
  obtain ⟨A4, n4, c4, hn4, hc4, hs4, hr4⟩ := cut_l 22 elem8 size8 A xs.length c (8 + m) (by omega) hc
  have HN3 := hide (show (Frm.body xs).length = n3 by rw [HG3.out]; omega)
  have HN4 := hide (show (Frm.rest xs).length = n4 by rw [HRE.out, List.length_drop]; omega)
  have R3 : Hid (Reads w A3 (bys (Frm.body xs))) := hide (by
    have := hr3 w _ hR (by rw [List.length_map])
    rw [← List.map_drop, ← List.map_take, show n3 = m by omega, ← HBO.out] at this
    exact this)
  have R4 : Hid (Reads w A4 (bys (Frm.rest xs))) := hide (by
    have := hr4 w _ hR (by rw [List.length_map])
    rw [← List.map_drop, ← HRE.out] at this
    exact this)
  have hn3' : n3 ≤ 4096 := by omega
  have hn4' : n4 ≤ 140737488355328 := by have := HN4.out; omega
  replace hs3 : ∀ W : World, (Instr.slice 22 (.slice A xs.length c) (some (.int .i64 8)) (some (.int .i64 ((8 + m : Nat) : Int))) none).run Try.prog W = .ok (.slice A3 n3 c3) W := hs3
  rw [show ((8 + m : Nat) : Int) = 8 + (m : Int) by omega] at hs3 hs4
  clear hr3 hr4 hn3 hc3 hn4 hc4 hR hx
  go_enter Try.func16, Try.ntmps16
  go_wp2_with fail
  refine CF.out.mono ?_
  intro e w1 hf
  obtain ⟨rfl, hb1⟩ := hf
  rw [if_pos HCD.out, HCD.out, ← HM.out]
  have HB1 := hide hb1
  have CA := hide (fun (W : World) (hW : Below w1.heap.size w1 W) => clone_two (w0 := w1) A3 n3 c3 (Frm.body xs) W hW (R3.out.below HB1.out) HN3.out (by omega))
  have CB := hide (fun (W : World) (hW : Below w1.heap.size w1 W) => clone_two (w0 := w1) A4 n4 c4 (Frm.rest xs) W hW (R4.out.below HB1.out) HN4.out (by omega))
  clear hb1
  go_wp2_with fail
  have hw1 : IntKind.i64.wrap (8 + (m : Int)) = 8 + (m : Int) := IntWalk.i64_in _ (by omega)
  go_region_held3 (fun _ => True) (trivial) (first
    | (go_at_call 25; (with_reducible refine (CA.out _ (by first | exact Below.refl _ _ | exact (Below.refl _ _).drew | exact HBB.out)).mono ?_); rintro e w5 ⟨A5, c5, rfl, r5, hba, hwa⟩; have RA := hide r5; have HBA := hide hba; (try replace RB := hide (RB.out.below hwa)); clear r5 hba hwa)
    | (go_at_call 25; (with_reducible refine (CB.out _ (by first | exact Below.refl _ _ | exact (Below.refl _ _).drew | exact HBA.out)).mono ?_); rintro e w6 ⟨A6, c6, rfl, r6, hbb, hwb⟩; have RB := hide r6; have HBB := hide hbb; (try replace RA := hide (RA.out.below hwb)); clear r6 hbb hwb))
  all_goals clear hw1
  all_goals go_wp2
  all_goals go_ret3
  all_goals first
    | exact ⟨A5, c5, A6, c6, by rw [HN3.out, HN4.out]; rfl, RA.out, RB.out, below_next HB1.out HBB.out⟩
    | exact ⟨A5, c5, A6, c6, by rw [HN3.out, HN4.out]; rfl, RA.out, RB.out, below_next HB1.out HBA.out⟩

end Go.Proofs.Ytodlabpgjgbbpaf
