/-
  The laws' own first question: two slots, decided in the other order; and a learner that is nil.
-/
import Derived.Test.YtodlabpgjgbbpaeLearnMiss
import Derived.Test.YtodlabpgjgbbpaeLearnTake
import Derived.Lib.SlBytesConst
namespace Go.Proofs.Ytodlabpgjgbbpae
open Go.RowKit Go.Agio

theorem str_a : strOfNums [97] = ⟨#[97]⟩ := rfl

abbrev m1 : Lrn.Map := Lrn.put Lrn.empty 1 [98]
abbrev m2 : Lrn.Map := Lrn.put m1 0 [97]
theorem front_m1 : Lrn.front m1 = 0 := Lrn.front_is (by omega) (fun j h => by omega) (fun _ => by simp [m1, Lrn.put, Lrn.empty])
theorem front_m2 : Lrn.front m2 = 2 := Lrn.front_is (by omega) (fun j h => by
  have : j = 0 ∨ j = 1 := by omega
  rcases this with rfl | rfl <;> simp [m2, m1, Lrn.put]) (fun _ => by simp [m2, m1, Lrn.put, Lrn.empty])
theorem vals_m2 : Lrn.vals m2 0 2 = [[97], [98]] := by simp [Lrn.vals, m2, m1, Lrn.put]
theorem put_m1 : putCode Lrn.empty 1 [98] = 0 ∧ putMap Lrn.empty 1 [98] = m1 := put_new ⟨by omega, by omega, by simp⟩ rfl
theorem put_m2 : putCode m1 0 [97] = 0 ∧ putMap m1 0 [97] = m2 := put_new ⟨by omega, by omega, by simp⟩ (by simp [m1, Lrn.put, Lrn.empty])
theorem ok1 {z : Int} (h : 0 ≤ z ∧ z ≤ 255) : okRow [z] := fun y hy => by simp at hy; subst hy; exact h

set_option maxRecDepth 100000 in
set_option maxHeartbeats 2000000 in
theorem awake_any (w : World) : Calls Try.prog 9 #[] w fun e w' => e = .returned (.bool true) ∧ Below w.heap.size w w' := by
  have kc := fun (w : World) (C : Array Value) (n c : Nat) => Lib.run_convert_bytes_const (P := Try.prog) w 22 5 C n c Try.underlying22 Try.underlying5
  go_enter Try.func9, Try.ntmps9
  go_wp2_with fail
  refine (new_any _).mono ?_
  rintro e w1 ⟨d, bm, rfl, hd, hbm, hL, hb1⟩
  have HL := hide (hL (fun _ => False))
  have HB1 := hide hb1
  clear hL hb1
  go_wp2_with fail
  refine (put_any d bm 0 Lrn.empty 0 (fun _ => False) 1 (by decide) (some ⟨w1.heap.size, 0, none⟩) 1 1 [98] _ (HL.out.below ((Below.refl _ w1).alloc (Nat.le_refl _) _)) (by omega) (fun g h => h.elim) (Reads.new w1 [.int .u8 98] _ _) rfl (ok1 (by omega))).mono ?_
  rintro e w2 ⟨rfl, hL2, hg2⟩
  rw [put_m1.1]
  rw [put_m1.2] at hL2
  have HL2 := hide hL2
  have HB2 := hide (((HB1.out.alloc HB1.out.size _)).grown hg2 (by have := HB1.out.size; simp; omega) (fun g hg => by cases hg; exact hbm))
  clear hL2 hg2 HL
  go_wp2_with fail
  refine (take_any d bm _ m1 0 (fun _ => False) w2 HL2.out).mono ?_
  rintro e w3 ⟨L3, c3, rfl, _, hL3, hg3⟩
  have e0 : (Lrn.vals m1 0 (Lrn.front m1)).length = 0 := by rw [front_m1]; rfl
  rw [e0]
  rw [front_m1] at hL3
  have HL3 := hide hL3
  have HB3 := hide (HB2.out.grown hg3 HB2.out.size (fun g hg => by cases hg; exact hd))
  clear hL3 hg3 e0
  go_wp2_with fail
  refine (put_any d bm _ m1 0 (fun _ => False) 0 (by decide) (some ⟨w3.heap.size, 0, none⟩) 1 1 [97] _ (HL3.out.below ((Below.refl _ w3).alloc (Nat.le_refl _) _)) (by omega) (fun g h => h.elim) (Reads.new w3 [.int .u8 97] _ _) rfl (ok1 (by omega))).mono ?_
  rintro e w4 ⟨rfl, hL4, hg4⟩
  rw [put_m2.1]
  rw [put_m2.2] at hL4
  have HL4 := hide hL4
  have HB4 := hide (((HB3.out.alloc HB3.out.size _)).grown hg4 (by have := HB3.out.size; simp; omega) (fun g hg => by cases hg; exact hbm))
  clear hL4 hg4
  go_wp2_with fail
  refine (take_any d bm _ m2 0 (fun _ => False) w4 HL4.out).mono ?_
  rintro e w5 ⟨L5, c5, rfl, hr5, hL5, hg5⟩
  rw [front_m2, vals_m2] at hr5
  rw [front_m2] at hL5
  rw [front_m2, vals_m2]
  have HB5 := hide (HB4.out.grown hg5 HB4.out.size (fun g hg => by cases hg; exact hd))
  have C6 := front_any d bm _ m2 2 (fun _ => False) w5 hL5
  rw [front_m2] at C6
  have C6 := hide C6
  have C7 := hide (taken_any d bm _ m2 2 (fun _ => False) w5 hL5)
  obtain ⟨vals, v1, v2, v3⟩ := hr5
  obtain ⟨A0, c0, u1, u2, _⟩ := v3 0 (by simp)
  have q := str_reads w5 A0 1 c0 [97] u2 rfl
  rw [str_a] at q
  obtain ⟨b, off, rfl, hbl, hcell⟩ := (Reads.of_own v1).at_ (k := 0) (by rw [v2]; simp)
  have k0 := hcell 0 (by rw [v2]; simp)
  have k0 : w5.cell? ⟨b, off, none⟩ = some (.slice A0 1 c0) := by
    rw [Nat.add_zero] at k0
    rw [k0, List.getD_eq_getElem?_getD, u1]
    rfl
  clear v1 v2 v3 u1 u2 hcell hL5 hg5
  simp only [List.length_cons, List.length_nil, Nat.zero_add, Nat.reduceAdd]
  go_wp2_with fail
  refine C6.out.mono ?_
  rintro e w6 ⟨rfl, rfl⟩
  go_wp2_with fail
  refine C7.out.mono ?_
  rintro e w6 ⟨rfl, rfl⟩
  go_wp2
  go_ret
  exact ⟨rfl, HB5.out⟩

/-! one that is nil -/
theorem nput_any (k : Int) (v : Value) (w : World) : Calls Try.prog 14 #[.pointer none, .int .i64 k, v] w fun e w' => e = .returned (.int .i64 6) ∧ w = w' := by
  go_enter Try.func14, Try.ntmps14
  go_wp2
  go_ret
  exact ⟨rfl, rfl⟩
theorem nget_any (k : Int) (w : World) : Calls Try.prog 15 #[.pointer none, .int .i64 k] w fun e w' => e = .returned (.tuple #[.slice none 0 0, .bool false]) ∧ w = w' := by
  go_enter Try.func15, Try.ntmps15
  go_wp2
  go_ret2
  exact ⟨rfl, rfl⟩
theorem nfront_any (w : World) : Calls Try.prog 17 #[.pointer none] w fun e w' => e = .returned (.int .i64 0) ∧ w = w' := by
  go_enter Try.func17, Try.ntmps17
  go_wp2
  go_ret
  exact ⟨rfl, rfl⟩
theorem ntop_any (w : World) : Calls Try.prog 16 #[.pointer none] w fun e w' => e = .returned (.int .i64 0) ∧ w = w' := by
  go_enter Try.func16, Try.ntmps16
  go_wp2
  go_ret
  exact ⟨rfl, rfl⟩
theorem nmissing_any (k : Int) (w : World) : Calls Try.prog 18 #[.pointer none, .int .i64 k] w fun e w' => e = .returned (.slice none 0 0) ∧ w = w' := by
  go_enter Try.func18, Try.ntmps18
  go_wp2
  go_ret
  exact ⟨rfl, rfl⟩
theorem ntake_any (w : World) : Calls Try.prog 21 #[.pointer none] w fun e w' => e = .returned (.slice none 0 0) ∧ w = w' := by
  go_enter Try.func21, Try.ntmps21
  go_wp2
  go_ret
  exact ⟨rfl, rfl⟩
theorem ntaken_any (w : World) : Calls Try.prog 27 #[.pointer none] w fun e w' => e = .returned (.int .i64 0) ∧ w = w' := by
  go_enter Try.func27, Try.ntmps27
  go_wp2
  go_ret
  exact ⟨rfl, rfl⟩
end Go.Proofs.Ytodlabpgjgbbpae
