/-
  The laws' own first question: a promise, and what is accepted.
-/
import Derived.Test.YtodlabpgjgbbpagAccMore
import Derived.Lib.SlBytesConst
import Derived.Deep.Cut
namespace Go.Proofs.Ytodlabpgjgbbpag
open Go.RowKit Go.Agio

theorem ask1 : Acc.prepareOk Acc.zero 1 2 = true := by decide
theorem ask2 : Acc.prepare Acc.zero 1 2 = ⟨1, 2, false, 0, 0, []⟩ := by unfold Acc.prepare; rw [ask1]; rfl
theorem ask3 : Acc.acceptOk ⟨1, 2, false, 0, 0, []⟩ 0 1 = false := by decide
theorem ask5 : Acc.acceptOk ⟨1, 2, false, 0, 0, []⟩ 1 2 = true := by decide
theorem ask4 : Acc.accept ⟨1, 2, false, 0, 0, []⟩ 0 1 [121] = ⟨1, 2, false, 0, 0, []⟩ := Acc.accept_no ask3
theorem ask6 : Acc.accept ⟨1, 2, false, 0, 0, []⟩ 1 2 [120] = ⟨1, 2, true, 1, 2, [120]⟩ := Acc.accept_ok ask5
theorem ask7 : Acc.mayBe ⟨1, 2, true, 1, 2, [120]⟩ 3 = true := by decide
theorem str_x : strOfNums [120] = ⟨#[120]⟩ := rfl

set_option maxHeartbeats 2000000 in
theorem awake_any (w : World) : Calls Try.prog 9 #[] w fun e w' => e = .returned (.bool true) ∧ Below w.heap.size w w' := by
  have C1 := hide (fun (W : World) => prepare_any Acc.zero none 0 1 2 W (.nil _ _) (by decide))
  rw [ask1, ask2] at C1
  have kc := fun (w : World) (C : Array Value) (n c : Nat) => Lib.run_convert_bytes_const (P := Try.prog) w 26 5 C n c Try.underlying26 Try.underlying5
  go_enter Try.func9, Try.ntmps9
  go_wp2_with fail
  refine (C1.out _).mono ?_
  rintro e w1 ⟨A1, c1, rfl, R1, _, hb1⟩
  have K1 := heap_new w1 (.cells (stc 1 2 false 0 0 (.slice A1 0 c1)) 28)
  have hb2 := hb1.alloc hb1.size (.cells (stc 1 2 false 0 0 (.slice A1 0 c1)) 28)
  have R2 := R1.alloc (.cells (stc 1 2 false 0 0 (.slice A1 0 c1)) 28)
  have HS := World.size_alloc w1 (.cells (stc 1 2 false 0 0 (.slice A1 0 c1)) 28)
  replace K1 := hide K1; have HB2 := hide hb2; replace R2 := hide R2; replace HS := hide HS
  clear R1 hb1 hb2
  go_upto_region 2 with fail
  generalize w1.alloc (.cells (stc 1 2 false 0 0 (.slice A1 0 c1)) 28) = W1 at *
  obtain ⟨x0, x1, x2, x3, x4, x5⟩ := six_at K1.out
  go_wp2_with fail
  clear x0 x1 x2 x3 x4 x5
  have C2 := hide (accept_any ⟨1, 2, false, 0, 0, []⟩ A1 c1 0 1 (some ⟨W1.heap.size, 0, none⟩) 1 [121] (W1.alloc (.cells #[.int .u8 121] 5 (1, 2))) (.nil _ _) (by decide) (Reads.new W1 [.int .u8 121] _ _) (by decide))
  rw [ask3, ask4] at C2
  refine C2.out.mono ?_
  rintro e w2 ⟨A2, c2, rfl, _, _, hb2⟩
  replace K1 := hide ((hb2.block _ (blk_lt (blk_alloc K1.out _))).trans (blk_alloc K1.out _))
  replace HB2 := hide (below_alloc HB2.out hb2 (by simp))
  clear hb2 C2
  go_upto_region 3 with fail
  have KL := hide (blk_lt K1.out)
  have HB3 := hide (HB2.out.alloc HB2.out.size (.cells (stc 1 2 false 0 0 (.slice A2 0 c2)) 28))
  replace K1 := hide (blk_alloc K1.out (.cells (stc 1 2 false 0 0 (.slice A2 0 c2)) 28))
  generalize w2.alloc (.cells (stc 1 2 false 0 0 (.slice A2 0 c2)) 28) = W2 at *
  obtain ⟨x0, x1, x2, x3, x4, x5⟩ := six_at K1.out
  go_wp2_with fail
  have C3 := hide (accept_any ⟨1, 2, false, 0, 0, []⟩ A1 c1 1 2 (some ⟨W2.heap.size, 0, none⟩) 1 [120] (W2.alloc (.cells #[.int .u8 120] 5 (1, 2))) (.nil _ _) (by decide) (Reads.new W2 [.int .u8 120] _ _) (by decide))
  rw [ask5, ask6] at C3
  refine C3.out.mono ?_
  rintro e w3 ⟨A3, c3, rfl, R3, _, hb3⟩
  have HB4 := hide (below_alloc HB3.out hb3 (by simp))
  have q := str_reads (w3.alloc (.cells (stc 1 2 true 1 2 (.slice A3 1 c3)) 28)) A3 1 c3 [120] (R3.alloc _) rfl
  rw [str_x] at q
  clear hb3 C3 R3 x0 x1 x2 x3 x4 x5
  have CM := hide (fun (W : World) => amay_any ⟨1, 2, true, 1, 2, [120]⟩ A3 c3 3 W (by decide))
  rw [ask7] at CM
  go_wp2_with fail
  refine (CM.out _).mono ?_
  rintro e w4 ⟨rfl, hb4⟩
  go_wp2
  go_ret
  exact ⟨rfl, below_alloc HB4.out hb4 (by simp)⟩

end Go.Proofs.Ytodlabpgjgbbpag
