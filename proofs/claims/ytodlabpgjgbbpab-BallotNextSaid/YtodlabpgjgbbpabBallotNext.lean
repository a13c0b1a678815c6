/-
  BallotNext: the next ballot of a site is greater than what it is next to, if there is room, and of the site; of unlike sites there are unlike ones. No conditions.
-/
import Derived.Test.YtodlabpgjgbbpabBallotAwake
import Derived.Test.YtodlabpgjgbbpabLaw
import Derived.Test.YtodlabpgjgbbpabRows
namespace Go.Proofs.Ytodlabpgjgbbpab
open Go.RowKit Go.Agio Go.ChangeShapes Go.WideShapes Go.ChangeAt

set_option maxRecDepth 100000 in
set_option maxHeartbeats 2000000 in
theorem ballotNext_walk (r q s t : Int) (w : World) :
    Calls Try.prog 7 #[.agg #[.int .i64 r, .int .i64 q], .int .i64 s, .int .i64 t] w fun e w' => e = .returned (.bool true) ∧ Below w.heap.size w w' := by
  obtain ⟨n, hn⟩ : ∃ n, n = Bal.nextRound r := ⟨_, rfl⟩
  have hn1 : 1 ≤ n := by rw [hn]; exact (Bal.next_bd r).1
  obtain ⟨c1, hc1⟩ : ∃ c, c = Bal.compare n s r q := ⟨_, rfl⟩
  obtain ⟨c2, hc2⟩ : ∃ c, c = Bal.compare n s 0 0 := ⟨_, rfl⟩
  have G1 := hide (show r < 1099511627776 → 0 < c1 from fun h => by rw [hc1, hn]; exact Bal.next_gt h)
  have G2 : 0 < c2 := by rw [hc2, Bal.compare_gt]; left; omega
  have N1 : Hid (∀ (w0 w1 : World), Below w0.heap.size w0 w1 → Calls Try.prog 15 #[.agg #[.int .i64 r, .int .i64 q], .int .i64 s] w1 fun e w' => e = .returned (.agg #[.int .i64 n, .int .i64 s]) ∧ Below w0.heap.size w0 w') := hide fun w0 w1 hb => by rw [hn]; exact next_at r q s w1 hb
  have N2 : Hid (∀ (w0 w1 : World), Below w0.heap.size w0 w1 → Calls Try.prog 15 #[.agg #[.int .i64 r, .int .i64 q], .int .i64 t] w1 fun e w' => e = .returned (.agg #[.int .i64 n, .int .i64 t]) ∧ Below w0.heap.size w0 w') := hide fun w0 w1 hb => by rw [hn]; exact next_at r q t w1 hb
  have M1 : Hid (∀ (w0 w1 : World), Below w0.heap.size w0 w1 → Calls Try.prog 14 #[.agg #[.int .i64 n, .int .i64 s], .agg #[.int .i64 r, .int .i64 q]] w1 fun e w' => e = .returned (.int .i64 c1) ∧ Below w0.heap.size w0 w') := hide fun w0 w1 hb => by rw [hc1]; exact compare_at n s r q w1 hb
  have M2 : Hid (∀ (w0 w1 : World), Below w0.heap.size w0 w1 → Calls Try.prog 14 #[.agg #[.int .i64 n, .int .i64 s], .agg #[.int .i64 0, .int .i64 0]] w1 fun e w' => e = .returned (.int .i64 c2) ∧ Below w0.heap.size w0 w') := hide fun w0 w1 hb => by rw [hc2]; exact compare_at n s 0 0 w1 hb
  clear hn hc1 hc2
  go_enter Try.func7, Try.ntmps7
  go_wp2_with fail
  have K0 := hide (heap_new w (.cells #[.int .i64 r, .int .i64 q] 29))
  have hb0 := (Below.refl w.heap.size w).alloc (Nat.le_refl _) (.cells #[.int .i64 r, .int .i64 q] 29)
  generalize w.alloc (.cells #[.int .i64 r, .int .i64 q] 29) = W0 at *
  refine (awake_any _).mono ?_
  rintro e w1 ⟨rfl, hb1⟩
  obtain ⟨a0, a1⟩ := two_cells hb1 K0.out
  go_wp2_with fail
  refine (N1.out W0 _ hb1).mono ?_
  rintro e w2 ⟨rfl, hb2⟩
  clear a0 a1
  obtain ⟨a0, a1⟩ := two_cells hb2 K0.out
  have K0' := hide (blk_alloc ((hb2.block _ (blk_lt K0.out)).trans K0.out) (.cells #[.int .i64 n, .int .i64 s] 29))
  obtain ⟨b0, b1⟩ := two_cells (Below.refl _ _) K0'.out
  go_wp2_with fail
  have K1 := hide (heap_new w2 (.cells #[.int .i64 n, .int .i64 s] 29))
  have hb2' := hb2.alloc hb2.size (.cells #[.int .i64 n, .int .i64 s] 29)
  have hs2 := World.size_alloc w2 (.cells #[.int .i64 n, .int .i64 s] 29)
  generalize w2.alloc (.cells #[.int .i64 n, .int .i64 s] 29) = W1 at *
  clear a0 a1 b0 b1
  refine (N2.out W1 _ (Below.refl _ _)).mono ?_
  rintro e w3 ⟨rfl, hb3⟩
  obtain ⟨a0, a1⟩ := two_cells hb3 K0'.out
  obtain ⟨a2, a3⟩ := two_cells hb3 K1.out
  have L0 := hide (blk_alloc ((hb3.block _ (blk_lt K0'.out)).trans K0'.out) (.cells #[.int .i64 n, .int .i64 t] 29))
  have L1 := hide (blk_alloc ((hb3.block _ (blk_lt K1.out)).trans K1.out) (.cells #[.int .i64 n, .int .i64 t] 29))
  have L2 := hide (heap_new w3 (.cells #[.int .i64 n, .int .i64 t] 29))
  obtain ⟨b0, b1⟩ := two_cells (Below.refl _ _) L0.out
  obtain ⟨b2, b3⟩ := two_cells (Below.refl _ _) L1.out
  obtain ⟨b4, b5⟩ := two_cells (Below.refl _ _) L2.out
  have hb3' := (hb0.trans ((hb2'.trans (hb3.mono hb2'.size)).mono hb0.size)).alloc (Nat.le_trans hb0.size (Nat.le_trans hb2'.size hb3.size)) (.cells #[.int .i64 n, .int .i64 t] 29)
  clear hb0 hb2' K0 K0' K1 hs2
  generalize hW : w3.alloc (.cells #[.int .i64 n, .int .i64 t] 29) = W2 at b0 b1 b2 b3 b4 b5 hb3' L0 L1 L2
  have FIN : Hid (∀ W4, Below W2.heap.size W2 W4 → Below w.heap.size w W4) := hide fun W4 h => hb3'.trans (h.mono hb3'.size)
  have RET : Hid (s ≠ t → Ending.returned (Value.bool (!(s == t))) = .returned (.bool true)) := hide fun h => by rw [beq_eq_false_iff_ne.mpr h]; rfl
  by_cases hr : r < 1099511627776
  · have g1 := G1.out hr
    go_wp2_with fail
    refine (M1.out W2 _ (Below.refl _ _)).mono ?_
    rintro e w4 ⟨rfl, hb4⟩
    obtain ⟨d0, d1⟩ := two_cells hb4 L0.out
    obtain ⟨d2, d3⟩ := two_cells hb4 L1.out
    obtain ⟨d4, d5⟩ := two_cells hb4 L2.out
    clear b0 b1 b2 b3 b4 b5
    by_cases hst : s = t
    · subst hst
      go_wp2_with fail
      refine (M2.out W2 _ hb4).mono ?_
      rintro e w5 ⟨rfl, hb5⟩
      go_wp2_with fail
      go_ret
      exact ⟨rfl, FIN.out _ hb5⟩
    · go_wp2_with fail
      refine (M2.out W2 _ hb4).mono ?_
      rintro e w5 ⟨rfl, hb5⟩
      go_wp2_with fail
      go_ret
      exact ⟨RET.out hst, FIN.out _ hb5⟩
  · by_cases hst : s = t
    · subst hst
      go_wp2_with fail
      refine (M2.out W2 _ (Below.refl _ _)).mono ?_
      rintro e w5 ⟨rfl, hb5⟩
      go_wp2_with fail
      go_ret
      exact ⟨rfl, FIN.out _ hb5⟩
    · go_wp2_with fail
      refine (M2.out W2 _ (Below.refl _ _)).mono ?_
      rintro e w5 ⟨rfl, hb5⟩
      go_wp2_with fail
      go_ret
      exact ⟨RET.out hst, FIN.out _ hb5⟩

set_option maxRecDepth 100000 in
theorem ballotNext_lifted (os : Os) (started : os.Started) (H : Type) (enc : TypeId × Value → H) :
    ReturnsInHanded {} Try.checked os 7 .any (Rows.ballotNextSpec.pre6 enc Try.prog Try.f7 Rows.ballotNextRow.domain false) (Rows.ballotNextSpec.post enc Try.prog Try.f7 false true false false) := by
  refine returnsInHanded_of_change_sized (C := Try.checked) (by kernel_rfl) started (by kernel_rfl) Try.func7
    (ChangeSpec.witness6 (enc := enc) (C := Try.checked) false ⟨#[], #[.agg #[.int .i64 0, .int .i64 0], .int .i64 0, .int .i64 0], []⟩ 8 (by kernel_rfl) (by kernel_rfl) (by kernel_rfl) (by kernel_rfl)) ?_
  intro W base args ds gs before hval0 hW _ hsz0 _
  have hval : ∀ (j : Nat) t v, Try.f7.params[j]? = some t → args[j]? = some v → Value.okWide Try.prog W .any base t v := hval0
  have hW' := hW
  obtain ⟨p, q, hA0, hV, rfl, _, _⟩ := hW
  have hA : DataW.TrodAll enc Try.prog W 0 (fun _ => true) true Try.f7.params.toList args.toList ds p := hA0
  have _hsz : (DataW.weightsEach Try.prog (Try.f7.params.toList ++ Rows.ballotNextSpec.plain.varTypes Try.prog) (ds ++ gs)).all (· ≤ reachBytes) = true := hsz0
  rw [Try.params7] at hA hval
  obtain ⟨v0, v1, v2, d0, d1, d2, p0, p1, p2, rfl, rfl, rfl, h0, h1, h2⟩ := trodAll_three hA
  obtain ⟨u0_0, u0_1, y0_0, y0_1, n0, rfl, rfl, rfl, hy0_0, hy0_1⟩ := Joins.open_agg2 Try.underlying29 (by kernel_rfl) (by kernel_rfl) (hval 0 29 v0 rfl rfl) h0
  obtain ⟨x0_0, e0_0, rfl, wf0_0⟩ := DataW.trod_int Try.underlying3 hy0_0
  have bd0_0 := bounds_i64 wf0_0
  simp only [List.cons.injEq, and_true] at e0_0
  subst e0_0
  obtain ⟨x0_1, e0_1, rfl, wf0_1⟩ := DataW.trod_int Try.underlying3 hy0_1
  have bd0_1 := bounds_i64 wf0_1
  simp only [List.cons.injEq, and_true] at e0_1
  subst e0_1
  obtain ⟨x1, rfl, rfl, rfl, wf1⟩ := open_int Try.underlying3 (hval 1 3 v1 rfl rfl) h1
  have bd1 := bounds_i64 wf1
  obtain ⟨x2, rfl, rfl, rfl, wf2⟩ := open_int Try.underlying3 (hval 2 3 v2 rfl rfl) h2
  have bd2 := bounds_i64 wf2
  refine (ballotNext_walk _ _ _ _ _).mono fun e W' ⟨he, hb⟩ => ?_
  subst he
  exact ⟨_, rfl, post_law (by kernel_rfl) (by kernel_rfl) rfl hW' (by rintro _ rfl; rfl) rfl Try.underlying4 hb⟩

theorem ballotNext_holds : Rows.BallotNextSaid :=
  OpenClaim.holds_of_wide 7 Try.f7 rfl rfl rfl rfl rfl rfl rfl ⟨rfl, rfl, rfl, rfl, rfl⟩ rfl rfl rfl rfl rfl (by kernel_rfl) Try.func7 (by kernel_rfl)
    (of_decide_eq_true (by kernel_rfl)) (by unfold Func.isWrapper; first | (rw [if_pos (by decide +kernel)]; kernel_rfl) | (rw [if_neg (by decide +kernel)]; exact ⟨rfl, rfl⟩))
    (fun os started H enc _ => ballotNext_lifted os started H enc)
end Go.Proofs.Ytodlabpgjgbbpab
