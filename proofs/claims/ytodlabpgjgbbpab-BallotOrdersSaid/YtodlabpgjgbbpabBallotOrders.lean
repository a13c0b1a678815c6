/-
  BallotOrders: any two ballots' order, whether any one may be, and any one's next, as the reference has them.
-/
import Derived.Test.YtodlabpgjgbbpabBallotAwake
import Derived.Test.YtodlabpgjgbbpabBallotRefWalks
import Derived.Test.YtodlabpgjgbbpabLaw
import Derived.Test.YtodlabpgjgbbpabRows
namespace Go.Proofs.Ytodlabpgjgbbpab
open Go.RowKit Go.Agio Go.ChangeShapes Go.WideShapes Go.ChangeAt

theorem two_held {W w1 : World} {b b' : Nat} {x y x' y' : Value} {t t' : TypeId} {fr fr' : Nat × Nat} (K1 : W.heap[b]? = some (.cells #[x, y] t fr)) (K2 : W.heap[b']? = some (.cells #[x', y'] t' fr')) (hb : Below W.heap.size W w1) :
    Below W.heap.size W w1 ∧ w1.cell? ⟨b, 0, none⟩ = some x ∧ w1.cell? ⟨b, 1, none⟩ = some y ∧ w1.cell? ⟨b', 0, none⟩ = some x' ∧ w1.cell? ⟨b', 1, none⟩ = some y' :=
  ⟨hb, (two_cells hb K1).1, (two_cells hb K1).2, (two_cells hb K2).1, (two_cells hb K2).2⟩

set_option maxRecDepth 100000 in
set_option maxHeartbeats 2000000 in
theorem ballotOrders_walk (r s r' s' n : Int) (w : World) :
    Calls Try.prog 8 #[.agg #[.int .i64 r, .int .i64 s], .agg #[.int .i64 r', .int .i64 s'], .int .i64 n] w fun e w' => e = .returned (.bool true) ∧ Below w.heap.size w w' := by
  obtain ⟨c, hc⟩ : ∃ c, c = Bal.compare r s r' s' := ⟨_, rfl⟩
  obtain ⟨m, hm⟩ : ∃ m, m = Bal.may r s n := ⟨_, rfl⟩
  obtain ⟨x, hx⟩ : ∃ x, x = Bal.nextRound r := ⟨_, rfl⟩
  have C1 : Hid (∀ (w0 w1 : World), Below w0.heap.size w0 w1 → Calls Try.prog 14 #[.agg #[.int .i64 r, .int .i64 s], .agg #[.int .i64 r', .int .i64 s']] w1 fun e w' => e = .returned (.int .i64 c) ∧ Below w0.heap.size w0 w') := hide fun w0 w1 hb => by rw [hc]; exact compare_at r s r' s' w1 hb
  have C2 : Hid (∀ (w0 w1 : World), Below w0.heap.size w0 w1 → Calls Try.prog 16 #[.agg #[.int .i64 r, .int .i64 s], .agg #[.int .i64 r', .int .i64 s']] w1 fun e w' => e = .returned (.int .i64 c) ∧ Below w0.heap.size w0 w') := hide fun w0 w1 hb => by rw [hc]; exact rcompare_at r s r' s' w1 hb
  have C3 : Hid (∀ (w0 w1 : World), Below w0.heap.size w0 w1 → Calls Try.prog 17 #[.agg #[.int .i64 r, .int .i64 s], .int .i64 n] w1 fun e w' => e = .returned (.bool m) ∧ Below w0.heap.size w0 w') := hide fun w0 w1 hb => by rw [hm]; exact may_at r s n w1 hb
  have C4 : Hid (∀ (w0 w1 : World), Below w0.heap.size w0 w1 → Calls Try.prog 18 #[.agg #[.int .i64 r, .int .i64 s], .int .i64 n] w1 fun e w' => e = .returned (.bool m) ∧ Below w0.heap.size w0 w') := hide fun w0 w1 hb => by rw [hm]; exact rmay_at r s n w1 hb
  have C5 : Hid (∀ (w0 w1 : World), Below w0.heap.size w0 w1 → Calls Try.prog 15 #[.agg #[.int .i64 r, .int .i64 s], .int .i64 n] w1 fun e w' => e = .returned (.agg #[.int .i64 x, .int .i64 n]) ∧ Below w0.heap.size w0 w') := hide fun w0 w1 hb => by rw [hx]; exact next_at r s n w1 hb
  have C6 : Hid (∀ (w0 w1 : World), Below w0.heap.size w0 w1 → Calls Try.prog 19 #[.agg #[.int .i64 r, .int .i64 s], .int .i64 n] w1 fun e w' => e = .returned (.agg #[.int .i64 x, .int .i64 n]) ∧ Below w0.heap.size w0 w') := hide fun w0 w1 hb => by rw [hx]; exact rnext_at r s n w1 hb
  clear hc hm hx
  go_enter Try.func8, Try.ntmps8
  go_wp2_with fail
  have K1 := hide (blk_alloc (heap_new w (.cells #[.int .i64 r, .int .i64 s] 29)) (.cells #[.int .i64 r', .int .i64 s'] 29))
  have K2 := hide (heap_new (w.alloc (.cells #[.int .i64 r, .int .i64 s] 29)) (.cells #[.int .i64 r', .int .i64 s'] 29))
  rw [World.size_alloc] at K2
  have hb0 := ((Below.refl w.heap.size w).alloc (Nat.le_refl _) (.cells #[.int .i64 r, .int .i64 s] 29)).alloc (by simp) (.cells #[.int .i64 r', .int .i64 s'] 29)
  generalize (w.alloc (.cells #[.int .i64 r, .int .i64 s] 29)).alloc (.cells #[.int .i64 r', .int .i64 s'] 29) = W at *
  refine (awake_any _).mono ?_
  rintro e w1 ⟨rfl, hb1⟩
  have hs1 := two_held K1.out K2.out hb1
  go_wp2_with fail
  go_region_held3 (fun w' => Below W.heap.size W w' ∧ w'.cell? ⟨w.heap.size, 0, none⟩ = some (.int .i64 r) ∧ w'.cell? ⟨w.heap.size, 1, none⟩ = some (.int .i64 s) ∧ w'.cell? ⟨w.heap.size + 1, 0, none⟩ = some (.int .i64 r') ∧ w'.cell? ⟨w.heap.size + 1, 1, none⟩ = some (.int .i64 s')) (first | assumption | exact two_held K1.out K2.out (by assumption) | exact two_held K1.out K2.out hb1.drew) (first
      | (go_at_call 14; (with_reducible refine (C1.out W _ (by first | assumption | (refine And.left (b := ?b) ?h; rotate_left; assumption))).mono ?_); rintro e w2 ⟨rfl, hb2⟩)
      | (go_at_call 16; (with_reducible refine (C2.out W _ (by first | assumption | (refine And.left (b := ?b) ?h; rotate_left; assumption))).mono ?_); rintro e w2 ⟨rfl, hb2⟩)
      | (go_at_call 17; (with_reducible refine (C3.out W _ (by first | assumption | (refine And.left (b := ?b) ?h; rotate_left; assumption))).mono ?_); rintro e w2 ⟨rfl, hb2⟩)
      | (go_at_call 18; (with_reducible refine (C4.out W _ (by first | assumption | (refine And.left (b := ?b) ?h; rotate_left; assumption))).mono ?_); rintro e w2 ⟨rfl, hb2⟩)
      | (go_at_call 15; (with_reducible refine (C5.out W _ (by first | assumption | (refine And.left (b := ?b) ?h; rotate_left; assumption))).mono ?_); rintro e w2 ⟨rfl, hb2⟩)
      | (go_at_call 19; (with_reducible refine (C6.out W _ (by first | assumption | (refine And.left (b := ?b) ?h; rotate_left; assumption))).mono ?_); rintro e w2 ⟨rfl, hb2⟩))
  go_wp2
  go_ret
  exact ⟨rfl, below_next hb0 (by assumption)⟩

set_option maxRecDepth 100000 in
theorem ballotOrders_lifted (os : Os) (started : os.Started) (H : Type) (enc : TypeId × Value → H) :
    ReturnsInHanded {} Try.checked os 8 .any (Rows.ballotOrdersSpec.pre6 enc Try.prog Try.f8 Rows.ballotOrdersRow.domain false) (Rows.ballotOrdersSpec.post enc Try.prog Try.f8 false true false false) := by
  refine returnsInHanded_of_change_sized (C := Try.checked) (by kernel_rfl) started (by kernel_rfl) Try.func8
    (ChangeSpec.witness6 (enc := enc) (C := Try.checked) false ⟨#[], #[.agg #[.int .i64 0, .int .i64 0], .agg #[.int .i64 0, .int .i64 0], .int .i64 0], []⟩ 8 (by kernel_rfl) (by kernel_rfl) (by kernel_rfl) (by kernel_rfl)) ?_
  intro W base args ds gs before hval0 hW _ hsz0 _
  have hval : ∀ (j : Nat) t v, Try.f8.params[j]? = some t → args[j]? = some v → Value.okWide Try.prog W .any base t v := hval0
  have hW' := hW
  obtain ⟨p, q, hA0, hV, rfl, _, _⟩ := hW
  have hA : DataW.TrodAll enc Try.prog W 0 (fun _ => true) true Try.f8.params.toList args.toList ds p := hA0
  have _hsz : (DataW.weightsEach Try.prog (Try.f8.params.toList ++ Rows.ballotOrdersSpec.plain.varTypes Try.prog) (ds ++ gs)).all (· ≤ reachBytes) = true := hsz0
  rw [Try.params8] at hA hval
  obtain ⟨v0, v1, v2, d0, d1, d2, p0, p1, p2, rfl, rfl, rfl, h0, h1, h2⟩ := trodAll_three hA
  obtain ⟨u0_0, u0_1, y0_0, y0_1, n0, rfl, rfl, rfl, hy0_0, hy0_1⟩ := Joins.open_agg2 Try.underlying29 (by kernel_rfl) (by kernel_rfl) (hval 0 29 v0 rfl rfl) h0
  obtain ⟨x0_0, e0_0, rfl, wf0_0⟩ := DataW.trod_int Try.underlying3 hy0_0
  have bd0_0 := bounds_i64 wf0_0
  simp only [List.cons.injEq, and_true] at e0_0
  subst e0_0
  obtain ⟨x0_1, e0_1, rfl, wf0_1⟩ := DataW.trod_int Try.underlying3 hy0_1
  have bd0_1 := bounds_i64 wf0_1
  simp only [List.cons.injEq, and_true] at e0_1
  subst e0_1
  obtain ⟨u1_0, u1_1, y1_0, y1_1, n1, rfl, rfl, rfl, hy1_0, hy1_1⟩ := Joins.open_agg2 Try.underlying29 (by kernel_rfl) (by kernel_rfl) (hval 1 29 v1 rfl rfl) h1
  obtain ⟨x1_0, e1_0, rfl, wf1_0⟩ := DataW.trod_int Try.underlying3 hy1_0
  have bd1_0 := bounds_i64 wf1_0
  simp only [List.cons.injEq, and_true] at e1_0
  subst e1_0
  obtain ⟨x1_1, e1_1, rfl, wf1_1⟩ := DataW.trod_int Try.underlying3 hy1_1
  have bd1_1 := bounds_i64 wf1_1
  simp only [List.cons.injEq, and_true] at e1_1
  subst e1_1
  obtain ⟨x2, rfl, rfl, rfl, wf2⟩ := open_int Try.underlying3 (hval 2 3 v2 rfl rfl) h2
  have bd2 := bounds_i64 wf2
  refine (ballotOrders_walk _ _ _ _ _ _).mono fun e W' ⟨he, hb⟩ => ?_
  subst he
  exact ⟨_, rfl, post_law (by kernel_rfl) (by kernel_rfl) rfl hW' (by rintro _ rfl; rfl) rfl Try.underlying4 hb⟩

theorem ballotOrders_holds : Rows.BallotOrdersSaid :=
  OpenClaim.holds_of_wide 8 Try.f8 rfl rfl rfl rfl rfl rfl rfl ⟨rfl, rfl, rfl, rfl, rfl⟩ rfl rfl rfl rfl rfl (by kernel_rfl) Try.func8 (by kernel_rfl)
    (of_decide_eq_true (by kernel_rfl)) (by unfold Func.isWrapper; first | (rw [if_pos (by decide +kernel)]; kernel_rfl) | (rw [if_neg (by decide +kernel)]; exact ⟨rfl, rfl⟩))
    (fun os started H enc _ => ballotOrders_lifted os started H enc)
end Go.Proofs.Ytodlabpgjgbbpab
