/-
  BallotOne: ballots are in one order. No conditions.
-/
import Derived.Test.YtodlabpgjgbbpabBallotAwake
import Derived.Test.YtodlabpgjgbbpabLaw
import Derived.Test.YtodlabpgjgbbpabRows
namespace Go.Proofs.Ytodlabpgjgbbpab
open Go.RowKit Go.Agio Go.ChangeShapes Go.WideShapes Go.ChangeAt

set_option maxRecDepth 100000 in
set_option maxHeartbeats 2000000 in
theorem ballotOne_walk (r s r' s' r'' s'' : Int) (w : World) :
    Calls Try.prog 6 #[.agg #[.int .i64 r, .int .i64 s], .agg #[.int .i64 r', .int .i64 s'], .agg #[.int .i64 r'', .int .i64 s'']] w fun e w' => e = .returned (.bool true) ∧ Below w.heap.size w w' := by
  have H1 := hide (Bal.compare_swap r s r' s')
  have H2 := hide (Bal.compare_zero (r := r) (s := s) (r' := r') (s' := s'))
  have H3 := hide (Bal.compare_trans r s r' s' r'' s'')
  have X1 := hide (Bal.compare_bd r s r' s')
  have X2 := hide (Bal.compare_bd r' s' r'' s'')
  have X3 := hide (Bal.compare_bd r s r'' s'')
  go_enter Try.func6, Try.ntmps6
  go_wp2_with fail
  have k0 : (((w.alloc (.cells #[.int .i64 r, .int .i64 s] 29)).alloc (.cells #[.int .i64 r', .int .i64 s'] 29)).alloc (.cells #[.int .i64 r'', .int .i64 s''] 29)).heap.size = w.heap.size + 3 := by simp
  have hb0 := (((Below.refl w.heap.size w).alloc (Nat.le_refl _) (.cells #[.int .i64 r, .int .i64 s] 29)).alloc (by simp) (.cells #[.int .i64 r', .int .i64 s'] 29)).alloc (by simp; omega) (.cells #[.int .i64 r'', .int .i64 s''] 29)
  have k1 : (((w.alloc (.cells #[.int .i64 r, .int .i64 s] 29)).alloc (.cells #[.int .i64 r', .int .i64 s'] 29)).alloc (.cells #[.int .i64 r'', .int .i64 s''] 29)).heap[w.heap.size]? = some (.cells #[.int .i64 r, .int .i64 s] 29) := by rw [Below.heap_alloc _ _ _ (by simp; omega), Below.heap_alloc _ _ _ (by simp)]; exact heap_new _ _
  have k2 : (((w.alloc (.cells #[.int .i64 r, .int .i64 s] 29)).alloc (.cells #[.int .i64 r', .int .i64 s'] 29)).alloc (.cells #[.int .i64 r'', .int .i64 s''] 29)).heap[w.heap.size + 1]? = some (.cells #[.int .i64 r', .int .i64 s'] 29) := by
    rw [Below.heap_alloc _ _ _ (by simp)]
    have := heap_new (w.alloc (.cells #[.int .i64 r, .int .i64 s] 29)) (.cells #[.int .i64 r', .int .i64 s'] 29)
    rwa [World.size_alloc] at this
  have k3 : (((w.alloc (.cells #[.int .i64 r, .int .i64 s] 29)).alloc (.cells #[.int .i64 r', .int .i64 s'] 29)).alloc (.cells #[.int .i64 r'', .int .i64 s''] 29)).heap[w.heap.size + 2]? = some (.cells #[.int .i64 r'', .int .i64 s''] 29) := by
    have := heap_new ((w.alloc (.cells #[.int .i64 r, .int .i64 s] 29)).alloc (.cells #[.int .i64 r', .int .i64 s'] 29)) (.cells #[.int .i64 r'', .int .i64 s''] 29)
    rwa [World.size_alloc, World.size_alloc] at this
  generalize ((w.alloc (.cells #[.int .i64 r, .int .i64 s] 29)).alloc (.cells #[.int .i64 r', .int .i64 s'] 29)).alloc (.cells #[.int .i64 r'', .int .i64 s''] 29) = W at *
  have hk := hide k0
  have K1 := hide k1; have K2 := hide k2; have K3 := hide k3
  clear k0 k1 k2 k3 hk
  obtain ⟨x, hx⟩ : ∃ x, x = Bal.compare r s r' s' := ⟨_, rfl⟩
  obtain ⟨y, hy⟩ : ∃ y, y = Bal.compare r' s' r'' s'' := ⟨_, rfl⟩
  obtain ⟨z, hz⟩ : ∃ z, z = Bal.compare r s r'' s'' := ⟨_, rfl⟩
  have A1 := hide (fun (w1 : World) (hb : Below W.heap.size W w1) => compare_at r s r' s' w1 hb)
  have A2 := hide (fun (w1 : World) (hb : Below W.heap.size W w1) => compare_at r' s' r'' s'' w1 hb)
  have A3 := hide (fun (w1 : World) (hb : Below W.heap.size W w1) => compare_at r s r'' s'' w1 hb)
  have A4 := hide (fun (w1 : World) (hb : Below W.heap.size W w1) => compare_at r' s' r s w1 hb)
  rw [H1.out] at A4
  rw [← hx] at A1 A4 H1 H2 H3 X1
  rw [← hy] at A2 H3 X2
  rw [← hz] at A3 H3 X3
  clear hx hy hz
  refine (awake_any _).mono ?_
  rintro e w1 ⟨rfl, hb1⟩
  obtain ⟨a0, a1⟩ := two_cells hb1 K1.out
  obtain ⟨a2, a3⟩ := two_cells hb1 K2.out
  obtain ⟨a4, a5⟩ := two_cells hb1 K3.out
  go_wp2_with fail
  refine (A1.out _ hb1).mono ?_
  rintro e w2 ⟨rfl, hb2⟩
  clear a0 a1 a2 a3 a4 a5
  obtain ⟨a0, a1⟩ := two_cells hb2 K1.out
  obtain ⟨a2, a3⟩ := two_cells hb2 K2.out
  obtain ⟨a4, a5⟩ := two_cells hb2 K3.out
  go_wp2_with fail
  refine (A2.out _ hb2).mono ?_
  rintro e w3 ⟨rfl, hb3⟩
  clear a0 a1 a2 a3 a4 a5
  obtain ⟨a0, a1⟩ := two_cells hb3 K1.out
  obtain ⟨a2, a3⟩ := two_cells hb3 K2.out
  obtain ⟨a4, a5⟩ := two_cells hb3 K3.out
  go_wp2_with fail
  refine (A3.out _ hb3).mono ?_
  rintro e w4 ⟨rfl, hb4⟩
  clear a0 a1 a2 a3 a4 a5
  obtain ⟨a0, a1⟩ := two_cells hb4 K1.out
  obtain ⟨a2, a3⟩ := two_cells hb4 K2.out
  obtain ⟨a4, a5⟩ := two_cells hb4 K3.out
  go_wp2_with fail
  refine (A4.out _ hb4).mono ?_
  rintro e w5 ⟨rfl, hb5⟩
  clear a0 a1 a2 a3 a4 a5
  obtain ⟨a0, a1⟩ := two_cells hb5 K1.out
  obtain ⟨a2, a3⟩ := two_cells hb5 K2.out
  obtain ⟨a4, a5⟩ := two_cells hb5 K3.out
  have hx := X1.out; have hy := X2.out; have hz := X3.out; have h3 := H3.out
  have h2 := H2.out
  rcases (show x = -1 ∨ x = 0 ∨ x = 1 by omega) with rfl | rfl | rfl
  · rcases (show y = -1 ∨ y = 0 ∨ y = 1 by omega) with rfl | rfl | rfl
    all_goals rcases (show z = -1 ∨ z = 0 ∨ z = 1 by omega) with rfl | rfl | rfl
    all_goals first | (exfalso; omega) | skip
    all_goals clear h2 h3 hx hy hz
    all_goals go_wp2
    all_goals first | (exfalso; have h := H2.out; omega) | (go_ret; exact ⟨rfl, below_next hb0 hb5⟩)
  · obtain ⟨rfl, rfl⟩ := h2.1 rfl
    rcases (show y = -1 ∨ y = 0 ∨ y = 1 by omega) with rfl | rfl | rfl
    all_goals rcases (show z = -1 ∨ z = 0 ∨ z = 1 by omega) with rfl | rfl | rfl
    all_goals first | (exfalso; omega) | skip
    all_goals clear h2 h3 hx hy hz
    all_goals go_wp2
    all_goals first | (exfalso; have h := H2.out; omega) | (go_ret; exact ⟨rfl, below_next hb0 hb5⟩)
  · rcases (show y = -1 ∨ y = 0 ∨ y = 1 by omega) with rfl | rfl | rfl
    all_goals rcases (show z = -1 ∨ z = 0 ∨ z = 1 by omega) with rfl | rfl | rfl
    all_goals first | (exfalso; omega) | skip
    all_goals clear h2 h3 hx hy hz
    all_goals go_wp2
    all_goals first | (exfalso; have h := H2.out; omega) | (go_ret; exact ⟨rfl, below_next hb0 hb5⟩)

set_option maxRecDepth 100000 in
theorem ballotOne_lifted (os : Os) (started : os.Started) (H : Type) (enc : TypeId × Value → H) :
    ReturnsInHanded {} Try.checked os 6 .any (Rows.ballotOneSpec.pre6 enc Try.prog Try.f6 Rows.ballotOneRow.domain false) (Rows.ballotOneSpec.post enc Try.prog Try.f6 false true false false) := by
  refine returnsInHanded_of_change_sized (C := Try.checked) (by kernel_rfl) started (by kernel_rfl) Try.func6
    (ChangeSpec.witness6 (enc := enc) (C := Try.checked) false ⟨#[], #[.agg #[.int .i64 0, .int .i64 0], .agg #[.int .i64 0, .int .i64 0], .agg #[.int .i64 0, .int .i64 0]], []⟩ 8 (by kernel_rfl) (by kernel_rfl) (by kernel_rfl) (by kernel_rfl)) ?_
  intro W base args ds gs before hval0 hW _ hsz0 _
  have hval : ∀ (j : Nat) t v, Try.f6.params[j]? = some t → args[j]? = some v → Value.okWide Try.prog W .any base t v := hval0
  have hW' := hW
  obtain ⟨p, q, hA0, hV, rfl, _, _⟩ := hW
  have hA : DataW.TrodAll enc Try.prog W 0 (fun _ => true) true Try.f6.params.toList args.toList ds p := hA0
  have _hsz : (DataW.weightsEach Try.prog (Try.f6.params.toList ++ Rows.ballotOneSpec.plain.varTypes Try.prog) (ds ++ gs)).all (· ≤ reachBytes) = true := hsz0
  rw [Try.params6] at hA hval
  obtain ⟨v0, v1, v2, d0, d1, d2, p0, p1, p2, rfl, rfl, rfl, h0, h1, h2⟩ := trodAll_three hA
  obtain ⟨u0_0, u0_1, y0_0, y0_1, n0, rfl, rfl, rfl, hy0_0, hy0_1⟩ := Joins.open_agg2 Try.underlying29 (by kernel_rfl) (by kernel_rfl) (hval 0 29 v0 rfl rfl) h0
  obtain ⟨x0_0, e0_0, rfl, wf0_0⟩ := DataW.trod_int Try.underlying3 hy0_0
  have bd0_0 := bounds_i64 wf0_0
  simp only [List.cons.injEq, and_true] at e0_0
  subst e0_0
  obtain ⟨x0_1, e0_1, rfl, wf0_1⟩ := DataW.trod_int Try.underlying3 hy0_1
  have bd0_1 := bounds_i64 wf0_1
  simp only [List.cons.injEq, and_true] at e0_1
  subst e0_1
  obtain ⟨u1_0, u1_1, y1_0, y1_1, n1, rfl, rfl, rfl, hy1_0, hy1_1⟩ := Joins.open_agg2 Try.underlying29 (by kernel_rfl) (by kernel_rfl) (hval 1 29 v1 rfl rfl) h1
  obtain ⟨x1_0, e1_0, rfl, wf1_0⟩ := DataW.trod_int Try.underlying3 hy1_0
  have bd1_0 := bounds_i64 wf1_0
  simp only [List.cons.injEq, and_true] at e1_0
  subst e1_0
  obtain ⟨x1_1, e1_1, rfl, wf1_1⟩ := DataW.trod_int Try.underlying3 hy1_1
  have bd1_1 := bounds_i64 wf1_1
  simp only [List.cons.injEq, and_true] at e1_1
  subst e1_1
  obtain ⟨u2_0, u2_1, y2_0, y2_1, n2, rfl, rfl, rfl, hy2_0, hy2_1⟩ := Joins.open_agg2 Try.underlying29 (by kernel_rfl) (by kernel_rfl) (hval 2 29 v2 rfl rfl) h2
  obtain ⟨x2_0, e2_0, rfl, wf2_0⟩ := DataW.trod_int Try.underlying3 hy2_0
  have bd2_0 := bounds_i64 wf2_0
  simp only [List.cons.injEq, and_true] at e2_0
  subst e2_0
  obtain ⟨x2_1, e2_1, rfl, wf2_1⟩ := DataW.trod_int Try.underlying3 hy2_1
  have bd2_1 := bounds_i64 wf2_1
  simp only [List.cons.injEq, and_true] at e2_1
  subst e2_1
  refine (ballotOne_walk _ _ _ _ _ _ _).mono fun e W' ⟨he, hb⟩ => ?_
  subst he
  exact ⟨_, rfl, post_law (by kernel_rfl) (by kernel_rfl) rfl hW' (by rintro _ rfl; rfl) rfl Try.underlying4 hb⟩

theorem ballotOne_holds : Rows.BallotOneSaid :=
  OpenClaim.holds_of_wide 6 Try.f6 rfl rfl rfl rfl rfl rfl rfl ⟨rfl, rfl, rfl, rfl, rfl⟩ rfl rfl rfl rfl rfl (by kernel_rfl) Try.func6 (by kernel_rfl)
    (of_decide_eq_true (by kernel_rfl)) (by unfold Func.isWrapper; first | (rw [if_pos (by decide +kernel)]; kernel_rfl) | (rw [if_neg (by decide +kernel)]; exact ⟨rfl, rfl⟩))
    (fun os started H enc _ => ballotOne_lifted os started H enc)

end Go.Proofs.Ytodlabpgjgbbpab
