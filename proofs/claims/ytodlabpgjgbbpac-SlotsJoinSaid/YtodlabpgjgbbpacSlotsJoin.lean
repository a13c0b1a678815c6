/-
  SlotsJoin: what is owned up to a slot, and from there on, is all that is owned. No conditions.
-/
import Derived.Test.YtodlabpgjgbbpacSlotsOwn
import Derived.Test.YtodlabpgjgbbpacStep
namespace Go.Proofs.Ytodlabpgjgbbpac
open Go.RowKit Go.Agio Go.ChangeShapes Go.WideShapes Go.ChangeAt

attribute [local irreducible] Slt.own Slt.next Slt.total Slt.owner

theorem own_later {w w' : World} {base n : Nat} {e : TypeId} {v : Value} {xs : List Value} (h : w.ownsRow base e 1 v n xs) (hb : Below w.heap.size w w') : w'.ownsRow base e 1 v n xs := by
  refine ⟨h.1, ?_⟩
  rcases h.2 with hn | ⟨g, cap, cur, hv, hbg, hh, rest⟩
  · exact .inl hn
  · exact .inr ⟨g, cap, cur, hv, hbg, (hb.block _ (blk_lt hh)).trans hh, rest⟩
theorem held_alloc {W W1 : World} {p : Prop} (o : Obj) (h : Below W.heap.size W W1 ∧ p) : Below W.heap.size W (W1.alloc o) := h.1.alloc h.1.size o
theorem held_drew {W W1 : World} {p : Prop} (h : Below W.heap.size W W1 ∧ p) : Below W.heap.size W W1.drew := h.1.drew
theorem held_here {W W1 : World} {p : Prop} (h : Below W.heap.size W W1 ∧ p) : Below W.heap.size W W1 := h.1

set_option maxRecDepth 100000 in
set_option maxHeartbeats 4000000 in
theorem slotsJoin_yes (site lo hi n k : Int) (w : World) (at_ : Int) (hlo : lo ≤ k) (hhi : k ≤ hi) (hk : (hi < at_ ∧ hi = k) ∨ (at_ ≤ hi ∧ at_ < lo ∧ lo = k) ∨ (at_ ≤ hi ∧ lo ≤ at_ ∧ at_ = k)) :
    Calls Try.prog 8 #[.agg #[.int .i64 site, .int .i64 lo, .int .i64 hi, .int .i64 n], .int .i64 at_] w fun e w' => e = .returned (.bool true) ∧ Below w.heap.size w w' := by
  obtain ⟨i0, hi0, hz0, hz1, hz2⟩ := info_parts infoC
  obtain ⟨l1, hl1⟩ : ∃ l, l = Slt.own site lo k n := ⟨_, rfl⟩
  obtain ⟨l2, hl2⟩ : ∃ l, l = Slt.own site k hi n := ⟨_, rfl⟩
  obtain ⟨l, hl⟩ : ∃ l, l = Slt.own site lo hi n := ⟨_, rfl⟩
  have hcat : l = l1 ++ l2 := by rw [hl, hl1, hl2]; exact (Slt.own_join hlo hhi).symm
  have C1 : Hid (∀ w, Calls Try.prog 17 #[.int .i64 site, .int .i64 lo, .int .i64 k, .int .i64 n] w fun e w' => ∃ A c, e = .returned (.slice A l1.length c) ∧ Reads w' A (l1.map (Value.int .i64)) ∧ Below w.heap.size w w') := hide (fun w => by
    rw [hl1]; exact (all_any _ _ _ _ w).mono fun _ _ ⟨A, c, h1, h2, h3⟩ => ⟨A, c, h1, Reads.of_own h2, h3⟩)
  have C2 : Hid (∀ w, Calls Try.prog 17 #[.int .i64 site, .int .i64 k, .int .i64 hi, .int .i64 n] w fun e w' => ∃ A c, e = .returned (.slice A l2.length c) ∧ Reads w' A (l2.map (Value.int .i64)) ∧ Below w.heap.size w w') := hide (fun w => by
    rw [hl2]; exact (all_any _ _ _ _ w).mono fun _ _ ⟨A, c, h1, h2, h3⟩ => ⟨A, c, h1, Reads.of_own h2, h3⟩)
  have C3 : Hid (∀ w0 w, Below w0.heap.size w0 w → Calls Try.prog 17 #[.int .i64 site, .int .i64 lo, .int .i64 hi, .int .i64 n] w fun e w' => ∃ A c, e = .returned (.slice A l.length c) ∧ Reads w' A (l.map (Value.int .i64)) ∧ Below w0.heap.size w0 w' ∧ Below w.heap.size w w') := hide (fun w0 w hb => by
    rw [hl]; exact (all_any _ _ _ _ w).mono fun _ _ ⟨A, c, h1, h2, h3⟩ => ⟨A, c, h1, Reads.of_own h2, below_next hb h3, h3⟩)
  have hlen : l.length ≤ 4096 := by rw [hl]; exact Slt.own_len
  have C4 : Hid (∀ (A B : Option Addr) (c d : Nat) (w0 w : World), Reads w A (l.map (Value.int .i64)) → Reads w B (l.map (Value.int .i64)) → Below w0.heap.size w0 w → Calls Try.prog 16 #[.slice A l.length c, .slice B l.length d] w fun e w' => e = .returned (.bool true) ∧ Below w0.heap.size w0 w') := hide (fun A B c d w0 w h1 h2 hb => (same_yes A B c d l w h1 h2 (by omega)).mono fun _ _ h => ⟨h.1, below_next hb h.2⟩)
  have HM : Hid (0 + l1.length + l2.length = l.length) := hide (by rw [hcat, List.length_append]; omega)
  have HC : Hid (([] ++ l1.map (Value.int .i64)) ++ l2.map (Value.int .i64) = l.map (Value.int .i64)) := hide (by rw [hcat]; simp)
  have HL1 : Hid ((l1.map (Value.int .i64)).length = l1.length) := hide (by simp)
  have HL2 : Hid ((l2.map (Value.int .i64)).length = l2.length) := hide (by simp)
  have hm1 : l1.length ≤ 4096 := by have := HM.out; omega
  have hm2 : l2.length ≤ 4096 := by have := HM.out; omega
  clear hl1 hl2 hl hcat
  have hlh : lo ≤ hi := Int.le_trans hlo hhi
  clear hlo hhi
  rcases hk with ⟨ha, hk⟩ | ⟨ha, ha2, hk⟩ | ⟨ha, ha2, hk⟩
  all_goals
    subst hk
    go_enter Try.func8, Try.ntmps8
    go_wp2_with fail
    refine (awake_any _).mono ?_
    rintro e w1 ⟨rfl, hb1⟩
    have hb0 : Below w.heap.size w w1 := below_alloc (Below.refl _ _) hb1 (by simp)
    have K : w1.heap[w.heap.size]? = some (.cells #[.int .i64 site, .int .i64 lo, .int .i64 hi, .int .i64 n] 31) := (hb1.block _ (by simp)).trans (heap_new _ _)
    obtain ⟨x0, x1, x2, x3⟩ := four_at K
    have K := hide K
    have HB1 := hide hb0
    clear hb1 hb0
    go_wp2_with fail
    refine (C1.out _).mono ?_
    rintro e w2 ⟨A1, c1, rfl, hR1, hb2⟩
    have K2 := hide ((hb2.block _ (blk_lt K.out)).trans K.out)
    have HB2 := hide (below_next HB1.out hb2)
    obtain ⟨y0, y1, y2, y3⟩ := four_at K2.out
    have R1 := hide hR1
    clear x0 x1 x2 x3 hR1 hb2
    go_wp2_with fail
    refine (C2.out _).mono ?_
    rintro e w3 ⟨A2, c2, rfl, hR2, hb3⟩
    have K3 := hide ((hb3.block _ (blk_lt K2.out)).trans K2.out)
    have HB3 := hide (below_next HB2.out hb3)
    have R2 := hide hR2
    replace R1 := hide (R1.out.below hb3)
    have hs3 := four_held K3.out (Below.refl w3.heap.size w3)
    clear y0 y1 y2 y3 hR2 hb3
    generalize hm1' : l1.length = m1 at *
    generalize hm2' : l2.length = m2 at *
    generalize hm' : l.length = m at *
    clear hm1' hm2' hm'
    go_wp2_with fail
    go_region_held3 (fun w' => Below w3.heap.size w3 w' ∧ w'.cell? ⟨w.heap.size, 0, none⟩ = some (.int .i64 site) ∧ w'.cell? ⟨w.heap.size, 1, none⟩ = some (.int .i64 lo) ∧ w'.cell? ⟨w.heap.size, 2, none⟩ = some (.int .i64 hi) ∧ w'.cell? ⟨w.heap.size, 3, none⟩ = some (.int .i64 n)) (first | assumption | exact four_held K3.out (by assumption) | exact four_held K3.out (Below.refl w3.heap.size w3).drew | exact four_held K3.out (held_drew (by assumption)) | exact four_held K3.out (held_alloc _ (by assumption)) | exact four_held K3.out (held_alloc _ (by assumption)).drew) (first
      | (go_at_call 17; (with_reducible refine (C3.out w3 _ (by first | assumption | exact held_here (by assumption))).mono ?_); rintro e w6 ⟨A6, c6, rfl, hR6, hb6, hc6⟩; (try replace N4 := hide (own_later N4.out hc6)); (try replace N5 := hide (own_later N5.out hc6)))
      | (refine step_append_own (by rfl) (.tmp 53) (.tmp 54) 32 (by rfl) w3.heap.size 3 i0 (.int .i64 0) 8 Try.underlying32 hi0 hz0 hz1 hz2 rfl _ 0 [] (by rfl) (by first | exact own_new _ _ _ [] 0 (by first | exact Nat.le_refl _ | exact (held_here (by assumption)).size) rfl (by unfold maxLen; omega) | exact (own_new _ _ _ [] 0 (by first | exact Nat.le_refl _ | exact (held_here (by assumption)).size) rfl (by unfold maxLen; omega)).drew) A1 m1 c1 (l1.map (Value.int .i64)) (by rfl) (R1.out.below (by first | assumption | exact held_here (by assumption))) HL1.out (ints_one _ _) (by unfold maxLen; omega) (by omega) (by first | exact (held_here (by assumption)).size) ?_; intro A4 c4 w4 n4 g4 t4; have N4 := hide n4; have hb4 : Below w3.heap.size w3 w4 := Below.grown (held_here (by assumption)) g4 (held_here (by assumption)).size (fun g hg => by cases hg; first | exact Nat.le_refl _ | exact (held_here (by assumption)).size); clear n4 t4 g4)
      | (refine step_append_own (by rfl) (.tmp 55) (.tmp 56) 32 (by rfl) w3.heap.size 3 i0 (.int .i64 0) 8 Try.underlying32 hi0 hz0 hz1 hz2 rfl _ (0 + m1) ([] ++ l1.map (Value.int .i64)) (by rfl) (by first | exact N4.out | exact N4.out.drew) A2 m2 c2 (l2.map (Value.int .i64)) (by rfl) (R2.out.below (by first | assumption | exact held_here (by assumption))) HL2.out (ints_one _ _) (by unfold maxLen; omega) (by omega) (by first | exact (held_here (by assumption)).size) ?_; intro A5 c5 w5 n5 g5 t5; rw [HM.out, HC.out] at n5; rw [HM.out]; have N5 := hide n5; have hb5 : Below w3.heap.size w3 w5 := Below.grown (held_here (by assumption)) g5 (held_here (by assumption)).size (fun g hg => (N4.out.lt g hg).1); clear n5 t5 g5)
      | (go_at_call 16; (with_reducible refine (C4.out _ _ _ _ w3 _ (by first | exact Reads.of_own N5.out | exact (Reads.of_own N5.out).drew) (by first | exact hR6 | exact hR6.drew) (by first | assumption | exact held_here (by assumption))).mono ?_); rintro e w7 ⟨rfl, hb7⟩))
    all_goals
      go_wp2
      go_ret
      exact ⟨rfl, below_next HB3.out (by assumption)⟩

set_option maxRecDepth 100000 in
set_option maxHeartbeats 4000000 in
theorem slotsJoin_no (site lo hi n : Int) (w : World) (at_ : Int) (h : hi < lo) :
    Calls Try.prog 8 #[.agg #[.int .i64 site, .int .i64 lo, .int .i64 hi, .int .i64 n], .int .i64 at_] w fun e w' => e = .returned (.bool true) ∧ Below w.heap.size w w' := by
  have CC : Hid (∀ w, Calls Try.prog 10 #[.int .i64 site, .int .i64 lo, .int .i64 hi, .int .i64 n] w fun e w' => e = .returned (.int .i64 0) ∧ Below w.heap.size w w') := hide (fun w => by
    have := count_any site lo hi n w
    rwa [show ((Slt.own site lo hi n).length : Int) = 0 by rw [Slt.own_back (by omega)]; rfl] at this)
  go_enter Try.func8, Try.ntmps8
  go_wp2_with fail
  refine (awake_any _).mono ?_
  rintro e w1 ⟨rfl, hb1⟩
  have hb0 : Below w.heap.size w w1 := below_alloc (Below.refl _ _) hb1 (by simp)
  have K : w1.heap[w.heap.size]? = some (.cells #[.int .i64 site, .int .i64 lo, .int .i64 hi, .int .i64 n] 31) := (hb1.block _ (by simp)).trans (heap_new _ _)
  obtain ⟨x0, x1, x2, x3⟩ := four_at K
  have HB1 := hide hb0
  clear hb1 hb0 K
  go_wp2_with fail
  all_goals
    refine (CC.out _).mono ?_
    rintro e w2 ⟨rfl, hb2⟩
    go_wp2
    go_ret
    exact ⟨rfl, below_next HB1.out hb2⟩

theorem slotsJoin_walk (site lo hi n at_ : Int) (w : World) :
    Calls Try.prog 8 #[.agg #[.int .i64 site, .int .i64 lo, .int .i64 hi, .int .i64 n], .int .i64 at_] w fun e w' => e = .returned (.bool true) ∧ Below w.heap.size w w' := by
  by_cases h : hi < lo
  · exact slotsJoin_no site lo hi n w at_ h
  · by_cases h1 : hi < at_
    · exact slotsJoin_yes site lo hi n hi w at_ (by omega) (by omega) (.inl ⟨h1, rfl⟩)
    · by_cases h2 : at_ < lo
      · exact slotsJoin_yes site lo hi n lo w at_ (by omega) (by omega) (.inr (.inl ⟨by omega, h2, rfl⟩))
      · exact slotsJoin_yes site lo hi n at_ w at_ (by omega) (by omega) (.inr (.inr ⟨by omega, by omega, rfl⟩))

set_option maxRecDepth 100000 in
theorem slotsJoin_lifted (os : Os) (started : os.Started) (H : Type) (enc : TypeId × Value → H) :
    ReturnsInHanded {} Try.checked os 8 .any (Rows.slotsJoinSpec.pre6 enc Try.prog Try.f8 Rows.slotsJoinRow.domain false) (Rows.slotsJoinSpec.post enc Try.prog Try.f8 false true false false) := by
  refine returnsInHanded_of_change_sized (C := Try.checked) (by kernel_rfl) started (by kernel_rfl) Try.func8
    (ChangeSpec.witness6 (enc := enc) (C := Try.checked) false ⟨#[], #[.agg #[.int .i64 0, .int .i64 0, .int .i64 0, .int .i64 0], .int .i64 0], []⟩ 8 (by kernel_rfl) (by kernel_rfl) (by kernel_rfl) (by kernel_rfl)) ?_
  intro W base args ds gs before hval0 hW _ hsz0 _
  have hval : ∀ (j : Nat) t v, Try.f8.params[j]? = some t → args[j]? = some v → Value.okWide Try.prog W .any base t v := hval0
  have hW' := hW
  obtain ⟨p, q, hA0, hV, rfl, _, _⟩ := hW
  have hA : DataW.TrodAll enc Try.prog W 0 (fun _ => true) true Try.f8.params.toList args.toList ds p := hA0
  have _hsz : (DataW.weightsEach Try.prog (Try.f8.params.toList ++ Rows.slotsJoinSpec.plain.varTypes Try.prog) (ds ++ gs)).all (· ≤ reachBytes) = true := hsz0
  rw [Try.params8] at hA hval
  obtain ⟨v0, v1, d0, d1, p0, p1, rfl, rfl, rfl, h0, h1⟩ := trodAll_two hA
  obtain ⟨u0_0, u0_1, u0_2, u0_3, y0_0, y0_1, y0_2, y0_3, n0, rfl, rfl, rfl, hy0_0, hy0_1, hy0_2, hy0_3⟩ := Joins.open_agg4 Try.underlying31 (by kernel_rfl) (by kernel_rfl) (hval 0 31 v0 rfl rfl) h0
  obtain ⟨x0_0, e0_0, rfl, wf0_0⟩ := DataW.trod_int Try.underlying3 hy0_0
  have bd0_0 := bounds_i64 wf0_0
  simp only [List.cons.injEq, and_true] at e0_0
  subst e0_0
  obtain ⟨x0_1, e0_1, rfl, wf0_1⟩ := DataW.trod_int Try.underlying3 hy0_1
  have bd0_1 := bounds_i64 wf0_1
  simp only [List.cons.injEq, and_true] at e0_1
  subst e0_1
  obtain ⟨x0_2, e0_2, rfl, wf0_2⟩ := DataW.trod_int Try.underlying3 hy0_2
  have bd0_2 := bounds_i64 wf0_2
  simp only [List.cons.injEq, and_true] at e0_2
  subst e0_2
  obtain ⟨x0_3, e0_3, rfl, wf0_3⟩ := DataW.trod_int Try.underlying3 hy0_3
  have bd0_3 := bounds_i64 wf0_3
  simp only [List.cons.injEq, and_true] at e0_3
  subst e0_3
  obtain ⟨x1, rfl, rfl, rfl, wf1⟩ := open_int Try.underlying3 (hval 1 3 v1 rfl rfl) h1
  have bd1 := bounds_i64 wf1
  refine (slotsJoin_walk _ _ _ _ _ _).mono fun e W' ⟨he, hb⟩ => ?_
  subst he
  exact ⟨_, rfl, post_law (by kernel_rfl) (by kernel_rfl) rfl hW' (by rintro _ rfl; rfl) rfl Try.underlying4 hb⟩

theorem slotsJoin_holds : Rows.SlotsJoinSaid :=
  OpenClaim.holds_of_wide 8 Try.f8 rfl rfl rfl rfl rfl rfl rfl ⟨rfl, rfl, rfl, rfl, rfl⟩ rfl rfl rfl rfl rfl (by kernel_rfl) Try.func8 (by kernel_rfl)
    (of_decide_eq_true (by kernel_rfl)) (by unfold Func.isWrapper; first | (rw [if_pos (by decide +kernel)]; kernel_rfl) | (rw [if_neg (by decide +kernel)]; exact ⟨rfl, rfl⟩))
    (fun os started H enc _ => slotsJoin_lifted os started H enc)

end Go.Proofs.Ytodlabpgjgbbpac
