/-
  SlotsOwn: whose any slot is, which one of any site is next, and all of any site between any two, as the document has them. No conditions.
-/
import Derived.Test.YtodlabpgjgbbpacSlotsRef
import Derived.Test.YtodlabpgjgbbpacLaw
import Derived.Test.YtodlabpgjgbbpacCells
import Derived.Test.YtodlabpgjgbbpacRows
import Derived.Deep.RegionHeld3
namespace Go.Proofs.Ytodlabpgjgbbpac
open Go.RowKit Go.Agio Go.ChangeShapes Go.WideShapes Go.ChangeAt

attribute [local irreducible] Slt.own Slt.next Slt.total Slt.owner

theorem four_held {W w1 : World} {b : Nat} {x0 x1 x2 x3 : Value} {t : TypeId} {fr : Nat × Nat} (K : W.heap[b]? = some (.cells #[x0, x1, x2, x3] t fr)) (hb : Below W.heap.size W w1) :
    Below W.heap.size W w1 ∧ w1.cell? ⟨b, 0, none⟩ = some x0 ∧ w1.cell? ⟨b, 1, none⟩ = some x1 ∧ w1.cell? ⟨b, 2, none⟩ = some x2 ∧ w1.cell? ⟨b, 3, none⟩ = some x3 :=
  ⟨hb, four_at ((hb.block b (blk_lt K)).trans K)⟩

set_option maxRecDepth 100000 in
set_option maxHeartbeats 4000000 in
theorem slotsOwn_walk (site lo hi n : Int) (w : World) :
    Calls Try.prog 6 #[.agg #[.int .i64 site, .int .i64 lo, .int .i64 hi, .int .i64 n]] w fun e w' => e = .returned (.bool true) ∧ Below w.heap.size w w' := by
  obtain ⟨O, hO⟩ : ∃ O, O = Slt.owner lo n := ⟨_, rfl⟩
  obtain ⟨X, hX⟩ : ∃ X, X = Slt.next site lo n := ⟨_, rfl⟩
  obtain ⟨l, hl⟩ : ∃ l, l = Slt.own site lo hi n := ⟨_, rfl⟩
  have C1 : Hid (∀ w, Calls Try.prog 11 #[.int .i64 lo, .int .i64 n] w fun e w' => e = .returned (.int .i64 O) ∧ w = w') := hide (fun w => by rw [hO]; exact owner_any _ _ w)
  have C2 : Hid (∀ w, Calls Try.prog 14 #[.int .i64 lo, .int .i64 n] w fun e w' => e = .returned (.int .i64 O) ∧ w = w') := hide (fun w => by rw [hO]; exact rowner_any _ _ w)
  have C3 : Hid (∀ w, Calls Try.prog 12 #[.int .i64 site, .int .i64 lo, .int .i64 n] w fun e w' => e = .returned (.int .i64 X) ∧ w = w') := hide (fun w => by rw [hX]; exact next_any _ _ _ w)
  have C4 : Hid (∀ w0 w, Below w0.heap.size w0 w → Calls Try.prog 15 #[.int .i64 site, .int .i64 lo, .int .i64 n] w fun e w' => e = .returned (.int .i64 X) ∧ Below w0.heap.size w0 w') := hide (fun w0 w hb => by rw [hX]; exact (rnext_any _ _ _ w).mono fun _ _ h => ⟨h.1, below_next hb h.2⟩)
  have C5 : Hid (∀ w0 w, Below w0.heap.size w0 w → Calls Try.prog 17 #[.int .i64 site, .int .i64 lo, .int .i64 hi, .int .i64 n] w fun e w' => ∃ A c, e = .returned (.slice A l.length c) ∧ Reads w' A (l.map (Value.int .i64)) ∧ Below w0.heap.size w0 w') := hide (fun w0 w hb => by
    rw [hl]; exact (all_any _ _ _ _ w).mono fun _ _ ⟨A, c, h1, h2, h3⟩ => ⟨A, c, h1, Reads.of_own h2, below_next hb h3⟩)
  have C6 : Hid (∀ w, Calls Try.prog 13 #[.int .i64 site, .int .i64 lo, .int .i64 hi, .int .i64 n] w fun e w' => ∃ A c, e = .returned (.slice A l.length c) ∧ Reads w' A (l.map (Value.int .i64)) ∧ Below w.heap.size w w') := hide (fun w => by
    rw [hl]; exact (rown_any _ _ _ _ w).mono fun _ _ ⟨A, c, h1, h2, h3⟩ => ⟨A, c, h1, Reads.of_own h2, h3⟩)
  have C7 : Hid (∀ w0 w, Below w0.heap.size w0 w → Calls Try.prog 10 #[.int .i64 site, .int .i64 lo, .int .i64 hi, .int .i64 n] w fun e w' => e = .returned (.int .i64 (l.length : Int)) ∧ Below w0.heap.size w0 w') := hide (fun w0 w hb => by rw [hl]; exact (count_any _ _ _ _ w).mono fun _ _ h => ⟨h.1, below_next hb h.2⟩)
  have hlen : l.length ≤ 4096 := by rw [hl]; exact Slt.own_len
  have C8 : Hid (∀ (A B : Option Addr) (c d : Nat) (w0 w : World), Reads w A (l.map (Value.int .i64)) → Reads w B (l.map (Value.int .i64)) → Below w0.heap.size w0 w → Calls Try.prog 16 #[.slice A l.length c, .slice B l.length d] w fun e w' => e = .returned (.bool true) ∧ Below w0.heap.size w0 w') := hide (fun A B c d w0 w h1 h2 hb => (same_yes A B c d l w h1 h2 (by omega)).mono fun _ _ h => ⟨h.1, below_next hb h.2⟩)
  clear hO hX hl
  go_enter Try.func6, Try.ntmps6
  go_wp2_with fail
  refine (awake_any _).mono ?_
  rintro e w1 ⟨rfl, hb1⟩
  have hb0 : Below w.heap.size w w1 := below_alloc (Below.refl _ _) hb1 (by simp)
  have K : w1.heap[w.heap.size]? = some (.cells #[.int .i64 site, .int .i64 lo, .int .i64 hi, .int .i64 n] 31) := (hb1.block _ (by simp)).trans (heap_new _ _)
  obtain ⟨x0, x1, x2, x3⟩ := four_at K
  have K := hide K
  clear hb1
  go_wp2_with fail
  refine (C6.out _).mono ?_
  rintro e w2 ⟨A, c, rfl, hR, hb2⟩
  have HR := hide hR
  have K2 := hide ((hb2.block _ (blk_lt K.out)).trans K.out)
  have hb3 := below_next hb0 hb2
  have hs2 := four_held K2.out (Below.refl w2.heap.size w2)
  clear x0 x1 x2 x3 K hb2 hR hb0
  generalize l.length = m at *
  go_wp2_with fail
  go_region_held3 (fun w' => Below w2.heap.size w2 w' ∧ w'.cell? ⟨w.heap.size, 0, none⟩ = some (.int .i64 site) ∧ w'.cell? ⟨w.heap.size, 1, none⟩ = some (.int .i64 lo) ∧ w'.cell? ⟨w.heap.size, 2, none⟩ = some (.int .i64 hi) ∧ w'.cell? ⟨w.heap.size, 3, none⟩ = some (.int .i64 n)) (first | assumption | exact four_held K2.out (by assumption) | exact four_held K2.out (Below.refl w2.heap.size w2).drew) (first
      | (go_at_call 11; (with_reducible refine (C1.out _).mono ?_); rintro e w4 ⟨rfl, rfl⟩)
      | (go_at_call 14; (with_reducible refine (C2.out _).mono ?_); rintro e w4 ⟨rfl, rfl⟩)
      | (go_at_call 12; (with_reducible refine (C3.out _).mono ?_); rintro e w4 ⟨rfl, rfl⟩)
      | (go_at_call 15; (with_reducible refine (C4.out w2 _ (by first | assumption | (refine And.left (b := ?b) ?h; rotate_left; assumption))).mono ?_); rintro e w4 ⟨rfl, hb4⟩)
      | (go_at_call 17; (with_reducible refine (C5.out w2 _ (by first | assumption | (refine And.left (b := ?b) ?h; rotate_left; assumption))).mono ?_); rintro e w4 ⟨A4, c4, rfl, hR4, hb4⟩)
      | (go_at_call 16; (with_reducible refine (C8.out _ _ _ _ w2 _ (by first | exact hR4 | exact hR4.drew) (HR.out.below (by first | assumption | (refine And.left (b := ?b) ?h; rotate_left; assumption))) (by first | assumption | (refine And.left (b := ?b) ?h; rotate_left; assumption))).mono ?_); rintro e w5 ⟨rfl, hb5⟩)
      | (go_at_call 10; (with_reducible refine (C7.out w2 _ (by first | assumption | (refine And.left (b := ?b) ?h; rotate_left; assumption))).mono ?_); rintro e w6 ⟨rfl, hb6⟩))
  go_wp2
  go_ret
  exact ⟨rfl, below_next hb3 (by assumption)⟩

set_option maxRecDepth 100000 in
theorem slotsOwn_lifted (os : Os) (started : os.Started) (H : Type) (enc : TypeId × Value → H) :
    ReturnsInHanded {} Try.checked os 6 .any (Rows.slotsOwnSpec.pre6 enc Try.prog Try.f6 Rows.slotsOwnRow.domain false) (Rows.slotsOwnSpec.post enc Try.prog Try.f6 false true false false) := by
  refine returnsInHanded_of_change_sized (C := Try.checked) (by kernel_rfl) started (by kernel_rfl) Try.func6
    (ChangeSpec.witness6 (enc := enc) (C := Try.checked) false ⟨#[], #[.agg #[.int .i64 0, .int .i64 0, .int .i64 0, .int .i64 0]], []⟩ 8 (by kernel_rfl) (by kernel_rfl) (by kernel_rfl) (by kernel_rfl)) ?_
  intro W base args ds gs before hval0 hW _ hsz0 _
  have hval : ∀ (j : Nat) t v, Try.f6.params[j]? = some t → args[j]? = some v → Value.okWide Try.prog W .any base t v := hval0
  have hW' := hW
  obtain ⟨p, q, hA0, hV, rfl, _, _⟩ := hW
  have hA : DataW.TrodAll enc Try.prog W 0 (fun _ => true) true Try.f6.params.toList args.toList ds p := hA0
  have _hsz : (DataW.weightsEach Try.prog (Try.f6.params.toList ++ Rows.slotsOwnSpec.plain.varTypes Try.prog) (ds ++ gs)).all (· ≤ reachBytes) = true := hsz0
  rw [Try.params6] at hA hval
  obtain ⟨v0, d0, rfl, rfl, h0⟩ := trodAll_one hA
  obtain ⟨u0_0, u0_1, u0_2, u0_3, y0_0, y0_1, y0_2, y0_3, n0, rfl, rfl, rfl, hy0_0, hy0_1, hy0_2, hy0_3⟩ := Joins.open_agg4 Try.underlying31 (by kernel_rfl) (by kernel_rfl) (hval 0 31 v0 rfl rfl) h0
  obtain ⟨x0_0, e0_0, rfl, wf0_0⟩ := DataW.trod_int Try.underlying3 hy0_0
  have bd0_0 := bounds_i64 wf0_0
  simp only [List.cons.injEq, and_true] at e0_0
  subst e0_0
  obtain ⟨x0_1, e0_1, rfl, wf0_1⟩ := DataW.trod_int Try.underlying3 hy0_1
  have bd0_1 := bounds_i64 wf0_1
  simp only [List.cons.injEq, and_true] at e0_1
  subst e0_1
  obtain ⟨x0_2, e0_2, rfl, wf0_2⟩ := DataW.trod_int Try.underlying3 hy0_2
  have bd0_2 := bounds_i64 wf0_2
  simp only [List.cons.injEq, and_true] at e0_2
  subst e0_2
  obtain ⟨x0_3, e0_3, rfl, wf0_3⟩ := DataW.trod_int Try.underlying3 hy0_3
  have bd0_3 := bounds_i64 wf0_3
  simp only [List.cons.injEq, and_true] at e0_3
  subst e0_3
  refine (slotsOwn_walk _ _ _ _ _).mono fun e W' ⟨he, hb⟩ => ?_
  subst he
  exact ⟨_, rfl, post_law (by kernel_rfl) (by kernel_rfl) rfl hW' (by rintro _ rfl; rfl) rfl Try.underlying4 hb⟩

theorem slotsOwn_holds : Rows.SlotsOwnSaid :=
  OpenClaim.holds_of_wide 6 Try.f6 rfl rfl rfl rfl rfl rfl rfl ⟨rfl, rfl, rfl, rfl, rfl⟩ rfl rfl rfl rfl rfl (by kernel_rfl) Try.func6 (by kernel_rfl)
    (of_decide_eq_true (by kernel_rfl)) (by unfold Func.isWrapper; first | (rw [if_pos (by decide +kernel)]; kernel_rfl) | (rw [if_neg (by decide +kernel)]; exact ⟨rfl, rfl⟩))
    (fun os started H enc _ => slotsOwn_lifted os started H enc)

end Go.Proofs.Ytodlabpgjgbbpac
