/-
  SlotsNext: the next slot is the first one of all from there on; what is owned rises, and is of the site. No conditions.
-/
import Derived.Test.YtodlabpgjgbbpacSlotsRef
import Derived.Test.YtodlabpgjgbbpacLaw
import Derived.Test.YtodlabpgjgbbpacCells
import Derived.Test.YtodlabpgjgbbpacRows
namespace Go.Proofs.Ytodlabpgjgbbpac
open Go.RowKit Go.Agio Go.ChangeShapes Go.WideShapes Go.ChangeAt

attribute [local irreducible] Slt.own Slt.next Slt.total Slt.owner

theorem getD_mem {l : List Int} {k : Nat} (h : k < l.length) : l.getD k 0 ∈ l := by
  rw [List.getD_eq_getElem?_getD, List.getElem?_eq_getElem h]; exact List.getElem_mem h
theorem getD_rises {l : List Int} (hp : l.Pairwise (· < ·)) {i k : Nat} (hi : i < k) (h : k < l.length) : l.getD i 0 < l.getD k 0 := by
  rw [List.getD_eq_getElem?_getD, List.getD_eq_getElem?_getD, List.getElem?_eq_getElem h, List.getElem?_eq_getElem (by omega)]
  exact List.pairwise_iff_getElem.1 hp i k (by omega) h hi

set_option maxRecDepth 100000 in
set_option maxHeartbeats 4000000 in
theorem slotsNext_walk (site lo hi n : Int) (w : World) :
    Calls Try.prog 7 #[.agg #[.int .i64 site, .int .i64 lo, .int .i64 hi, .int .i64 n]] w fun e w' => e = .returned (.bool true) ∧ Below w.heap.size w w' := by
  obtain ⟨X, hX⟩ : ∃ X, X = Slt.next site lo n := ⟨_, rfl⟩
  obtain ⟨l, hl⟩ : ∃ l, l = Slt.own site lo hi n := ⟨_, rfl⟩
  have C3 : Hid (∀ w, Calls Try.prog 12 #[.int .i64 site, .int .i64 lo, .int .i64 n] w fun e w' => e = .returned (.int .i64 X) ∧ w = w') := hide (fun w => by rw [hX]; exact next_any _ _ _ w)
  have C5 : Hid (∀ w, Calls Try.prog 17 #[.int .i64 site, .int .i64 lo, .int .i64 hi, .int .i64 n] w fun e w' => ∃ A c, e = .returned (.slice A l.length c) ∧ Reads w' A (l.map (Value.int .i64)) ∧ Below w.heap.size w w') := hide (fun w => by
    rw [hl]; exact (all_any _ _ _ _ w).mono fun _ _ ⟨A, c, h1, h2, h3⟩ => ⟨A, c, h1, Reads.of_own h2, h3⟩)
  have hlen : l.length ≤ 4096 := by rw [hl]; exact Slt.own_len
  have HM : Hid (∀ x ∈ l, Slt.owner x n = site ∧ lo ≤ x ∧ x < hi) := hide (fun x hx => by rw [hl] at hx; have := Slt.own_mem hx; exact ⟨this.1, this.2.1, this.2.2.1⟩)
  have HP : Hid (l.Pairwise (· < ·)) := hide (by rw [hl]; exact Slt.own_rises)
  have HH : Hid (l ≠ [] → l.headD 0 = X) := hide (fun h => by rw [hX, hl]; rw [hl] at h; exact Slt.own_head h)
  clear hX hl
  go_enter Try.func7, Try.ntmps7
  go_wp2_with fail
  refine (awake_any _).mono ?_
  rintro e w1 ⟨rfl, hb1⟩
  have hb0 : Below w.heap.size w w1 := below_alloc (Below.refl _ _) hb1 (by simp)
  have K : w1.heap[w.heap.size]? = some (.cells #[.int .i64 site, .int .i64 lo, .int .i64 hi, .int .i64 n] 31) := (hb1.block _ (by simp)).trans (heap_new _ _)
  obtain ⟨x0, x1, x2, x3⟩ := four_at K
  have K := hide K
  clear hb1
  go_wp2_with fail
  refine (C5.out _).mono ?_
  rintro e w2 ⟨A, c, rfl, hR, hb2⟩
  have HR := hide hR
  have K2 := hide ((hb2.block _ (blk_lt K.out)).trans K.out)
  have HB3 := hide (below_next hb0 hb2)
  clear x0 x1 x2 x3 K hb2 hR hb0
  go_wp2_with fail
  go_loopw [5] (fun i wr => ∃ k : Nat, k ≤ l.length ∧ i = .int .i64 k ∧ Below w2.heap.size w2 wr) (fun i _ => l.length - (intOf i).toNat)
  case atStart => exact ⟨0, Nat.zero_le _, rfl, Below.refl _ _⟩
  case round =>
    obtain ⟨k, hk, rfl, hbr⟩ := hrel
    have HBR := hide hbr
    obtain ⟨x0, x1, x2, x3⟩ := four_at ((hbr.block _ (blk_lt K2.out)).trans K2.out)
    by_cases hlt : k < l.length
    · obtain ⟨b, off, rfl, hb, hc⟩ := (HR.out.below hbr).at_ (k := k) (by simpa using hlt)
      have hck := hc k (by simpa using hlt)
      rw [getD_map_int _ _ hlt] at hck
      obtain ⟨q1, q2, q3⟩ := HM.out _ (getD_mem hlt)
      replace q1 := hide q1
      have CQ := hide (fun w => show Calls Try.prog 11 #[.int .i64 (l.getD k 0), .int .i64 n] w fun e w' => e = .returned (.int .i64 site) ∧ w' = w from
        (owner_any _ _ w).mono fun _ _ h => ⟨by rw [h.1, q1.out], h.2.symm⟩)
      cases k with
      | zero =>
        have hpos : 0 < l.length := hlt
        rw [Nat.add_zero] at hck
        generalize l.getD 0 0 = x at *
        generalize l.length = m at *
        clear hc q1
        simp only [Int.natCast_zero]
        have d1 : decide (x < lo) = false := decide_eq_false (by omega)
        have d2 : decide (hi ≤ x) = false := decide_eq_false (by omega)
        go_wp2_with fail
        go_quiet ((go_at_call 11; exact Calls.quiet_of_same (CQ.out _)))
        go_wp2
        go_roundw
        case rel => exact ⟨0 + 1, by omega, by go_num, below_drawn HBR.out _⟩
        case measure => simp [intOf]; omega
      | succ p =>
        have hcp := hc p (by simp; omega)
        rw [getD_map_int _ _ (by omega : p < l.length)] at hcp
        have q4 := getD_rises HP.out (i := p) (k := p + 1) (by omega) hlt
        generalize l.getD (p + 1) 0 = x at *
        generalize l.getD p 0 = y at *
        generalize l.length = m at *
        clear hc q1
        have e : ((p + 1 : Nat) : Int) = (p : Int) + 1 := by omega
        rw [e]
        clear e
        have d1 : decide (x < lo) = false := decide_eq_false (by omega)
        have d2 : decide (hi ≤ x) = false := decide_eq_false (by omega)
        have d3 : decide (x ≤ y) = false := decide_eq_false (by omega)
        have d4 : decide ((0 : Int) < (p : Int) + 1) = true := decide_eq_true (by omega)
        have e2 : ((p : Int) + 1).toNat = p + 1 := by omega
        go_wp2_with fail
        go_quiet ((go_at_call 11; exact Calls.quiet_of_same (CQ.out _)))
        go_wp2
        go_roundw
        case rel => exact ⟨p + 1 + 1, by omega, by go_num, below_drawn HBR.out _⟩
        case measure => simp [intOf]; omega
    · obtain rfl : k = l.length := by omega
      cases l with
      | nil =>
        simp only [List.length_nil, Int.natCast_zero] at *
        by_cases hX : X < hi
        · go_wp2_with fail
          refine (C3.out _).mono ?_
          rintro e w4 ⟨rfl, rfl⟩
          go_wp2
          go_ret
          exact ⟨rfl, below_next HB3.out HBR.out⟩
        · go_wp2_with fail
          refine (C3.out _).mono ?_
          rintro e w4 ⟨rfl, rfl⟩
          go_wp2
          go_ret
          exact ⟨rfl, below_next HB3.out HBR.out⟩
      | cons x t =>
        obtain ⟨b, off, rfl, hb, hc⟩ := (HR.out.below hbr).at_ (k := 0) (by simp)
        have h0 : wr.cell? ⟨b, off, none⟩ = some (.int .i64 x) := by have := hc 0 (by simp); simpa using this
        have hx : x = X := HH.out (by simp)
        have hxi := (HM.out x (by simp)).2.2
        subst hx
        obtain ⟨m, hm⟩ : ∃ m, m = t.length := ⟨_, rfl⟩
        simp only [List.length_cons, ← hm]
        clear hm hc hlt
        go_wp2_with fail
        refine (C3.out _).mono ?_
        rintro e w4 ⟨rfl, rfl⟩
        go_wp2
        go_ret
        exact ⟨rfl, below_next HB3.out HBR.out⟩

set_option maxRecDepth 100000 in
theorem slotsNext_lifted (os : Os) (started : os.Started) (H : Type) (enc : TypeId × Value → H) :
    ReturnsInHanded {} Try.checked os 7 .any (Rows.slotsNextSpec.pre6 enc Try.prog Try.f7 Rows.slotsNextRow.domain false) (Rows.slotsNextSpec.post enc Try.prog Try.f7 false true false false) := by
  refine returnsInHanded_of_change_sized (C := Try.checked) (by kernel_rfl) started (by kernel_rfl) Try.func7
    (ChangeSpec.witness6 (enc := enc) (C := Try.checked) false ⟨#[], #[.agg #[.int .i64 0, .int .i64 0, .int .i64 0, .int .i64 0]], []⟩ 8 (by kernel_rfl) (by kernel_rfl) (by kernel_rfl) (by kernel_rfl)) ?_
  intro W base args ds gs before hval0 hW _ hsz0 _
  have hval : ∀ (j : Nat) t v, Try.f7.params[j]? = some t → args[j]? = some v → Value.okWide Try.prog W .any base t v := hval0
  have hW' := hW
  obtain ⟨p, q, hA0, hV, rfl, _, _⟩ := hW
  have hA : DataW.TrodAll enc Try.prog W 0 (fun _ => true) true Try.f7.params.toList args.toList ds p := hA0
  have _hsz : (DataW.weightsEach Try.prog (Try.f7.params.toList ++ Rows.slotsNextSpec.plain.varTypes Try.prog) (ds ++ gs)).all (· ≤ reachBytes) = true := hsz0
  rw [Try.params7] at hA hval
  obtain ⟨v0, d0, rfl, rfl, h0⟩ := trodAll_one hA
  obtain ⟨u0_0, u0_1, u0_2, u0_3, y0_0, y0_1, y0_2, y0_3, n0, rfl, rfl, rfl, hy0_0, hy0_1, hy0_2, hy0_3⟩ := Joins.open_agg4 Try.underlying31 (by kernel_rfl) (by kernel_rfl) (hval 0 31 v0 rfl rfl) h0
  obtain ⟨x0_0, e0_0, rfl, wf0_0⟩ := DataW.trod_int Try.underlying3 hy0_0
  have bd0_0 := bounds_i64 wf0_0
  simp only [List.cons.injEq, and_true] at e0_0
  subst e0_0
  obtain ⟨x0_1, e0_1, rfl, wf0_1⟩ := DataW.trod_int Try.underlying3 hy0_1
  have bd0_1 := bounds_i64 wf0_1
  simp only [List.cons.injEq, and_true] at e0_1
  subst e0_1
  obtain ⟨x0_2, e0_2, rfl, wf0_2⟩ := DataW.trod_int Try.underlying3 hy0_2
  have bd0_2 := bounds_i64 wf0_2
  simp only [List.cons.injEq, and_true] at e0_2
  subst e0_2
  obtain ⟨x0_3, e0_3, rfl, wf0_3⟩ := DataW.trod_int Try.underlying3 hy0_3
  have bd0_3 := bounds_i64 wf0_3
  simp only [List.cons.injEq, and_true] at e0_3
  subst e0_3
  refine (slotsNext_walk _ _ _ _ _).mono fun e W' ⟨he, hb⟩ => ?_
  subst he
  exact ⟨_, rfl, post_law (by kernel_rfl) (by kernel_rfl) rfl hW' (by rintro _ rfl; rfl) rfl Try.underlying4 hb⟩

theorem slotsNext_holds : Rows.SlotsNextSaid :=
  OpenClaim.holds_of_wide 7 Try.f7 rfl rfl rfl rfl rfl rfl rfl ⟨rfl, rfl, rfl, rfl, rfl⟩ rfl rfl rfl rfl rfl (by kernel_rfl) Try.func7 (by kernel_rfl)
    (of_decide_eq_true (by kernel_rfl)) (by unfold Func.isWrapper; first | (rw [if_pos (by decide +kernel)]; kernel_rfl) | (rw [if_neg (by decide +kernel)]; exact ⟨rfl, rfl⟩))
    (fun os started H enc _ => slotsNext_lifted os started H enc)

end Go.Proofs.Ytodlabpgjgbbpac
