/-
  LearnOrder: in whatever order slots are decided, what is taken is their values, from the first one on, each once, without a gap. No conditions.
-/
import Derived.Test.YtodlabpgjgbbpaeLearnBegins
import Derived.Test.YtodlabpgjgbbpaeHeld
namespace Go.Proofs.Ytodlabpgjgbbpae
open Go.RowKit Go.Agio Go.ChangeShapes Go.WideShapes Go.ChangeAt

set_option maxRecDepth 100000 in
set_option maxHeartbeats 8000000 in
theorem learnOrder_walk (A : Option Addr) (c : Nat) (zs : List Int) (ev : Int) (w : World) (hR : Reads w A (bys zs)) (hz : okRow zs) (hev : 0 ≤ ev ∧ ev ≤ 255) (hm : zs.length ≤ 140737488351232) :
    Calls Try.prog 3 #[.slice A zs.length c, .int .u8 ev] w fun e w' => e = .returned (.bool true) ∧ Below w.heap.size w w' := by
  have CA := hide (fun (w' : World) (hb : Below w.heap.size w w') => taken_any' A c zs ev w' (hR.below hb) hz hev hm)
  have HR := hide hR; have HZ := hide hz
  have hfl : Lrn.frontOf (zs.take 300) ≤ 256 := Lrn.frontOf_le (fun z h => (hz z (List.mem_of_mem_take h)).2)
  have HNOT := hide (Lrn.frontOf_not (zs := zs.take 300) (by omega))
  clear hR hz hev
  generalize Lrn.frontOf (zs.take 300) = f at *
  go_enter Try.func3, Try.ntmps3
  go_wp2_with fail
  refine (awake_any _).mono ?_
  rintro e w1 ⟨rfl, hB1⟩
  go_wp2_with fail
  refine (CA.out _ hB1).mono ?_
  rintro e w2 ⟨L, d, rfl, hr, hB2⟩
  have HB2 := hide (below_next hB1 hB2)
  have HRD := hide hr.rd.1
  clear hB1 hB2 hr
  go_wp2_with fail
  go_loopw [7] (fun s wr => ∃ i : Nat, i ≤ f ∧ s = .int .i64 i ∧ Below w2.heap.size w2 wr) (fun s _ => f - (intOf s).toNat)
  case atStart => exact ⟨0, Nat.zero_le _, rfl, Below.refl _ _⟩
  case round =>
    obtain ⟨i, hi, rfl, hBr⟩ := hrel
    have HBR := hide hBr
    clear hBr
    by_cases hlt : i < f
    · obtain ⟨b, off, A1, c1, rfl, hb, hc, hr⟩ := (HRD.out.below HBR.out).at_ (k := i) (by rw [Lrn.vals_len0]; exact hlt)
      rw [Lrn.vals_at hlt] at hc hr
      have HV := hide (fun W => value_any i (by omega) W)
      generalize Lrn.valueRow (i : Int) = u at *
      have e1 : ((strOfNums u).toList == (strOfNums u).toList) = true := by simp
      have HS := hide (show wr.drew.cell? ⟨b, off + i, none⟩ = some (.slice A1 u.length c1) ∧ (convert 22 9 (.slice A1 u.length c1)).run Try.prog wr.drew = .ok (.string (strOfNums u)) wr.drew from ⟨hc, str_reads _ A1 u.length c1 u hr.drew rfl⟩)
      have HRR := hide hr
      have i1 : (0 : Int) ≤ (i : Int) := by omega
      have i2 : (i : Int) < (f : Int) := by omega
      clear hr
      go_wp2_with fail
      refine wp_region_held_drew (S := fun W => W.cell? ⟨b, off + i, none⟩ = some (.slice A1 u.length c1) ∧ (convert 22 9 (.slice A1 u.length c1)).run Try.prog W = .ok (.string (strOfNums u)) W) (by kernel_rfl) HS.out (fun hH => ?_)
      refine wpAnyH_take (i := 0) (v := ?v0) rfl (by kernel_rfl) (by kernel_rfl) (by kernel_rfl) (fun _ _ _ h => h) (Or.inl ⟨by rfl, ?y0⟩) hH ?r0
      case y0 => (intro W hSw; (try dsimp only at hSw); (try simp only [List.getElem_toArray, List.getElem_cons_zero]); go_simp; first | done | with_reducible rfl)
      try simp only [Act.put, List.getElem_toArray, List.getElem_cons_zero, List.setIfInBounds_toArray, List.set_cons_zero, List.set_cons_succ]
      refine wpAnyH_take (i := 1) (v := ?v1) rfl (by kernel_rfl) (by kernel_rfl) (by kernel_rfl) (fun _ _ _ h => h) (Or.inl ⟨by rfl, ?y1⟩) hH ?r1
      case y1 => (intro W hSw; (try dsimp only at hSw); (try simp only [List.getElem_toArray, List.getElem_cons_succ, List.getElem_cons_zero]); go_simp; first | done | with_reducible rfl)
      try simp only [Act.put, List.getElem_toArray, List.getElem_cons_succ, List.getElem_cons_zero, List.setIfInBounds_toArray, List.set_cons_zero, List.set_cons_succ]
      refine wpAnyH_take (i := 2) (v := ?v2) rfl (by kernel_rfl) (by kernel_rfl) (by kernel_rfl) (fun _ _ _ h => h) (Or.inl ⟨by rfl, ?y2⟩) hH ?r2
      case y2 => (intro W hSw; (try dsimp only at hSw); (try simp only [List.getElem_toArray, List.getElem_cons_succ, List.getElem_cons_zero]); go_simp; first | done | with_reducible rfl)
      try simp only [Act.put, List.getElem_toArray, List.getElem_cons_succ, List.getElem_cons_zero, List.setIfInBounds_toArray, List.set_cons_zero, List.set_cons_succ]
      refine wpAnyH_take (i := 3) (v := ?v3) rfl (by kernel_rfl) (by kernel_rfl) (by kernel_rfl) (fun _ _ _ h => h) (Or.inl ⟨by rfl, ?y3⟩) hH ?r3
      case y3 => (intro W hSw; (try dsimp only at hSw); (try simp only [List.getElem_toArray, List.getElem_cons_succ, List.getElem_cons_zero]); go_simp; first | done | with_reducible rfl)
      try simp only [Act.put, List.getElem_toArray, List.getElem_cons_succ, List.getElem_cons_zero, List.setIfInBounds_toArray, List.set_cons_zero, List.set_cons_succ]
      refine wpAnyH_take (i := 4) (v := ?v4) rfl (by kernel_rfl) (by kernel_rfl) (by kernel_rfl) (fun _ _ _ h => h) (Or.inl ⟨by rfl, ?y4⟩) hH ?r4
      case y4 => (intro W hSw; (try dsimp only at hSw); (try simp only [List.getElem_toArray, List.getElem_cons_succ, List.getElem_cons_zero]); go_simp; first | done | with_reducible rfl)
      try simp only [Act.put, List.getElem_toArray, List.getElem_cons_succ, List.getElem_cons_zero, List.setIfInBounds_toArray, List.set_cons_zero, List.set_cons_succ]
      refine wpAnyH_take (i := 5) (v := ?v5) rfl (by kernel_rfl) (by kernel_rfl) (by kernel_rfl) (fun _ _ _ h => h) (Or.inl ⟨by rfl, ?y5⟩) hH ?r5
      case y5 => (intro W hSw; (try dsimp only at hSw); (try simp only [List.getElem_toArray, List.getElem_cons_succ, List.getElem_cons_zero]); go_simp; first | done | with_reducible rfl)
      try simp only [Act.put, List.getElem_toArray, List.getElem_cons_succ, List.getElem_cons_zero, List.setIfInBounds_toArray, List.set_cons_zero, List.set_cons_succ]
      refine wpAnyH_ready (rs := [6]) (by kernel_rfl) (by simp) ?_
      refine AllReadyH.cons rfl (fun K hK => ?_) AllReadyH.nil
      simp only [List.getElem_toArray, List.getElem_cons_succ, List.getElem_cons_zero]
      go_simp
      refine (HV.out _).mono ?_
      rintro e w3 ⟨A3, c3, rfl, hr3, hb3⟩
      have HB3 : Hid (Below wr.heap.size wr w3) := hide ((Below.refl _ wr).drew.trans hb3)
      have hs3 : w3.cell? ⟨b, off + i, none⟩ = some (.slice A1 u.length c1) ∧ (convert 22 9 (.slice A1 u.length c1)).run Try.prog w3 = .ok (.string (strOfNums u)) w3 := ⟨(HB3.out.cell (p := ⟨b, off + i, none⟩) hb).trans hc, str_reads _ A1 u.length c1 u (HRR.out.below HB3.out) rfl⟩
      have q3 := str_reads w3 A3 u.length c3 u hr3 rfl
      have HS3 := hide hs3
      clear hr3 hb3 hs3
      refine hK.out _ _ HS3.out (fun hH2 => ?_)
      clear hK
      refine held_less (S' := fun W => W = w3) (fun W h => by subst h; exact HS3.out) ?_
      have hS3 : (fun W => W = w3) w3 := rfl
      refine wpAnyH_take (i := 7) (v := ?v7) rfl (by kernel_rfl) (by kernel_rfl) (by kernel_rfl) (fun _ _ _ h => h) (Or.inl ⟨by rfl, ?y7⟩) hS3 ?r7
      case y7 => (intro W hSw; ((try dsimp only at hSw); cases hSw); (try simp only [List.getElem_toArray, List.getElem_cons_succ, List.getElem_cons_zero]); go_simp; first | done | with_reducible rfl)
      try simp only [Act.put, List.getElem_toArray, List.getElem_cons_succ, List.getElem_cons_zero, List.setIfInBounds_toArray, List.set_cons_zero, List.set_cons_succ]
      refine wpAnyH_take (i := 8) (v := ?v8) rfl (by kernel_rfl) (by kernel_rfl) (by kernel_rfl) (fun _ _ _ h => h) (Or.inl ⟨by rfl, ?y8⟩) hS3 ?r8
      case y8 => (intro W hSw; ((try dsimp only at hSw); cases hSw); (try simp only [List.getElem_toArray, List.getElem_cons_succ, List.getElem_cons_zero]); go_simp; first | done | with_reducible rfl)
      try simp only [Act.put, List.getElem_toArray, List.getElem_cons_succ, List.getElem_cons_zero, List.setIfInBounds_toArray, List.set_cons_zero, List.set_cons_succ]
      refine wpAnyH_done (by kernel_rfl) ?_ _
      go_wp2
      go_roundw
      case rel => exact ⟨i + 1, by omega, by go_num, HBR.out.trans (HB3.out.mono HBR.out.size)⟩
      case measure => simp [intOf]; omega
    · obtain rfl : i = f := by omega
      go_wp2_with fail
      go_loopw [9] (fun s wr => ∃ j : Nat, j ≤ zs.length ∧ j ≤ 300 ∧ s = .int .i64 j ∧ Below w.heap.size w wr) (fun s _ => 300 - (intOf s).toNat)
      case atStart => exact ⟨0, Nat.zero_le _, by omega, rfl, below_next HB2.out HBR.out⟩
      case round =>
        obtain ⟨j, hj1, hj2, rfl, hBq⟩ := hrel
        by_cases hl : j < zs.length
        · by_cases h3 : j < 300
          · obtain ⟨b, off, rfl, hb, hc⟩ := (HR.out.below hBq).at_ (k := j) (by simpa using hl)
            have hck := hc j (by simpa using hl)
            rw [getD_map_int _ _ hl] at hck
            have hmem : zs.getD j 0 ∈ zs.take 300 := by
              rw [List.getD_eq_getElem?_getD, List.getElem?_eq_getElem hl]
              exact List.mem_take_iff_getElem.2 ⟨j, by omega, rfl⟩
            have hzj := HZ.out _ (List.mem_of_mem_take hmem)
            have hne : ¬ zs.getD j 0 = (i : Int) := fun h => HNOT.out (h ▸ hmem)
            generalize zs.getD j 0 = x at *
            have h0 := hzj.1; have h255 := hzj.2
            clear hc hmem hzj
            go_wp2
            go_roundw
            case rel => exact ⟨j + 1, by omega, by omega, by go_num, hBq⟩
            case measure => simp [intOf]; omega
          · have h3' : (300 : Int) ≤ (j : Int) := by omega
            go_wp2
            go_ret
            exact ⟨rfl, hBq⟩
        · go_wp2
          go_ret
          exact ⟨rfl, hBq⟩

set_option maxRecDepth 100000 in
theorem learnOrder_lifted (os : Os) (started : os.Started) (H : Type) (enc : TypeId × Value → H) :
    ReturnsInHanded {} Try.checked os 3 .any (Rows.learnOrderSpec.pre6 enc Try.prog Try.f3 Rows.learnOrderRow.domain false) (Rows.learnOrderSpec.post enc Try.prog Try.f3 false true false false) := by
  refine returnsInHanded_of_change_sized (C := Try.checked) (by kernel_rfl) started (by kernel_rfl) Try.func3
    (ChangeSpec.witness6 (enc := enc) (C := Try.checked) false ⟨#[], #[.slice none 0 0, .int .u8 0], []⟩ 8 (by kernel_rfl) (by kernel_rfl) (by kernel_rfl) (by kernel_rfl)) ?_
  intro W base args ds gs before hval0 hW _ hsz0 _
  have hval : ∀ (j : Nat) t v, Try.f3.params[j]? = some t → args[j]? = some v → Value.okWide Try.prog W .any base t v := hval0
  have hW' := hW
  obtain ⟨p, q, hA0, hV, rfl, _, _⟩ := hW
  have hA : DataW.TrodAll enc Try.prog W 0 (fun _ => true) true Try.f3.params.toList args.toList ds p := hA0
  have hsz : (DataW.weightsEach Try.prog (Try.f3.params.toList ++ Rows.learnOrderSpec.plain.varTypes Try.prog) (ds ++ gs)).all (· ≤ reachBytes) = true := hsz0
  rw [Try.params3] at hA hval hsz
  obtain ⟨v0, v1, d0, d1, p0, p1, rfl, rfl, rfl, h0, h1⟩ := trodAll_two hA
  obtain ⟨A0, cap0, z0, rfl, hcap0, hm0, hR0, hwf0, hn0⟩ := open_nums Try.underlying22 Try.underlying5 (by kernel_rfl) (hval 0 22 v0 rfl rfl) h0
  have hreach0 := reach_nums (m := 1) hsz (j := 0) (t := 22) rfl rfl Try.underlying22 hn0 (by kernel_rfl)
  have bd0 := fun z hz => bounds_u8 (hwf0 z hz)
  obtain ⟨x1, rfl, rfl, rfl, wf1⟩ := open_int Try.underlying5 (hval 1 5 v1 rfl rfl) h1
  have bd1 := bounds_u8 wf1
  refine (learnOrder_walk _ _ _ _ _ hR0 bd0 bd1 (by omega)).mono fun e W' ⟨he, hb⟩ => ?_
  subst he
  exact ⟨_, rfl, post_law (by kernel_rfl) (by kernel_rfl) rfl hW' (by rintro _ rfl; rfl) rfl Try.underlying4 hb⟩

theorem learnOrder_holds : Rows.LearnOrderSaid :=
  OpenClaim.holds_of_wide 3 Try.f3 rfl rfl rfl rfl rfl rfl rfl ⟨rfl, rfl, rfl, rfl, rfl⟩ rfl rfl rfl rfl rfl (by kernel_rfl) Try.func3 (by kernel_rfl)
    (of_decide_eq_true (by kernel_rfl)) (by unfold Func.isWrapper; first | (rw [if_pos (by decide +kernel)]; kernel_rfl) | (rw [if_neg (by decide +kernel)]; exact ⟨rfl, rfl⟩))
    (fun os started H enc _ => learnOrder_lifted os started H enc)

end Go.Proofs.Ytodlabpgjgbbpae
