/-
  AcceptorMay: a state that may be is one that may be behind each ask. No conditions.
-/
import Derived.Test.YtodlabpgjgbbpagAccAsks
import Derived.Test.YtodlabpgjgbbpagRows
namespace Go.Proofs.Ytodlabpgjgbbpag
open Go.RowKit Go.Agio Go.ChangeShapes Go.WideShapes Go.ChangeAt

theorem six_far {w : World} {m b : Nat} {o : Obj} (h : w.heap[m]? = some o) (hne : m ≠ b) (u0 u1 u2 u3 u4 u5 : Value) :
    ((((((w.setCell ⟨b, 0, none⟩ u0).setCell ⟨b, 1, none⟩ u1).setCell ⟨b, 2, none⟩ u2).setCell ⟨b, 3, none⟩ u3).setCell ⟨b, 4, none⟩ u4).setCell ⟨b, 5, none⟩ u5).heap[m]? = some o :=
  far (far (far (far (far (far h hne _ _) hne _ _) hne _ _) hne _ _) hne _ _) hne _ _

set_option maxRecDepth 100000 in
set_option maxHeartbeats 8000000 in
theorem acceptorMay_walk (L : Option Addr) (n cap : Nat) (X : Nat → AskAt) (k : Int) (w : World) (hk : 0 ≤ k ∧ k ≤ 255) (hR : Agio.Rows w L n 4 (fun i => (X i).cells)) (hX : ∀ i, i < n → (X i).fine w) :
    Calls Try.prog 4 #[.slice L n cap, .int .u8 k] w fun e w' => e = .returned (.bool true) ∧ Below w.heap.size w w' := by
  have HR := hide hR; have HX := hide hX
  obtain ⟨hk0, hk1⟩ := hk
  have hN0 : 0 ≤ k % 7 := by omega
  have hN1 : k % 7 ≤ 6 := by omega
  clear hR hX
  go_enter Try.func4, Try.ntmps4
  go_wp2_with fail
  refine (awake_any w).mono ?_
  rintro e w1 ⟨rfl, hb1⟩
  go_upto_region 4 with fail
  generalize hN : 1 + k % 7 = N at *
  have hN2 : 1 ≤ N := by omega
  have hN3 : N ≤ 7 := by omega
  clear hN hN0 hN1 hk0 hk1
  have KS := hide (show StAt w1.heap.size Acc.zero none 0 (w1.alloc (.cells (stc 0 0 false 0 0 (.slice none 0 0)) 28)) from ⟨heap_new _ _, .nil _ _⟩)
  have HB1 := hide (hb1.alloc hb1.size (.cells (stc 0 0 false 0 0 (.slice none 0 0)) 28))
  have hlt : w.heap.size ≤ w1.heap.size := hb1.size
  clear hb1
  generalize w1.alloc (.cells (stc 0 0 false 0 0 (.slice none 0 0)) 28) = W1 at *
  obtain ⟨Bs, hBs⟩ : ∃ Bs, Bs = w1.heap.size := ⟨_, rfl⟩
  rw [← hBs] at KS hlt ⊢
  clear hBs
  obtain ⟨x0, x1, x2, x3, x4, x5⟩ := six_at KS.out.1
  have CM := hide (amay_any Acc.zero none 0 N W1 (by simp [Acc.zero]))
  rw [Acc.mayBe_zero hN2] at CM
  go_wp2_with fail
  refine CM.out.mono ?_
  rintro e w2 ⟨rfl, hb2⟩
  clear x0 x1 x2 x3 x4 x5 CM
  have KS2 := hide (KS.out.below hb2)
  have HB2 := hide (below_next HB1.out hb2)
  clear hb2
  go_wp2_with fail
  go_loopw [8] (fun i wr => ∃ (p : Nat) (s : Acc.St) (A : Option Addr) (c : Nat), p ≤ n ∧ i = .int .i64 p ∧ StAt Bs s A c wr ∧ small s ∧ Below w.heap.size w wr ∧ Acc.mayBe s N = true) (fun i _ => n - (intOf i).toNat)
  case atStart => exact ⟨0, Acc.zero, none, 0, Nat.zero_le _, rfl, KS2.out, small_zero, HB2.out, Acc.mayBe_zero hN2⟩
  case round =>
    obtain ⟨p, s, A, c, hp, rfl, hS, hsm, hB, hI⟩ := hrel
    have HS := hide hS; have HSM := hide hsm; have HB := hide hB; have HI := hide hI
    clear hS hB hI KS KS2 HB1 HB2
    have hBs := blk_lt HS.out.1
    have hls := hsm.2
    clear hsm
    by_cases h1 : p < n
    · by_cases h2 : p < 100
      · obtain ⟨b, off, rfl, hb, hc⟩ := HR.out.at_ (k := p) h1
        obtain ⟨x, hx⟩ : ∃ x, x = X p := ⟨_, rfl⟩
        have HF := HX.out p h1
        have hk0 := hc p h1 0 (by omega)
        have hk1 := hc p h1 1 (by omega)
        have hk2 := hc p h1 2 (by omega)
        have hk3 := hc p h1 3 (by omega)
        rw [← hx] at HF hk0 hk1 hk2 hk3
        have HXP := hide hx
        clear hx hc
        obtain ⟨⟨r, t, puts, v⟩, B, cb⟩ := x
        have HV := hide HF
        clear HF
        replace hk0 : w.cell? ⟨b, off + p * 4, none⟩ = some (Value.int .i64 r) := hk0
        replace hk1 : w.cell? ⟨b, off + p * 4 + 1, none⟩ = some (Value.int .i64 t) := hk1
        replace hk2 : w.cell? ⟨b, off + p * 4 + 2, none⟩ = some (Value.bool puts) := hk2
        replace hk3 : w.cell? ⟨b, off + p * 4 + 3, none⟩ = some (Value.slice B v.length cb) := hk3
        have hlv : v.length ≤ 140737488351232 := HV.out.2.2
        have HK := hide (And.intro hk0 (And.intro hk1 (And.intro hk2 hk3)))
        have c0 := (HB.out.cell (p := ⟨b, off + p * 4, none⟩) hb).trans hk0
        have c1 := (HB.out.cell (p := ⟨b, off + p * 4 + 1, none⟩) hb).trans hk1
        have c2 := (HB.out.cell (p := ⟨b, off + p * 4 + 2, none⟩) hb).trans hk2
        have c3 := (HB.out.cell (p := ⟨b, off + p * 4 + 3, none⟩) hb).trans hk3
        clear hk0 hk1 hk2 hk3
        have a1 : (0 : Int) ≤ (p : Int) := by omega
        have a2 : (p : Int) < (n : Int) := by omega
        have hbr : b < wr.heap.size := Nat.lt_of_lt_of_le hb HB.out.size
        have CR := hide (rmay_any r t N wr)
        obtain ⟨m, hm⟩ : ∃ m, m = Bal.may r t N := ⟨_, rfl⟩
        rw [← hm] at CR
        have HM := hide hm
        clear hm
        go_wp2_with fail
        refine CR.out.mono ?_
        rintro e w3 ⟨rfl, hb3⟩
        clear c0 c1 c2 c3 CR
        have hBs3 : Bs < w3.heap.size := Nat.lt_of_lt_of_le hBs hb3.size
        have hbr3 : b < w3.heap.size := Nat.lt_of_lt_of_le hbr hb3.size
        have HS3 := hide (HS.out.below hb3)
        have HB3 := hide (below_next HB.out hb3)
        clear hb3 HS HB hBs hbr
        have c0 := (HB3.out.cell (p := ⟨b, off + p * 4, none⟩) hb).trans HK.out.1
        have c1 := (HB3.out.cell (p := ⟨b, off + p * 4 + 1, none⟩) hb).trans HK.out.2.1
        have c2 := (HB3.out.cell (p := ⟨b, off + p * 4 + 2, none⟩) hb).trans HK.out.2.2.1
        have c3 := (HB3.out.cell (p := ⟨b, off + p * 4 + 3, none⟩) hb).trans HK.out.2.2.2
        by_cases hgo : m = true ∧ v.length ≤ 2048
        · obtain ⟨rfl, hv2⟩ := hgo
          obtain ⟨x0, x1, x2, x3, x4, x5⟩ := six_at HS3.out.1
          have HS := HS3; have HB := HB3; have hBs := hBs3; have hbr := hbr3
          clear HS3 HB3 hBs3 hbr3
          have CA : Hid (∀ W, Below w3.heap.size w3 W → Calls Try.prog 11 #[.agg (stc s.pr s.ps s.some s.ar s.as_ (.slice A s.val.length c)), .agg #[.int .i64 r, .int .i64 t, .bool puts, .slice B v.length cb]] W (fun e w5 => SGot W (Acc.answer s ⟨r, t, puts, v⟩) (Acc.answerOk s ⟨r, t, puts, v⟩) e w5 ∧ Below w3.heap.size w3 W)) :=
            hide fun W hW => (answer_any s A c ⟨r, t, puts, v⟩ B cb W (HS.out.2.below hW) (by omega) ((HV.out.1.below HB.out).below hW) (by show v.length ≤ _; omega)).mono fun _ _ g => ⟨g, hW⟩
          obtain ⟨q, hq⟩ : ∃ q, q = Acc.answer s ⟨r, t, puts, v⟩ := ⟨_, rfl⟩
          obtain ⟨ok, hok⟩ : ∃ ok, ok = Acc.answerOk s ⟨r, t, puts, v⟩ := ⟨_, rfl⟩
          rw [← hq, ← hok] at CA
          have HQ := hide hq; have HOK := hide hok
          clear hq hok
          go_upto_region 10 with fail
          go_cut [9, 10] (fun ut uo wx => ∃ g, ut = .pointer (some ⟨g, 0, none⟩) ∧ uo = .bool ok ∧ Kept w3 q g wx)
          case first =>
            go_region_held3 (fun W => W.cell? ⟨Bs, 0, none⟩ = some (.int .i64 s.pr) ∧ W.cell? ⟨Bs, 1, none⟩ = some (.int .i64 s.ps) ∧ W.cell? ⟨Bs, 2, none⟩ = some (.bool s.some) ∧ W.cell? ⟨Bs, 3, none⟩ = some (.int .i64 s.ar) ∧ W.cell? ⟨Bs, 4, none⟩ = some (.int .i64 s.as_) ∧ W.cell? ⟨Bs, 5, none⟩ = some (.slice A s.val.length c) ∧ W.cell? ⟨b, off + p * 4, none⟩ = some (.int .i64 r) ∧ W.cell? ⟨b, off + p * 4 + 1, none⟩ = some (.int .i64 t) ∧ W.cell? ⟨b, off + p * 4 + 2, none⟩ = some (.bool puts) ∧ W.cell? ⟨b, off + p * 4 + 3, none⟩ = some (.slice B v.length cb)) (go_keep) ((go_at_call 11; refine (CA.out _ (by first | exact Below.refl _ _ | exact (Below.refl _ _).drew | exact ((Below.refl _ _).alloc (Nat.le_refl _) _).drew)).mono ?_; rintro e w5 ⟨⟨A1, d1, rfl, R1, P1, hb1⟩, hW⟩; have gB := hW.trans (hb1.mono hW.size); have x0 := (gB.cell (p := ⟨Bs, 0, none⟩) hBs).trans x0; have x1 := (gB.cell (p := ⟨Bs, 1, none⟩) hBs).trans x1; have x2 := (gB.cell (p := ⟨Bs, 2, none⟩) hBs).trans x2; have x3 := (gB.cell (p := ⟨Bs, 3, none⟩) hBs).trans x3; have x4 := (gB.cell (p := ⟨Bs, 4, none⟩) hBs).trans x4; have x5 := (gB.cell (p := ⟨Bs, 5, none⟩) hBs).trans x5; have c0 := (gB.cell (p := ⟨b, off + p * 4, none⟩) hbr).trans c0; have c1 := (gB.cell (p := ⟨b, off + p * 4 + 1, none⟩) hbr).trans c1; have c2 := (gB.cell (p := ⟨b, off + p * 4 + 2, none⟩) hbr).trans c2; have c3 := (gB.cell (p := ⟨b, off + p * 4 + 3, none⟩) hbr).trans c3; have n1 : ¬ Bs = w3.heap.size := (by omega); have n2 : ¬ w3.heap.size = Bs := (by omega); have n3 : ¬ b = w3.heap.size := (by omega); have n4 : ¬ w3.heap.size = b := (by omega); (try (have k9 := (hb1.block w3.heap.size (by simp)).trans (heap_new w3 (.cells (stc 0 0 false 0 0 (.slice none 0 0)) 28)); obtain ⟨z0, z1, z2, z3, z4, z5⟩ := six_at k9; obtain ⟨zf0, zf1, zf2, zf3, zf4, zf5⟩ := six_live k9; have K9 := hide k9; clear k9)); have HR1 := hide R1; have HP1 := hide P1; have HW := hide hW; have GB := hide gB; clear R1 P1 hW gB hb1))
            all_goals go_wp2
            all_goals go_meet
            · case rel => exact ⟨_, rfl, rfl, kept_one GB.out HR1.out (fun a ha => Nat.le_trans HW.out.size (HP1.out a ha))⟩
            · case rel => exact ⟨_, rfl, rfl, kept_two GB.out HR1.out (fun a ha => by have := HP1.out a ha; simp at this; omega) K9.out⟩
          obtain ⟨g, rfl, rfl, A2, d2, hT, hA2, hg, hbw⟩ := hcut
          clear x0 x1 x2 x3 x4 x5 c0 c1 c2 c3
          have HT := hide hT; have HA2 := hide hA2; have HBW := hide hbw
          have HBX := hide (below_next HB.out hbw)
          have kS := (hbw.block _ hBs).trans HS.out.1
          have KS9 := hide kS
          have HQS := hide (show small q by rw [HQ.out]; exact small_answer HSM.out HV.out.2)
          have HQI := hide (show Acc.mayBe q N = true by rw [HQ.out]; exact Acc.mayBe_answer _ HI.out HM.out.symm hv2)
          have CM := hide (fun (W : World) => amay_any q A2 d2 N W (by have := HQS.out.2; omega))
          rw [HQI.out] at CM
          clear hT hA2 hbw kS
          obtain ⟨y0, y1, y2, y3, y4, y5⟩ := six_at HT.out.1
          go_wp2_with fail
          refine (CM.out _).mono ?_
          rintro e w8 ⟨rfl, hb8⟩
          clear y0 y1 y2 y3 y4 y5 CM
          have kT := (hb8.block _ (blk_lt HT.out.1)).trans HT.out.1
          have kS := (hb8.block _ (blk_lt KS9.out)).trans KS9.out
          obtain ⟨y0, y1, y2, y3, y4, y5⟩ := six_at kT
          obtain ⟨x0, x1, x2, x3, x4, x5⟩ := six_at kS
          obtain ⟨xf0, xf1, xf2, xf3, xf4, xf5⟩ := six_live kS
          have FIN := hide (st_next (w := w) (c := d2) kS hBs (by omega) (HT.out.2.below hb8) HA2.out (below_next HBX.out hb8))
          clear kS kT hb8
          go_wp2
          go_roundw
          case rel => exact ⟨p + 1, q, A2, d2, by omega, by go_num, FIN.out.1, HQS.out, FIN.out.2, HQI.out⟩
          case measure => simp [intOf]; omega
        · cases m
          · go_wp2
            go_roundw
            case rel => exact ⟨p + 1, s, A, c, by omega, by go_num, HS3.out, HSM.out, HB3.out, HI.out⟩
            case measure => simp [intOf]; omega
          · have hv2 : 2048 < v.length := by simp at hgo; omega
            go_wp2
            go_roundw
            case rel => exact ⟨p + 1, s, A, c, by omega, by go_num, HS3.out, HSM.out, HB3.out, HI.out⟩
            case measure => simp [intOf]; omega
      · have h3 : ¬ (p : Int) < 100 := by omega
        go_wp2
        go_ret
        exact ⟨rfl, HB.out⟩
    · have h3 : decide ((p : Int) < (n : Int)) = false := by simp; omega
      go_wp2
      go_ret
      exact ⟨rfl, HB.out⟩

set_option maxRecDepth 100000 in
theorem acceptorMay_lifted (os : Os) (started : os.Started) (H : Type) (enc : TypeId × Value → H) :
    ReturnsInHanded {} Try.checked os 4 .any (Rows.acceptorMaySpec.pre6 enc Try.prog Try.f4 Rows.acceptorMayRow.domain false) (Rows.acceptorMaySpec.post enc Try.prog Try.f4 false true false false) := by
  refine returnsInHanded_of_change_sized (C := Try.checked) (by kernel_rfl) started (by kernel_rfl) Try.func4
    (ChangeSpec.witness6 (enc := enc) (C := Try.checked) false ⟨#[], #[.slice none 0 0, .int .u8 0], []⟩ 8 (by kernel_rfl) (by kernel_rfl) (by kernel_rfl) (by kernel_rfl)) ?_
  intro W base args ds gs before hval0 hW _ hsz0 _
  have hval : ∀ (j : Nat) t v, Try.f4.params[j]? = some t → args[j]? = some v → Value.okWide Try.prog W .any base t v := hval0
  have hW' := hW
  obtain ⟨p, q, hA0, hV, rfl, _, _⟩ := hW
  have hA : DataW.TrodAll enc Try.prog W 0 (fun _ => true) true Try.f4.params.toList args.toList ds p := hA0
  have hsz : (DataW.weightsEach Try.prog (Try.f4.params.toList ++ Rows.acceptorMaySpec.plain.varTypes Try.prog) (ds ++ gs)).all (· ≤ reachBytes) = true := hsz0
  rw [Try.params4] at hA hval hsz
  obtain ⟨v0, v1, d0, d1, p0, p1, rfl, rfl, rfl, h0, h1⟩ := trodAll_two hA
  obtain ⟨x1, rfl, rfl, rfl, wf1⟩ := open_int Try.underlying5 (hval 1 5 v1 rfl rfl) h1
  have bd1 := bounds_u8 wf1
  obtain ⟨A0, cap0, n0, V, fuel, D, rfl, _, _, hR0, hel, hn0⟩ := open_rows Try.underlying22 (C := 4) (by kernel_rfl) (by omega) (hval 0 22 v0 rfl rfl) h0
  have hS0 : Sized Try.prog 22 d0 := sized_arg hsz (j := 0) rfl rfl
  have hSE : ∀ i, i < n0 → Sized Try.prog 33 (D i) := fun i hi => by rcases hn0 with h | ⟨el, sp, h1, _, h3⟩; omega; rw [h1] at hS0; exact hS0.elem Try.underlying22 (h3 i hi)
  obtain ⟨X, hV⟩ := choose_ask (n := n0) (p := fun i (x : AskAt) => V i = x.cells ∧ x.fine W) (fun i hi => ask_cells (hel i hi).1 (hel i hi).2.choose_spec (hSE i hi))
  have hR3 := hR0.congr (fun i hi => (hV i hi).1)
  refine (acceptorMay_walk A0 n0 cap0 X _ W bd1 hR3 (fun i hi => (hV i hi).2)).mono fun e W' ⟨he, hb⟩ => ?_
  subst he
  exact ⟨_, rfl, post_law (by kernel_rfl) (by kernel_rfl) rfl hW' (by rintro _ rfl; rfl) rfl Try.underlying4 hb⟩

theorem acceptorMay_holds : Rows.AcceptorMaySaid :=
  OpenClaim.holds_of_wide 4 Try.f4 rfl rfl rfl rfl rfl rfl rfl ⟨rfl, rfl, rfl, rfl, rfl⟩ rfl rfl rfl rfl rfl (by kernel_rfl) Try.func4 (by kernel_rfl)
    (of_decide_eq_true (by kernel_rfl)) (by unfold Func.isWrapper; first | (rw [if_pos (by decide +kernel)]; kernel_rfl) | (rw [if_neg (by decide +kernel)]; exact ⟨rfl, rfl⟩))
    (fun os started H enc _ => acceptorMay_lifted os started H enc)
end Go.Proofs.Ytodlabpgjgbbpag
