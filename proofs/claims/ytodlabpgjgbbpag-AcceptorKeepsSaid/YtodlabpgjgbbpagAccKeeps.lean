/-
  AcceptorKeeps: behind a promise nothing is accepted at a lesser ballot, whatever comes between. No conditions.
-/
import Derived.Test.YtodlabpgjgbbpagAccAsks
import Derived.Test.YtodlabpgjgbbpagRows
namespace Go.Proofs.Ytodlabpgjgbbpag
open Go.RowKit Go.Agio Go.ChangeShapes Go.WideShapes Go.ChangeAt

theorem six_far {w : World} {m b : Nat} {o : Obj} (h : w.heap[m]? = some o) (hne : m ≠ b) (u0 u1 u2 u3 u4 u5 : Value) :
    ((((((w.setCell ⟨b, 0, none⟩ u0).setCell ⟨b, 1, none⟩ u1).setCell ⟨b, 2, none⟩ u2).setCell ⟨b, 3, none⟩ u3).setCell ⟨b, 4, none⟩ u4).setCell ⟨b, 5, none⟩ u5).heap[m]? = some o :=
  far (far (far (far (far (far h hne _ _) hne _ _) hne _ _) hne _ _) hne _ _) hne _ _

set_option maxRecDepth 100000 in
set_option maxHeartbeats 8000000 in
theorem acceptorKeeps_walk (L : Option Addr) (n cap : Nat) (X : Nat → AskAt) (br bt lr lt : Int) (w : World) (hR : Agio.Rows w L n 4 (fun i => (X i).cells)) (hX : ∀ i, i < n → (X i).fine w) :
    Calls Try.prog 3 #[.slice L n cap, .agg #[.int .i64 br, .int .i64 bt], .agg #[.int .i64 lr, .int .i64 lt]] w fun e w' => e = .returned (.bool true) ∧ Below w.heap.size w w' := by
  have HR := hide hR; have HX := hide hX
  clear hR hX
  go_enter Try.func3, Try.ntmps3
  go_wp2_with fail
  have hN := two_new w (.cells #[.int .i64 br, .int .i64 bt] 24) (.cells #[.int .i64 lr, .int .i64 lt] 24)
  generalize (w.alloc (.cells #[.int .i64 br, .int .i64 bt] 24)).alloc (.cells #[.int .i64 lr, .int .i64 lt] 24) = W0 at *
  obtain ⟨K4, K5, hs, hb0⟩ := hN
  refine (awake_any W0).mono ?_
  rintro e w1 ⟨rfl, hb1⟩
  replace K4 := (hb1.block _ (blk_lt K4)).trans K4
  replace K5 := (hb1.block _ (blk_lt K5)).trans K5
  replace hb0 := below_next hb0 hb1
  clear hb1 hs
  obtain ⟨b0, b1⟩ := two_at K4
  have HK4 := hide K4; have HK5 := hide K5; have HB1 := hide hb0
  clear K4 K5 hb0
  have CP := hide (prepare_any Acc.zero none 0 br bt w1 (.nil _ _) (by simp [Acc.zero]))
  have HQ1 := hide (@Acc.prepare_zero br bt)
  have HQ2 := hide (fun h : Acc.prepareOk Acc.zero br bt = true => Acc.prepare_ok h)
  have HSM0 : Hid (small (Acc.prepare Acc.zero br bt)) := hide (small_answer (a := ⟨br, bt, false, []⟩) small_zero ⟨fun z h => absurd h (by simp), by simp⟩)
  obtain ⟨q0, hq⟩ : ∃ q, q = Acc.prepare Acc.zero br bt := ⟨_, rfl⟩
  obtain ⟨ok0, hok⟩ : ∃ ok, ok = Acc.prepareOk Acc.zero br bt := ⟨_, rfl⟩
  rw [← hq, ← hok] at CP
  rw [← hq] at HQ2 HSM0
  rw [← hok] at HQ1 HQ2
  clear hq hok
  go_wp2_with fail
  refine CP.out.mono ?_
  rintro e w2 ⟨A0, d0, rfl, R0, _, hb2⟩
  clear b0 b1
  have hBl := hb2.size
  have K4 := hide (blk_alloc ((hb2.block _ (blk_lt HK4.out)).trans HK4.out) (.cells (stc q0.pr q0.ps q0.some q0.ar q0.as_ (.slice A0 q0.val.length d0)) 28))
  have K5 := hide (blk_alloc ((hb2.block _ (blk_lt HK5.out)).trans HK5.out) (.cells (stc q0.pr q0.ps q0.some q0.ar q0.as_ (.slice A0 q0.val.length d0)) 28))
  have hlt4 : w.heap.size < w2.heap.size := Nat.lt_of_lt_of_le (blk_lt HK4.out) hb2.size
  have hlt5 : w.heap.size + 1 < w2.heap.size := Nat.lt_of_lt_of_le (blk_lt HK5.out) hb2.size
  have HB2 := hide ((below_next HB1.out hb2).alloc (below_next HB1.out hb2).size (.cells (stc q0.pr q0.ps q0.some q0.ar q0.as_ (.slice A0 q0.val.length d0)) 28))
  have KS := hide (show StAt w2.heap.size q0 A0 d0 (w2.alloc (.cells (stc q0.pr q0.ps q0.some q0.ar q0.as_ (.slice A0 q0.val.length d0)) 28)) from ⟨heap_new _ _, R0.alloc _⟩)
  clear R0 hb2 hBl HK4 HK5 HB1
  go_upto_region 3 with fail
  generalize w2.alloc (.cells (stc q0.pr q0.ps q0.some q0.ar q0.as_ (.slice A0 q0.val.length d0)) 28) = W2 at *
  obtain ⟨Bs, hBs⟩ : ∃ Bs, Bs = w2.heap.size := ⟨_, rfl⟩
  rw [← hBs] at KS hlt4 hlt5 ⊢
  clear hBs
  cases ok0
  · have hr := HQ1.out rfl
    obtain ⟨b0, b1⟩ := two_at K4.out
    go_wp2
    go_ret
    exact ⟨rfl, HB2.out⟩
  have HI0 := hide (show 0 ≤ Bal.compare q0.pr q0.ps br bt by rw [HQ2.out rfl]; show 0 ≤ Bal.compare br bt br bt; rw [Acc.compare_self]; omega)
  clear HQ1 HQ2
  go_wp2_with fail
  go_loopw [10] (fun i wr => ∃ (p : Nat) (s : Acc.St) (A : Option Addr) (c : Nat), p ≤ n ∧ i = .int .i64 p ∧ StAt Bs s A c wr ∧ small s ∧ Below w.heap.size w wr ∧ (0 ≤ Bal.compare s.pr s.ps br bt ∧ wr.heap[w.heap.size]? = some (.cells #[.int .i64 br, .int .i64 bt] 24) ∧ wr.heap[w.heap.size + 1]? = some (.cells #[.int .i64 lr, .int .i64 lt] 24))) (fun i _ => n - (intOf i).toNat)
  case atStart => exact ⟨0, q0, A0, d0, Nat.zero_le _, rfl, KS.out, HSM0.out, HB2.out, HI0.out, K4.out, K5.out⟩
  case round =>
    obtain ⟨p, s, A, c, hp, rfl, hS, hsm, hB, hI⟩ := hrel
    have HS := hide hS; have HSM := hide hsm; have HB := hide hB; have HI := hide hI
    clear hS hB hI K4 K5 KS HB2 HI0 HSM0
    have hBs := blk_lt HS.out.1
    have hls := hsm.2
    clear hsm
    obtain ⟨x0, x1, x2, x3, x4, x5⟩ := six_at HS.out.1
    by_cases h1 : p < n
    · by_cases h2 : p < 100
      · obtain ⟨b, off, rfl, hb, hc⟩ := HR.out.at_ (k := p) h1
        obtain ⟨x, hx⟩ : ∃ x, x = X p := ⟨_, rfl⟩
        have HF := HX.out p h1
        have hk0 := hc p h1 0 (by omega)
        have hk1 := hc p h1 1 (by omega)
        have hk2 := hc p h1 2 (by omega)
        have hk3 := hc p h1 3 (by omega)
        rw [← hx] at HF hk0 hk1 hk2 hk3
        have HXP := hide hx
        clear hx hc
        obtain ⟨⟨r, t, puts, v⟩, B, cb⟩ := x
        have HV := hide HF
        clear HF
        replace hk0 : w.cell? ⟨b, off + p * 4, none⟩ = some (Value.int .i64 r) := hk0
        replace hk1 : w.cell? ⟨b, off + p * 4 + 1, none⟩ = some (Value.int .i64 t) := hk1
        replace hk2 : w.cell? ⟨b, off + p * 4 + 2, none⟩ = some (Value.bool puts) := hk2
        replace hk3 : w.cell? ⟨b, off + p * 4 + 3, none⟩ = some (Value.slice B v.length cb) := hk3
        have hlv : v.length ≤ 140737488351232 := HV.out.2.2
        have HK := hide (And.intro hk0 (And.intro hk1 (And.intro hk2 hk3)))
        have c0 := (HB.out.cell (p := ⟨b, off + p * 4, none⟩) hb).trans hk0
        have c1 := (HB.out.cell (p := ⟨b, off + p * 4 + 1, none⟩) hb).trans hk1
        have c2 := (HB.out.cell (p := ⟨b, off + p * 4 + 2, none⟩) hb).trans hk2
        have c3 := (HB.out.cell (p := ⟨b, off + p * 4 + 3, none⟩) hb).trans hk3
        clear hk0 hk1 hk2 hk3
        have a1 : (0 : Int) ≤ (p : Int) := by omega
        have a2 : (p : Int) < (n : Int) := by omega
        have hbr : b < wr.heap.size := Nat.lt_of_lt_of_le hb HB.out.size
        have CA : Hid (∀ W, Below wr.heap.size wr W → Calls Try.prog 11 #[.agg (stc s.pr s.ps s.some s.ar s.as_ (.slice A s.val.length c)), .agg #[.int .i64 r, .int .i64 t, .bool puts, .slice B v.length cb]] W (fun e w5 => SGot W (Acc.answer s ⟨r, t, puts, v⟩) (Acc.answerOk s ⟨r, t, puts, v⟩) e w5 ∧ Below wr.heap.size wr W)) :=
          hide fun W hW => (answer_any s A c ⟨r, t, puts, v⟩ B cb W (HS.out.2.below hW) (by omega) ((HV.out.1.below HB.out).below hW) (by show v.length ≤ _; omega)).mono fun _ _ g => ⟨g, hW⟩
        obtain ⟨q, hq⟩ : ∃ q, q = Acc.answer s ⟨r, t, puts, v⟩ := ⟨_, rfl⟩
        obtain ⟨ok, hok⟩ : ∃ ok, ok = Acc.answerOk s ⟨r, t, puts, v⟩ := ⟨_, rfl⟩
        rw [← hq, ← hok] at CA
        have HQ := hide hq; have HOK := hide hok
        clear hq hok
        go_upto_region 8 with fail
        go_cut [11, 12] (fun ut uo wx => ∃ g, ut = .pointer (some ⟨g, 0, none⟩) ∧ uo = .bool ok ∧ Kept wr q g wx)
        case first =>
          go_region_held3 (fun W => W.cell? ⟨Bs, 0, none⟩ = some (.int .i64 s.pr) ∧ W.cell? ⟨Bs, 1, none⟩ = some (.int .i64 s.ps) ∧ W.cell? ⟨Bs, 2, none⟩ = some (.bool s.some) ∧ W.cell? ⟨Bs, 3, none⟩ = some (.int .i64 s.ar) ∧ W.cell? ⟨Bs, 4, none⟩ = some (.int .i64 s.as_) ∧ W.cell? ⟨Bs, 5, none⟩ = some (.slice A s.val.length c) ∧ W.cell? ⟨b, off + p * 4, none⟩ = some (.int .i64 r) ∧ W.cell? ⟨b, off + p * 4 + 1, none⟩ = some (.int .i64 t) ∧ W.cell? ⟨b, off + p * 4 + 2, none⟩ = some (.bool puts) ∧ W.cell? ⟨b, off + p * 4 + 3, none⟩ = some (.slice B v.length cb)) (go_keep) ((go_at_call 11; refine (CA.out _ (by first | exact Below.refl _ _ | exact (Below.refl _ _).drew | exact ((Below.refl _ _).alloc (Nat.le_refl _) _).drew)).mono ?_; rintro e w5 ⟨⟨A1, d1, rfl, R1, P1, hb1⟩, hW⟩; have gB := hW.trans (hb1.mono hW.size); have x0 := (gB.cell (p := ⟨Bs, 0, none⟩) hBs).trans x0; have x1 := (gB.cell (p := ⟨Bs, 1, none⟩) hBs).trans x1; have x2 := (gB.cell (p := ⟨Bs, 2, none⟩) hBs).trans x2; have x3 := (gB.cell (p := ⟨Bs, 3, none⟩) hBs).trans x3; have x4 := (gB.cell (p := ⟨Bs, 4, none⟩) hBs).trans x4; have x5 := (gB.cell (p := ⟨Bs, 5, none⟩) hBs).trans x5; have c0 := (gB.cell (p := ⟨b, off + p * 4, none⟩) hbr).trans c0; have c1 := (gB.cell (p := ⟨b, off + p * 4 + 1, none⟩) hbr).trans c1; have c2 := (gB.cell (p := ⟨b, off + p * 4 + 2, none⟩) hbr).trans c2; have c3 := (gB.cell (p := ⟨b, off + p * 4 + 3, none⟩) hbr).trans c3; have n1 : ¬ Bs = wr.heap.size := (by omega); have n2 : ¬ wr.heap.size = Bs := (by omega); have n3 : ¬ b = wr.heap.size := (by omega); have n4 : ¬ wr.heap.size = b := (by omega); (try (have k9 := (hb1.block wr.heap.size (by simp)).trans (heap_new wr (.cells (stc 0 0 false 0 0 (.slice none 0 0)) 28)); obtain ⟨z0, z1, z2, z3, z4, z5⟩ := six_at k9; obtain ⟨zf0, zf1, zf2, zf3, zf4, zf5⟩ := six_live k9; have K9 := hide k9; clear k9)); have HR1 := hide R1; have HP1 := hide P1; have HW := hide hW; have GB := hide gB; clear R1 P1 hW gB hb1))
          all_goals go_wp2
          all_goals go_meet
          · case rel => exact ⟨_, rfl, rfl, kept_one GB.out HR1.out (fun a ha => Nat.le_trans HW.out.size (HP1.out a ha))⟩
          · case rel => exact ⟨_, rfl, rfl, kept_two GB.out HR1.out (fun a ha => by have := HP1.out a ha; simp at this; omega) K9.out⟩
        obtain ⟨g, rfl, rfl, A2, d2, hT, hA2, hg, hbw⟩ := hcut
        clear x0 x1 x2 x3 x4 x5 c0 c1 c2 c3
        have HT := hide hT; have HA2 := hide hA2; have HBW := hide hbw
        have kS := (hbw.block _ hBs).trans HS.out.1
        have kK := (hbw.block _ (blk_lt HI.out.2.1)).trans HI.out.2.1
        have kL := (hbw.block _ (blk_lt HI.out.2.2)).trans HI.out.2.2
        have HBX := hide (below_next HB.out hbw)
        clear hT hA2 hbw
        obtain ⟨y0, y1, y2, y3, y4, y5⟩ := six_at HT.out.1
        obtain ⟨x0, x1, x2, x3, x4, x5⟩ := six_at kS
        obtain ⟨xf0, xf1, xf2, xf3, xf4, xf5⟩ := six_live kS
        have FIN := hide (And.intro (st_next (w := w) (c := d2) kS hBs (by omega) HT.out.2 HA2.out HBX.out) (And.intro (six_far kK (b := Bs) (by omega) (.int .i64 q.pr) (.int .i64 q.ps) (.bool q.some) (.int .i64 q.ar) (.int .i64 q.as_) (.slice A2 q.val.length d2)) (six_far kL (b := Bs) (by omega) (.int .i64 q.pr) (.int .i64 q.ps) (.bool q.some) (.int .i64 q.ar) (.int .i64 q.as_) (.slice A2 q.val.length d2))))
        have HQS := hide (show small q by rw [HQ.out]; exact small_answer HSM.out HV.out.2)
        have HQI := hide (show 0 ≤ Bal.compare q.pr q.ps br bt by rw [HQ.out]; exact Acc.keeps_answer HI.out.1 _)
        clear kS kK kL
        go_wp2
        go_roundw
        case rel => exact ⟨p + 1, q, A2, d2, by omega, by go_num, FIN.out.1.1, HQS.out, FIN.out.1.2, HQI.out, FIN.out.2.1, FIN.out.2.2⟩
        case measure => simp [intOf]; omega
      · have h3 : ¬ (p : Int) < 100 := by omega
        have hz := hide (show 0 ≤ Bal.compare lr lt br bt ∨ (Bal.compare lr lt br bt < 0 ∧ Acc.acceptOk s lr lt = false ∧ Acc.prepareOk s lr lt = false) by
          by_cases h : 0 ≤ Bal.compare lr lt br bt
          · exact .inl h
          · have hl := Acc.low_of_keeps HI.out.1 (r' := lr) (t' := lt) (by omega)
            exact .inr ⟨by omega, Acc.refused_accept hl, Acc.refused_prepare hl⟩)
        have C1 := hide (accept_any s A c lr lt none 0 [] wr HS.out.2 (by omega) (.nil _ _) (by simp))
        have C2 := hide (fun (W : World) (hW : Below wr.heap.size wr W) => prepare_any s A c lr lt W (HS.out.2.below hW) (by omega))
        have C3 := hide (fun (W : World) => rcompare_any lr lt br bt W)
        obtain ⟨q1, hq1⟩ : ∃ q, q = Acc.accept s lr lt [] := ⟨_, rfl⟩
        obtain ⟨q2, hq2⟩ : ∃ q, q = Acc.prepare s lr lt := ⟨_, rfl⟩
        rw [← hq1] at C1
        rw [← hq2] at C2
        clear hq1 hq2
        generalize Bal.compare lr lt br bt = z at *
        generalize Acc.acceptOk s lr lt = o1 at *
        generalize Acc.prepareOk s lr lt = o2 at *
        obtain ⟨b0, b1⟩ := two_at HI.out.2.1
        obtain ⟨l0, l1⟩ := two_at HI.out.2.2
        go_wp2_with fail
        refine C1.out.mono ?_
        rintro e w5 ⟨A1, d1, rfl, R1, _, hb5⟩
        clear x0 x1 x2 x3 x4 x5 b0 b1 l0 l1
        have HW5 := hide (hb5.alloc hb5.size (.cells (stc q1.pr q1.ps q1.some q1.ar q1.as_ (.slice A1 q1.val.length d1)) 28))
        clear hb5 R1
        go_upto_region 11 with fail
        generalize w5.alloc (.cells (stc q1.pr q1.ps q1.some q1.ar q1.as_ (.slice A1 q1.val.length d1)) 28) = W5 at *
        have kS := (HW5.out.block _ hBs).trans HS.out.1
        obtain ⟨x0, x1, x2, x3, x4, x5⟩ := six_at kS
        obtain ⟨l0, l1⟩ := two_at ((HW5.out.block _ (blk_lt HI.out.2.2)).trans HI.out.2.2)
        clear kS
        go_wp2_with fail
        refine (C2.out _ HW5.out).mono ?_
        rintro e w7 ⟨A2, d2, rfl, R2, _, hb7⟩
        clear x0 x1 x2 x3 x4 x5 l0 l1
        have HW7 := hide ((below_next HW5.out hb7).alloc (below_next HW5.out hb7).size (.cells (stc q2.pr q2.ps q2.some q2.ar q2.as_ (.slice A2 q2.val.length d2)) 28))
        clear hb7 R2
        go_upto_region 12 with fail
        generalize w7.alloc (.cells (stc q2.pr q2.ps q2.some q2.ar q2.as_ (.slice A2 q2.val.length d2)) 28) = W7 at *
        obtain ⟨b0, b1⟩ := two_at ((HW7.out.block _ (blk_lt HI.out.2.1)).trans HI.out.2.1)
        obtain ⟨l0, l1⟩ := two_at ((HW7.out.block _ (blk_lt HI.out.2.2)).trans HI.out.2.2)
        go_wp2_with fail
        refine (C3.out _).mono ?_
        rintro e w9 ⟨rfl, hb9⟩
        have HW9 := hide (below_next HB.out (below_next HW7.out hb9))
        clear hb9
        rcases hz.out with h | ⟨h, h', h''⟩
        · have t1 : decide (z ≥ 0) = true := by simpa using h
          go_wp2
          go_ret
          exact ⟨rfl, HW9.out⟩
        · have t1 : decide (z ≥ 0) = false := by simp; omega
          have t2 : ¬ 0 ≤ z := by omega
          subst h' h''
          go_wp2
          go_ret
          exact ⟨rfl, HW9.out⟩
    · have h3 : decide ((p : Int) < (n : Int)) = false := by simp; omega
      have hz := hide (show 0 ≤ Bal.compare lr lt br bt ∨ (Bal.compare lr lt br bt < 0 ∧ Acc.acceptOk s lr lt = false ∧ Acc.prepareOk s lr lt = false) by
        by_cases h : 0 ≤ Bal.compare lr lt br bt
        · exact .inl h
        · have hl := Acc.low_of_keeps HI.out.1 (r' := lr) (t' := lt) (by omega)
          exact .inr ⟨by omega, Acc.refused_accept hl, Acc.refused_prepare hl⟩)
      have C1 := hide (accept_any s A c lr lt none 0 [] wr HS.out.2 (by omega) (.nil _ _) (by simp))
      have C2 := hide (fun (W : World) (hW : Below wr.heap.size wr W) => prepare_any s A c lr lt W (HS.out.2.below hW) (by omega))
      have C3 := hide (fun (W : World) => rcompare_any lr lt br bt W)
      obtain ⟨q1, hq1⟩ : ∃ q, q = Acc.accept s lr lt [] := ⟨_, rfl⟩
      obtain ⟨q2, hq2⟩ : ∃ q, q = Acc.prepare s lr lt := ⟨_, rfl⟩
      rw [← hq1] at C1
      rw [← hq2] at C2
      clear hq1 hq2
      generalize Bal.compare lr lt br bt = z at *
      generalize Acc.acceptOk s lr lt = o1 at *
      generalize Acc.prepareOk s lr lt = o2 at *
      obtain ⟨b0, b1⟩ := two_at HI.out.2.1
      obtain ⟨l0, l1⟩ := two_at HI.out.2.2
      go_wp2_with fail
      refine C1.out.mono ?_
      rintro e w5 ⟨A1, d1, rfl, R1, _, hb5⟩
      clear x0 x1 x2 x3 x4 x5 b0 b1 l0 l1
      have HW5 := hide (hb5.alloc hb5.size (.cells (stc q1.pr q1.ps q1.some q1.ar q1.as_ (.slice A1 q1.val.length d1)) 28))
      clear hb5 R1
      go_upto_region 11 with fail
      generalize w5.alloc (.cells (stc q1.pr q1.ps q1.some q1.ar q1.as_ (.slice A1 q1.val.length d1)) 28) = W5 at *
      have kS := (HW5.out.block _ hBs).trans HS.out.1
      obtain ⟨x0, x1, x2, x3, x4, x5⟩ := six_at kS
      obtain ⟨l0, l1⟩ := two_at ((HW5.out.block _ (blk_lt HI.out.2.2)).trans HI.out.2.2)
      clear kS
      go_wp2_with fail
      refine (C2.out _ HW5.out).mono ?_
      rintro e w7 ⟨A2, d2, rfl, R2, _, hb7⟩
      clear x0 x1 x2 x3 x4 x5 l0 l1
      have HW7 := hide ((below_next HW5.out hb7).alloc (below_next HW5.out hb7).size (.cells (stc q2.pr q2.ps q2.some q2.ar q2.as_ (.slice A2 q2.val.length d2)) 28))
      clear hb7 R2
      go_upto_region 12 with fail
      generalize w7.alloc (.cells (stc q2.pr q2.ps q2.some q2.ar q2.as_ (.slice A2 q2.val.length d2)) 28) = W7 at *
      obtain ⟨b0, b1⟩ := two_at ((HW7.out.block _ (blk_lt HI.out.2.1)).trans HI.out.2.1)
      obtain ⟨l0, l1⟩ := two_at ((HW7.out.block _ (blk_lt HI.out.2.2)).trans HI.out.2.2)
      go_wp2_with fail
      refine (C3.out _).mono ?_
      rintro e w9 ⟨rfl, hb9⟩
      have HW9 := hide (below_next HB.out (below_next HW7.out hb9))
      clear hb9
      rcases hz.out with h | ⟨h, h', h''⟩
      · have t1 : decide (z ≥ 0) = true := by simpa using h
        go_wp2
        go_ret
        exact ⟨rfl, HW9.out⟩
      · have t1 : decide (z ≥ 0) = false := by simp; omega
        have t2 : ¬ 0 ≤ z := by omega
        subst h' h''
        go_wp2
        go_ret
        exact ⟨rfl, HW9.out⟩

set_option maxRecDepth 100000 in
theorem acceptorKeeps_lifted (os : Os) (started : os.Started) (H : Type) (enc : TypeId × Value → H) :
    ReturnsInHanded {} Try.checked os 3 .any (Rows.acceptorKeepsSpec.pre6 enc Try.prog Try.f3 Rows.acceptorKeepsRow.domain false) (Rows.acceptorKeepsSpec.post enc Try.prog Try.f3 false true false false) := by
  refine returnsInHanded_of_change_sized (C := Try.checked) (by kernel_rfl) started (by kernel_rfl) Try.func3
    (ChangeSpec.witness6 (enc := enc) (C := Try.checked) false ⟨#[], #[.slice none 0 0, .agg #[.int .i64 0, .int .i64 0], .agg #[.int .i64 0, .int .i64 0]], []⟩ 8 (by kernel_rfl) (by kernel_rfl) (by kernel_rfl) (by kernel_rfl)) ?_
  intro W base args ds gs before hval0 hW _ hsz0 _
  have hval : ∀ (j : Nat) t v, Try.f3.params[j]? = some t → args[j]? = some v → Value.okWide Try.prog W .any base t v := hval0
  have hW' := hW
  obtain ⟨p, q, hA0, hV, rfl, _, _⟩ := hW
  have hA : DataW.TrodAll enc Try.prog W 0 (fun _ => true) true Try.f3.params.toList args.toList ds p := hA0
  have hsz : (DataW.weightsEach Try.prog (Try.f3.params.toList ++ Rows.acceptorKeepsSpec.plain.varTypes Try.prog) (ds ++ gs)).all (· ≤ reachBytes) = true := hsz0
  rw [Try.params3] at hA hval hsz
  obtain ⟨v0, v1, v2, d0, d1, d2, p0, p1, p2, rfl, rfl, rfl, h0, h1, h2⟩ := trodAll_three hA
  obtain ⟨u1_0, u1_1, y1_0, y1_1, n1, rfl, rfl, rfl, hy1_0, hy1_1⟩ := Joins.open_agg2 Try.underlying24 (by kernel_rfl) (by kernel_rfl) (hval 1 24 v1 rfl rfl) h1
  obtain ⟨x1_0, e1_0, rfl, wf1_0⟩ := DataW.trod_int Try.underlying3 hy1_0
  have bd1_0 := bounds_i64 wf1_0
  simp only [List.cons.injEq, and_true] at e1_0
  subst e1_0
  obtain ⟨x1_1, e1_1, rfl, wf1_1⟩ := DataW.trod_int Try.underlying3 hy1_1
  have bd1_1 := bounds_i64 wf1_1
  simp only [List.cons.injEq, and_true] at e1_1
  subst e1_1
  obtain ⟨u2_0, u2_1, y2_0, y2_1, n2, rfl, rfl, rfl, hy2_0, hy2_1⟩ := Joins.open_agg2 Try.underlying24 (by kernel_rfl) (by kernel_rfl) (hval 2 24 v2 rfl rfl) h2
  obtain ⟨x2_0, e2_0, rfl, wf2_0⟩ := DataW.trod_int Try.underlying3 hy2_0
  have bd2_0 := bounds_i64 wf2_0
  simp only [List.cons.injEq, and_true] at e2_0
  subst e2_0
  obtain ⟨x2_1, e2_1, rfl, wf2_1⟩ := DataW.trod_int Try.underlying3 hy2_1
  have bd2_1 := bounds_i64 wf2_1
  simp only [List.cons.injEq, and_true] at e2_1
  subst e2_1
  obtain ⟨A0, cap0, n0, V, fuel, D, rfl, _, _, hR0, hel, hn0⟩ := open_rows Try.underlying22 (C := 4) (by kernel_rfl) (by omega) (hval 0 22 v0 rfl rfl) h0
  have hS0 : Sized Try.prog 22 d0 := sized_arg hsz (j := 0) rfl rfl
  have hSE : ∀ i, i < n0 → Sized Try.prog 33 (D i) := fun i hi => by rcases hn0 with h | ⟨el, sp, h1, _, h3⟩; omega; rw [h1] at hS0; exact hS0.elem Try.underlying22 (h3 i hi)
  obtain ⟨X, hV⟩ := choose_ask (n := n0) (p := fun i (x : AskAt) => V i = x.cells ∧ x.fine W) (fun i hi => ask_cells (hel i hi).1 (hel i hi).2.choose_spec (hSE i hi))
  have hR3 := hR0.congr (fun i hi => (hV i hi).1)
  refine (acceptorKeeps_walk A0 n0 cap0 X _ _ _ _ W hR3 (fun i hi => (hV i hi).2)).mono fun e W' ⟨he, hb⟩ => ?_
  subst he
  exact ⟨_, rfl, post_law (by kernel_rfl) (by kernel_rfl) rfl hW' (by rintro _ rfl; rfl) rfl Try.underlying4 hb⟩

theorem acceptorKeeps_holds : Rows.AcceptorKeepsSaid :=
  OpenClaim.holds_of_wide 3 Try.f3 rfl rfl rfl rfl rfl rfl rfl ⟨rfl, rfl, rfl, rfl, rfl⟩ rfl rfl rfl rfl rfl (by kernel_rfl) Try.func3 (by kernel_rfl)
    (of_decide_eq_true (by kernel_rfl)) (by unfold Func.isWrapper; first | (rw [if_pos (by decide +kernel)]; kernel_rfl) | (rw [if_neg (by decide +kernel)]; exact ⟨rfl, rfl⟩))
    (fun os started H enc _ => acceptorKeeps_lifted os started H enc)
end Go.Proofs.Ytodlabpgjgbbpag
