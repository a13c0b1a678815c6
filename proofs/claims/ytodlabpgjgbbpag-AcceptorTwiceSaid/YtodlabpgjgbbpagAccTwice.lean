/-
  AcceptorTwice: what comes once more is answered as it was, and changes nothing more. No conditions.
-/
import Derived.Test.YtodlabpgjgbbpagAccAsks
import Derived.Test.YtodlabpgjgbbpagRows
namespace Go.Proofs.Ytodlabpgjgbbpag
open Go.RowKit Go.Agio Go.ChangeShapes Go.WideShapes Go.ChangeAt

theorem six_far {w : World} {m b : Nat} {o : Obj} (h : w.heap[m]? = some o) (hne : m ≠ b) (u0 u1 u2 u3 u4 u5 : Value) :
    ((((((w.setCell ⟨b, 0, none⟩ u0).setCell ⟨b, 1, none⟩ u1).setCell ⟨b, 2, none⟩ u2).setCell ⟨b, 3, none⟩ u3).setCell ⟨b, 4, none⟩ u4).setCell ⟨b, 5, none⟩ u5).heap[m]? = some o :=
  far (far (far (far (far (far h hne _ _) hne _ _) hne _ _) hne _ _) hne _ _) hne _ _

set_option maxRecDepth 100000 in
set_option maxHeartbeats 8000000 in
theorem acceptorTwice_walk (L : Option Addr) (n cap : Nat) (X : Nat → AskAt) (y : AskAt) (w : World) (hR : Agio.Rows w L n 4 (fun i => (X i).cells)) (hX : ∀ i, i < n → (X i).fine w) (hy : y.fine w) :
    Calls Try.prog 7 #[.slice L n cap, askv y.a y.at_ y.cap] w fun e w' => e = .returned (.bool true) ∧ Below w.heap.size w w' := by
  have HR := hide hR; have HX := hide hX
  clear hR hX
  obtain ⟨⟨r', t', puts', v'⟩, B', cb'⟩ := y
  have HY := hide hy
  have hlv' : v'.length ≤ 140737488351232 := hy.2.2
  clear hy
  unfold askv
  simp only []
  go_enter Try.func7, Try.ntmps7
  go_wp2_with fail
  have hN := one_new w (.cells #[.int .i64 r', .int .i64 t', .bool puts', .slice B' v'.length cb'] 33)
  generalize w.alloc (.cells #[.int .i64 r', .int .i64 t', .bool puts', .slice B' v'.length cb'] 33) = W0 at *
  obtain ⟨K3, hs, hb0⟩ := hN
  refine (awake_any W0).mono ?_
  rintro e w1 ⟨rfl, hb1⟩
  replace K3 := (hb1.block _ (blk_lt K3)).trans K3
  replace hb0 := below_next hb0 hb1
  have hlt : w.heap.size < w1.heap.size := blk_lt K3
  go_wp2_with fail
  have kS := heap_new w1 (.cells (stc 0 0 false 0 0 (.slice none 0 0)) 28)
  replace K3 := hide (blk_alloc K3 (.cells (stc 0 0 false 0 0 (.slice none 0 0)) 28))
  have HB0 := hide (hb0.alloc hb0.size (.cells (stc 0 0 false 0 0 (.slice none 0 0)) 28))
  clear hb0 hb1 hs
  generalize w1.alloc (.cells (stc 0 0 false 0 0 (.slice none 0 0)) 28) = W1 at *
  obtain ⟨Bs, hBs⟩ : ∃ Bs, Bs = w1.heap.size := ⟨_, rfl⟩
  rw [← hBs] at kS hlt ⊢
  have KS := hide kS
  clear hBs kS
  go_loopw [7] (fun i wr => ∃ (p : Nat) (s : Acc.St) (A : Option Addr) (c : Nat), p ≤ n ∧ i = .int .i64 p ∧ StAt Bs s A c wr ∧ small s ∧ Below w.heap.size w wr ∧ wr.heap[w.heap.size]? = some (.cells #[.int .i64 r', .int .i64 t', .bool puts', .slice B' v'.length cb'] 33)) (fun i _ => n - (intOf i).toNat)
  case atStart => exact ⟨0, Acc.zero, none, 0, Nat.zero_le _, rfl, ⟨KS.out, .nil _ _⟩, small_zero, HB0.out, K3.out⟩
  case round =>
    obtain ⟨p, s, A, c, hp, rfl, hS, hsm, hB, hK⟩ := hrel
    have HS := hide hS; have HSM := hide hsm; have HB := hide hB; have HK3 := hide hK
    clear hS hB hK K3 KS HB0
    have hBs := blk_lt HS.out.1
    have hls := hsm.2
    clear hsm
    obtain ⟨x0, x1, x2, x3, x4, x5⟩ := six_at HS.out.1
    by_cases h1 : p < n
    · by_cases h2 : p < 100
      · obtain ⟨b, off, rfl, hb, hc⟩ := HR.out.at_ (k := p) h1
        obtain ⟨x, hx⟩ : ∃ x, x = X p := ⟨_, rfl⟩
        have HF := HX.out p h1
        have hk0 := hc p h1 0 (by omega)
        have hk1 := hc p h1 1 (by omega)
        have hk2 := hc p h1 2 (by omega)
        have hk3 := hc p h1 3 (by omega)
        rw [← hx] at HF hk0 hk1 hk2 hk3
        have HXP := hide hx
        clear hx hc
        obtain ⟨⟨r, t, puts, v⟩, B, cb⟩ := x
        have HV := hide HF
        clear HF
        replace hk0 : w.cell? ⟨b, off + p * 4, none⟩ = some (Value.int .i64 r) := hk0
        replace hk1 : w.cell? ⟨b, off + p * 4 + 1, none⟩ = some (Value.int .i64 t) := hk1
        replace hk2 : w.cell? ⟨b, off + p * 4 + 2, none⟩ = some (Value.bool puts) := hk2
        replace hk3 : w.cell? ⟨b, off + p * 4 + 3, none⟩ = some (Value.slice B v.length cb) := hk3
        have hlv : v.length ≤ 140737488351232 := HV.out.2.2
        have HK := hide (And.intro hk0 (And.intro hk1 (And.intro hk2 hk3)))
        have c0 := (HB.out.cell (p := ⟨b, off + p * 4, none⟩) hb).trans hk0
        have c1 := (HB.out.cell (p := ⟨b, off + p * 4 + 1, none⟩) hb).trans hk1
        have c2 := (HB.out.cell (p := ⟨b, off + p * 4 + 2, none⟩) hb).trans hk2
        have c3 := (HB.out.cell (p := ⟨b, off + p * 4 + 3, none⟩) hb).trans hk3
        clear hk0 hk1 hk2 hk3
        have a1 : (0 : Int) ≤ (p : Int) := by omega
        have a2 : (p : Int) < (n : Int) := by omega
        have hbr : b < wr.heap.size := Nat.lt_of_lt_of_le hb HB.out.size
        have CA : Hid (∀ W, Below wr.heap.size wr W → Calls Try.prog 11 #[.agg (stc s.pr s.ps s.some s.ar s.as_ (.slice A s.val.length c)), .agg #[.int .i64 r, .int .i64 t, .bool puts, .slice B v.length cb]] W (fun e w5 => SGot W (Acc.answer s ⟨r, t, puts, v⟩) (Acc.answerOk s ⟨r, t, puts, v⟩) e w5 ∧ Below wr.heap.size wr W)) :=
          hide fun W hW => (answer_any s A c ⟨r, t, puts, v⟩ B cb W (HS.out.2.below hW) (by omega) ((HV.out.1.below HB.out).below hW) (by show v.length ≤ _; omega)).mono fun _ _ g => ⟨g, hW⟩
        obtain ⟨q, hq⟩ : ∃ q, q = Acc.answer s ⟨r, t, puts, v⟩ := ⟨_, rfl⟩
        obtain ⟨ok, hok⟩ : ∃ ok, ok = Acc.answerOk s ⟨r, t, puts, v⟩ := ⟨_, rfl⟩
        rw [← hq, ← hok] at CA
        have HQ := hide hq; have HOK := hide hok
        clear hq hok
        go_upto_region 6 with fail
        go_cut [8, 9] (fun ut uo wx => ∃ g, ut = .pointer (some ⟨g, 0, none⟩) ∧ uo = .bool ok ∧ Kept wr q g wx)
        case first =>
          go_region_held3 (fun W => W.cell? ⟨Bs, 0, none⟩ = some (.int .i64 s.pr) ∧ W.cell? ⟨Bs, 1, none⟩ = some (.int .i64 s.ps) ∧ W.cell? ⟨Bs, 2, none⟩ = some (.bool s.some) ∧ W.cell? ⟨Bs, 3, none⟩ = some (.int .i64 s.ar) ∧ W.cell? ⟨Bs, 4, none⟩ = some (.int .i64 s.as_) ∧ W.cell? ⟨Bs, 5, none⟩ = some (.slice A s.val.length c) ∧ W.cell? ⟨b, off + p * 4, none⟩ = some (.int .i64 r) ∧ W.cell? ⟨b, off + p * 4 + 1, none⟩ = some (.int .i64 t) ∧ W.cell? ⟨b, off + p * 4 + 2, none⟩ = some (.bool puts) ∧ W.cell? ⟨b, off + p * 4 + 3, none⟩ = some (.slice B v.length cb)) (go_keep) ((go_at_call 11; refine (CA.out _ (by first | exact Below.refl _ _ | exact (Below.refl _ _).drew | exact ((Below.refl _ _).alloc (Nat.le_refl _) _).drew)).mono ?_; rintro e w5 ⟨⟨A1, d1, rfl, R1, P1, hb1⟩, hW⟩; have gB := hW.trans (hb1.mono hW.size); have x0 := (gB.cell (p := ⟨Bs, 0, none⟩) hBs).trans x0; have x1 := (gB.cell (p := ⟨Bs, 1, none⟩) hBs).trans x1; have x2 := (gB.cell (p := ⟨Bs, 2, none⟩) hBs).trans x2; have x3 := (gB.cell (p := ⟨Bs, 3, none⟩) hBs).trans x3; have x4 := (gB.cell (p := ⟨Bs, 4, none⟩) hBs).trans x4; have x5 := (gB.cell (p := ⟨Bs, 5, none⟩) hBs).trans x5; have c0 := (gB.cell (p := ⟨b, off + p * 4, none⟩) hbr).trans c0; have c1 := (gB.cell (p := ⟨b, off + p * 4 + 1, none⟩) hbr).trans c1; have c2 := (gB.cell (p := ⟨b, off + p * 4 + 2, none⟩) hbr).trans c2; have c3 := (gB.cell (p := ⟨b, off + p * 4 + 3, none⟩) hbr).trans c3; have n1 : ¬ Bs = wr.heap.size := (by omega); have n2 : ¬ wr.heap.size = Bs := (by omega); have n3 : ¬ b = wr.heap.size := (by omega); have n4 : ¬ wr.heap.size = b := (by omega); (try (have k9 := (hb1.block wr.heap.size (by simp)).trans (heap_new wr (.cells (stc 0 0 false 0 0 (.slice none 0 0)) 28)); obtain ⟨z0, z1, z2, z3, z4, z5⟩ := six_at k9; obtain ⟨zf0, zf1, zf2, zf3, zf4, zf5⟩ := six_live k9; have K9 := hide k9; clear k9)); have HR1 := hide R1; have HP1 := hide P1; have HW := hide hW; have GB := hide gB; clear R1 P1 hW gB hb1))
          all_goals go_wp2
          all_goals go_meet
          · case rel => exact ⟨_, rfl, rfl, kept_one GB.out HR1.out (fun a ha => Nat.le_trans HW.out.size (HP1.out a ha))⟩
          · case rel => exact ⟨_, rfl, rfl, kept_two GB.out HR1.out (fun a ha => by have := HP1.out a ha; simp at this; omega) K9.out⟩
        obtain ⟨g, rfl, rfl, A2, d2, hT, hA2, hg, hbw⟩ := hcut
        clear x0 x1 x2 x3 x4 x5 c0 c1 c2 c3
        have HT := hide hT; have HA2 := hide hA2; have HBW := hide hbw
        have kS := (hbw.block _ hBs).trans HS.out.1
        have kK := (hbw.block _ (blk_lt HK3.out)).trans HK3.out
        have HBX := hide (below_next HB.out hbw)
        clear hT hA2 hbw
        obtain ⟨y0, y1, y2, y3, y4, y5⟩ := six_at HT.out.1
        obtain ⟨x0, x1, x2, x3, x4, x5⟩ := six_at kS
        obtain ⟨xf0, xf1, xf2, xf3, xf4, xf5⟩ := six_live kS
        have FIN := hide (And.intro (st_next (w := w) (c := d2) kS hBs (by omega) HT.out.2 HA2.out HBX.out) (six_far kK (b := Bs) (by omega) (.int .i64 q.pr) (.int .i64 q.ps) (.bool q.some) (.int .i64 q.ar) (.int .i64 q.as_) (.slice A2 q.val.length d2)))
        have HQS := hide (show small q by rw [HQ.out]; exact small_answer HSM.out HV.out.2)
        clear kS kK
        go_wp2
        go_roundw
        case rel => exact ⟨p + 1, q, A2, d2, by omega, by go_num, FIN.out.1.1, HQS.out, FIN.out.1.2, FIN.out.2⟩
        case measure => simp [intOf]; omega
      · have h3 : ¬ (p : Int) < 100 := by omega
        have CA1 := hide (fun (W : World) (hW : Below wr.heap.size wr W) => answer_any s A c ⟨r', t', puts', v'⟩ B' cb' W (HS.out.2.below hW) (by omega) ((HY.out.1.below HB.out).below hW) (by show v'.length ≤ _; omega))
        have HQS := hide (small_answer (a := ⟨r', t', puts', v'⟩) HSM.out HY.out.2)
        have HT1 := hide (Acc.twice s ⟨r', t', puts', v'⟩).1
        have HT2 := hide (Acc.twice s ⟨r', t', puts', v'⟩).2
        obtain ⟨q, hq⟩ : ∃ q, q = Acc.answer s ⟨r', t', puts', v'⟩ := ⟨_, rfl⟩
        obtain ⟨ok, hok⟩ : ∃ ok, ok = Acc.answerOk s ⟨r', t', puts', v'⟩ := ⟨_, rfl⟩
        rw [← hq] at CA1 HQS HT1 HT2
        rw [← hok] at CA1 HT1
        clear hq hok
        have hlq := HQS.out.2
        obtain ⟨c0, c1, c2, c3⟩ := four_at HK3.out
        go_wp2_with fail
        refine (CA1.out _ (Below.refl _ _)).mono ?_
        rintro e w5 ⟨A1, d1, rfl, R1, P1, hb5⟩
        clear x0 x1 x2 x3 x4 x5 c0 c1 c2 c3
        have HR1 := hide R1
        have HK5 := hide ((hb5.block _ (blk_lt HK3.out)).trans HK3.out)
        have HB5 := hide (below_next HB.out hb5)
        clear R1 P1 hb5
        go_upto_region 9 with fail
        have K6 := heap_new w5 (.cells (stc q.pr q.ps q.some q.ar q.as_ (.slice A1 q.val.length d1)) 28)
        replace HK5 := hide (blk_alloc HK5.out (.cells (stc q.pr q.ps q.some q.ar q.as_ (.slice A1 q.val.length d1)) 28))
        replace HB5 := hide (HB5.out.alloc HB5.out.size (.cells (stc q.pr q.ps q.some q.ar q.as_ (.slice A1 q.val.length d1)) 28))
        replace HR1 := hide (HR1.out.alloc (.cells (stc q.pr q.ps q.some q.ar q.as_ (.slice A1 q.val.length d1)) 28))
        generalize w5.alloc (.cells (stc q.pr q.ps q.some q.ar q.as_ (.slice A1 q.val.length d1)) 28) = W6 at *
        obtain ⟨x0, x1, x2, x3, x4, x5⟩ := six_at K6
        obtain ⟨c0, c1, c2, c3⟩ := four_at HK5.out
        have K6 := hide K6
        have CA2 := hide (answer_any q A1 d1 ⟨r', t', puts', v'⟩ B' cb' W6 HR1.out (by omega) (HY.out.1.below HB5.out) (by show v'.length ≤ _; omega))
        rw [HT1.out, HT2.out] at CA2
        go_wp2_with fail
        refine CA2.out.mono ?_
        rintro e w7 ⟨A2, d2, rfl, R2, P2, hb7⟩
        clear x0 x1 x2 x3 x4 x5 c0 c1 c2 c3
        have HR2 := hide R2
        have K6 := hide ((hb7.block _ (blk_lt K6.out)).trans K6.out)
        have HB7 := hide (below_next HB5.out hb7)
        replace HR1 := hide (HR1.out.below hb7)
        clear R2 P2 hb7 CA1 CA2
        go_upto_region 10 with fail
        have K8 := hide (heap_new w7 (.cells (stc q.pr q.ps q.some q.ar q.as_ (.slice A2 q.val.length d2)) 28))
        have K6 := hide (blk_alloc K6.out (.cells (stc q.pr q.ps q.some q.ar q.as_ (.slice A2 q.val.length d2)) 28))
        replace HB7 := hide (HB7.out.alloc HB7.out.size (.cells (stc q.pr q.ps q.some q.ar q.as_ (.slice A2 q.val.length d2)) 28))
        replace HR1 := hide (HR1.out.alloc (.cells (stc q.pr q.ps q.some q.ar q.as_ (.slice A2 q.val.length d2)) 28))
        replace HR2 := hide (HR2.out.alloc (.cells (stc q.pr q.ps q.some q.ar q.as_ (.slice A2 q.val.length d2)) 28))
        generalize w7.alloc (.cells (stc q.pr q.ps q.some q.ar q.as_ (.slice A2 q.val.length d2)) 28) = W8 at *
        obtain ⟨x0, x1, x2, x3, x4, x5⟩ := six_at K6.out
        obtain ⟨y0, y1, y2, y3, y4, y5⟩ := six_at K8.out
        have CS := hide (asame_any q q A1 A2 d1 d2 W8 HR1.out HR2.out HQS.out.1 HQS.out.1)
        rw [Acc.same_self] at CS
        go_wp2_with fail
        refine CS.out.mono ?_
        rintro e w9 ⟨rfl, hb9⟩
        go_wp2
        go_ret
        exact ⟨rfl, below_next HB7.out hb9⟩
    · have h3 : decide ((p : Int) < (n : Int)) = false := by simp; omega
      have CA1 := hide (fun (W : World) (hW : Below wr.heap.size wr W) => answer_any s A c ⟨r', t', puts', v'⟩ B' cb' W (HS.out.2.below hW) (by omega) ((HY.out.1.below HB.out).below hW) (by show v'.length ≤ _; omega))
      have HQS := hide (small_answer (a := ⟨r', t', puts', v'⟩) HSM.out HY.out.2)
      have HT1 := hide (Acc.twice s ⟨r', t', puts', v'⟩).1
      have HT2 := hide (Acc.twice s ⟨r', t', puts', v'⟩).2
      obtain ⟨q, hq⟩ : ∃ q, q = Acc.answer s ⟨r', t', puts', v'⟩ := ⟨_, rfl⟩
      obtain ⟨ok, hok⟩ : ∃ ok, ok = Acc.answerOk s ⟨r', t', puts', v'⟩ := ⟨_, rfl⟩
      rw [← hq] at CA1 HQS HT1 HT2
      rw [← hok] at CA1 HT1
      clear hq hok
      have hlq := HQS.out.2
      obtain ⟨c0, c1, c2, c3⟩ := four_at HK3.out
      go_wp2_with fail
      refine (CA1.out _ (Below.refl _ _)).mono ?_
      rintro e w5 ⟨A1, d1, rfl, R1, P1, hb5⟩
      clear x0 x1 x2 x3 x4 x5 c0 c1 c2 c3
      have HR1 := hide R1
      have HK5 := hide ((hb5.block _ (blk_lt HK3.out)).trans HK3.out)
      have HB5 := hide (below_next HB.out hb5)
      clear R1 P1 hb5
      go_upto_region 9 with fail
      have K6 := heap_new w5 (.cells (stc q.pr q.ps q.some q.ar q.as_ (.slice A1 q.val.length d1)) 28)
      replace HK5 := hide (blk_alloc HK5.out (.cells (stc q.pr q.ps q.some q.ar q.as_ (.slice A1 q.val.length d1)) 28))
      replace HB5 := hide (HB5.out.alloc HB5.out.size (.cells (stc q.pr q.ps q.some q.ar q.as_ (.slice A1 q.val.length d1)) 28))
      replace HR1 := hide (HR1.out.alloc (.cells (stc q.pr q.ps q.some q.ar q.as_ (.slice A1 q.val.length d1)) 28))
      generalize w5.alloc (.cells (stc q.pr q.ps q.some q.ar q.as_ (.slice A1 q.val.length d1)) 28) = W6 at *
      obtain ⟨x0, x1, x2, x3, x4, x5⟩ := six_at K6
      obtain ⟨c0, c1, c2, c3⟩ := four_at HK5.out
      have K6 := hide K6
      have CA2 := hide (answer_any q A1 d1 ⟨r', t', puts', v'⟩ B' cb' W6 HR1.out (by omega) (HY.out.1.below HB5.out) (by show v'.length ≤ _; omega))
      rw [HT1.out, HT2.out] at CA2
      go_wp2_with fail
      refine CA2.out.mono ?_
      rintro e w7 ⟨A2, d2, rfl, R2, P2, hb7⟩
      clear x0 x1 x2 x3 x4 x5 c0 c1 c2 c3
      have HR2 := hide R2
      have K6 := hide ((hb7.block _ (blk_lt K6.out)).trans K6.out)
      have HB7 := hide (below_next HB5.out hb7)
      replace HR1 := hide (HR1.out.below hb7)
      clear R2 P2 hb7 CA1 CA2
      go_upto_region 10 with fail
      have K8 := hide (heap_new w7 (.cells (stc q.pr q.ps q.some q.ar q.as_ (.slice A2 q.val.length d2)) 28))
      have K6 := hide (blk_alloc K6.out (.cells (stc q.pr q.ps q.some q.ar q.as_ (.slice A2 q.val.length d2)) 28))
      replace HB7 := hide (HB7.out.alloc HB7.out.size (.cells (stc q.pr q.ps q.some q.ar q.as_ (.slice A2 q.val.length d2)) 28))
      replace HR1 := hide (HR1.out.alloc (.cells (stc q.pr q.ps q.some q.ar q.as_ (.slice A2 q.val.length d2)) 28))
      replace HR2 := hide (HR2.out.alloc (.cells (stc q.pr q.ps q.some q.ar q.as_ (.slice A2 q.val.length d2)) 28))
      generalize w7.alloc (.cells (stc q.pr q.ps q.some q.ar q.as_ (.slice A2 q.val.length d2)) 28) = W8 at *
      obtain ⟨x0, x1, x2, x3, x4, x5⟩ := six_at K6.out
      obtain ⟨y0, y1, y2, y3, y4, y5⟩ := six_at K8.out
      have CS := hide (asame_any q q A1 A2 d1 d2 W8 HR1.out HR2.out HQS.out.1 HQS.out.1)
      rw [Acc.same_self] at CS
      go_wp2_with fail
      refine CS.out.mono ?_
      rintro e w9 ⟨rfl, hb9⟩
      go_wp2
      go_ret
      exact ⟨rfl, below_next HB7.out hb9⟩

theorem agg_list {cs : Array Value} {l : List Value} (h : cs.toList = l) : cs = l.toArray := by subst h; rfl

set_option maxRecDepth 100000 in
theorem acceptorTwice_lifted (os : Os) (started : os.Started) (H : Type) (enc : TypeId × Value → H) :
    ReturnsInHanded {} Try.checked os 7 .any (Rows.acceptorTwiceSpec.pre6 enc Try.prog Try.f7 Rows.acceptorTwiceRow.domain false) (Rows.acceptorTwiceSpec.post enc Try.prog Try.f7 false true false false) := by
  refine returnsInHanded_of_change_sized (C := Try.checked) (by kernel_rfl) started (by kernel_rfl) Try.func7
    (ChangeSpec.witness6 (enc := enc) (C := Try.checked) false ⟨#[], #[.slice none 0 0, .agg #[.int .i64 0, .int .i64 0, .bool false, .slice none 0 0]], []⟩ 8 (by kernel_rfl) (by kernel_rfl) (by kernel_rfl) (by kernel_rfl)) ?_
  intro W base args ds gs before hval0 hW _ hsz0 _
  have hval : ∀ (j : Nat) t v, Try.f7.params[j]? = some t → args[j]? = some v → Value.okWide Try.prog W .any base t v := hval0
  have hW' := hW
  obtain ⟨p, q, hA0, hV, rfl, _, _⟩ := hW
  have hA : DataW.TrodAll enc Try.prog W 0 (fun _ => true) true Try.f7.params.toList args.toList ds p := hA0
  have hsz : (DataW.weightsEach Try.prog (Try.f7.params.toList ++ Rows.acceptorTwiceSpec.plain.varTypes Try.prog) (ds ++ gs)).all (· ≤ reachBytes) = true := hsz0
  rw [Try.params7] at hA hval hsz
  obtain ⟨v0, v1, d0, d1, p0, p1, rfl, rfl, rfl, h0, h1⟩ := trodAll_two hA
  obtain ⟨A0, cap0, n0, V, fuel, D, rfl, _, _, hR0, hel, hn0⟩ := open_rows Try.underlying22 (C := 4) (by kernel_rfl) (by omega) (hval 0 22 v0 rfl rfl) h0
  have hS0 : Sized Try.prog 22 d0 := sized_arg hsz (j := 0) rfl rfl
  have hSE : ∀ i, i < n0 → Sized Try.prog 33 (D i) := fun i hi => by rcases hn0 with h | ⟨el, sp, h1, _, h3⟩; omega; rw [h1] at hS0; exact hS0.elem Try.underlying22 (h3 i hi)
  obtain ⟨X, hV⟩ := choose_ask (n := n0) (p := fun i (x : AskAt) => V i = x.cells ∧ x.fine W) (fun i hi => ask_cells (hel i hi).1 (hel i hi).2.choose_spec (hSE i hi))
  have hR3 := hR0.congr (fun i hi => (hV i hi).1)
  obtain ⟨cs1, rfl, hz1⟩ := okWide_struct Try.underlying33 (hval 1 33 v1 rfl rfl)
  obtain ⟨fuel1, hf1⟩ := h1
  obtain ⟨y1, hc1, hy1⟩ := ask_cells (by simpa [Value.cells] using hz1.trans (show Try.prog.cellsOf 33 = 4 by kernel_rfl)) hf1 (sized_arg hsz (j := 1) rfl rfl)
  obtain rfl := agg_list (l := y1.cells) hc1
  refine (acceptorTwice_walk A0 n0 cap0 X y1 W hR3 (fun i hi => (hV i hi).2) hy1).mono fun e W' ⟨he, hb⟩ => ?_
  subst he
  exact ⟨_, rfl, post_law (by kernel_rfl) (by kernel_rfl) rfl hW' (by rintro _ rfl; rfl) rfl Try.underlying4 hb⟩

theorem acceptorTwice_holds : Rows.AcceptorTwiceSaid :=
  OpenClaim.holds_of_wide 7 Try.f7 rfl rfl rfl rfl rfl rfl rfl ⟨rfl, rfl, rfl, rfl, rfl⟩ rfl rfl rfl rfl rfl (by kernel_rfl) Try.func7 (by kernel_rfl)
    (of_decide_eq_true (by kernel_rfl)) (by unfold Func.isWrapper; first | (rw [if_pos (by decide +kernel)]; kernel_rfl) | (rw [if_neg (by decide +kernel)]; exact ⟨rfl, rfl⟩))
    (fun os started H enc _ => acceptorTwice_lifted os started H enc)

end Go.Proofs.Ytodlabpgjgbbpag
