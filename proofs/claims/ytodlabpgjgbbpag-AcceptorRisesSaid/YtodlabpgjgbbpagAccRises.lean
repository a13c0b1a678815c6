/-
  AcceptorRises: what is promised never gets less; what was accepted is at no ballot above it; what is refused changes nothing. No conditions.
-/
import Derived.Test.YtodlabpgjgbbpagAccAsks
import Derived.Test.YtodlabpgjgbbpagRows
namespace Go.Proofs.Ytodlabpgjgbbpag
open Go.RowKit Go.Agio Go.ChangeShapes Go.WideShapes Go.ChangeAt

theorem six_far {w : World} {m b : Nat} {o : Obj} (h : w.heap[m]? = some o) (hne : m ≠ b) (u0 u1 u2 u3 u4 u5 : Value) :
    ((((((w.setCell ⟨b, 0, none⟩ u0).setCell ⟨b, 1, none⟩ u1).setCell ⟨b, 2, none⟩ u2).setCell ⟨b, 3, none⟩ u3).setCell ⟨b, 4, none⟩ u4).setCell ⟨b, 5, none⟩ u5).heap[m]? = some o :=
  far (far (far (far (far (far h hne _ _) hne _ _) hne _ _) hne _ _) hne _ _) hne _ _

theorem StAt.drewN {g : Nat} {s : Acc.St} {A : Option Addr} {c : Nat} {wr : World} (h : StAt g s A c wr) (k : Nat) : StAt g s A c (wr.drewN k) := h
theorem below_drawn {B : Nat} {a w : World} (h : Below B a w) (n : Nat) : Below B a (w.drewN n) := ⟨h.os, h.tape, h.output, h.size, h.block⟩

set_option maxRecDepth 100000 in
set_option maxHeartbeats 20000000 in
theorem acceptorRises_walk (L : Option Addr) (n cap : Nat) (X : Nat → AskAt) (w : World) (hR : Agio.Rows w L n 4 (fun i => (X i).cells)) (hX : ∀ i, i < n → (X i).fine w) :
    Calls Try.prog 6 #[.slice L n cap] w fun e w' => e = .returned (.bool true) ∧ Below w.heap.size w w' := by
  have HR := hide hR; have HX := hide hX
  clear hR hX
  go_enter Try.func6, Try.ntmps6
  go_wp2_with fail
  refine (awake_any w).mono ?_
  rintro e w1 ⟨rfl, hb1⟩
  have KS := hide (show StAt w1.heap.size Acc.zero none 0 (w1.alloc (.cells (stc 0 0 false 0 0 (.slice none 0 0)) 28)) from ⟨heap_new _ _, .nil _ _⟩)
  have HB1 := hide (hb1.alloc hb1.size (.cells (stc 0 0 false 0 0 (.slice none 0 0)) 28))
  have hws : w.heap.size ≤ w1.heap.size := hb1.size
  clear hb1
  go_wp2_with fail
  generalize w1.alloc (.cells (stc 0 0 false 0 0 (.slice none 0 0)) 28) = W1 at *
  obtain ⟨Bs, hBs⟩ : ∃ Bs, Bs = w1.heap.size := ⟨_, rfl⟩
  rw [← hBs] at KS hws ⊢
  clear hBs
  go_loopw [5] (fun i wr => ∃ (p : Nat) (s : Acc.St) (A : Option Addr) (c : Nat), p ≤ n ∧ i = .int .i64 p ∧ StAt Bs s A c wr ∧ small s ∧ Below w.heap.size w wr ∧ Acc.good s) (fun i _ => n - (intOf i).toNat)
  case atStart => exact ⟨0, Acc.zero, none, 0, Nat.zero_le _, rfl, KS.out, small_zero, HB1.out, Acc.good_zero⟩
  case round =>
    obtain ⟨p, s, A, c, hp, rfl, hS, hsm, hB, hI⟩ := hrel
    have HS := hide hS; have HSM := hide hsm; have HB := hide hB; have HI := hide hI
    clear hS hB hI KS HB1
    have hBs := blk_lt HS.out.1
    have hls := hsm.2
    clear hsm
    by_cases h1 : p < n
    · by_cases h2 : p < 100
      · obtain ⟨b, off, rfl, hb, hc⟩ := HR.out.at_ (k := p) h1
        obtain ⟨x, hx⟩ : ∃ x, x = X p := ⟨_, rfl⟩
        have HF := HX.out p h1
        have hk0 := hc p h1 0 (by omega)
        have hk1 := hc p h1 1 (by omega)
        have hk2 := hc p h1 2 (by omega)
        have hk3 := hc p h1 3 (by omega)
        rw [← hx] at HF hk0 hk1 hk2 hk3
        have HXP := hide hx
        clear hx hc
        obtain ⟨⟨r, t, puts, v⟩, B, cb⟩ := x
        have HV := hide HF
        clear HF
        replace hk0 : w.cell? ⟨b, off + p * 4, none⟩ = some (Value.int .i64 r) := hk0
        replace hk1 : w.cell? ⟨b, off + p * 4 + 1, none⟩ = some (Value.int .i64 t) := hk1
        replace hk2 : w.cell? ⟨b, off + p * 4 + 2, none⟩ = some (Value.bool puts) := hk2
        replace hk3 : w.cell? ⟨b, off + p * 4 + 3, none⟩ = some (Value.slice B v.length cb) := hk3
        have hlv : v.length ≤ 140737488351232 := HV.out.2.2
        have HK := hide (And.intro hk0 (And.intro hk1 (And.intro hk2 hk3)))
        have c0 := (HB.out.cell (p := ⟨b, off + p * 4, none⟩) hb).trans hk0
        have c1 := (HB.out.cell (p := ⟨b, off + p * 4 + 1, none⟩) hb).trans hk1
        have c2 := (HB.out.cell (p := ⟨b, off + p * 4 + 2, none⟩) hb).trans hk2
        have c3 := (HB.out.cell (p := ⟨b, off + p * 4 + 3, none⟩) hb).trans hk3
        clear hk0 hk1 hk2 hk3
        have a1 : (0 : Int) ≤ (p : Int) := by omega
        have a2 : (p : Int) < (n : Int) := by omega
        have hbr : b < wr.heap.size := Nat.lt_of_lt_of_le hb HB.out.size
        obtain ⟨x0, x1, x2, x3, x4, x5⟩ := six_at HS.out.1
        have CA : Hid (∀ W, Below wr.heap.size wr W → Calls Try.prog 11 #[.agg (stc s.pr s.ps s.some s.ar s.as_ (.slice A s.val.length c)), .agg #[.int .i64 r, .int .i64 t, .bool puts, .slice B v.length cb]] W (fun e w5 => SGot W (Acc.answer s ⟨r, t, puts, v⟩) (Acc.answerOk s ⟨r, t, puts, v⟩) e w5 ∧ Below wr.heap.size wr W)) :=
          hide fun W hW => (answer_any s A c ⟨r, t, puts, v⟩ B cb W (HS.out.2.below hW) (by omega) ((HV.out.1.below HB.out).below hW) (by show v.length ≤ _; omega)).mono fun _ _ g => ⟨g, hW⟩
        obtain ⟨q, hq⟩ : ∃ q, q = Acc.answer s ⟨r, t, puts, v⟩ := ⟨_, rfl⟩
        obtain ⟨ok, hok⟩ : ∃ ok, ok = Acc.answerOk s ⟨r, t, puts, v⟩ := ⟨_, rfl⟩
        rw [← hq, ← hok] at CA
        have HQ := hide hq; have HOK := hide hok
        clear hq hok
        go_upto_region 6 with fail
        go_cut [6, 7] (fun ut uo wx => ∃ g, ut = .pointer (some ⟨g, 0, none⟩) ∧ uo = .bool ok ∧ Kept wr q g wx)
        case first =>
          go_region_held3 (fun W => W.cell? ⟨Bs, 0, none⟩ = some (.int .i64 s.pr) ∧ W.cell? ⟨Bs, 1, none⟩ = some (.int .i64 s.ps) ∧ W.cell? ⟨Bs, 2, none⟩ = some (.bool s.some) ∧ W.cell? ⟨Bs, 3, none⟩ = some (.int .i64 s.ar) ∧ W.cell? ⟨Bs, 4, none⟩ = some (.int .i64 s.as_) ∧ W.cell? ⟨Bs, 5, none⟩ = some (.slice A s.val.length c) ∧ W.cell? ⟨b, off + p * 4, none⟩ = some (.int .i64 r) ∧ W.cell? ⟨b, off + p * 4 + 1, none⟩ = some (.int .i64 t) ∧ W.cell? ⟨b, off + p * 4 + 2, none⟩ = some (.bool puts) ∧ W.cell? ⟨b, off + p * 4 + 3, none⟩ = some (.slice B v.length cb)) (go_keep) ((go_at_call 11; refine (CA.out _ (by first | exact Below.refl _ _ | exact (Below.refl _ _).drew | exact ((Below.refl _ _).alloc (Nat.le_refl _) _).drew)).mono ?_; rintro e w5 ⟨⟨A1, d1, rfl, R1, P1, hb1⟩, hW⟩; have gB := hW.trans (hb1.mono hW.size); have x0 := (gB.cell (p := ⟨Bs, 0, none⟩) hBs).trans x0; have x1 := (gB.cell (p := ⟨Bs, 1, none⟩) hBs).trans x1; have x2 := (gB.cell (p := ⟨Bs, 2, none⟩) hBs).trans x2; have x3 := (gB.cell (p := ⟨Bs, 3, none⟩) hBs).trans x3; have x4 := (gB.cell (p := ⟨Bs, 4, none⟩) hBs).trans x4; have x5 := (gB.cell (p := ⟨Bs, 5, none⟩) hBs).trans x5; have c0 := (gB.cell (p := ⟨b, off + p * 4, none⟩) hbr).trans c0; have c1 := (gB.cell (p := ⟨b, off + p * 4 + 1, none⟩) hbr).trans c1; have c2 := (gB.cell (p := ⟨b, off + p * 4 + 2, none⟩) hbr).trans c2; have c3 := (gB.cell (p := ⟨b, off + p * 4 + 3, none⟩) hbr).trans c3; have n1 : ¬ Bs = wr.heap.size := (by omega); have n2 : ¬ wr.heap.size = Bs := (by omega); have n3 : ¬ b = wr.heap.size := (by omega); have n4 : ¬ wr.heap.size = b := (by omega); (try (have k9 := (hb1.block wr.heap.size (by simp)).trans (heap_new wr (.cells (stc 0 0 false 0 0 (.slice none 0 0)) 28)); obtain ⟨z0, z1, z2, z3, z4, z5⟩ := six_at k9; obtain ⟨zf0, zf1, zf2, zf3, zf4, zf5⟩ := six_live k9; have K9 := hide k9; clear k9)); have HR1 := hide R1; have HP1 := hide P1; have HW := hide hW; have GB := hide gB; clear R1 P1 hW gB hb1))
          all_goals go_wp2
          all_goals go_meet
          · case rel => exact ⟨_, rfl, rfl, kept_one GB.out HR1.out (fun a ha => Nat.le_trans HW.out.size (HP1.out a ha))⟩
          · case rel => exact ⟨_, rfl, rfl, kept_two GB.out HR1.out (fun a ha => by have := HP1.out a ha; simp at this; omega) K9.out⟩
        obtain ⟨g, rfl, rfl, A2, d2, hT, hA2, hg, hbw⟩ := hcut
        clear x0 x1 x2 x3 x4 x5 c0 c1 c2 c3
        have HR2 := hide hT.2; have KT := hide hT.1; have HA2 := hide hA2
        have KS := hide ((hbw.block _ hBs).trans HS.out.1)
        have HRS := hide (HS.out.2.below hbw)
        have HBX := hide (below_next HB.out hbw)
        have HQS := hide (show small q by rw [HQ.out]; exact small_answer HSM.out HV.out.2)
        have HQG := hide (show Acc.good q by rw [HQ.out]; exact Acc.good_answer HI.out _)
        have hr1 := hide (show 0 ≤ Bal.compare q.pr q.ps s.pr s.ps by rw [HQ.out]; exact Acc.rises s _)
        have hr2 := hide (show s.some = true → q.some = true by rw [HQ.out]; exact Acc.some_answer _)
        have hr3 := hide (show s.some = true → 0 ≤ Bal.compare q.ar q.as_ s.ar s.as_ by rw [HQ.out]; exact Acc.at_answer HI.out _)
        clear hT hA2 hbw hBs
        have hBs : Bs < wr.heap.size := blk_lt HS.out.1
        have CZ1 := hide (fun (W : World) => rcompare_any q.pr q.ps s.pr s.ps W)
        have CZ2 := hide (fun (W : World) => rcompare_any q.ar q.as_ q.pr q.ps W)
        obtain ⟨z1, hz1⟩ : ∃ z, z = Bal.compare q.pr q.ps s.pr s.ps := ⟨_, rfl⟩
        obtain ⟨z2, hz2⟩ : ∃ z, z = Bal.compare q.ar q.as_ q.pr q.ps := ⟨_, rfl⟩
        obtain ⟨z3, hz3⟩ : ∃ z, z = Bal.compare q.ar q.as_ s.ar s.as_ := ⟨_, rfl⟩
        have hz1' : 0 ≤ z1 := by rw [hz1]; exact hr1.out
        have HZ2 := hide (show q.some = true → z2 ≤ 0 by rw [hz2]; exact HQG.out)
        have HZ4 := hide (show s.some = true → 0 ≤ z3 by rw [hz3]; exact hr3.out)
        rw [← hz1] at CZ1
        rw [← hz2] at CZ2
        have HZ3 := hide hz3.symm
        clear hz1 hz2 hz3 HS HB
        cases ok
        · have hqs : s = q := by rw [HQ.out]; exact (Acc.answer_no HOK.out.symm).symm
          clear HQ HOK
          subst hqs
          cases hs : s.some
          · rw [hs] at KT KS
            have HSS := hide hs
            clear hs
            obtain ⟨y0, y1, y2, y3, y4, y5⟩ := six_at KT.out
            obtain ⟨x0, x1, x2, x3, x4, x5⟩ := six_at KS.out
            have c0 := (HBX.out.cell (p := ⟨b, off + p * 4, none⟩) hb).trans HK.out.1
            have c1 := (HBX.out.cell (p := ⟨b, off + p * 4 + 1, none⟩) hb).trans HK.out.2.1
            have c2 := (HBX.out.cell (p := ⟨b, off + p * 4 + 2, none⟩) hb).trans HK.out.2.2.1
            have c3 := (HBX.out.cell (p := ⟨b, off + p * 4 + 3, none⟩) hb).trans HK.out.2.2.2
            go_wp2_with fail
            refine (CZ1.out _).mono ?_
            rintro e w6 ⟨rfl, hb9⟩
            clear x0 x1 x2 x3 x4 x5 y0 y1 y2 y3 y4 y5 c0 c1 c2 c3
            replace KT := hide ((hb9.block _ (blk_lt KT.out)).trans KT.out)
            replace KS := hide ((hb9.block _ (blk_lt KS.out)).trans KS.out)
            replace HR2 := hide (HR2.out.below hb9)
            replace HRS := hide (HRS.out.below hb9)
            replace HBX := hide (below_next HBX.out hb9)
            clear hb9
            obtain ⟨y0, y1, y2, y3, y4, y5⟩ := six_at KT.out
            obtain ⟨x0, x1, x2, x3, x4, x5⟩ := six_at KS.out
            have c0 := (HBX.out.cell (p := ⟨b, off + p * 4, none⟩) hb).trans HK.out.1
            have c1 := (HBX.out.cell (p := ⟨b, off + p * 4 + 1, none⟩) hb).trans HK.out.2.1
            have c2 := (HBX.out.cell (p := ⟨b, off + p * 4 + 2, none⟩) hb).trans HK.out.2.2.1
            have c3 := (HBX.out.cell (p := ⟨b, off + p * 4 + 3, none⟩) hb).trans HK.out.2.2.2
            have CS := hide (asame_any s s A A2 c d2 w6 HRS.out HR2.out HSM.out.1 HSM.out.1)
            rw [Acc.same_self] at CS
            unfold stv at CS
            rw [HSS.out] at CS
            go_wp2_with fail
            refine CS.out.mono ?_
            rintro e w7 ⟨rfl, hb9⟩
            clear CS
            clear x0 x1 x2 x3 x4 x5 y0 y1 y2 y3 y4 y5 c0 c1 c2 c3
            replace KT := hide ((hb9.block _ (blk_lt KT.out)).trans KT.out)
            replace KS := hide ((hb9.block _ (blk_lt KS.out)).trans KS.out)
            replace HR2 := hide (HR2.out.below hb9)
            replace HRS := hide (HRS.out.below hb9)
            replace HBX := hide (below_next HBX.out hb9)
            clear hb9
            obtain ⟨y0, y1, y2, y3, y4, y5⟩ := six_at KT.out
            obtain ⟨x0, x1, x2, x3, x4, x5⟩ := six_at KS.out
            have c0 := (HBX.out.cell (p := ⟨b, off + p * 4, none⟩) hb).trans HK.out.1
            have c1 := (HBX.out.cell (p := ⟨b, off + p * 4 + 1, none⟩) hb).trans HK.out.2.1
            have c2 := (HBX.out.cell (p := ⟨b, off + p * 4 + 2, none⟩) hb).trans HK.out.2.2.1
            have c3 := (HBX.out.cell (p := ⟨b, off + p * 4 + 3, none⟩) hb).trans HK.out.2.2.2
            have FIN := hide (fun (W : World) (hW : Below w7.heap.size w7 W) => st_next (w := w) (c := d2) (q := s) ((hW.block _ (blk_lt KS.out)).trans KS.out) hBs hws (HR2.out.below hW) HA2.out (below_next HBX.out hW))
            have hBs9 : Bs < w7.heap.size := blk_lt KS.out
            have hg9 : g < w7.heap.size := blk_lt KT.out
            have hb9 : b < w7.heap.size := Nat.lt_of_lt_of_le hb HBX.out.size
            obtain ⟨xf0, xf1, xf2, xf3, xf4, xf5⟩ := six_live KS.out
            rw [HSS.out] at FIN
            go_wp2_with fail
            clear x0 x1 x3 x4 x5 y0 y1 y2 y3 y4 y5 c0 c1 c2 c3 xf0 xf1 xf2 xf3 xf4 xf5
            go_quiet (fail)
            clear x2
            obtain ⟨y0, y1, y2, y3, y4, y5⟩ := six_at KT.out
            obtain ⟨x0, x1, x2, x3, x4, x5⟩ := six_at KS.out
            have c0 := (HBX.out.cell (p := ⟨b, off + p * 4, none⟩) hb).trans HK.out.1
            have c1 := (HBX.out.cell (p := ⟨b, off + p * 4 + 1, none⟩) hb).trans HK.out.2.1
            have c2 := (HBX.out.cell (p := ⟨b, off + p * 4 + 2, none⟩) hb).trans HK.out.2.2.1
            have c3 := (HBX.out.cell (p := ⟨b, off + p * 4 + 3, none⟩) hb).trans HK.out.2.2.2
            obtain ⟨xf0, xf1, xf2, xf3, xf4, xf5⟩ := six_live KS.out
            go_wp2
            go_roundw
            case rel => exact ⟨p + 1, s, A2, d2, by omega, by go_num, (FIN.out _ (below_drawn (Below.refl _ _) _)).1, HQS.out, (FIN.out _ (below_drawn (Below.refl _ _) _)).2, HQG.out⟩
            case measure => simp [intOf]; omega
          · have hz2' := HZ2.out hs
            have hz3' := HZ4.out hs
            rw [hs] at KT KS
            have HSS := hide hs
            clear hs
            obtain ⟨y0, y1, y2, y3, y4, y5⟩ := six_at KT.out
            obtain ⟨x0, x1, x2, x3, x4, x5⟩ := six_at KS.out
            have c0 := (HBX.out.cell (p := ⟨b, off + p * 4, none⟩) hb).trans HK.out.1
            have c1 := (HBX.out.cell (p := ⟨b, off + p * 4 + 1, none⟩) hb).trans HK.out.2.1
            have c2 := (HBX.out.cell (p := ⟨b, off + p * 4 + 2, none⟩) hb).trans HK.out.2.2.1
            have c3 := (HBX.out.cell (p := ⟨b, off + p * 4 + 3, none⟩) hb).trans HK.out.2.2.2
            go_wp2_with fail
            refine (CZ1.out _).mono ?_
            rintro e w6 ⟨rfl, hb9⟩
            clear x0 x1 x2 x3 x4 x5 y0 y1 y2 y3 y4 y5 c0 c1 c2 c3
            replace KT := hide ((hb9.block _ (blk_lt KT.out)).trans KT.out)
            replace KS := hide ((hb9.block _ (blk_lt KS.out)).trans KS.out)
            replace HR2 := hide (HR2.out.below hb9)
            replace HRS := hide (HRS.out.below hb9)
            replace HBX := hide (below_next HBX.out hb9)
            clear hb9
            obtain ⟨y0, y1, y2, y3, y4, y5⟩ := six_at KT.out
            obtain ⟨x0, x1, x2, x3, x4, x5⟩ := six_at KS.out
            have c0 := (HBX.out.cell (p := ⟨b, off + p * 4, none⟩) hb).trans HK.out.1
            have c1 := (HBX.out.cell (p := ⟨b, off + p * 4 + 1, none⟩) hb).trans HK.out.2.1
            have c2 := (HBX.out.cell (p := ⟨b, off + p * 4 + 2, none⟩) hb).trans HK.out.2.2.1
            have c3 := (HBX.out.cell (p := ⟨b, off + p * 4 + 3, none⟩) hb).trans HK.out.2.2.2
            have CS := hide (asame_any s s A A2 c d2 w6 HRS.out HR2.out HSM.out.1 HSM.out.1)
            rw [Acc.same_self] at CS
            unfold stv at CS
            rw [HSS.out] at CS
            go_wp2_with fail
            refine CS.out.mono ?_
            rintro e w7 ⟨rfl, hb9⟩
            clear CS
            clear x0 x1 x2 x3 x4 x5 y0 y1 y2 y3 y4 y5 c0 c1 c2 c3
            replace KT := hide ((hb9.block _ (blk_lt KT.out)).trans KT.out)
            replace KS := hide ((hb9.block _ (blk_lt KS.out)).trans KS.out)
            replace HR2 := hide (HR2.out.below hb9)
            replace HRS := hide (HRS.out.below hb9)
            replace HBX := hide (below_next HBX.out hb9)
            clear hb9
            obtain ⟨y0, y1, y2, y3, y4, y5⟩ := six_at KT.out
            obtain ⟨x0, x1, x2, x3, x4, x5⟩ := six_at KS.out
            have c0 := (HBX.out.cell (p := ⟨b, off + p * 4, none⟩) hb).trans HK.out.1
            have c1 := (HBX.out.cell (p := ⟨b, off + p * 4 + 1, none⟩) hb).trans HK.out.2.1
            have c2 := (HBX.out.cell (p := ⟨b, off + p * 4 + 2, none⟩) hb).trans HK.out.2.2.1
            have c3 := (HBX.out.cell (p := ⟨b, off + p * 4 + 3, none⟩) hb).trans HK.out.2.2.2
            go_wp2_with fail
            refine (CZ2.out _).mono ?_
            rintro e w8 ⟨rfl, hb9⟩
            clear x0 x1 x2 x3 x4 x5 y0 y1 y2 y3 y4 y5 c0 c1 c2 c3
            replace KT := hide ((hb9.block _ (blk_lt KT.out)).trans KT.out)
            replace KS := hide ((hb9.block _ (blk_lt KS.out)).trans KS.out)
            replace HR2 := hide (HR2.out.below hb9)
            replace HRS := hide (HRS.out.below hb9)
            replace HBX := hide (below_next HBX.out hb9)
            clear hb9
            obtain ⟨y0, y1, y2, y3, y4, y5⟩ := six_at KT.out
            obtain ⟨x0, x1, x2, x3, x4, x5⟩ := six_at KS.out
            have c0 := (HBX.out.cell (p := ⟨b, off + p * 4, none⟩) hb).trans HK.out.1
            have c1 := (HBX.out.cell (p := ⟨b, off + p * 4 + 1, none⟩) hb).trans HK.out.2.1
            have c2 := (HBX.out.cell (p := ⟨b, off + p * 4 + 2, none⟩) hb).trans HK.out.2.2.1
            have c3 := (HBX.out.cell (p := ⟨b, off + p * 4 + 3, none⟩) hb).trans HK.out.2.2.2
            have FIN := hide (fun (W : World) (hW : Below w8.heap.size w8 W) => st_next (w := w) (c := d2) (q := s) ((hW.block _ (blk_lt KS.out)).trans KS.out) hBs hws (HR2.out.below hW) HA2.out (below_next HBX.out hW))
            have hBs9 : Bs < w8.heap.size := blk_lt KS.out
            have hg9 : g < w8.heap.size := blk_lt KT.out
            have hb9 : b < w8.heap.size := Nat.lt_of_lt_of_le hb HBX.out.size
            obtain ⟨xf0, xf1, xf2, xf3, xf4, xf5⟩ := six_live KS.out
            rw [HSS.out] at FIN
            have CZ3' := hide (fun (W : World) (hW : Below w8.heap.size w8 W) => rcompare_at (w0 := w8) s.ar s.as_ s.ar s.as_ W hW)
            rw [HZ3.out] at CZ3'
            go_wp2_with fail
            clear x0 x1 x5 y0 y1 y2 y5 c0 c1 c2 c3 xf0 xf1 xf2 xf3 xf4 xf5
            refine wp_region_held_drew (S := fun W => W.cell? ⟨g, 3, none⟩ = some (.int .i64 s.ar) ∧ W.cell? ⟨g, 4, none⟩ = some (.int .i64 s.as_) ∧ W.cell? ⟨Bs, 2, none⟩ = some (.bool true) ∧ W.cell? ⟨Bs, 3, none⟩ = some (.int .i64 s.ar) ∧ W.cell? ⟨Bs, 4, none⟩ = some (.int .i64 s.as_)) rfl (by go_keep) (fun hH => ?_)
            refine wpAnyH_take (i := 0) (v := ?v0) rfl (by kernel_rfl) (by kernel_rfl) (by kernel_rfl) (fun _ _ _ h => h) (Or.inl ⟨by rfl, ?y0⟩) hH ?r0
            case y0 => (intro W hSw; (try dsimp only at hSw); (try simp only [List.getElem_toArray, List.getElem_cons_zero]); go_simp; first | done | with_reducible rfl)
            try simp only [Act.put, List.getElem_toArray, List.getElem_cons_zero, List.setIfInBounds_toArray, List.set_cons_zero, List.set_cons_succ]
            refine wpAnyH_take (i := 1) (v := ?v1) rfl (by kernel_rfl) (by kernel_rfl) (by kernel_rfl) (fun _ _ _ h => h) (Or.inl ⟨by rfl, ?y1⟩) hH ?r1
            case y1 => (intro W hSw; (try dsimp only at hSw); (try simp only [List.getElem_toArray, List.getElem_cons_succ, List.getElem_cons_zero]); go_simp; first | done | with_reducible rfl)
            try simp only [Act.put, List.getElem_toArray, List.getElem_cons_succ, List.getElem_cons_zero, List.setIfInBounds_toArray, List.set_cons_zero, List.set_cons_succ]
            refine wpAnyH_take (i := 2) (v := undef) rfl (by kernel_rfl) (by kernel_rfl) (by kernel_rfl) (fun _ _ _ h => h) (Or.inr ⟨by rfl, rfl⟩) hH ?r2
            try simp only [Act.put, List.getElem_toArray, List.getElem_cons_succ, List.getElem_cons_zero, List.setIfInBounds_toArray, List.set_cons_zero, List.set_cons_succ]
            refine wpAnyH_take (i := 3) (v := undef) rfl (by kernel_rfl) (by kernel_rfl) (by kernel_rfl) (fun _ _ _ h => h) (Or.inr ⟨by rfl, rfl⟩) hH ?r3
            try simp only [Act.put, List.getElem_toArray, List.getElem_cons_succ, List.getElem_cons_zero, List.setIfInBounds_toArray, List.set_cons_zero, List.set_cons_succ]
            refine wpAnyH_take (i := 4) (v := undef) rfl (by kernel_rfl) (by kernel_rfl) (by kernel_rfl) (fun _ _ _ h => h) (Or.inr ⟨by rfl, rfl⟩) hH ?r4
            try simp only [Act.put, List.getElem_toArray, List.getElem_cons_succ, List.getElem_cons_zero, List.setIfInBounds_toArray, List.set_cons_zero, List.set_cons_succ]
            refine wpAnyH_take (i := 5) (v := undef) rfl (by kernel_rfl) (by kernel_rfl) (by kernel_rfl) (fun _ _ _ h => h) (Or.inr ⟨by rfl, rfl⟩) hH ?r5
            try simp only [Act.put, List.getElem_toArray, List.getElem_cons_succ, List.getElem_cons_zero, List.setIfInBounds_toArray, List.set_cons_zero, List.set_cons_succ]
            refine wpAnyH_take (i := 6) (v := undef) rfl (by kernel_rfl) (by kernel_rfl) (by kernel_rfl) (fun _ _ _ h => h) (Or.inr ⟨by rfl, rfl⟩) hH ?r6
            try simp only [Act.put, List.getElem_toArray, List.getElem_cons_succ, List.getElem_cons_zero, List.setIfInBounds_toArray, List.set_cons_zero, List.set_cons_succ]
            refine wpAnyH_take (i := 7) (v := undef) rfl (by kernel_rfl) (by kernel_rfl) (by kernel_rfl) (fun _ _ _ h => h) (Or.inr ⟨by rfl, rfl⟩) hH ?r7
            try simp only [Act.put, List.getElem_toArray, List.getElem_cons_succ, List.getElem_cons_zero, List.setIfInBounds_toArray, List.set_cons_zero, List.set_cons_succ]
            refine wpAnyH_take (i := 8) (v := undef) rfl (by kernel_rfl) (by kernel_rfl) (by kernel_rfl) (fun _ _ _ h => h) (Or.inr ⟨by rfl, rfl⟩) hH ?r8
            try simp only [Act.put, List.getElem_toArray, List.getElem_cons_succ, List.getElem_cons_zero, List.setIfInBounds_toArray, List.set_cons_zero, List.set_cons_succ]
            refine wpAnyH_take (i := 9) (v := undef) rfl (by kernel_rfl) (by kernel_rfl) (by kernel_rfl) (fun _ _ _ h => h) (Or.inr ⟨by rfl, rfl⟩) hH ?r9
            try simp only [Act.put, List.getElem_toArray, List.getElem_cons_succ, List.getElem_cons_zero, List.setIfInBounds_toArray, List.set_cons_zero, List.set_cons_succ]
            refine wpAnyH_take (i := 10) (v := ?v10) rfl (by kernel_rfl) (by kernel_rfl) (by kernel_rfl) (fun _ _ _ h => h) (Or.inl ⟨by rfl, ?y10⟩) hH ?r10
            case y10 => (intro W hSw; (try dsimp only at hSw); (try simp only [List.getElem_toArray, List.getElem_cons_succ, List.getElem_cons_zero]); go_simp; first | done | with_reducible rfl)
            try simp only [Act.put, List.getElem_toArray, List.getElem_cons_succ, List.getElem_cons_zero, List.setIfInBounds_toArray, List.set_cons_zero, List.set_cons_succ]
            refine wpAnyH_take (i := 11) (v := ?v11) rfl (by kernel_rfl) (by kernel_rfl) (by kernel_rfl) (fun _ _ _ h => h) (Or.inl ⟨by rfl, ?y11⟩) hH ?r11
            case y11 => (intro W hSw; (try dsimp only at hSw); (try simp only [List.getElem_toArray, List.getElem_cons_succ, List.getElem_cons_zero]); go_simp; first | done | with_reducible rfl)
            try simp only [Act.put, List.getElem_toArray, List.getElem_cons_succ, List.getElem_cons_zero, List.setIfInBounds_toArray, List.set_cons_zero, List.set_cons_succ]
            refine wpAnyH_take (i := 12) (v := ?v12) rfl (by kernel_rfl) (by kernel_rfl) (by kernel_rfl) (fun _ _ _ h => h) (Or.inl ⟨by rfl, ?y12⟩) hH ?r12
            case y12 => (intro W hSw; (try dsimp only at hSw); (try simp only [List.getElem_toArray, List.getElem_cons_succ, List.getElem_cons_zero]); go_simp; first | done | with_reducible rfl)
            try simp only [Act.put, List.getElem_toArray, List.getElem_cons_succ, List.getElem_cons_zero, List.setIfInBounds_toArray, List.set_cons_zero, List.set_cons_succ]
            refine wpAnyH_take (i := 13) (v := ?v13) rfl (by kernel_rfl) (by kernel_rfl) (by kernel_rfl) (fun _ _ _ h => h) (Or.inl ⟨by rfl, ?y13⟩) hH ?r13
            case y13 => (intro W hSw; (try dsimp only at hSw); (try simp only [List.getElem_toArray, List.getElem_cons_succ, List.getElem_cons_zero]); go_simp; first | done | with_reducible rfl)
            try simp only [Act.put, List.getElem_toArray, List.getElem_cons_succ, List.getElem_cons_zero, List.setIfInBounds_toArray, List.set_cons_zero, List.set_cons_succ]
            refine wpAnyH_take (i := 14) (v := ?v14) rfl (by kernel_rfl) (by kernel_rfl) (by kernel_rfl) (fun _ _ _ h => h) (Or.inl ⟨by rfl, ?y14⟩) hH ?r14
            case y14 => (intro W hSw; (try dsimp only at hSw); (try simp only [List.getElem_toArray, List.getElem_cons_succ, List.getElem_cons_zero]); go_simp; first | done | with_reducible rfl)
            try simp only [Act.put, List.getElem_toArray, List.getElem_cons_succ, List.getElem_cons_zero, List.setIfInBounds_toArray, List.set_cons_zero, List.set_cons_succ]
            refine wpAnyH_take (i := 15) (v := ?v15) rfl (by kernel_rfl) (by kernel_rfl) (by kernel_rfl) (fun _ _ _ h => h) (Or.inl ⟨by rfl, ?y15⟩) hH ?r15
            case y15 => (intro W hSw; (try dsimp only at hSw); (try simp only [List.getElem_toArray, List.getElem_cons_succ, List.getElem_cons_zero]); go_simp; first | done | with_reducible rfl)
            try simp only [Act.put, List.getElem_toArray, List.getElem_cons_succ, List.getElem_cons_zero, List.setIfInBounds_toArray, List.set_cons_zero, List.set_cons_succ]
            refine wpAnyH_take (i := 16) (v := ?v16) rfl (by kernel_rfl) (by kernel_rfl) (by kernel_rfl) (fun _ _ _ h => h) (Or.inl ⟨by rfl, ?y16⟩) hH ?r16
            case y16 => (intro W hSw; (try dsimp only at hSw); (try simp only [List.getElem_toArray, List.getElem_cons_succ, List.getElem_cons_zero]); go_simp; first | done | with_reducible rfl)
            try simp only [Act.put, List.getElem_toArray, List.getElem_cons_succ, List.getElem_cons_zero, List.setIfInBounds_toArray, List.set_cons_zero, List.set_cons_succ]
            refine wpAnyH_take (i := 17) (v := ?v17) rfl (by kernel_rfl) (by kernel_rfl) (by kernel_rfl) (fun _ _ _ h => h) (Or.inl ⟨by rfl, ?y17⟩) hH ?r17
            case y17 => (intro W hSw; (try dsimp only at hSw); (try simp only [List.getElem_toArray, List.getElem_cons_succ, List.getElem_cons_zero]); go_simp; first | done | with_reducible rfl)
            try simp only [Act.put, List.getElem_toArray, List.getElem_cons_succ, List.getElem_cons_zero, List.setIfInBounds_toArray, List.set_cons_zero, List.set_cons_succ]
            refine wpAnyH_take (i := 18) (v := ?v18) rfl (by kernel_rfl) (by kernel_rfl) (by kernel_rfl) (fun _ _ _ h => h) (Or.inl ⟨by rfl, ?y18⟩) hH ?r18
            case y18 => (intro W hSw; (try dsimp only at hSw); (try simp only [List.getElem_toArray, List.getElem_cons_succ, List.getElem_cons_zero]); go_simp; first | done | with_reducible rfl)
            try simp only [Act.put, List.getElem_toArray, List.getElem_cons_succ, List.getElem_cons_zero, List.setIfInBounds_toArray, List.set_cons_zero, List.set_cons_succ]
            refine wpAnyH_ready (rs := [19]) (by kernel_rfl) (by simp) ?_
            refine AllReadyH.cons rfl (fun K hK => ?_) AllReadyH.nil
            simp only [List.getElem_toArray, List.getElem_cons_succ, List.getElem_cons_zero]
            go_simp
            refine (CZ3'.out _ (Below.refl _ _).drew).mono ?_
            rintro e w9 ⟨rfl, hb8⟩
            have y3 := (hb8.cell (p := ⟨g, 3, none⟩) hg9).trans y3; have y4 := (hb8.cell (p := ⟨g, 4, none⟩) hg9).trans y4; have x2 := (hb8.cell (p := ⟨Bs, 2, none⟩) hBs9).trans x2; have x3 := (hb8.cell (p := ⟨Bs, 3, none⟩) hBs9).trans x3; have x4 := (hb8.cell (p := ⟨Bs, 4, none⟩) hBs9).trans x4; have HB8 := hide hb8; clear hb8
            refine hK.out _ _ (by go_keep) (fun hH2 => ?_)
            clear hK
            refine wpAnyH_take (i := 20) (v := ?v20) rfl (by kernel_rfl) (by kernel_rfl) (by kernel_rfl) (fun _ _ _ h => h) (Or.inl ⟨by rfl, ?y20⟩) hH2 ?r20
            case y20 => (intro W hSw; (try dsimp only at hSw); (try simp only [List.getElem_toArray, List.getElem_cons_succ, List.getElem_cons_zero]); go_simp; first | done | with_reducible rfl)
            try simp only [Act.put, List.getElem_toArray, List.getElem_cons_succ, List.getElem_cons_zero, List.setIfInBounds_toArray, List.set_cons_zero, List.set_cons_succ]
            refine wpAnyH_take (i := 21) (v := ?v21) rfl (by kernel_rfl) (by kernel_rfl) (by kernel_rfl) (fun _ _ _ h => h) (Or.inl ⟨by rfl, ?y21⟩) hH2 ?r21
            case y21 => (intro W hSw; (try dsimp only at hSw); (try simp only [List.getElem_toArray, List.getElem_cons_succ, List.getElem_cons_zero]); go_simp; first | done | with_reducible rfl)
            try simp only [Act.put, List.getElem_toArray, List.getElem_cons_succ, List.getElem_cons_zero, List.setIfInBounds_toArray, List.set_cons_zero, List.set_cons_succ]
            refine wpAnyH_take (i := 22) (v := ?v22) rfl (by kernel_rfl) (by kernel_rfl) (by kernel_rfl) (fun _ _ _ h => h) (Or.inl ⟨by rfl, ?y22⟩) hH2 ?r22
            case y22 => (intro W hSw; (try dsimp only at hSw); (try simp only [List.getElem_toArray, List.getElem_cons_succ, List.getElem_cons_zero]); go_simp; first | done | with_reducible rfl)
            try simp only [Act.put, List.getElem_toArray, List.getElem_cons_succ, List.getElem_cons_zero, List.setIfInBounds_toArray, List.set_cons_zero, List.set_cons_succ]
            refine wpAnyH_done (by kernel_rfl) ?_ _
            clear hH hH2
            clear y3 y4 x2 x3 x4
            replace KT := hide ((HB8.out.block _ (blk_lt KT.out)).trans KT.out)
            replace KS := hide ((HB8.out.block _ (blk_lt KS.out)).trans KS.out)
            obtain ⟨y0, y1, y2, y3, y4, y5⟩ := six_at KT.out
            obtain ⟨x0, x1, x2, x3, x4, x5⟩ := six_at KS.out
            obtain ⟨xf0, xf1, xf2, xf3, xf4, xf5⟩ := six_live KS.out
            go_wp2
            go_roundw
            case rel => exact ⟨p + 1, s, A2, d2, by omega, by go_num, (FIN.out _ HB8.out).1, HQS.out, (FIN.out _ HB8.out).2, HQG.out⟩
            case measure => simp [intOf]; omega
        · obtain ⟨_, he1, he2⟩ := Acc.answer_ok HOK.out.symm
          rw [← HQ.out] at he1 he2
          have he1 : q.pr = r := he1
          have he2 : q.ps = t := he2
          have HE1 := hide he1; have HE2 := hide he2
          rw [he1, he2] at KT CZ1 CZ2
          clear he1 he2
          cases hs : s.some
          · rw [hs] at KS
            cases hq : q.some
            · rw [hq] at KT
              have HSS := hide hs; have HQQ := hide hq
              clear hs hq
              obtain ⟨y0, y1, y2, y3, y4, y5⟩ := six_at KT.out
              obtain ⟨x0, x1, x2, x3, x4, x5⟩ := six_at KS.out
              have c0 := (HBX.out.cell (p := ⟨b, off + p * 4, none⟩) hb).trans HK.out.1
              have c1 := (HBX.out.cell (p := ⟨b, off + p * 4 + 1, none⟩) hb).trans HK.out.2.1
              have c2 := (HBX.out.cell (p := ⟨b, off + p * 4 + 2, none⟩) hb).trans HK.out.2.2.1
              have c3 := (HBX.out.cell (p := ⟨b, off + p * 4 + 3, none⟩) hb).trans HK.out.2.2.2
              go_wp2_with fail
              refine (CZ1.out _).mono ?_
              rintro e w6 ⟨rfl, hb9⟩
              clear x0 x1 x2 x3 x4 x5 y0 y1 y2 y3 y4 y5 c0 c1 c2 c3
              replace KT := hide ((hb9.block _ (blk_lt KT.out)).trans KT.out)
              replace KS := hide ((hb9.block _ (blk_lt KS.out)).trans KS.out)
              replace HR2 := hide (HR2.out.below hb9)
              replace HRS := hide (HRS.out.below hb9)
              replace HBX := hide (below_next HBX.out hb9)
              clear hb9
              obtain ⟨y0, y1, y2, y3, y4, y5⟩ := six_at KT.out
              obtain ⟨x0, x1, x2, x3, x4, x5⟩ := six_at KS.out
              have c0 := (HBX.out.cell (p := ⟨b, off + p * 4, none⟩) hb).trans HK.out.1
              have c1 := (HBX.out.cell (p := ⟨b, off + p * 4 + 1, none⟩) hb).trans HK.out.2.1
              have c2 := (HBX.out.cell (p := ⟨b, off + p * 4 + 2, none⟩) hb).trans HK.out.2.2.1
              have c3 := (HBX.out.cell (p := ⟨b, off + p * 4 + 3, none⟩) hb).trans HK.out.2.2.2
              have FIN := hide (fun (W : World) (hW : Below w6.heap.size w6 W) => st_next (w := w) (c := d2) (q := q) ((hW.block _ (blk_lt KS.out)).trans KS.out) hBs hws (HR2.out.below hW) HA2.out (below_next HBX.out hW))
              have hBs9 : Bs < w6.heap.size := blk_lt KS.out
              have hg9 : g < w6.heap.size := blk_lt KT.out
              have hb9 : b < w6.heap.size := Nat.lt_of_lt_of_le hb HBX.out.size
              obtain ⟨xf0, xf1, xf2, xf3, xf4, xf5⟩ := six_live KS.out
              have FIN : Hid (∀ (W : World) (hW : Below w6.heap.size w6 W), _) := FIN
              rw [HE1.out, HE2.out, HQQ.out] at FIN
              go_wp2_with fail
              clear x0 x1 x3 x4 x5 y2 y3 y4 y5 c2 c3 xf0 xf1 xf2 xf3 xf4 xf5
              go_quiet (fail)
              clear x2 y0 y1 c0 c1
              obtain ⟨y0, y1, y2, y3, y4, y5⟩ := six_at KT.out
              obtain ⟨x0, x1, x2, x3, x4, x5⟩ := six_at KS.out
              have c0 := (HBX.out.cell (p := ⟨b, off + p * 4, none⟩) hb).trans HK.out.1
              have c1 := (HBX.out.cell (p := ⟨b, off + p * 4 + 1, none⟩) hb).trans HK.out.2.1
              have c2 := (HBX.out.cell (p := ⟨b, off + p * 4 + 2, none⟩) hb).trans HK.out.2.2.1
              have c3 := (HBX.out.cell (p := ⟨b, off + p * 4 + 3, none⟩) hb).trans HK.out.2.2.2
              obtain ⟨xf0, xf1, xf2, xf3, xf4, xf5⟩ := six_live KS.out
              go_wp2
              go_roundw
              case rel => exact ⟨p + 1, q, A2, d2, by omega, by go_num, (FIN.out _ (below_drawn (Below.refl _ _) _)).1, HQS.out, (FIN.out _ (below_drawn (Below.refl _ _) _)).2, HQG.out⟩
              case measure => simp [intOf]; omega
            · have hz2' := HZ2.out hq
              rw [hq] at KT
              have HSS := hide hs; have HQQ := hide hq
              clear hs hq
              obtain ⟨y0, y1, y2, y3, y4, y5⟩ := six_at KT.out
              obtain ⟨x0, x1, x2, x3, x4, x5⟩ := six_at KS.out
              have c0 := (HBX.out.cell (p := ⟨b, off + p * 4, none⟩) hb).trans HK.out.1
              have c1 := (HBX.out.cell (p := ⟨b, off + p * 4 + 1, none⟩) hb).trans HK.out.2.1
              have c2 := (HBX.out.cell (p := ⟨b, off + p * 4 + 2, none⟩) hb).trans HK.out.2.2.1
              have c3 := (HBX.out.cell (p := ⟨b, off + p * 4 + 3, none⟩) hb).trans HK.out.2.2.2
              go_wp2_with fail
              refine (CZ1.out _).mono ?_
              rintro e w6 ⟨rfl, hb9⟩
              clear x0 x1 x2 x3 x4 x5 y0 y1 y2 y3 y4 y5 c0 c1 c2 c3
              replace KT := hide ((hb9.block _ (blk_lt KT.out)).trans KT.out)
              replace KS := hide ((hb9.block _ (blk_lt KS.out)).trans KS.out)
              replace HR2 := hide (HR2.out.below hb9)
              replace HRS := hide (HRS.out.below hb9)
              replace HBX := hide (below_next HBX.out hb9)
              clear hb9
              obtain ⟨y0, y1, y2, y3, y4, y5⟩ := six_at KT.out
              obtain ⟨x0, x1, x2, x3, x4, x5⟩ := six_at KS.out
              have c0 := (HBX.out.cell (p := ⟨b, off + p * 4, none⟩) hb).trans HK.out.1
              have c1 := (HBX.out.cell (p := ⟨b, off + p * 4 + 1, none⟩) hb).trans HK.out.2.1
              have c2 := (HBX.out.cell (p := ⟨b, off + p * 4 + 2, none⟩) hb).trans HK.out.2.2.1
              have c3 := (HBX.out.cell (p := ⟨b, off + p * 4 + 3, none⟩) hb).trans HK.out.2.2.2
              go_wp2_with fail
              refine (CZ2.out _).mono ?_
              rintro e w8 ⟨rfl, hb9⟩
              clear x0 x1 x2 x3 x4 x5 y0 y1 y2 y3 y4 y5 c0 c1 c2 c3
              replace KT := hide ((hb9.block _ (blk_lt KT.out)).trans KT.out)
              replace KS := hide ((hb9.block _ (blk_lt KS.out)).trans KS.out)
              replace HR2 := hide (HR2.out.below hb9)
              replace HRS := hide (HRS.out.below hb9)
              replace HBX := hide (below_next HBX.out hb9)
              clear hb9
              obtain ⟨y0, y1, y2, y3, y4, y5⟩ := six_at KT.out
              obtain ⟨x0, x1, x2, x3, x4, x5⟩ := six_at KS.out
              have c0 := (HBX.out.cell (p := ⟨b, off + p * 4, none⟩) hb).trans HK.out.1
              have c1 := (HBX.out.cell (p := ⟨b, off + p * 4 + 1, none⟩) hb).trans HK.out.2.1
              have c2 := (HBX.out.cell (p := ⟨b, off + p * 4 + 2, none⟩) hb).trans HK.out.2.2.1
              have c3 := (HBX.out.cell (p := ⟨b, off + p * 4 + 3, none⟩) hb).trans HK.out.2.2.2
              have FIN := hide (fun (W : World) (hW : Below w8.heap.size w8 W) => st_next (w := w) (c := d2) (q := q) ((hW.block _ (blk_lt KS.out)).trans KS.out) hBs hws (HR2.out.below hW) HA2.out (below_next HBX.out hW))
              have hBs9 : Bs < w8.heap.size := blk_lt KS.out
              have hg9 : g < w8.heap.size := blk_lt KT.out
              have hb9 : b < w8.heap.size := Nat.lt_of_lt_of_le hb HBX.out.size
              obtain ⟨xf0, xf1, xf2, xf3, xf4, xf5⟩ := six_live KS.out
              have FIN : Hid (∀ (W : World) (hW : Below w8.heap.size w8 W), _) := FIN
              rw [HE1.out, HE2.out, HQQ.out] at FIN
              go_wp2_with fail
              clear x0 x1 x3 x4 x5 y2 y3 y4 y5 c2 c3 xf0 xf1 xf2 xf3 xf4 xf5
              go_quiet (fail)
              clear x2 y0 y1 c0 c1
              obtain ⟨y0, y1, y2, y3, y4, y5⟩ := six_at KT.out
              obtain ⟨x0, x1, x2, x3, x4, x5⟩ := six_at KS.out
              have c0 := (HBX.out.cell (p := ⟨b, off + p * 4, none⟩) hb).trans HK.out.1
              have c1 := (HBX.out.cell (p := ⟨b, off + p * 4 + 1, none⟩) hb).trans HK.out.2.1
              have c2 := (HBX.out.cell (p := ⟨b, off + p * 4 + 2, none⟩) hb).trans HK.out.2.2.1
              have c3 := (HBX.out.cell (p := ⟨b, off + p * 4 + 3, none⟩) hb).trans HK.out.2.2.2
              obtain ⟨xf0, xf1, xf2, xf3, xf4, xf5⟩ := six_live KS.out
              go_wp2
              go_roundw
              case rel => exact ⟨p + 1, q, A2, d2, by omega, by go_num, (FIN.out _ (below_drawn (Below.refl _ _) _)).1, HQS.out, (FIN.out _ (below_drawn (Below.refl _ _) _)).2, HQG.out⟩
              case measure => simp [intOf]; omega
          · have hq := hr2.out hs
            have hz2' := HZ2.out hq
            have hz3' := HZ4.out hs
            rw [hs] at KS
            rw [hq] at KT
            have HSS := hide hs; have HQQ := hide hq
            clear hs hq
            obtain ⟨y0, y1, y2, y3, y4, y5⟩ := six_at KT.out
            obtain ⟨x0, x1, x2, x3, x4, x5⟩ := six_at KS.out
            have c0 := (HBX.out.cell (p := ⟨b, off + p * 4, none⟩) hb).trans HK.out.1
            have c1 := (HBX.out.cell (p := ⟨b, off + p * 4 + 1, none⟩) hb).trans HK.out.2.1
            have c2 := (HBX.out.cell (p := ⟨b, off + p * 4 + 2, none⟩) hb).trans HK.out.2.2.1
            have c3 := (HBX.out.cell (p := ⟨b, off + p * 4 + 3, none⟩) hb).trans HK.out.2.2.2
            go_wp2_with fail
            refine (CZ1.out _).mono ?_
            rintro e w6 ⟨rfl, hb9⟩
            clear x0 x1 x2 x3 x4 x5 y0 y1 y2 y3 y4 y5 c0 c1 c2 c3
            replace KT := hide ((hb9.block _ (blk_lt KT.out)).trans KT.out)
            replace KS := hide ((hb9.block _ (blk_lt KS.out)).trans KS.out)
            replace HR2 := hide (HR2.out.below hb9)
            replace HRS := hide (HRS.out.below hb9)
            replace HBX := hide (below_next HBX.out hb9)
            clear hb9
            obtain ⟨y0, y1, y2, y3, y4, y5⟩ := six_at KT.out
            obtain ⟨x0, x1, x2, x3, x4, x5⟩ := six_at KS.out
            have c0 := (HBX.out.cell (p := ⟨b, off + p * 4, none⟩) hb).trans HK.out.1
            have c1 := (HBX.out.cell (p := ⟨b, off + p * 4 + 1, none⟩) hb).trans HK.out.2.1
            have c2 := (HBX.out.cell (p := ⟨b, off + p * 4 + 2, none⟩) hb).trans HK.out.2.2.1
            have c3 := (HBX.out.cell (p := ⟨b, off + p * 4 + 3, none⟩) hb).trans HK.out.2.2.2
            go_wp2_with fail
            refine (CZ2.out _).mono ?_
            rintro e w8 ⟨rfl, hb9⟩
            clear x0 x1 x2 x3 x4 x5 y0 y1 y2 y3 y4 y5 c0 c1 c2 c3
            replace KT := hide ((hb9.block _ (blk_lt KT.out)).trans KT.out)
            replace KS := hide ((hb9.block _ (blk_lt KS.out)).trans KS.out)
            replace HR2 := hide (HR2.out.below hb9)
            replace HRS := hide (HRS.out.below hb9)
            replace HBX := hide (below_next HBX.out hb9)
            clear hb9
            obtain ⟨y0, y1, y2, y3, y4, y5⟩ := six_at KT.out
            obtain ⟨x0, x1, x2, x3, x4, x5⟩ := six_at KS.out
            have c0 := (HBX.out.cell (p := ⟨b, off + p * 4, none⟩) hb).trans HK.out.1
            have c1 := (HBX.out.cell (p := ⟨b, off + p * 4 + 1, none⟩) hb).trans HK.out.2.1
            have c2 := (HBX.out.cell (p := ⟨b, off + p * 4 + 2, none⟩) hb).trans HK.out.2.2.1
            have c3 := (HBX.out.cell (p := ⟨b, off + p * 4 + 3, none⟩) hb).trans HK.out.2.2.2
            have FIN := hide (fun (W : World) (hW : Below w8.heap.size w8 W) => st_next (w := w) (c := d2) (q := q) ((hW.block _ (blk_lt KS.out)).trans KS.out) hBs hws (HR2.out.below hW) HA2.out (below_next HBX.out hW))
            have hBs9 : Bs < w8.heap.size := blk_lt KS.out
            have hg9 : g < w8.heap.size := blk_lt KT.out
            have hb9 : b < w8.heap.size := Nat.lt_of_lt_of_le hb HBX.out.size
            obtain ⟨xf0, xf1, xf2, xf3, xf4, xf5⟩ := six_live KS.out
            have FIN : Hid (∀ (W : World) (hW : Below w8.heap.size w8 W), _) := FIN
            rw [HE1.out, HE2.out, HQQ.out] at FIN
            have CZ3' := hide (fun (W : World) (hW : Below w8.heap.size w8 W) => rcompare_at (w0 := w8) q.ar q.as_ s.ar s.as_ W hW)
            rw [HZ3.out] at CZ3'
            go_wp2_with fail
            clear x0 x1 x5 y2 y5 c2 c3 xf0 xf1 xf2 xf3 xf4 xf5
            go_region_held3 (fun W => W.cell? ⟨g, 0, none⟩ = some (.int .i64 r) ∧ W.cell? ⟨g, 1, none⟩ = some (.int .i64 t) ∧ W.cell? ⟨g, 3, none⟩ = some (.int .i64 q.ar) ∧ W.cell? ⟨g, 4, none⟩ = some (.int .i64 q.as_) ∧ W.cell? ⟨Bs, 2, none⟩ = some (.bool true) ∧ W.cell? ⟨Bs, 3, none⟩ = some (.int .i64 s.ar) ∧ W.cell? ⟨Bs, 4, none⟩ = some (.int .i64 s.as_) ∧ W.cell? ⟨b, off + p * 4, none⟩ = some (.int .i64 r) ∧ W.cell? ⟨b, off + p * 4 + 1, none⟩ = some (.int .i64 t)) (go_keep) ((go_at_call 13; refine (CZ3'.out _ (by first | exact Below.refl _ _ | exact (Below.refl _ _).drew)).mono ?_; rintro e w9 ⟨rfl, hb8⟩; have y0 := (hb8.cell (p := ⟨g, 0, none⟩) hg9).trans y0; have y1 := (hb8.cell (p := ⟨g, 1, none⟩) hg9).trans y1; have y3 := (hb8.cell (p := ⟨g, 3, none⟩) hg9).trans y3; have y4 := (hb8.cell (p := ⟨g, 4, none⟩) hg9).trans y4; have x2 := (hb8.cell (p := ⟨Bs, 2, none⟩) hBs9).trans x2; have x3 := (hb8.cell (p := ⟨Bs, 3, none⟩) hBs9).trans x3; have x4 := (hb8.cell (p := ⟨Bs, 4, none⟩) hBs9).trans x4; have c0 := (hb8.cell (p := ⟨b, off + p * 4, none⟩) hb9).trans c0; have c1 := (hb8.cell (p := ⟨b, off + p * 4 + 1, none⟩) hb9).trans c1; have HB8 := hide hb8; clear hb8))
            clear y0 y1 y3 y4 x2 x3 x4 c0 c1
            replace KT := hide ((HB8.out.block _ (blk_lt KT.out)).trans KT.out)
            replace KS := hide ((HB8.out.block _ (blk_lt KS.out)).trans KS.out)
            obtain ⟨y0, y1, y2, y3, y4, y5⟩ := six_at KT.out
            obtain ⟨x0, x1, x2, x3, x4, x5⟩ := six_at KS.out
            obtain ⟨xf0, xf1, xf2, xf3, xf4, xf5⟩ := six_live KS.out
            go_wp2
            go_roundw
            case rel => exact ⟨p + 1, q, A2, d2, by omega, by go_num, (FIN.out _ HB8.out).1, HQS.out, (FIN.out _ HB8.out).2, HQG.out⟩
            case measure => simp [intOf]; omega
      · have h3 : ¬ (p : Int) < 100 := by omega
        go_wp2
        go_ret
        exact ⟨rfl, HB.out⟩
    · have h3 : decide ((p : Int) < (n : Int)) = false := by simp; omega
      go_wp2
      go_ret
      exact ⟨rfl, HB.out⟩

set_option maxRecDepth 100000 in
theorem acceptorRises_lifted (os : Os) (started : os.Started) (H : Type) (enc : TypeId × Value → H) :
    ReturnsInHanded {} Try.checked os 6 .any (Rows.acceptorRisesSpec.pre6 enc Try.prog Try.f6 Rows.acceptorRisesRow.domain false) (Rows.acceptorRisesSpec.post enc Try.prog Try.f6 false true false false) := by
  refine returnsInHanded_of_change_sized (C := Try.checked) (by kernel_rfl) started (by kernel_rfl) Try.func6
    (ChangeSpec.witness6 (enc := enc) (C := Try.checked) false ⟨#[], #[.slice none 0 0], []⟩ 8 (by kernel_rfl) (by kernel_rfl) (by kernel_rfl) (by kernel_rfl)) ?_
  intro W base args ds gs before hval0 hW _ hsz0 _
  have hval : ∀ (j : Nat) t v, Try.f6.params[j]? = some t → args[j]? = some v → Value.okWide Try.prog W .any base t v := hval0
  have hW' := hW
  obtain ⟨p, q, hA0, hV, rfl, _, _⟩ := hW
  have hA : DataW.TrodAll enc Try.prog W 0 (fun _ => true) true Try.f6.params.toList args.toList ds p := hA0
  have hsz : (DataW.weightsEach Try.prog (Try.f6.params.toList ++ Rows.acceptorRisesSpec.plain.varTypes Try.prog) (ds ++ gs)).all (· ≤ reachBytes) = true := hsz0
  rw [Try.params6] at hA hval hsz
  obtain ⟨v0, d0, rfl, rfl, h0⟩ := trodAll_one hA
  obtain ⟨A0, cap0, n0, V, fuel, D, rfl, _, _, hR0, hel, hn0⟩ := open_rows Try.underlying22 (C := 4) (by kernel_rfl) (by omega) (hval 0 22 v0 rfl rfl) h0
  have hS0 : Sized Try.prog 22 d0 := sized_arg hsz (j := 0) rfl rfl
  have hSE : ∀ i, i < n0 → Sized Try.prog 33 (D i) := fun i hi => by rcases hn0 with h | ⟨el, sp, h1, _, h3⟩; omega; rw [h1] at hS0; exact hS0.elem Try.underlying22 (h3 i hi)
  obtain ⟨X, hV⟩ := choose_ask (n := n0) (p := fun i (x : AskAt) => V i = x.cells ∧ x.fine W) (fun i hi => ask_cells (hel i hi).1 (hel i hi).2.choose_spec (hSE i hi))
  have hR3 := hR0.congr (fun i hi => (hV i hi).1)
  refine (acceptorRises_walk A0 n0 cap0 X W hR3 (fun i hi => (hV i hi).2)).mono fun e W' ⟨he, hb⟩ => ?_
  subst he
  exact ⟨_, rfl, post_law (by kernel_rfl) (by kernel_rfl) rfl hW' (by rintro _ rfl; rfl) rfl Try.underlying4 hb⟩

theorem acceptorRises_holds : Rows.AcceptorRisesSaid :=
  OpenClaim.holds_of_wide 6 Try.f6 rfl rfl rfl rfl rfl rfl rfl ⟨rfl, rfl, rfl, rfl, rfl⟩ rfl rfl rfl rfl rfl (by kernel_rfl) Try.func6 (by kernel_rfl)
    (of_decide_eq_true (by kernel_rfl)) (by unfold Func.isWrapper; first | (rw [if_pos (by decide +kernel)]; kernel_rfl) | (rw [if_neg (by decide +kernel)]; exact ⟨rfl, rfl⟩))
    (fun os started H enc _ => acceptorRises_lifted os started H enc)
end Go.Proofs.Ytodlabpgjgbbpag
