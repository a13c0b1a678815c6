/-
  AcceptorAnswers: what any state answers to any ballot, with any value; whether it may be, and is another one. No conditions.
-/
import Derived.Test.YtodlabpgjgbbpagAccAsks
import Derived.Test.YtodlabpgjgbbpagAccRasks
import Derived.Test.YtodlabpgjgbbpagAccSame
import Derived.Test.YtodlabpgjgbbpagHeld
import Derived.Test.YtodlabpgjgbbpagRows
namespace Go.Proofs.Ytodlabpgjgbbpag
open Go.RowKit Go.Agio Go.ChangeShapes Go.WideShapes Go.ChangeAt

/-- A state's block, and that it lies still. -/
theorem six_cells {w : World} {b : Nat} {v0 v1 v2 v3 v4 v5 : Value} {t : TypeId} {fr : Nat × Nat} (h : w.heap[b]? = some (.cells #[v0, v1, v2, v3, v4, v5] t fr)) : ∀ W, Below w.heap.size w W → W.cell? ⟨b, 0, none⟩ = some v0 ∧ W.cell? ⟨b, 1, none⟩ = some v1 ∧ W.cell? ⟨b, 2, none⟩ = some v2 ∧ W.cell? ⟨b, 3, none⟩ = some v3 ∧ W.cell? ⟨b, 4, none⟩ = some v4 ∧ W.cell? ⟨b, 5, none⟩ = some v5 :=
  fun _ hb => six_at ((hb.block _ (blk_lt h)).trans h)
theorem two_cells {w : World} {b : Nat} {v0 v1 : Value} {t : TypeId} {fr : Nat × Nat} (h : w.heap[b]? = some (.cells #[v0, v1] t fr)) : ∀ W, Below w.heap.size w W → W.cell? ⟨b, 0, none⟩ = some v0 ∧ W.cell? ⟨b, 1, none⟩ = some v1 :=
  fun _ hb => two_at ((hb.block _ (blk_lt h)).trans h)

/-- A block of six, written whole. -/
theorem put_six {w W : World} {b : Nat} {v0 v1 v2 v3 v4 v5 : Value} {t : TypeId} (h : W.heap[b]? = some (.cells #[v0, v1, v2, v3, v4, v5] t)) (hb : Below w.heap.size w W) (hw : w.heap.size ≤ b) (u0 u1 u2 u3 u4 u5 : Value) :
    ((((((W.setCell ⟨b, 0, none⟩ u0).setCell ⟨b, 1, none⟩ u1).setCell ⟨b, 2, none⟩ u2).setCell ⟨b, 3, none⟩ u3).setCell ⟨b, 4, none⟩ u4).setCell ⟨b, 5, none⟩ u5).heap[b]? = some (.cells #[u0, u1, u2, u3, u4, u5] t) ∧
    Below w.heap.size w ((((((W.setCell ⟨b, 0, none⟩ u0).setCell ⟨b, 1, none⟩ u1).setCell ⟨b, 2, none⟩ u2).setCell ⟨b, 3, none⟩ u3).setCell ⟨b, 4, none⟩ u4).setCell ⟨b, 5, none⟩ u5) :=
  ⟨six_put5 (six_put4 (six_put3 (six_put2 (six_put1 (six_put0 h u0) u1) u2) u3) u4) u5, (set_six (xs := []) ⟨.nil _ none, hb⟩ (fun a ha => by cases ha) hw u0 u1 u2 u3 u4 u5).2⟩

theorem rgot_is (s : Acc.St) (A : Option Addr) (c : Nat) (r t : Int) (B : Option Addr) (cb : Nat) (v : List Int) :
    ∃ Y cy, stv (Acc.accept s r t v) Y cy = rgot s A c r t B cb v ∧ ∀ W, Reads W A (bys s.val) → Reads W B (bys v) → Reads W Y (bys (Acc.accept s r t v).val) := by
  unfold rgot
  cases h : Acc.acceptOk s r t
  · rw [Acc.accept_no h]
    exact ⟨A, c, by rw [if_neg (by decide)], fun W h _ => h⟩
  · rw [Acc.accept_ok h]
    exact ⟨B, cb, by rw [if_pos rfl], fun W _ h => h⟩

set_option maxRecDepth 100000 in
set_option maxHeartbeats 20000000 in
theorem acceptorAnswers_walk (s q : Acc.St) (A B D : Option Addr) (c d e : Nat) (r t : Int) (v : List Int) (w : World) (hA : Reads w A (bys s.val)) (hB : Reads w B (bys q.val)) (hD : Reads w D (bys v)) (oA : okb s.val) (oB : okb q.val) (oD : okb v) (lA : s.val.length ≤ 140737488351232) (lB : q.val.length ≤ 140737488351232) (lD : v.length ≤ 140737488351232) :
    Calls Try.prog 5 #[.agg #[.int .i64 s.pr, .int .i64 s.ps, .bool s.some, .int .i64 s.ar, .int .i64 s.as_, .slice A s.val.length c, .int .i64 q.pr, .int .i64 q.ps, .bool q.some, .int .i64 q.ar, .int .i64 q.as_, .slice B q.val.length d, .int .i64 r, .int .i64 t, .slice D v.length e]] w fun e w' => e = .returned (.bool true) ∧ Below w.heap.size w w' := by
  have HA := hide hA; have HB := hide hB; have HD := hide hD; have OA := hide oA; have OB := hide oB; have OD := hide oD
  have LA := hide lA; have LB := hide lB; have LD := hide lD
  clear hA hB hD oA oB oD lA lB lD
  obtain ⟨p, hp⟩ : ∃ p, p = Acc.prepare s r t := ⟨_, rfl⟩
  obtain ⟨y, hy⟩ : ∃ y, y = Acc.accept s r t v := ⟨_, rfl⟩
  obtain ⟨pok, hpok⟩ : ∃ k, k = Acc.prepareOk s r t := ⟨_, rfl⟩
  obtain ⟨yok, hyok⟩ : ∃ k, k = Acc.acceptOk s r t := ⟨_, rfl⟩
  obtain ⟨n, hn⟩ : ∃ n, n = s.val.length := ⟨_, rfl⟩
  obtain ⟨m, hm⟩ : ∃ m, m = q.val.length := ⟨_, rfl⟩
  obtain ⟨k, hk⟩ : ∃ k, k = v.length := ⟨_, rfl⟩
  have HP := hide hp; have HY := hide hy; have HPO := hide hpok; have HYO := hide hyok; have HN := hide hn; have HM := hide hm; have HK := hide hk
  rw [← hn, ← hm, ← hk]
  clear hp hy hpok hyok hn hm hk
  go_enter Try.func5, Try.ntmps5
  go_wp2_with fail
  have hN := one_new w (.cells #[.int .i64 s.pr, .int .i64 s.ps, .bool s.some, .int .i64 s.ar, .int .i64 s.as_, .slice A n c, .int .i64 q.pr, .int .i64 q.ps, .bool q.some, .int .i64 q.ar, .int .i64 q.as_, .slice B m d, .int .i64 r, .int .i64 t, .slice D k e] 41)
  generalize w.alloc (.cells #[.int .i64 s.pr, .int .i64 s.ps, .bool s.some, .int .i64 s.ar, .int .i64 s.as_, .slice A n c, .int .i64 q.pr, .int .i64 q.ps, .bool q.some, .int .i64 q.ar, .int .i64 q.as_, .slice B m d, .int .i64 r, .int .i64 t, .slice D k e] 41) = W0 at *
  obtain ⟨K0, hs, hb0⟩ := hN
  refine (awake_any W0).mono ?_
  rintro e1 w1 ⟨rfl, hb1⟩
  replace K0 := (hb1.block _ (blk_lt K0)).trans K0
  have HB1 := hide (below_next hb0 hb1)
  clear hb0 hb1 hs
  have cx : ∀ j, w1.cell? ⟨w.heap.size, j, none⟩ = (#[.int .i64 s.pr, .int .i64 s.ps, .bool s.some, .int .i64 s.ar, .int .i64 s.as_, .slice A n c, .int .i64 q.pr, .int .i64 q.ps, .bool q.some, .int .i64 q.ar, .int .i64 q.as_, .slice B m d, .int .i64 r, .int .i64 t, .slice D k e] : Array Value)[j]? := fun j => cell_of_row w1 _ j _ _ (0, 0) K0
  have c0 : w1.cell? ⟨w.heap.size, 0, none⟩ = some (.int .i64 s.pr) := cx 0
  have c1 : w1.cell? ⟨w.heap.size, 1, none⟩ = some (.int .i64 s.ps) := cx 1
  have c2 : w1.cell? ⟨w.heap.size, 2, none⟩ = some (.bool s.some) := cx 2
  have c3 : w1.cell? ⟨w.heap.size, 3, none⟩ = some (.int .i64 s.ar) := cx 3
  have c4 : w1.cell? ⟨w.heap.size, 4, none⟩ = some (.int .i64 s.as_) := cx 4
  have c5 : w1.cell? ⟨w.heap.size, 5, none⟩ = some (.slice A n c) := cx 5
  have c6 : w1.cell? ⟨w.heap.size, 6, none⟩ = some (.int .i64 q.pr) := cx 6
  have c7 : w1.cell? ⟨w.heap.size, 7, none⟩ = some (.int .i64 q.ps) := cx 7
  have c8 : w1.cell? ⟨w.heap.size, 8, none⟩ = some (.bool q.some) := cx 8
  have c9 : w1.cell? ⟨w.heap.size, 9, none⟩ = some (.int .i64 q.ar) := cx 9
  have c10 : w1.cell? ⟨w.heap.size, 10, none⟩ = some (.int .i64 q.as_) := cx 10
  have c11 : w1.cell? ⟨w.heap.size, 11, none⟩ = some (.slice B m d) := cx 11
  have c12 : w1.cell? ⟨w.heap.size, 12, none⟩ = some (.int .i64 r) := cx 12
  have c13 : w1.cell? ⟨w.heap.size, 13, none⟩ = some (.int .i64 t) := cx 13
  have c14 : w1.cell? ⟨w.heap.size, 14, none⟩ = some (.slice D k e) := cx 14
  clear cx
  have hlt : w.heap.size < w1.heap.size := blk_lt K0
  go_upto_region 5 with fail
  have hN := three_new w1 (.cells (stc s.pr s.ps s.some s.ar s.as_ (.slice A n c)) 28) (.cells (stc q.pr q.ps q.some q.ar q.as_ (.slice B m d)) 28) (.cells #[.int .i64 r, .int .i64 t] 24)
  generalize ((w1.alloc (.cells (stc s.pr s.ps s.some s.ar s.as_ (.slice A n c)) 28)).alloc (.cells (stc q.pr q.ps q.some q.ar q.as_ (.slice B m d)) 28)).alloc (.cells #[.int .i64 r, .int .i64 t] 24) = W2 at *
  obtain ⟨KS, KT, KB, hs, hb2⟩ := hN
  replace c14 := (hb2.cell (p := ⟨w.heap.size, 14, none⟩) hlt).trans c14
  clear c0 c1 c2 c3 c4 c5 c6 c7 c8 c9 c10 c11 c12 c13 K0
  have HB2 := hide (below_next HB1.out hb2)
  replace KS := hide KS; replace KT := hide KT; replace KB := hide KB
  have HS2 := hide hs
  clear hb2 HB1
  go_upto_region 6 with fail
  clear c14
  obtain ⟨x0, x1, x2, x3, x4, x5⟩ := six_at KS.out
  obtain ⟨z0, z1⟩ := two_at KB.out
  have CP := hide (prepare_any s A c r t W2 (HA.out.below HB2.out) (by have := LA.out; omega))
  rw [← HP.out, ← HPO.out] at CP
  unfold stv at CP
  try simp only [] at CP
  rw [← HN.out] at CP
  go_wp2_with fail
  refine CP.out.mono ?_
  rintro e1 w3 ⟨P1, cp, rfl, RP, PP, hb3⟩
  replace KS := hide ((hb3.block _ (blk_lt KS.out)).trans KS.out)
  replace KT := hide ((hb3.block _ (blk_lt KT.out)).trans KT.out)
  replace KB := hide ((hb3.block _ (blk_lt KB.out)).trans KB.out)
  have HB3 := hide (below_next HB2.out hb3)
  clear hb3 CP x0 x1 x2 x3 x4 x5 z0 z1 PP
  go_upto_region 7 with fail
  have hN := one_new w3 (.cells (stc p.pr p.ps p.some p.ar p.as_ (.slice P1 p.val.length cp)) 28)
  generalize w3.alloc (.cells (stc p.pr p.ps p.some p.ar p.as_ (.slice P1 p.val.length cp)) 28) = W4 at *
  obtain ⟨KP, hs, hb4⟩ := hN
  replace KS := hide ((hb4.block _ (blk_lt KS.out)).trans KS.out)
  replace KT := hide ((hb4.block _ (blk_lt KT.out)).trans KT.out)
  replace KB := hide ((hb4.block _ (blk_lt KB.out)).trans KB.out)
  replace RP := hide (RP.below hb4)
  have KP := hide KP
  have HB4 := hide (below_next HB3.out hb4)
  clear hb4 HB3 hs
  obtain ⟨x0, x1, x2, x3, x4, x5⟩ := six_at KS.out
  obtain ⟨z0, z1⟩ := two_at KB.out
  have XS := hide (six_at KS.out); have ZS := hide (two_at KB.out)
  have LS := hide (blk_lt KS.out); have LB2 := hide (blk_lt KB.out)
  have CR := hide (fun (W : World) (hW : Below W4.heap.size W4 W) => (real_any s A c W).mono (fun e1 w' h => (show e1 = .returned (.agg (stc s.pr s.ps s.some s.ar s.as_ (.slice A n c))) ∧ Below W.heap.size W w' ∧ Below W4.heap.size W4 W from ⟨by rw [h.1, HN.out], h.2, hW⟩)))
  unfold stv at CR
  rw [← HN.out] at CR
  have CX := hide (fun (W : World) (hW : Below W4.heap.size W4 W) => (rprepare_any s A c r t W).mono (fun e1 w' h => (show e1 = .returned (.tuple #[.agg (stc p.pr p.ps p.some p.ar p.as_ (.slice A p.val.length c)), .bool pok]) ∧ Below W.heap.size W w' ∧ Below W4.heap.size W4 W from ⟨by rw [h.1, HP.out, HPO.out], h.2, hW⟩)))
  unfold stv at CX
  rw [← HN.out] at CX
  go_cut [10, 11] (fun uq uw wx => ∃ g, uq = .pointer (some ⟨g, 0, none⟩) ∧ uw = .bool pok ∧ wx.heap[g]? = some (.cells (stc p.pr p.ps p.some p.ar p.as_ (.slice A p.val.length c)) 42) ∧ Below W4.heap.size W4 wx)
  case first =>
    go_region_held3 (fun W => W.cell? ⟨w1.heap.size, 0, none⟩ = some (.int .i64 s.pr) ∧ W.cell? ⟨w1.heap.size, 1, none⟩ = some (.int .i64 s.ps) ∧ W.cell? ⟨w1.heap.size, 2, none⟩ = some (.bool s.some) ∧ W.cell? ⟨w1.heap.size, 3, none⟩ = some (.int .i64 s.ar) ∧ W.cell? ⟨w1.heap.size, 4, none⟩ = some (.int .i64 s.as_) ∧ W.cell? ⟨w1.heap.size, 5, none⟩ = some (.slice A n c) ∧ W.cell? ⟨w1.heap.size + 1 + 1, 0, none⟩ = some (.int .i64 r) ∧ W.cell? ⟨w1.heap.size + 1 + 1, 1, none⟩ = some (.int .i64 t)) (go_keep) (first | (go_at_call 17; refine (CR.out _ (by first | exact Below.refl _ _ | exact (Below.refl _ _).drew | exact ((Below.refl _ _).alloc (Nat.le_refl _) _).drew | exact GB.out | exact GB.out.alloc GB.out.size _)).mono ?_; rintro e1 w5 ⟨rfl, hb1, hW⟩; have gB := hW.trans (hb1.mono hW.size); have x0 := (gB.cell (p := ⟨w1.heap.size, 0, none⟩) LS.out).trans XS.out.1; have x1 := (gB.cell (p := ⟨w1.heap.size, 1, none⟩) LS.out).trans XS.out.2.1; have x2 := (gB.cell (p := ⟨w1.heap.size, 2, none⟩) LS.out).trans XS.out.2.2.1; have x3 := (gB.cell (p := ⟨w1.heap.size, 3, none⟩) LS.out).trans XS.out.2.2.2.1; have x4 := (gB.cell (p := ⟨w1.heap.size, 4, none⟩) LS.out).trans XS.out.2.2.2.2.1; have x5 := (gB.cell (p := ⟨w1.heap.size, 5, none⟩) LS.out).trans XS.out.2.2.2.2.2; have z0 := (gB.cell (p := ⟨w1.heap.size + 1 + 1, 0, none⟩) LB2.out).trans ZS.out.1; have z1 := (gB.cell (p := ⟨w1.heap.size + 1 + 1, 1, none⟩) LB2.out).trans ZS.out.2; have n1 : ¬ w1.heap.size = W4.heap.size := (by have := LS.out; omega); have n2 : ¬ W4.heap.size = w1.heap.size := (by have := LS.out; omega); have n3 : ¬ w1.heap.size + 1 + 1 = W4.heap.size := (by have := LB2.out; omega); have n4 : ¬ W4.heap.size = w1.heap.size + 1 + 1 := (by have := LB2.out; omega); (try (have k9 := (hb1.block W4.heap.size (by simp)).trans (heap_new W4 (.cells (stc 0 0 false 0 0 (.slice none 0 0)) 42)); obtain ⟨y0, y1, y2, y3, y4, y5⟩ := six_at k9; obtain ⟨yf0, yf1, yf2, yf3, yf4, yf5⟩ := six_live k9; have K9 := hide k9; clear k9)); have GB := hide gB; clear gB hW hb1) | (go_at_call 16; refine (CX.out _ (by first | exact Below.refl _ _ | exact (Below.refl _ _).drew | exact ((Below.refl _ _).alloc (Nat.le_refl _) _).drew | exact GB.out | exact GB.out.alloc GB.out.size _)).mono ?_; rintro e1 w6 ⟨rfl, hb1, hW⟩; have gB := hW.trans (hb1.mono hW.size); have x0 := (gB.cell (p := ⟨w1.heap.size, 0, none⟩) LS.out).trans XS.out.1; have x1 := (gB.cell (p := ⟨w1.heap.size, 1, none⟩) LS.out).trans XS.out.2.1; have x2 := (gB.cell (p := ⟨w1.heap.size, 2, none⟩) LS.out).trans XS.out.2.2.1; have x3 := (gB.cell (p := ⟨w1.heap.size, 3, none⟩) LS.out).trans XS.out.2.2.2.1; have x4 := (gB.cell (p := ⟨w1.heap.size, 4, none⟩) LS.out).trans XS.out.2.2.2.2.1; have x5 := (gB.cell (p := ⟨w1.heap.size, 5, none⟩) LS.out).trans XS.out.2.2.2.2.2; have z0 := (gB.cell (p := ⟨w1.heap.size + 1 + 1, 0, none⟩) LB2.out).trans ZS.out.1; have z1 := (gB.cell (p := ⟨w1.heap.size + 1 + 1, 1, none⟩) LB2.out).trans ZS.out.2; have n1 : ¬ w1.heap.size = W4.heap.size := (by have := LS.out; omega); have n2 : ¬ W4.heap.size = w1.heap.size := (by have := LS.out; omega); have n3 : ¬ w1.heap.size + 1 + 1 = W4.heap.size := (by have := LB2.out; omega); have n4 : ¬ W4.heap.size = w1.heap.size + 1 + 1 := (by have := LB2.out; omega); have m1 : ¬ w1.heap.size = w5.heap.size := (by have := GB.out.size; have := LS.out; omega); have m2 : ¬ w5.heap.size = w1.heap.size := (by have := GB.out.size; have := LS.out; omega); have m3 : ¬ w1.heap.size + 1 + 1 = w5.heap.size := (by have := GB.out.size; have := LB2.out; omega); have m4 : ¬ w5.heap.size = w1.heap.size + 1 + 1 := (by have := GB.out.size; have := LB2.out; omega); (first | (have k9 := (hb1.block W4.heap.size (blk_lt K9.out)).trans K9.out; obtain ⟨y0, y1, y2, y3, y4, y5⟩ := six_at k9; obtain ⟨yf0, yf1, yf2, yf3, yf4, yf5⟩ := six_live k9; have K9 := hide k9; clear k9) | (have k9 := (hb1.block w5.heap.size (by simp)).trans (heap_new w5 (.cells (stc 0 0 false 0 0 (.slice none 0 0)) 42)); obtain ⟨y0, y1, y2, y3, y4, y5⟩ := six_at k9; obtain ⟨yf0, yf1, yf2, yf3, yf4, yf5⟩ := six_live k9; have K9 := hide k9; clear k9) | skip); have G5 := hide GB.out.size; have GB := hide gB; clear gB hW hb1))
    all_goals go_wp2
    all_goals go_meet
    · case rel => exact ⟨_, rfl, rfl, heap_new _ _, GB.out.alloc GB.out.size _⟩
    · case rel => exact ⟨_, rfl, rfl, put_six K9.out GB.out G5.out _ _ _ _ _ _⟩
    · case rel => exact ⟨_, rfl, rfl, put_six K9.out GB.out (Nat.le_refl _) _ _ _ _ _ _⟩
  obtain ⟨gq, rfl, rfl, KQ, hbq⟩ := hcut
  clear x0 x1 x2 x3 x4 x5 z0 z1 XS ZS LS LB2 CR CX
  replace KS := hide ((hbq.block _ (blk_lt KS.out)).trans KS.out)
  replace KT := hide ((hbq.block _ (blk_lt KT.out)).trans KT.out)
  replace KB := hide ((hbq.block _ (blk_lt KB.out)).trans KB.out)
  replace KP := hide ((hbq.block _ (blk_lt KP.out)).trans KP.out)
  replace RP := hide (RP.out.below hbq)
  have KQ := hide KQ
  have HB5 := hide (below_next HB4.out hbq)
  clear hbq HB4
  obtain ⟨x0, x1, x2, x3, x4, x5⟩ := six_at KS.out
  obtain ⟨z0, z1⟩ := two_at KB.out
  have CA := hide (accept_any s A c r t D e v wc (HA.out.below HB5.out) (by have := LA.out; omega) (HD.out.below HB5.out) (by have := LD.out; omega))
  rw [← HY.out, ← HYO.out] at CA
  unfold stv at CA
  try simp only [] at CA
  rw [← HN.out, ← HK.out] at CA
  go_wp2_with fail
  refine CA.out.mono ?_
  rintro e1 w6 ⟨X1, cx, rfl, RX, PX, hb6⟩
  replace KS := hide ((hb6.block _ (blk_lt KS.out)).trans KS.out)
  replace KT := hide ((hb6.block _ (blk_lt KT.out)).trans KT.out)
  replace KB := hide ((hb6.block _ (blk_lt KB.out)).trans KB.out)
  replace KP := hide ((hb6.block _ (blk_lt KP.out)).trans KP.out)
  replace KQ := hide ((hb6.block _ (blk_lt KQ.out)).trans KQ.out)
  replace RP := hide (RP.out.below hb6)
  have HB6 := hide (below_next HB5.out hb6)
  clear hb6 CA x0 x1 x2 x3 x4 x5 z0 z1 PX HB5
  go_upto_region 9 with fail
  have hN := one_new w6 (.cells (stc y.pr y.ps y.some y.ar y.as_ (.slice X1 y.val.length cx)) 28)
  generalize w6.alloc (.cells (stc y.pr y.ps y.some y.ar y.as_ (.slice X1 y.val.length cx)) 28) = W7 at *
  obtain ⟨KX, hs, hb7⟩ := hN
  replace KS := hide ((hb7.block _ (blk_lt KS.out)).trans KS.out)
  replace KT := hide ((hb7.block _ (blk_lt KT.out)).trans KT.out)
  replace KB := hide ((hb7.block _ (blk_lt KB.out)).trans KB.out)
  replace KP := hide ((hb7.block _ (blk_lt KP.out)).trans KP.out)
  replace KQ := hide ((hb7.block _ (blk_lt KQ.out)).trans KQ.out)
  replace RP := hide (RP.out.below hb7)
  replace RX := hide (RX.below hb7)
  have KX := hide KX
  have HB7 := hide (below_next HB6.out hb7)
  clear hb7 HB6 hs
  obtain ⟨Y, cy, hrg, hry⟩ := rgot_is s A c r t D e v
  rw [← HY.out] at hrg hry
  replace hrg := hide hrg
  have RY := hide (hry _ (HA.out.below HB7.out) (HD.out.below HB7.out))
  clear hry
  obtain ⟨x0, x1, x2, x3, x4, x5⟩ := six_at KS.out
  obtain ⟨z0, z1⟩ := two_at KB.out
  have XS := hide (six_at KS.out); have ZS := hide (two_at KB.out)
  have LS := hide (blk_lt KS.out); have LB2 := hide (blk_lt KB.out)
  have CR := hide (fun (W : World) (hW : Below W7.heap.size W7 W) => (real_any s A c W).mono (fun e1 w' h => (show e1 = .returned (.agg (stc s.pr s.ps s.some s.ar s.as_ (.slice A n c))) ∧ Below W.heap.size W w' ∧ Below W7.heap.size W7 W from ⟨by rw [h.1, HN.out], h.2, hW⟩)))
  unfold stv at CR
  rw [← HN.out] at CR
  have CX := hide (fun (W : World) (hW : Below W7.heap.size W7 W) => (raccept_any s A c r t D e v W).mono (fun e1 w' h => (show e1 = .returned (.tuple #[.agg (stc y.pr y.ps y.some y.ar y.as_ (.slice Y y.val.length cy)), .bool yok]) ∧ Below W.heap.size W w' ∧ Below W7.heap.size W7 W from ⟨by rw [h.1, HYO.out, ← hrg.out], h.2, hW⟩)))
  unfold stv at CX
  rw [← HN.out, ← HK.out] at CX
  go_cut [14, 15] (fun uq uw wx => ∃ g, uq = .pointer (some ⟨g, 0, none⟩) ∧ uw = .bool yok ∧ wx.heap[g]? = some (.cells (stc y.pr y.ps y.some y.ar y.as_ (.slice Y y.val.length cy)) 42) ∧ Below W7.heap.size W7 wx)
  case first =>
    go_region_held3 (fun W => W.cell? ⟨w1.heap.size, 0, none⟩ = some (.int .i64 s.pr) ∧ W.cell? ⟨w1.heap.size, 1, none⟩ = some (.int .i64 s.ps) ∧ W.cell? ⟨w1.heap.size, 2, none⟩ = some (.bool s.some) ∧ W.cell? ⟨w1.heap.size, 3, none⟩ = some (.int .i64 s.ar) ∧ W.cell? ⟨w1.heap.size, 4, none⟩ = some (.int .i64 s.as_) ∧ W.cell? ⟨w1.heap.size, 5, none⟩ = some (.slice A n c) ∧ W.cell? ⟨w1.heap.size + 1 + 1, 0, none⟩ = some (.int .i64 r) ∧ W.cell? ⟨w1.heap.size + 1 + 1, 1, none⟩ = some (.int .i64 t)) (go_keep) (first | (go_at_call 17; refine (CR.out _ (by first | exact Below.refl _ _ | exact (Below.refl _ _).drew | exact ((Below.refl _ _).alloc (Nat.le_refl _) _).drew | exact GB.out | exact GB.out.alloc GB.out.size _)).mono ?_; rintro e1 w5 ⟨rfl, hb1, hW⟩; have gB := hW.trans (hb1.mono hW.size); have x0 := (gB.cell (p := ⟨w1.heap.size, 0, none⟩) LS.out).trans XS.out.1; have x1 := (gB.cell (p := ⟨w1.heap.size, 1, none⟩) LS.out).trans XS.out.2.1; have x2 := (gB.cell (p := ⟨w1.heap.size, 2, none⟩) LS.out).trans XS.out.2.2.1; have x3 := (gB.cell (p := ⟨w1.heap.size, 3, none⟩) LS.out).trans XS.out.2.2.2.1; have x4 := (gB.cell (p := ⟨w1.heap.size, 4, none⟩) LS.out).trans XS.out.2.2.2.2.1; have x5 := (gB.cell (p := ⟨w1.heap.size, 5, none⟩) LS.out).trans XS.out.2.2.2.2.2; have z0 := (gB.cell (p := ⟨w1.heap.size + 1 + 1, 0, none⟩) LB2.out).trans ZS.out.1; have z1 := (gB.cell (p := ⟨w1.heap.size + 1 + 1, 1, none⟩) LB2.out).trans ZS.out.2; have n1 : ¬ w1.heap.size = W7.heap.size := (by have := LS.out; omega); have n2 : ¬ W7.heap.size = w1.heap.size := (by have := LS.out; omega); have n3 : ¬ w1.heap.size + 1 + 1 = W7.heap.size := (by have := LB2.out; omega); have n4 : ¬ W7.heap.size = w1.heap.size + 1 + 1 := (by have := LB2.out; omega); (try (have k9 := (hb1.block W7.heap.size (by simp)).trans (heap_new W7 (.cells (stc 0 0 false 0 0 (.slice none 0 0)) 42)); obtain ⟨y0, y1, y2, y3, y4, y5⟩ := six_at k9; obtain ⟨yf0, yf1, yf2, yf3, yf4, yf5⟩ := six_live k9; have K9 := hide k9; clear k9)); have GB := hide gB; clear gB hW hb1) | (go_at_call 18; refine (CX.out _ (by first | exact Below.refl _ _ | exact (Below.refl _ _).drew | exact ((Below.refl _ _).alloc (Nat.le_refl _) _).drew | exact GB.out | exact GB.out.alloc GB.out.size _)).mono ?_; rintro e1 w6 ⟨rfl, hb1, hW⟩; have gB := hW.trans (hb1.mono hW.size); have x0 := (gB.cell (p := ⟨w1.heap.size, 0, none⟩) LS.out).trans XS.out.1; have x1 := (gB.cell (p := ⟨w1.heap.size, 1, none⟩) LS.out).trans XS.out.2.1; have x2 := (gB.cell (p := ⟨w1.heap.size, 2, none⟩) LS.out).trans XS.out.2.2.1; have x3 := (gB.cell (p := ⟨w1.heap.size, 3, none⟩) LS.out).trans XS.out.2.2.2.1; have x4 := (gB.cell (p := ⟨w1.heap.size, 4, none⟩) LS.out).trans XS.out.2.2.2.2.1; have x5 := (gB.cell (p := ⟨w1.heap.size, 5, none⟩) LS.out).trans XS.out.2.2.2.2.2; have z0 := (gB.cell (p := ⟨w1.heap.size + 1 + 1, 0, none⟩) LB2.out).trans ZS.out.1; have z1 := (gB.cell (p := ⟨w1.heap.size + 1 + 1, 1, none⟩) LB2.out).trans ZS.out.2; have n1 : ¬ w1.heap.size = W7.heap.size := (by have := LS.out; omega); have n2 : ¬ W7.heap.size = w1.heap.size := (by have := LS.out; omega); have n3 : ¬ w1.heap.size + 1 + 1 = W7.heap.size := (by have := LB2.out; omega); have n4 : ¬ W7.heap.size = w1.heap.size + 1 + 1 := (by have := LB2.out; omega); have m1 : ¬ w1.heap.size = w5.heap.size := (by have := GB.out.size; have := LS.out; omega); have m2 : ¬ w5.heap.size = w1.heap.size := (by have := GB.out.size; have := LS.out; omega); have m3 : ¬ w1.heap.size + 1 + 1 = w5.heap.size := (by have := GB.out.size; have := LB2.out; omega); have m4 : ¬ w5.heap.size = w1.heap.size + 1 + 1 := (by have := GB.out.size; have := LB2.out; omega); (first | (have k9 := (hb1.block W7.heap.size (blk_lt K9.out)).trans K9.out; obtain ⟨y0, y1, y2, y3, y4, y5⟩ := six_at k9; obtain ⟨yf0, yf1, yf2, yf3, yf4, yf5⟩ := six_live k9; have K9 := hide k9; clear k9) | (have k9 := (hb1.block w5.heap.size (by simp)).trans (heap_new w5 (.cells (stc 0 0 false 0 0 (.slice none 0 0)) 42)); obtain ⟨y0, y1, y2, y3, y4, y5⟩ := six_at k9; obtain ⟨yf0, yf1, yf2, yf3, yf4, yf5⟩ := six_live k9; have K9 := hide k9; clear k9) | skip); have G5 := hide GB.out.size; have GB := hide gB; clear gB hW hb1))
    all_goals go_wp2
    all_goals go_meet
    · case rel => exact ⟨_, rfl, rfl, heap_new _ _, GB.out.alloc GB.out.size _⟩
    · case rel => exact ⟨_, rfl, rfl, put_six K9.out GB.out G5.out _ _ _ _ _ _⟩
    · case rel => exact ⟨_, rfl, rfl, put_six K9.out GB.out (Nat.le_refl _) _ _ _ _ _ _⟩
  obtain ⟨gy, rfl, rfl, KY, hbq⟩ := hcut
  clear x0 x1 x2 x3 x4 x5 z0 z1 XS ZS LS LB2 CR CX hrg
  replace KS := hide ((hbq.block _ (blk_lt KS.out)).trans KS.out)
  replace KT := hide ((hbq.block _ (blk_lt KT.out)).trans KT.out)
  replace KP := hide ((hbq.block _ (blk_lt KP.out)).trans KP.out)
  replace KQ := hide ((hbq.block _ (blk_lt KQ.out)).trans KQ.out)
  replace KX := hide ((hbq.block _ (blk_lt KX.out)).trans KX.out)
  replace RP := hide (RP.out.below hbq)
  replace RX := hide (RX.out.below hbq)
  replace RY := hide (RY.out.below hbq)
  have KY := hide KY
  have HB8 := hide (below_next HB7.out hbq)
  clear hbq HB7 KB
  have OP : Hid (okb p.val) := hide (by rw [HP.out]; unfold Acc.prepare; split <;> exact OA.out)
  have PV : Hid (p.val = s.val) := hide (by rw [HP.out]; unfold Acc.prepare; split <;> rfl)
  have OY : Hid (okb y.val) := hide (by rw [HY.out]; unfold Acc.accept; split <;> first | exact OD.out | exact OA.out)
  have RA := hide (HA.out.below HB8.out)
  have RB := hide (HB.out.below HB8.out)
  have CRP := hide (fun (W : World) (hW : Below wc.heap.size wc W) => (real_any p P1 cp W).mono (fun e1 w' h => (show e1 = .returned (.agg (stc p.pr p.ps p.some p.ar p.as_ (.slice P1 p.val.length cp))) ∧ Below wc.heap.size wc w' from ⟨h.1, below_next hW h.2⟩)))
  have CSP := hide (fun (W : World) (hW : Below wc.heap.size wc W) => (arefsame_any p p P1 A cp c W (RP.out.below hW) (by rw [PV.out]; exact RA.out.below hW) OP.out OP.out).mono (fun e1 w' h => (show e1 = .returned (.bool true) ∧ Below wc.heap.size wc w' from ⟨by rw [h.1, Acc.same_self], below_next hW h.2⟩)))
  have CRX := hide (fun (W : World) (hW : Below wc.heap.size wc W) => (real_any y X1 cx W).mono (fun e1 w' h => (show e1 = .returned (.agg (stc y.pr y.ps y.some y.ar y.as_ (.slice X1 y.val.length cx))) ∧ Below wc.heap.size wc w' from ⟨h.1, below_next hW h.2⟩)))
  have CSX := hide (fun (W : World) (hW : Below wc.heap.size wc W) => (arefsame_any y y X1 Y cx cy W (RX.out.below hW) (RY.out.below hW) OY.out OY.out).mono (fun e1 w' h => (show e1 = .returned (.bool true) ∧ Below wc.heap.size wc w' from ⟨by rw [h.1, Acc.same_self], below_next hW h.2⟩)))
  unfold stv at CRP CSP CRX CSX
  go_wp2_with fail
  have hd0 := (Below.refl wc.heap.size wc).drew
  refine wp_region_held_drew (S := fun W => Below wc.heap.size wc W) (by kernel_rfl) hd0 (fun hH => ?_)
  refine wpAnyH_take (i := 0) (v := ?wt0) rfl (by kernel_rfl) (by kernel_rfl) (by kernel_rfl) (fun _ _ _ h => h) (Or.inl ⟨by rfl, ?yt0⟩) hH ?rt0
  case yt0 => (intro W hSw; (try dsimp only at hSw); (try simp only [List.getElem_toArray, List.getElem_cons_zero]); go_simp; first | done | with_reducible rfl)
  try simp only [Act.put, List.getElem_toArray, List.getElem_cons_zero, List.setIfInBounds_toArray, List.set_cons_zero, List.set_cons_succ]
  refine wpAnyH_take (i := 1) (v := ?wt1) rfl (by kernel_rfl) (by kernel_rfl) (by kernel_rfl) (fun _ _ _ h => h) (Or.inl ⟨by rfl, ?yt1⟩) hH ?rt1
  case yt1 => (intro W hSw; (try dsimp only at hSw); (try simp only [List.getElem_toArray, List.getElem_cons_succ, List.getElem_cons_zero]); go_simp; first | done | with_reducible rfl)
  try simp only [Act.put, List.getElem_toArray, List.getElem_cons_succ, List.getElem_cons_zero, List.setIfInBounds_toArray, List.set_cons_zero, List.set_cons_succ]
  refine wpAnyH_take (i := 2) (v := .bool false) rfl (by kernel_rfl) (by kernel_rfl) (by kernel_rfl) (fun _ _ _ h => h) (Or.inl ⟨by rfl, ?yt2⟩) hH ?rt2
  case yt2 => (intro W hSw; (try dsimp only at hSw); (try simp only [List.getElem_toArray, List.getElem_cons_succ, List.getElem_cons_zero]); go_simp; first | done | with_reducible rfl)
  try simp only [Act.put, List.getElem_toArray, List.getElem_cons_succ, List.getElem_cons_zero, List.setIfInBounds_toArray, List.set_cons_zero, List.set_cons_succ]
  refine wpAnyH_take (i := 3) (v := .bool false) rfl (by kernel_rfl) (by kernel_rfl) (by kernel_rfl) (fun _ _ _ h => h) (Or.inl ⟨by rfl, ?yt3⟩) hH ?rt3
  case yt3 => (intro W hSw; (try dsimp only at hSw); (try simp only [List.getElem_toArray, List.getElem_cons_succ, List.getElem_cons_zero]); go_simp; first | done | with_reducible rfl)
  try simp only [Act.put, List.getElem_toArray, List.getElem_cons_succ, List.getElem_cons_zero, List.setIfInBounds_toArray, List.set_cons_zero, List.set_cons_succ]
  refine wpAnyH_take (i := 4) (v := ?wt4) rfl (by kernel_rfl) (by kernel_rfl) (by kernel_rfl) (fun _ _ _ h => h) (Or.inl ⟨by rfl, ?yt4⟩) hH ?rt4
  case yt4 => (intro W hSw; (try dsimp only at hSw); (try simp only [List.getElem_toArray, List.getElem_cons_succ, List.getElem_cons_zero]); go_simp; first | done | with_reducible rfl)
  try simp only [Act.put, List.getElem_toArray, List.getElem_cons_succ, List.getElem_cons_zero, List.setIfInBounds_toArray, List.set_cons_zero, List.set_cons_succ]
  refine wpAnyH_take (i := 5) (v := ?wt5) rfl (by kernel_rfl) (by kernel_rfl) (by kernel_rfl) (fun _ _ _ h => h) (Or.inl ⟨by rfl, ?yt5⟩) hH ?rt5
  case yt5 => (intro W hSw; (try dsimp only at hSw); (try simp only [List.getElem_toArray, List.getElem_cons_succ, List.getElem_cons_zero]); go_simp; first | done | with_reducible rfl)
  try simp only [Act.put, List.getElem_toArray, List.getElem_cons_succ, List.getElem_cons_zero, List.setIfInBounds_toArray, List.set_cons_zero, List.set_cons_succ]
  refine wpAnyH_take (i := 6) (v := .bool false) rfl (by kernel_rfl) (by kernel_rfl) (by kernel_rfl) (fun _ _ _ h => h) (Or.inl ⟨by rfl, ?yt6⟩) hH ?rt6
  case yt6 => (intro W hSw; (try dsimp only at hSw); (try simp only [List.getElem_toArray, List.getElem_cons_succ, List.getElem_cons_zero]); go_simp; first | done | with_reducible rfl)
  try simp only [Act.put, List.getElem_toArray, List.getElem_cons_succ, List.getElem_cons_zero, List.setIfInBounds_toArray, List.set_cons_zero, List.set_cons_succ]
  refine wpAnyH_take (i := 7) (v := .bool false) rfl (by kernel_rfl) (by kernel_rfl) (by kernel_rfl) (fun _ _ _ h => h) (Or.inl ⟨by rfl, ?yt7⟩) hH ?rt7
  case yt7 => (intro W hSw; (try dsimp only at hSw); (try simp only [List.getElem_toArray, List.getElem_cons_succ, List.getElem_cons_zero]); go_simp; first | done | with_reducible rfl)
  try simp only [Act.put, List.getElem_toArray, List.getElem_cons_succ, List.getElem_cons_zero, List.setIfInBounds_toArray, List.set_cons_zero, List.set_cons_succ]
  refine wpAnyH_take (i := 8) (v := .bool false) rfl (by kernel_rfl) (by kernel_rfl) (by kernel_rfl) (fun _ _ _ h => h) (Or.inl ⟨by rfl, ?yt8⟩) hH ?rt8
  case yt8 => (intro W hSw; (try dsimp only at hSw); (try simp only [List.getElem_toArray, List.getElem_cons_succ, List.getElem_cons_zero]); go_simp; first | done | with_reducible rfl)
  try simp only [Act.put, List.getElem_toArray, List.getElem_cons_succ, List.getElem_cons_zero, List.setIfInBounds_toArray, List.set_cons_zero, List.set_cons_succ]
  refine wpAnyH_take (i := 9) (v := ?wt9) rfl (by kernel_rfl) (by kernel_rfl) (by kernel_rfl) (fun _ _ _ h => h) (Or.inl ⟨by rfl, ?yt9⟩) hH ?rt9
  case yt9 => (intro W hSw; (try dsimp only at hSw); (try simp only [List.getElem_toArray, List.getElem_cons_succ, List.getElem_cons_zero]); obtain ⟨x0, x1, x2, x3, x4, x5⟩ := six_cells KP.out W hSw; go_simp; first | done | with_reducible rfl)
  try simp only [Act.put, List.getElem_toArray, List.getElem_cons_succ, List.getElem_cons_zero, List.setIfInBounds_toArray, List.set_cons_zero, List.set_cons_succ]
  refine wpAnyH_take (i := 11) (v := ?wt11) rfl (by kernel_rfl) (by kernel_rfl) (by kernel_rfl) (fun _ _ _ h => h) (Or.inl ⟨by rfl, ?yt11⟩) hH ?rt11
  case yt11 => (intro W hSw; (try dsimp only at hSw); (try simp only [List.getElem_toArray, List.getElem_cons_succ, List.getElem_cons_zero]); obtain ⟨x0, x1, x2, x3, x4, x5⟩ := six_cells KQ.out W hSw; go_simp; first | done | with_reducible rfl)
  try simp only [Act.put, List.getElem_toArray, List.getElem_cons_succ, List.getElem_cons_zero, List.setIfInBounds_toArray, List.set_cons_zero, List.set_cons_succ]
  refine wpAnyH_ready (rs := [10]) (by kernel_rfl) (by simp) ?_
  refine AllReadyH.cons rfl (fun K hK => ?_) AllReadyH.nil
  simp only [List.getElem_toArray, List.getElem_cons_succ, List.getElem_cons_zero]
  go_simp
  refine (CRP.out _ hd0).mono ?_
  rintro e1 wa1 ⟨rfl, ha1⟩
  refine hK.out _ _ ha1 (fun hH2 => ?_)
  clear hK hH2
  refine wpAnyH_ready (rs := [12]) (by kernel_rfl) (by simp) ?_
  refine AllReadyH.cons rfl (fun K hK => ?_) AllReadyH.nil
  simp only [List.getElem_toArray, List.getElem_cons_succ, List.getElem_cons_zero]
  go_simp
  refine (CSP.out _ ha1).mono ?_
  rintro e1 wa2 ⟨rfl, ha2⟩
  refine hK.out _ _ ha2 (fun hH2 => ?_)
  clear hK hH2
  refine wpAnyH_take (i := 13) (v := .bool false) rfl (by kernel_rfl) (by kernel_rfl) (by kernel_rfl) (fun _ _ _ h => h) (Or.inl ⟨by rfl, ?yt13⟩) ha2 ?rt13
  case yt13 => (intro W hSw; (try dsimp only at hSw); (try simp only [List.getElem_toArray, List.getElem_cons_succ, List.getElem_cons_zero]); go_simp; first | done | with_reducible rfl)
  try simp only [Act.put, List.getElem_toArray, List.getElem_cons_succ, List.getElem_cons_zero, List.setIfInBounds_toArray, List.set_cons_zero, List.set_cons_succ]
  refine wpAnyH_take (i := 14) (v := .bool false) rfl (by kernel_rfl) (by kernel_rfl) (by kernel_rfl) (fun _ _ _ h => h) (Or.inl ⟨by rfl, ?yt14⟩) ha2 ?rt14
  case yt14 => (intro W hSw; (try dsimp only at hSw); (try simp only [List.getElem_toArray, List.getElem_cons_succ, List.getElem_cons_zero]); go_simp; first | done | with_reducible rfl)
  try simp only [Act.put, List.getElem_toArray, List.getElem_cons_succ, List.getElem_cons_zero, List.setIfInBounds_toArray, List.set_cons_zero, List.set_cons_succ]
  refine wpAnyH_take (i := 15) (v := .bool false) rfl (by kernel_rfl) (by kernel_rfl) (by kernel_rfl) (fun _ _ _ h => h) (Or.inl ⟨by rfl, ?yt15⟩) ha2 ?rt15
  case yt15 => (intro W hSw; (try dsimp only at hSw); (try simp only [List.getElem_toArray, List.getElem_cons_succ, List.getElem_cons_zero]); go_simp; first | done | with_reducible rfl)
  try simp only [Act.put, List.getElem_toArray, List.getElem_cons_succ, List.getElem_cons_zero, List.setIfInBounds_toArray, List.set_cons_zero, List.set_cons_succ]
  refine wpAnyH_take (i := 16) (v := ?wt16) rfl (by kernel_rfl) (by kernel_rfl) (by kernel_rfl) (fun _ _ _ h => h) (Or.inl ⟨by rfl, ?yt16⟩) ha2 ?rt16
  case yt16 => (intro W hSw; (try dsimp only at hSw); (try simp only [List.getElem_toArray, List.getElem_cons_succ, List.getElem_cons_zero]); obtain ⟨x0, x1, x2, x3, x4, x5⟩ := six_cells KX.out W hSw; go_simp; first | done | with_reducible rfl)
  try simp only [Act.put, List.getElem_toArray, List.getElem_cons_succ, List.getElem_cons_zero, List.setIfInBounds_toArray, List.set_cons_zero, List.set_cons_succ]
  refine wpAnyH_take (i := 18) (v := ?wt18) rfl (by kernel_rfl) (by kernel_rfl) (by kernel_rfl) (fun _ _ _ h => h) (Or.inl ⟨by rfl, ?yt18⟩) ha2 ?rt18
  case yt18 => (intro W hSw; (try dsimp only at hSw); (try simp only [List.getElem_toArray, List.getElem_cons_succ, List.getElem_cons_zero]); obtain ⟨x0, x1, x2, x3, x4, x5⟩ := six_cells KY.out W hSw; go_simp; first | done | with_reducible rfl)
  try simp only [Act.put, List.getElem_toArray, List.getElem_cons_succ, List.getElem_cons_zero, List.setIfInBounds_toArray, List.set_cons_zero, List.set_cons_succ]
  refine wpAnyH_ready (rs := [17]) (by kernel_rfl) (by simp) ?_
  refine AllReadyH.cons rfl (fun K hK => ?_) AllReadyH.nil
  simp only [List.getElem_toArray, List.getElem_cons_succ, List.getElem_cons_zero]
  go_simp
  refine (CRX.out _ ha2).mono ?_
  rintro e1 wa3 ⟨rfl, ha3⟩
  refine hK.out _ _ ha3 (fun hH2 => ?_)
  clear hK hH2
  refine wpAnyH_ready (rs := [19]) (by kernel_rfl) (by simp) ?_
  refine AllReadyH.cons rfl (fun K hK => ?_) AllReadyH.nil
  simp only [List.getElem_toArray, List.getElem_cons_succ, List.getElem_cons_zero]
  go_simp
  refine (CSX.out _ ha3).mono ?_
  rintro e1 wa4 ⟨rfl, ha4⟩
  refine hK.out _ _ ha4 (fun hH2 => ?_)
  clear hK hH2
  refine wpAnyH_take (i := 20) (v := .bool false) rfl (by kernel_rfl) (by kernel_rfl) (by kernel_rfl) (fun _ _ _ h => h) (Or.inl ⟨by rfl, ?yt20⟩) ha4 ?rt20
  case yt20 => (intro W hSw; (try dsimp only at hSw); (try simp only [List.getElem_toArray, List.getElem_cons_succ, List.getElem_cons_zero]); go_simp; first | done | with_reducible rfl)
  try simp only [Act.put, List.getElem_toArray, List.getElem_cons_succ, List.getElem_cons_zero, List.setIfInBounds_toArray, List.set_cons_zero, List.set_cons_succ]
  refine wpAnyH_take (i := 21) (v := .bool false) rfl (by kernel_rfl) (by kernel_rfl) (by kernel_rfl) (fun _ _ _ h => h) (Or.inl ⟨by rfl, ?yt21⟩) ha4 ?rt21
  case yt21 => (intro W hSw; (try dsimp only at hSw); (try simp only [List.getElem_toArray, List.getElem_cons_succ, List.getElem_cons_zero]); go_simp; first | done | with_reducible rfl)
  try simp only [Act.put, List.getElem_toArray, List.getElem_cons_succ, List.getElem_cons_zero, List.setIfInBounds_toArray, List.set_cons_zero, List.set_cons_succ]
  refine wpAnyH_done (by kernel_rfl) ?_ _
  clear CRP CSP CRX CSX KP KQ KX KY RP RX RY
  replace KS := hide ((ha4.block _ (blk_lt KS.out)).trans KS.out)
  replace KT := hide ((ha4.block _ (blk_lt KT.out)).trans KT.out)
  replace RA := hide (RA.out.below ha4)
  replace RB := hide (RB.out.below ha4)
  replace HB8 := hide (below_next HB8.out ha4)
  clear ha1 ha2 ha3 ha4 hd0 wa1 wa2 wa3
  go_wp2_with fail
  obtain ⟨b1, hB1⟩ : ∃ b1, b1 = Acc.same s q := ⟨_, rfl⟩
  obtain ⟨b2, hB2⟩ : ∃ b2, b2 = Acc.mayBe s (k : Int) := ⟨_, rfl⟩
  have HB1' := hide hB1; have HB2' := hide hB2
  clear hB1 hB2
  have CST := hide (fun (W : World) (hW : Below wa4.heap.size wa4 W) => (asame_any s q A B c d W (RA.out.below hW) (RB.out.below hW) OA.out OB.out).mono (fun e1 w' h => (show e1 = .returned (.bool b1) ∧ Below wa4.heap.size wa4 w' from ⟨by rw [h.1, HB1'.out], below_next hW h.2⟩)))
  have CRS := hide (fun (W : World) (hW : Below wa4.heap.size wa4 W) => (real_any s A c W).mono (fun e1 w' h => (show e1 = .returned (.agg (stc s.pr s.ps s.some s.ar s.as_ (.slice A s.val.length c))) ∧ Below wa4.heap.size wa4 w' from ⟨h.1, below_next hW h.2⟩)))
  have CRT := hide (fun (W : World) (hW : Below wa4.heap.size wa4 W) => (real_any q B d W).mono (fun e1 w' h => (show e1 = .returned (.agg (stc q.pr q.ps q.some q.ar q.as_ (.slice B q.val.length d))) ∧ Below wa4.heap.size wa4 w' from ⟨h.1, below_next hW h.2⟩)))
  have CFS := hide (fun (W : World) (hW : Below wa4.heap.size wa4 W) => (arefsame_any s q A B c d W (RA.out.below hW) (RB.out.below hW) OA.out OB.out).mono (fun e1 w' h => (show e1 = .returned (.bool b1) ∧ Below wa4.heap.size wa4 w' from ⟨by rw [h.1, HB1'.out], below_next hW h.2⟩)))
  have CMS := hide (fun (W : World) (hW : Below wa4.heap.size wa4 W) => (amay_any s A c (k : Int) W (by have := LA.out; omega)).mono (fun e1 w' h => (show e1 = .returned (.bool b2) ∧ Below wa4.heap.size wa4 w' from ⟨by rw [h.1, HB2'.out], below_next hW h.2⟩)))
  have CFM := hide (fun (W : World) (hW : Below wa4.heap.size wa4 W) => (arefmay_any s A c (k : Int) W (by have := LA.out; omega)).mono (fun e1 w' h => (show e1 = .returned (.bool b2) ∧ Below wa4.heap.size wa4 w' from ⟨by rw [h.1, HB2'.out], below_next hW h.2⟩)))
  unfold stv at CST CRS CRT CFS CMS CFM
  rw [← HN.out, ← HM.out] at CST CFS
  rw [← HN.out] at CRS CMS CFM
  rw [← HM.out] at CRT
  have hd0 := (Below.refl wa4.heap.size wa4).drew
  refine wp_region_held_drew (S := fun W => Below wa4.heap.size wa4 W) (by kernel_rfl) hd0 (fun hH => ?_)
  refine wpAnyH_take (i := 0) (v := .bool true) rfl (by kernel_rfl) (by kernel_rfl) (by kernel_rfl) (fun _ _ _ h => h) (Or.inl ⟨by rfl, ?yu0⟩) hH ?ru0
  case yu0 => (intro W hSw; (try dsimp only at hSw); (try simp only [List.getElem_toArray, List.getElem_cons_zero]); go_simp; first | done | with_reducible rfl)
  try simp only [Act.put, List.getElem_toArray, List.getElem_cons_zero, List.setIfInBounds_toArray, List.set_cons_zero, List.set_cons_succ]
  refine wpAnyH_take (i := 1) (v := .bool true) rfl (by kernel_rfl) (by kernel_rfl) (by kernel_rfl) (fun _ _ _ h => h) (Or.inl ⟨by rfl, ?yu1⟩) hH ?ru1
  case yu1 => (intro W hSw; (try dsimp only at hSw); (try simp only [List.getElem_toArray, List.getElem_cons_succ, List.getElem_cons_zero]); go_simp; first | done | with_reducible rfl)
  try simp only [Act.put, List.getElem_toArray, List.getElem_cons_succ, List.getElem_cons_zero, List.setIfInBounds_toArray, List.set_cons_zero, List.set_cons_succ]
  refine wpAnyH_take (i := 2) (v := ?wu2) rfl (by kernel_rfl) (by kernel_rfl) (by kernel_rfl) (fun _ _ _ h => h) (Or.inl ⟨by rfl, ?yu2⟩) hH ?ru2
  case yu2 => (intro W hSw; (try dsimp only at hSw); (try simp only [List.getElem_toArray, List.getElem_cons_succ, List.getElem_cons_zero]); obtain ⟨x0, x1, x2, x3, x4, x5⟩ := six_cells KS.out W hSw; go_simp; first | done | with_reducible rfl)
  try simp only [Act.put, List.getElem_toArray, List.getElem_cons_succ, List.getElem_cons_zero, List.setIfInBounds_toArray, List.set_cons_zero, List.set_cons_succ]
  refine wpAnyH_take (i := 3) (v := ?wu3) rfl (by kernel_rfl) (by kernel_rfl) (by kernel_rfl) (fun _ _ _ h => h) (Or.inl ⟨by rfl, ?yu3⟩) hH ?ru3
  case yu3 => (intro W hSw; (try dsimp only at hSw); (try simp only [List.getElem_toArray, List.getElem_cons_succ, List.getElem_cons_zero]); obtain ⟨x0, x1, x2, x3, x4, x5⟩ := six_cells KT.out W hSw; go_simp; first | done | with_reducible rfl)
  try simp only [Act.put, List.getElem_toArray, List.getElem_cons_succ, List.getElem_cons_zero, List.setIfInBounds_toArray, List.set_cons_zero, List.set_cons_succ]
  refine wpAnyH_take (i := 5) (v := ?wu5) rfl (by kernel_rfl) (by kernel_rfl) (by kernel_rfl) (fun _ _ _ h => h) (Or.inl ⟨by rfl, ?yu5⟩) hH ?ru5
  case yu5 => (intro W hSw; (try dsimp only at hSw); (try simp only [List.getElem_toArray, List.getElem_cons_succ, List.getElem_cons_zero]); obtain ⟨x0, x1, x2, x3, x4, x5⟩ := six_cells KS.out W hSw; go_simp; first | done | with_reducible rfl)
  try simp only [Act.put, List.getElem_toArray, List.getElem_cons_succ, List.getElem_cons_zero, List.setIfInBounds_toArray, List.set_cons_zero, List.set_cons_succ]
  refine wpAnyH_take (i := 7) (v := ?wu7) rfl (by kernel_rfl) (by kernel_rfl) (by kernel_rfl) (fun _ _ _ h => h) (Or.inl ⟨by rfl, ?yu7⟩) hH ?ru7
  case yu7 => (intro W hSw; (try dsimp only at hSw); (try simp only [List.getElem_toArray, List.getElem_cons_succ, List.getElem_cons_zero]); obtain ⟨x0, x1, x2, x3, x4, x5⟩ := six_cells KT.out W hSw; go_simp; first | done | with_reducible rfl)
  try simp only [Act.put, List.getElem_toArray, List.getElem_cons_succ, List.getElem_cons_zero, List.setIfInBounds_toArray, List.set_cons_zero, List.set_cons_succ]
  refine wpAnyH_ready (rs := [4]) (by kernel_rfl) (by simp) ?_
  refine AllReadyH.cons rfl (fun K hK => ?_) AllReadyH.nil
  simp only [List.getElem_toArray, List.getElem_cons_succ, List.getElem_cons_zero]
  go_simp
  refine (CST.out _ hd0).mono ?_
  rintro e1 wb1 ⟨rfl, hb1⟩
  refine hK.out _ _ hb1 (fun hH2 => ?_)
  clear hK hH2
  refine wpAnyH_ready (rs := [6]) (by kernel_rfl) (by simp) ?_
  refine AllReadyH.cons rfl (fun K hK => ?_) AllReadyH.nil
  simp only [List.getElem_toArray, List.getElem_cons_succ, List.getElem_cons_zero]
  go_simp
  refine (CRS.out _ hb1).mono ?_
  rintro e1 wb2 ⟨rfl, hb2⟩
  refine hK.out _ _ hb2 (fun hH2 => ?_)
  clear hK hH2
  refine wpAnyH_ready (rs := [8]) (by kernel_rfl) (by simp) ?_
  refine AllReadyH.cons rfl (fun K hK => ?_) AllReadyH.nil
  simp only [List.getElem_toArray, List.getElem_cons_succ, List.getElem_cons_zero]
  go_simp
  refine (CRT.out _ hb2).mono ?_
  rintro e1 wb3 ⟨rfl, hb3⟩
  refine hK.out _ _ hb3 (fun hH2 => ?_)
  clear hK hH2
  refine wpAnyH_ready (rs := [9]) (by kernel_rfl) (by simp) ?_
  refine AllReadyH.cons rfl (fun K hK => ?_) AllReadyH.nil
  simp only [List.getElem_toArray, List.getElem_cons_succ, List.getElem_cons_zero]
  go_simp
  refine (CFS.out _ hb3).mono ?_
  rintro e1 wb4 ⟨rfl, hb4⟩
  refine hK.out _ _ hb4 (fun hH2 => ?_)
  clear hK hH2
  refine wpAnyH_take (i := 10) (v := .bool true) rfl (by kernel_rfl) (by kernel_rfl) (by kernel_rfl) (fun _ _ _ h => h) (Or.inl ⟨by rfl, ?yu10⟩) hb4 ?ru10
  case yu10 => (intro W hSw; (try dsimp only at hSw); (try simp only [List.getElem_toArray, List.getElem_cons_succ, List.getElem_cons_zero]); go_simp; first | done | with_reducible rfl)
  try simp only [Act.put, List.getElem_toArray, List.getElem_cons_succ, List.getElem_cons_zero, List.setIfInBounds_toArray, List.set_cons_zero, List.set_cons_succ]
  refine wpAnyH_take (i := 11) (v := .bool true) rfl (by kernel_rfl) (by kernel_rfl) (by kernel_rfl) (fun _ _ _ h => h) (Or.inl ⟨by rfl, ?yu11⟩) hb4 ?ru11
  case yu11 => (intro W hSw; (try dsimp only at hSw); (try simp only [List.getElem_toArray, List.getElem_cons_succ, List.getElem_cons_zero]); go_simp; first | done | with_reducible rfl)
  try simp only [Act.put, List.getElem_toArray, List.getElem_cons_succ, List.getElem_cons_zero, List.setIfInBounds_toArray, List.set_cons_zero, List.set_cons_succ]
  refine wpAnyH_take (i := 12) (v := .bool true) rfl (by kernel_rfl) (by kernel_rfl) (by kernel_rfl) (fun _ _ _ h => h) (Or.inl ⟨by rfl, ?yu12⟩) hb4 ?ru12
  case yu12 => (intro W hSw; (try dsimp only at hSw); (try simp only [List.getElem_toArray, List.getElem_cons_succ, List.getElem_cons_zero]); go_simp; first | done | with_reducible rfl)
  try simp only [Act.put, List.getElem_toArray, List.getElem_cons_succ, List.getElem_cons_zero, List.setIfInBounds_toArray, List.set_cons_zero, List.set_cons_succ]
  refine wpAnyH_take (i := 13) (v := ?wu13) rfl (by kernel_rfl) (by kernel_rfl) (by kernel_rfl) (fun _ _ _ h => h) (Or.inl ⟨by rfl, ?yu13⟩) hb4 ?ru13
  case yu13 => (intro W hSw; (try dsimp only at hSw); (try simp only [List.getElem_toArray, List.getElem_cons_succ, List.getElem_cons_zero]); obtain ⟨x0, x1, x2, x3, x4, x5⟩ := six_cells KS.out W hSw; go_simp; first | done | with_reducible rfl)
  try simp only [Act.put, List.getElem_toArray, List.getElem_cons_succ, List.getElem_cons_zero, List.setIfInBounds_toArray, List.set_cons_zero, List.set_cons_succ]
  refine wpAnyH_take (i := 14) (v := ?wu14) rfl (by kernel_rfl) (by kernel_rfl) (by kernel_rfl) (fun _ _ _ h => h) (Or.inl ⟨by rfl, ?yu14⟩) hb4 ?ru14
  case yu14 => (intro W hSw; (try dsimp only at hSw); (try simp only [List.getElem_toArray, List.getElem_cons_succ, List.getElem_cons_zero]); go_simp; first | done | with_reducible rfl)
  try simp only [Act.put, List.getElem_toArray, List.getElem_cons_succ, List.getElem_cons_zero, List.setIfInBounds_toArray, List.set_cons_zero, List.set_cons_succ]
  refine wpAnyH_take (i := 15) (v := ?wu15) rfl (by kernel_rfl) (by kernel_rfl) (by kernel_rfl) (fun _ _ _ h => h) (Or.inl ⟨by rfl, ?yu15⟩) hb4 ?ru15
  case yu15 => (intro W hSw; (try dsimp only at hSw); (try simp only [List.getElem_toArray, List.getElem_cons_succ, List.getElem_cons_zero]); go_simp; first | done | with_reducible rfl)
  try simp only [Act.put, List.getElem_toArray, List.getElem_cons_succ, List.getElem_cons_zero, List.setIfInBounds_toArray, List.set_cons_zero, List.set_cons_succ]
  refine wpAnyH_take (i := 17) (v := ?wu17) rfl (by kernel_rfl) (by kernel_rfl) (by kernel_rfl) (fun _ _ _ h => h) (Or.inl ⟨by rfl, ?yu17⟩) hb4 ?ru17
  case yu17 => (intro W hSw; (try dsimp only at hSw); (try simp only [List.getElem_toArray, List.getElem_cons_succ, List.getElem_cons_zero]); obtain ⟨x0, x1, x2, x3, x4, x5⟩ := six_cells KS.out W hSw; go_simp; first | done | with_reducible rfl)
  try simp only [Act.put, List.getElem_toArray, List.getElem_cons_succ, List.getElem_cons_zero, List.setIfInBounds_toArray, List.set_cons_zero, List.set_cons_succ]
  refine wpAnyH_take (i := 19) (v := ?wu19) rfl (by kernel_rfl) (by kernel_rfl) (by kernel_rfl) (fun _ _ _ h => h) (Or.inl ⟨by rfl, ?yu19⟩) hb4 ?ru19
  case yu19 => (intro W hSw; (try dsimp only at hSw); (try simp only [List.getElem_toArray, List.getElem_cons_succ, List.getElem_cons_zero]); go_simp; first | done | with_reducible rfl)
  try simp only [Act.put, List.getElem_toArray, List.getElem_cons_succ, List.getElem_cons_zero, List.setIfInBounds_toArray, List.set_cons_zero, List.set_cons_succ]
  refine wpAnyH_take (i := 20) (v := ?wu20) rfl (by kernel_rfl) (by kernel_rfl) (by kernel_rfl) (fun _ _ _ h => h) (Or.inl ⟨by rfl, ?yu20⟩) hb4 ?ru20
  case yu20 => (intro W hSw; (try dsimp only at hSw); (try simp only [List.getElem_toArray, List.getElem_cons_succ, List.getElem_cons_zero]); go_simp; first | done | with_reducible rfl)
  try simp only [Act.put, List.getElem_toArray, List.getElem_cons_succ, List.getElem_cons_zero, List.setIfInBounds_toArray, List.set_cons_zero, List.set_cons_succ]
  refine wpAnyH_ready (rs := [16]) (by kernel_rfl) (by simp) ?_
  refine AllReadyH.cons rfl (fun K hK => ?_) AllReadyH.nil
  simp only [List.getElem_toArray, List.getElem_cons_succ, List.getElem_cons_zero]
  go_simp
  refine (CMS.out _ hb4).mono ?_
  rintro e1 wb5 ⟨rfl, hb5⟩
  refine hK.out _ _ hb5 (fun hH2 => ?_)
  clear hK hH2
  refine wpAnyH_ready (rs := [18]) (by kernel_rfl) (by simp) ?_
  refine AllReadyH.cons rfl (fun K hK => ?_) AllReadyH.nil
  simp only [List.getElem_toArray, List.getElem_cons_succ, List.getElem_cons_zero]
  go_simp
  refine (CRS.out _ hb5).mono ?_
  rintro e1 wb6 ⟨rfl, hb6⟩
  refine hK.out _ _ hb6 (fun hH2 => ?_)
  clear hK hH2
  refine wpAnyH_ready (rs := [21]) (by kernel_rfl) (by simp) ?_
  refine AllReadyH.cons rfl (fun K hK => ?_) AllReadyH.nil
  simp only [List.getElem_toArray, List.getElem_cons_succ, List.getElem_cons_zero]
  go_simp
  refine (CFM.out _ hb6).mono ?_
  rintro e1 wb7 ⟨rfl, hb7⟩
  refine hK.out _ _ hb7 (fun hH2 => ?_)
  clear hK hH2
  refine wpAnyH_take (i := 22) (v := .bool true) rfl (by kernel_rfl) (by kernel_rfl) (by kernel_rfl) (fun _ _ _ h => h) (Or.inl ⟨by rfl, ?yu22⟩) hb7 ?ru22
  case yu22 => (intro W hSw; (try dsimp only at hSw); (try simp only [List.getElem_toArray, List.getElem_cons_succ, List.getElem_cons_zero]); go_simp; first | done | with_reducible rfl)
  try simp only [Act.put, List.getElem_toArray, List.getElem_cons_succ, List.getElem_cons_zero, List.setIfInBounds_toArray, List.set_cons_zero, List.set_cons_succ]
  refine wpAnyH_take (i := 23) (v := .bool true) rfl (by kernel_rfl) (by kernel_rfl) (by kernel_rfl) (fun _ _ _ h => h) (Or.inl ⟨by rfl, ?yu23⟩) hb7 ?ru23
  case yu23 => (intro W hSw; (try dsimp only at hSw); (try simp only [List.getElem_toArray, List.getElem_cons_succ, List.getElem_cons_zero]); go_simp; first | done | with_reducible rfl)
  try simp only [Act.put, List.getElem_toArray, List.getElem_cons_succ, List.getElem_cons_zero, List.setIfInBounds_toArray, List.set_cons_zero, List.set_cons_succ]
  refine wpAnyH_take (i := 24) (v := ?wu24) rfl (by kernel_rfl) (by kernel_rfl) (by kernel_rfl) (fun _ _ _ h => h) (Or.inl ⟨by rfl, ?yu24⟩) hb7 ?ru24
  case yu24 => (intro W hSw; (try dsimp only at hSw); (try simp only [List.getElem_toArray, List.getElem_cons_succ, List.getElem_cons_zero]); go_simp; first | done | with_reducible rfl)
  try simp only [Act.put, List.getElem_toArray, List.getElem_cons_succ, List.getElem_cons_zero, List.setIfInBounds_toArray, List.set_cons_zero, List.set_cons_succ]
  refine wpAnyH_done (by kernel_rfl) ?_ _
  have FIN := hide (below_next HB8.out hb7)
  clear hb1 hb2 hb3 hb4 hb5 hb6 hb7 hd0 KS KT CST CRS CRT CFS CMS CFM
  go_wp2
  go_ret
  exact ⟨rfl, FIN.out⟩

theorem asked_cells {H : Type} {enc : TypeId × Value → H} {W : World} {fuel : Nat} {cs : List Value} {D : DataW H} {Pl : List MemPlace} (hl : cs.length = 15) (h : DataW.trod enc Try.prog W 0 (fun _ => true) true fuel 41 cs = some (D, Pl)) (hs : Sized Try.prog 41 D) :
    ∃ (s q : Acc.St) (A B E : Option Addr) (c d e : Nat) (r t : Int) (v : List Int), cs = (#[.int .i64 s.pr, .int .i64 s.ps, .bool s.some, .int .i64 s.ar, .int .i64 s.as_, .slice A s.val.length c, .int .i64 q.pr, .int .i64 q.ps, .bool q.some, .int .i64 q.ar, .int .i64 q.as_, .slice B q.val.length d, .int .i64 r, .int .i64 t, .slice E v.length e] : Array Value).toList ∧
      Reads W A (bys s.val) ∧ Reads W B (bys q.val) ∧ Reads W E (bys v) ∧ okb s.val ∧ okb q.val ∧ okb v ∧ s.val.length ≤ 140737488351232 ∧ q.val.length ≤ 140737488351232 ∧ v.length ≤ 140737488351232 := by
  obtain ⟨y0, y1, y2, y3, n, hx, _, h0, h1, h2, h3⟩ := Joins.trod_struct4 Try.underlying41 h
  match cs, hl with
  | [z0, z1, z2, z3, z4, z5, z6, z7, z8, z9, z10, z11, z12, z13, z14], _ =>
    have c1 : Try.prog.cellsOf 24 = 2 := by kernel_rfl
    have c2 : Try.prog.cellsOf 28 = 6 := by kernel_rfl
    have c3 : Try.prog.cellsOf 26 = 1 := by kernel_rfl
    have c4 : Try.prog.cellsOf 3 = 1 := by kernel_rfl
    simp only [Prod.mk.injEq] at hx
    rw [hx.1] at hs
    rw [c2] at h0 h1
    rw [c1] at h2
    rw [c3] at h3
    change DataW.trod enc Try.prog W 0 (fun _ => true) true n 28 [z0, z1, z2, z3, z4, z5] = some y0 at h0
    change DataW.trod enc Try.prog W 0 (fun _ => true) true n 28 [z6, z7, z8, z9, z10, z11] = some y1 at h1
    change DataW.trod enc Try.prog W 0 (fun _ => true) true n 24 [z12, z13] = some y2 at h2
    change DataW.trod enc Try.prog W 0 (fun _ => true) true n 26 [z14] = some y3 at h3
    obtain ⟨s, A, c, e1, r1, k1, l1⟩ := state_cells rfl h0 (hs.field Try.underlying41 (j := 0) rfl rfl)
    obtain ⟨q, B, d, e2, r2, k2, l2⟩ := state_cells rfl h1 (hs.field Try.underlying41 (j := 1) rfl rfl)
    obtain ⟨u0, u1, m, _, _, g0, g1⟩ := trod_struct2 Try.underlying24 h2
    obtain ⟨x, e3, _, _⟩ := DataW.trod_int Try.underlying3 g0
    obtain ⟨y, e4, _, _⟩ := DataW.trod_int Try.underlying3 g1
    obtain ⟨E, cap, zs, e6, hz, hm, hR, hwf, hl2⟩ := trod_nums Try.underlying26 Try.underlying5 (by kernel_rfl) h3
    have hln := (hs.field Try.underlying41 (j := 3) rfl rfl).nums (m := 1) Try.underlying26 (by kernel_rfl) hl2
    simp [c4] at e1 e2 e3 e4 e6
    refine ⟨s, q, A, B, E, c, d, cap, x, y, zs, ?_, r1, r2, hR, k1, k2, okb_wf hwf, l1, l2, by omega⟩
    simp [e1, e2, e3, e4, e6]

set_option maxRecDepth 100000 in
theorem acceptorAnswers_lifted (os : Os) (started : os.Started) (H : Type) (enc : TypeId × Value → H) :
    ReturnsInHanded {} Try.checked os 5 .any (Rows.acceptorAnswersSpec.pre6 enc Try.prog Try.f5 Rows.acceptorAnswersRow.domain false) (Rows.acceptorAnswersSpec.post enc Try.prog Try.f5 false true false false) := by
  refine returnsInHanded_of_change_sized (C := Try.checked) (by kernel_rfl) started (by kernel_rfl) Try.func5
    (ChangeSpec.witness6 (enc := enc) (C := Try.checked) false ⟨#[], #[.agg #[.int .i64 0, .int .i64 0, .bool false, .int .i64 0, .int .i64 0, .slice none 0 0, .int .i64 0, .int .i64 0, .bool false, .int .i64 0, .int .i64 0, .slice none 0 0, .int .i64 0, .int .i64 0, .slice none 0 0]], []⟩ 8 (by kernel_rfl) (by kernel_rfl) (by kernel_rfl) (by kernel_rfl)) ?_
  intro W base args ds gs before hval0 hW _ hsz0 _
  have hval : ∀ (j : Nat) t v, Try.f5.params[j]? = some t → args[j]? = some v → Value.okWide Try.prog W .any base t v := hval0
  have hW' := hW
  obtain ⟨p, q, hA0, hV, rfl, _, _⟩ := hW
  have hA : DataW.TrodAll enc Try.prog W 0 (fun _ => true) true Try.f5.params.toList args.toList ds p := hA0
  have hsz : (DataW.weightsEach Try.prog (Try.f5.params.toList ++ Rows.acceptorAnswersSpec.plain.varTypes Try.prog) (ds ++ gs)).all (· ≤ reachBytes) = true := hsz0
  rw [Try.params5] at hA hval hsz
  obtain ⟨v0, d0, rfl, rfl, h0⟩ := trodAll_one hA
  obtain ⟨cs0, rfl, hz0⟩ := okWide_struct Try.underlying41 (hval 0 41 v0 rfl rfl)
  obtain ⟨fuel0, hf0⟩ := h0
  obtain ⟨s0, q0, A0, B0, E0, c0, e0, g0, r0, t0, z0, hc0, hR0, hR1, hR2, hb0, hb1, hb2, hl0, hl1, hl2⟩ := asked_cells (by simpa [Value.cells] using hz0.trans (show Try.prog.cellsOf 41 = 15 by kernel_rfl)) hf0 (sized_arg hsz (j := 0) rfl rfl)
  obtain rfl := agg_list hc0
  refine (acceptorAnswers_walk s0 q0 A0 B0 E0 c0 e0 g0 r0 t0 z0 W hR0 hR1 hR2 hb0 hb1 hb2 hl0 hl1 hl2).mono fun e W' ⟨he, hb⟩ => ?_
  subst he
  exact ⟨_, rfl, post_law (by kernel_rfl) (by kernel_rfl) rfl hW' (by rintro _ rfl; rfl) rfl Try.underlying4 hb⟩

theorem acceptorAnswers_holds : Rows.AcceptorAnswersSaid :=
  OpenClaim.holds_of_wide 5 Try.f5 rfl rfl rfl rfl rfl rfl rfl ⟨rfl, rfl, rfl, rfl, rfl⟩ rfl rfl rfl rfl rfl (by kernel_rfl) Try.func5 (by kernel_rfl)
    (of_decide_eq_true (by kernel_rfl)) (by unfold Func.isWrapper; first | (rw [if_pos (by decide +kernel)]; kernel_rfl) | (rw [if_neg (by decide +kernel)]; exact ⟨rfl, rfl⟩))
    (fun os started H enc _ => acceptorAnswers_lifted os started H enc)

end Go.Proofs.Ytodlabpgjgbbpag
