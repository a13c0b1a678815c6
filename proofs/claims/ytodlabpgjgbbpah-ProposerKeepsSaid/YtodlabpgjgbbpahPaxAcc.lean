/-
  What the acceptor's functions do, each by a contract (the proposer's seat).
-/
import Derived.Test.YtodlabpgjgbbpahPropBal
import Derived.Test.YtodlabpgjgbbpahBytes
import Derived.Test.YtodlabpgjgbbpahCells
import Derived.Test.YtodlabpgjgbbpahAccPlain
namespace Go.Proofs.Ytodlabpgjgbbpah
open Go.RowKit Go.Agio

/-- A state's cells. -/
abbrev stc (pr ps : Int) (sm : Bool) (ar as_ : Int) (V : Value) : Array Value := #[.int .i64 pr, .int .i64 ps, .bool sm, .int .i64 ar, .int .i64 as_, V]

theorem below_any (pr ps : Int) (sm : Bool) (ar as_ : Int) (V : Value) (w : World) :
    Calls Try.prog 38 #[.agg (stc pr ps sm ar as_ V)] w fun e w' => e = .returned (.func (.func 41) #[] #[.pointer (some ⟨w.heap.size, 0, none⟩)]) ∧ w' = w.alloc (.cells (stc pr ps sm ar as_ V) 51) := by
  go_enter Try.func38, Try.ntmps38
  go_wp2
  go_ret
  exact ⟨rfl, rfl⟩

theorem turns_any (r t pr ps : Int) (B : Nat) (w : World) (h0 : w.cell? ⟨B, 0, none⟩ = some (.int .i64 pr)) (h1 : w.cell? ⟨B, 1, none⟩ = some (.int .i64 ps)) (hB : B < w.heap.size) :
    Calls Try.prog 41 #[.agg #[.int .i64 r, .int .i64 t], .pointer (some ⟨B, 0, none⟩)] w fun e w' => e = .returned (.bool (decide (Bal.compare r t pr ps < 0))) ∧ Below w.heap.size w w' := by
  go_enter Try.func41, Try.ntmps41
  go_wp2_with fail
  refine (compare_any _ _ _ _ _).mono ?_
  rintro e w1 ⟨rfl, hb1⟩
  go_wp2
  go_ret
  exact ⟨rfl, ((Below.refl _ _).alloc (Nat.le_refl _) _).trans (hb1.mono (by simp))⟩

/-- A state, as a value. -/
abbrev stv (s : Acc.St) (A : Option Addr) (c : Nat) : Value := .agg (stc s.pr s.ps s.some s.ar s.as_ (.slice A s.val.length c))
/-- A state is handed back, and whether it was done. -/
def SGot (w : World) (s : Acc.St) (ok : Bool) (e : Ending) (w' : World) : Prop := ∃ A c, e = .returned (.tuple #[stv s A c, .bool ok]) ∧ Reads w' A (bys s.val) ∧ (∀ a, A = some a → w.heap.size ≤ a.block) ∧ Below w.heap.size w w'

set_option maxHeartbeats 2000000 in
theorem prepare_any (s : Acc.St) (A : Option Addr) (c : Nat) (r t : Int) (w : World) (hR : Reads w A (bys s.val)) (hm : s.val.length ≤ 140737488355328) :
    Calls Try.prog 31 #[stv s A c, .agg #[.int .i64 r, .int .i64 t]] w (SGot w (Acc.prepare s r t) (Acc.prepareOk s r t)) := by
  obtain ⟨pr, ps, sm, ar, as_, xs⟩ := s
  change Reads w A (bys xs) at hR
  change xs.length ≤ _ at hm
  generalize hn : xs.length = n at *
  have HN := hide hn
  have HR := hide hR
  clear hn hR
  unfold stv
  simp only []
  rw [HN.out]
  go_enter Try.func31, Try.ntmps31
  go_wp2_with fail
  have hN := three_new w (.cells (stc pr ps sm ar as_ (.slice A n c)) 51) (.cells #[.int .i64 r, .int .i64 t] 32) (.cells (stc 0 0 false 0 0 (.slice none 0 0)) 51)
  generalize ((w.alloc (.cells (stc pr ps sm ar as_ (.slice A n c)) 51)).alloc (.cells #[.int .i64 r, .int .i64 t] 32)).alloc (.cells (stc 0 0 false 0 0 (.slice none 0 0)) 51) = W0 at *
  obtain ⟨K0, K1, K2, hs, hb⟩ := hN
  refine (clone_any A n c xs W0 (HR.out.below hb) HN.out hm).mono ?_
  rintro e w1 ⟨A1, c1, rfl, O1, hb1⟩
  replace K0 := (hb1.block _ (blk_lt K0)).trans K0
  replace K1 := (hb1.block _ (blk_lt K1)).trans K1
  replace K2 := (hb1.block _ (blk_lt K2)).trans K2
  have R1 := Reads.of_own O1
  have P1 : Hid (∀ a, A1 = some a → w.heap.size + 3 ≤ a.block) := hide (fun a ha => by subst ha; have := (O1.lt a.block rfl).1; omega)
  replace hb := below_next hb hb1
  clear O1 hb1 hs
  obtain ⟨x0, x1, x2, x3, x4, x5⟩ := six_at K0
  obtain ⟨xf0, xf1, xf2, xf3, xf4, xf5⟩ := six_live K0
  obtain ⟨y0, y1⟩ := two_at K1
  obtain ⟨z0, z1, z2, z3, z4, z5⟩ := six_at K2
  obtain ⟨zf0, zf1, zf2, zf3, zf4, zf5⟩ := six_live K2
  have K0 := hide K0; have K1 := hide K1; have K2 := hide K2
  go_wp2_with fail
  refine (below_any pr ps sm ar as_ (.slice A1 n c1) _).mono ?_
  rintro e w2 ⟨rfl, rfl⟩
  clear x0 x1 x2 x3 x4 x5 xf0 xf1 xf2 xf3 xf4 xf5 y0 y1 z0 z1 z2 z3 z4 z5 zf0 zf1 zf2 zf3 zf4 zf5
  replace R1 := (R1.keepset w.heap.size 5 (.slice A1 n c1) (fun a ha => by have := P1.out a ha; omega)).alloc (.cells (stc pr ps sm ar as_ (.slice A1 n c1)) 51)
  replace hb := (hb.setCell (p := ⟨w.heap.size, 5, none⟩) (Nat.le_refl _) (.slice A1 n c1)).alloc (by simpa [World.setCell] using hb.size) (.cells (stc pr ps sm ar as_ (.slice A1 n c1)) 51)
  have KB := new_set w1 ⟨w.heap.size, 5, none⟩ (.slice A1 n c1) (.cells (stc pr ps sm ar as_ (.slice A1 n c1)) 51)
  replace K0 := blk_alloc (six_put5 K0.out (.slice A1 n c1)) (.cells (stc pr ps sm ar as_ (.slice A1 n c1)) 51)
  replace K1 := blk_alloc (far K1.out (b := w.heap.size) (by omega) 5 (.slice A1 n c1)) (.cells (stc pr ps sm ar as_ (.slice A1 n c1)) 51)
  replace K2 := blk_alloc (far K2.out (b := w.heap.size) (by omega) 5 (.slice A1 n c1)) (.cells (stc pr ps sm ar as_ (.slice A1 n c1)) 51)
  generalize (w1.setCell ⟨w.heap.size, 5, none⟩ (.slice A1 n c1)).alloc (.cells (stc pr ps sm ar as_ (.slice A1 n c1)) 51) = W2 at *
  have HB2 := hide hb; have R2 := hide R1
  clear hb R1
  have CT := hide (turns_any r t pr ps w1.heap.size W2 (six_at KB).1 (six_at KB).2.1 (blk_lt KB))
  clear KB
  obtain ⟨x0, x1, x2, x3, x4, x5⟩ := six_at K0
  obtain ⟨xf0, xf1, xf2, xf3, xf4, xf5⟩ := six_live K0
  obtain ⟨y0, y1⟩ := two_at K1
  obtain ⟨z0, z1, z2, z3, z4, z5⟩ := six_at K2
  obtain ⟨zf0, zf1, zf2, zf3, zf4, zf5⟩ := six_live K2
  have K0 := hide K0; have K1 := hide K1; have K2 := hide K2
  by_cases h1 : r < 1
  · have F1 := hide (show Acc.prepareOk ⟨pr, ps, sm, ar, as_, xs⟩ r t = false by simp [Acc.prepareOk]; omega)
    have F2 := hide (Acc.prepare_no F1.out)
    go_wp2
    refine bodyPost_ret (v := .tuple #[.agg (stc pr ps sm ar as_ (.slice A1 n c1)), .bool false]) (by simp [results, Try.results31, go_sem, z0, z1, z2, z3, z4, z5]) rfl ?_
    rw [F1.out, F2.out]
    exact ⟨A1, c1, by show _ = Ending.returned (.tuple #[.agg (stc pr ps sm ar as_ (.slice A1 xs.length c1)), .bool false]); rw [HN.out], fin_six (b := w.heap.size + 1 + 1) ⟨R2.out, HB2.out⟩ (fun a ha => by have := P1.out a ha; omega) (by omega) _ _ _ _ _ _⟩
  · have h2 : decide (r < 1) = false := by simpa using h1
    have CT : Hid (Calls Try.prog 41 #[.agg #[.int .i64 r, .int .i64 t], .pointer (some ⟨w1.heap.size, 0, none⟩)] W2 fun e w' => e = .returned (.bool (Acc.low ⟨pr, ps, sm, ar, as_, xs⟩ r t)) ∧ Below W2.heap.size W2 w') := hide CT.out
    cases hl : Acc.low ⟨pr, ps, sm, ar, as_, xs⟩ r t
    all_goals rw [hl] at CT
    · have F1 := hide (show Acc.prepareOk ⟨pr, ps, sm, ar, as_, xs⟩ r t = true by simp [Acc.prepareOk, hl]; omega)
      have F2 := hide (Acc.prepare_ok F1.out)
      clear hl
      go_wp2_with fail
      refine CT.out.mono ?_
      rintro e w3 ⟨rfl, hb3⟩
      clear x0 x1 x2 x3 x4 x5 xf0 xf1 xf2 xf3 xf4 xf5 y0 y1 z0 z1 z2 z3 z4 z5 zf0 zf1 zf2 zf3 zf4 zf5
      replace K0 := (hb3.block _ (blk_lt K0.out)).trans K0.out
      replace K1 := (hb3.block _ (blk_lt K1.out)).trans K1.out
      replace K2 := (hb3.block _ (blk_lt K2.out)).trans K2.out
      have R3 := hide (R2.out.below hb3)
      have HB3 := hide (below_next HB2.out hb3)
      clear hb3
      obtain ⟨x0, x1, x2, x3, x4, x5⟩ := six_at K0
      obtain ⟨xf0, xf1, xf2, xf3, xf4, xf5⟩ := six_live K0
      obtain ⟨y0, y1⟩ := two_at K1
      obtain ⟨z0, z1, z2, z3, z4, z5⟩ := six_at K2
      obtain ⟨zf0, zf1, zf2, zf3, zf4, zf5⟩ := six_live K2
      have K0 := hide K0; have K1 := hide K1; have K2 := hide K2
      go_wp2
      refine bodyPost_ret (v := .tuple #[.agg (stc r t sm ar as_ (.slice A1 n c1)), .bool true]) (by simp [results, Try.results31, go_sem, z0, z1, z2, z3, z4, z5]) rfl ?_
      rw [F1.out, F2.out]
      exact ⟨A1, c1, by show _ = Ending.returned (.tuple #[.agg (stc r t sm ar as_ (.slice A1 xs.length c1)), .bool true]); rw [HN.out], fin_six (b := w.heap.size + 1 + 1) (set_two (b := w.heap.size) ⟨R3.out, HB3.out⟩ (fun a ha => by have := P1.out a ha; omega) (by omega) _ _) (fun a ha => by have := P1.out a ha; omega) (by omega) _ _ _ _ _ _⟩
    · have F1 := hide (show Acc.prepareOk ⟨pr, ps, sm, ar, as_, xs⟩ r t = false by simp [Acc.prepareOk, hl])
      have F2 := hide (Acc.prepare_no F1.out)
      clear hl
      go_wp2_with fail
      refine CT.out.mono ?_
      rintro e w3 ⟨rfl, hb3⟩
      clear x0 x1 x2 x3 x4 x5 xf0 xf1 xf2 xf3 xf4 xf5 y0 y1 z0 z1 z2 z3 z4 z5 zf0 zf1 zf2 zf3 zf4 zf5
      replace K0 := (hb3.block _ (blk_lt K0.out)).trans K0.out
      replace K1 := (hb3.block _ (blk_lt K1.out)).trans K1.out
      replace K2 := (hb3.block _ (blk_lt K2.out)).trans K2.out
      have R3 := hide (R2.out.below hb3)
      have HB3 := hide (below_next HB2.out hb3)
      clear hb3
      obtain ⟨x0, x1, x2, x3, x4, x5⟩ := six_at K0
      obtain ⟨xf0, xf1, xf2, xf3, xf4, xf5⟩ := six_live K0
      obtain ⟨y0, y1⟩ := two_at K1
      obtain ⟨z0, z1, z2, z3, z4, z5⟩ := six_at K2
      obtain ⟨zf0, zf1, zf2, zf3, zf4, zf5⟩ := six_live K2
      have K0 := hide K0; have K1 := hide K1; have K2 := hide K2
      go_wp2
      refine bodyPost_ret (v := .tuple #[.agg (stc pr ps sm ar as_ (.slice A1 n c1)), .bool false]) (by simp [results, Try.results31, go_sem, z0, z1, z2, z3, z4, z5]) rfl ?_
      rw [F1.out, F2.out]
      exact ⟨A1, c1, by show _ = Ending.returned (.tuple #[.agg (stc pr ps sm ar as_ (.slice A1 xs.length c1)), .bool false]); rw [HN.out], fin_six (b := w.heap.size + 1 + 1) ⟨R3.out, HB3.out⟩ (fun a ha => by have := P1.out a ha; omega) (by omega) _ _ _ _ _ _⟩

set_option maxHeartbeats 2000000 in
theorem accept_any (s : Acc.St) (A : Option Addr) (c : Nat) (r t : Int) (B : Option Addr) (cb : Nat) (v : List Int) (w : World) (hR : Reads w A (bys s.val)) (hm : s.val.length ≤ 140737488355328) (hS : Reads w B (bys v)) (hv : v.length ≤ 140737488355328) :
    Calls Try.prog 32 #[stv s A c, .agg #[.int .i64 r, .int .i64 t], .slice B v.length cb] w (SGot w (Acc.accept s r t v) (Acc.acceptOk s r t)) := by
  obtain ⟨pr, ps, sm, ar, as_, xs⟩ := s
  change Reads w A (bys xs) at hR
  change xs.length ≤ _ at hm
  generalize hn : xs.length = n at *
  generalize hq : v.length = m at *
  have HN := hide hn
  have HQ := hide hq
  have HR := hide hR
  have HS := hide hS
  clear hn hR hq hS
  unfold stv
  simp only []
  rw [HN.out]
  go_enter Try.func32, Try.ntmps32
  go_wp2_with fail
  have hN := three_new w (.cells (stc pr ps sm ar as_ (.slice A n c)) 51) (.cells #[.int .i64 r, .int .i64 t] 32) (.cells (stc 0 0 false 0 0 (.slice none 0 0)) 51)
  generalize ((w.alloc (.cells (stc pr ps sm ar as_ (.slice A n c)) 51)).alloc (.cells #[.int .i64 r, .int .i64 t] 32)).alloc (.cells (stc 0 0 false 0 0 (.slice none 0 0)) 51) = W0 at *
  obtain ⟨K0, K1, K2, hs, hb⟩ := hN
  have HR := hide (HR.out.below hb)
  have HS := hide (HS.out.below hb)
  obtain ⟨x0, x1, x2, x3, x4, x5⟩ := six_at K0
  obtain ⟨xf0, xf1, xf2, xf3, xf4, xf5⟩ := six_live K0
  obtain ⟨y0, y1⟩ := two_at K1
  obtain ⟨z0, z1, z2, z3, z4, z5⟩ := six_at K2
  obtain ⟨zf0, zf1, zf2, zf3, zf4, zf5⟩ := six_live K2
  have K0 := hide K0; have K1 := hide K1; have K2 := hide K2
  refine (below_any pr ps sm ar as_ (.slice A n c) W0).mono ?_
  rintro e w2 ⟨rfl, rfl⟩
  clear x0 x1 x2 x3 x4 x5 xf0 xf1 xf2 xf3 xf4 xf5 y0 y1 z0 z1 z2 z3 z4 z5 zf0 zf1 zf2 zf3 zf4 zf5
  have KB := heap_new W0 (.cells (stc pr ps sm ar as_ (.slice A n c)) 51)
  replace K0 := blk_alloc K0.out (.cells (stc pr ps sm ar as_ (.slice A n c)) 51)
  replace K1 := blk_alloc K1.out (.cells (stc pr ps sm ar as_ (.slice A n c)) 51)
  replace K2 := blk_alloc K2.out (.cells (stc pr ps sm ar as_ (.slice A n c)) 51)
  have HR := hide (HR.out.alloc (.cells (stc pr ps sm ar as_ (.slice A n c)) 51))
  have HS := hide (HS.out.alloc (.cells (stc pr ps sm ar as_ (.slice A n c)) 51))
  replace hb := hb.alloc hb.size (.cells (stc pr ps sm ar as_ (.slice A n c)) 51)
  generalize W0.alloc (.cells (stc pr ps sm ar as_ (.slice A n c)) 51) = W2 at *
  have HB2 := hide hb
  have CT : Hid (Calls Try.prog 41 #[.agg #[.int .i64 r, .int .i64 t], .pointer (some ⟨W0.heap.size, 0, none⟩)] W2 fun e w' => e = .returned (.bool (Acc.low ⟨pr, ps, sm, ar, as_, xs⟩ r t)) ∧ Below W2.heap.size W2 w') := hide (turns_any r t pr ps W0.heap.size W2 (six_at KB).1 (six_at KB).2.1 (blk_lt KB))
  clear KB hb hs
  obtain ⟨x0, x1, x2, x3, x4, x5⟩ := six_at K0
  obtain ⟨xf0, xf1, xf2, xf3, xf4, xf5⟩ := six_live K0
  obtain ⟨y0, y1⟩ := two_at K1
  obtain ⟨z0, z1, z2, z3, z4, z5⟩ := six_at K2
  obtain ⟨zf0, zf1, zf2, zf3, zf4, zf5⟩ := six_live K2
  have K0 := hide K0; have K1 := hide K1; have K2 := hide K2
  cases hl : Acc.low ⟨pr, ps, sm, ar, as_, xs⟩ r t
  all_goals rw [hl] at CT
  · have F1 := hide (show Acc.acceptOk ⟨pr, ps, sm, ar, as_, xs⟩ r t = true by simp [Acc.acceptOk, hl])
    have F2 := hide (Acc.accept_ok (v := v) F1.out)
    clear hl
    go_wp2_with fail
    refine CT.out.mono ?_
    rintro e w3 ⟨rfl, hb3⟩
    clear x0 x1 x2 x3 x4 x5 xf0 xf1 xf2 xf3 xf4 xf5 y0 y1 z0 z1 z2 z3 z4 z5 zf0 zf1 zf2 zf3 zf4 zf5
    replace K0 := (hb3.block _ (blk_lt K0.out)).trans K0.out
    replace K1 := (hb3.block _ (blk_lt K1.out)).trans K1.out
    replace K2 := (hb3.block _ (blk_lt K2.out)).trans K2.out
    have S3 := hide (HS.out.below hb3)
    have HB3 := hide (below_next HB2.out hb3)
    clear hb3
    obtain ⟨x0, x1, x2, x3, x4, x5⟩ := six_at K0
    obtain ⟨xf0, xf1, xf2, xf3, xf4, xf5⟩ := six_live K0
    obtain ⟨y0, y1⟩ := two_at K1
    obtain ⟨z0, z1, z2, z3, z4, z5⟩ := six_at K2
    obtain ⟨zf0, zf1, zf2, zf3, zf4, zf5⟩ := six_live K2
    have K0 := hide K0; have K1 := hide K1; have K2 := hide K2
    have L1 := hide (blk_lt K1.out)
    have L2 := hide (blk_lt K2.out)
    have CC := hide (fun (W : World) (hb : Below w3.heap.size w3 W) => clone_at B m cb v W hb S3.out HQ.out hv)
    go_wp2_with fail
    go_region_held3 (fun W => W.cell? ⟨w.heap.size + 1, 0, none⟩ = some (.int .i64 r) ∧ W.cell? ⟨w.heap.size + 1, 1, none⟩ = some (.int .i64 t)) (go_keep) ((go_at_call 25; refine (CC.out _ (by first | exact Below.refl _ _ | exact (Below.refl _ _).drew)).mono ?_; rintro e w4 ⟨A1, c1, rfl, O1, g1, hb1⟩; have k1 := (hb1.block _ L1.out).trans K1.out; have k2 := (hb1.block _ L2.out).trans K2.out; have R4 := hide O1; have P1 : Hid (∀ a, A1 = some a → w.heap.size + 1 + 1 + 1 ≤ a.block) := hide (fun a ha => by have := (g1 a ha).1; have := L2.out; omega); have HB4 := hide (below_next HB3.out hb1); clear x0 x1 x2 x3 x4 x5 xf0 xf1 xf2 xf3 xf4 xf5 y0 y1 z0 z1 z2 z3 z4 z5 zf0 zf1 zf2 zf3 zf4 zf5 O1 hb1 g1; have y0 := (two_at k1).1; have y1 := (two_at k1).2; obtain ⟨z0, z1, z2, z3, z4, z5⟩ := six_at k2; obtain ⟨zf0, zf1, zf2, zf3, zf4, zf5⟩ := six_live k2; clear k1 k2))
    go_wp2
    refine bodyPost_ret (v := .tuple #[.agg (stc r t true r t (.slice A1 m c1)), .bool true]) (by simp [results, Try.results32, go_sem, z0, z1, z2, z3, z4, z5]) rfl ?_
    rw [F1.out, F2.out]
    exact ⟨A1, c1, by show _ = Ending.returned (.tuple #[.agg (stc r t true r t (.slice A1 v.length c1)), .bool true]); rw [HQ.out], fin_six (b := w.heap.size + 1 + 1) ⟨R4.out, HB4.out⟩ (fun a ha => by have := P1.out a ha; omega) (by omega) _ _ _ _ _ _⟩
  · have F1 := hide (show Acc.acceptOk ⟨pr, ps, sm, ar, as_, xs⟩ r t = false by simp [Acc.acceptOk, hl])
    have F2 := hide (Acc.accept_no (v := v) F1.out)
    clear hl
    go_wp2_with fail
    refine CT.out.mono ?_
    rintro e w3 ⟨rfl, hb3⟩
    clear x0 x1 x2 x3 x4 x5 xf0 xf1 xf2 xf3 xf4 xf5 y0 y1 z0 z1 z2 z3 z4 z5 zf0 zf1 zf2 zf3 zf4 zf5
    replace K0 := (hb3.block _ (blk_lt K0.out)).trans K0.out
    replace K1 := (hb3.block _ (blk_lt K1.out)).trans K1.out
    replace K2 := (hb3.block _ (blk_lt K2.out)).trans K2.out
    have R3 := hide (HR.out.below hb3)
    have HB3 := hide (below_next HB2.out hb3)
    clear hb3
    obtain ⟨x0, x1, x2, x3, x4, x5⟩ := six_at K0
    obtain ⟨xf0, xf1, xf2, xf3, xf4, xf5⟩ := six_live K0
    obtain ⟨y0, y1⟩ := two_at K1
    obtain ⟨z0, z1, z2, z3, z4, z5⟩ := six_at K2
    obtain ⟨zf0, zf1, zf2, zf3, zf4, zf5⟩ := six_live K2
    have K0 := hide K0; have K1 := hide K1; have K2 := hide K2
    go_wp2_with fail
    refine (clone_any A n c xs w3 R3.out HN.out hm).mono ?_
    rintro e w4 ⟨A1, c1, rfl, O1, hb1⟩
    clear x0 x1 x2 x3 x4 x5 xf0 xf1 xf2 xf3 xf4 xf5 y0 y1 z0 z1 z2 z3 z4 z5 zf0 zf1 zf2 zf3 zf4 zf5
    have L2 := hide (blk_lt K2.out)
    replace K0 := (hb1.block _ (blk_lt K0.out)).trans K0.out
    replace K1 := (hb1.block _ (blk_lt K1.out)).trans K1.out
    replace K2 := (hb1.block _ (blk_lt K2.out)).trans K2.out
    have R4 := hide (Reads.of_own O1)
    have P1 : Hid (∀ a, A1 = some a → w.heap.size + 1 + 1 + 1 ≤ a.block) := hide (fun a ha => by subst ha; have := (O1.lt a.block rfl).1; have := L2.out; omega)
    have HB4 := hide (below_next HB3.out hb1)
    clear O1 hb1
    obtain ⟨x0, x1, x2, x3, x4, x5⟩ := six_at K0
    obtain ⟨xf0, xf1, xf2, xf3, xf4, xf5⟩ := six_live K0
    obtain ⟨y0, y1⟩ := two_at K1
    obtain ⟨z0, z1, z2, z3, z4, z5⟩ := six_at K2
    obtain ⟨zf0, zf1, zf2, zf3, zf4, zf5⟩ := six_live K2
    have K0 := hide K0; have K1 := hide K1; have K2 := hide K2
    go_wp2
    refine bodyPost_ret (v := .tuple #[.agg (stc pr ps sm ar as_ (.slice A1 n c1)), .bool false]) (by simp [results, Try.results32, go_sem, z0, z1, z2, z3, z4, z5]) rfl ?_
    rw [F1.out, F2.out]
    have H1 := set_stay HB4.out R4.out (b := w.heap.size) (fun a ha => by have := P1.out a ha; omega) (by omega) 5 (.slice A1 n c1)
    exact ⟨A1, c1, by show _ = Ending.returned (.tuple #[.agg (stc pr ps sm ar as_ (.slice A1 xs.length c1)), .bool false]); rw [HN.out], fin_six (b := w.heap.size + 1 + 1) H1 (fun a ha => by have := P1.out a ha; omega) (by omega) _ _ _ _ _ _⟩

/-- A number's place among so many. -/
def lst (n m : Int) : Int := (if n < 0 then -(n + 1) else n) % m
theorem lst_range {n m : Int} (h : 0 < m) : 0 ≤ lst n m ∧ lst n m < m := ⟨Int.emod_nonneg _ (by omega), Int.emod_lt_of_pos _ h⟩
set_option maxHeartbeats 1000000 in
theorem least_any (n m : Int) (w : World) (hm : 0 < m) (hn : -9223372036854775808 ≤ n ∧ n ≤ 9223372036854775807) (hm2 : m ≤ 9223372036854775807) :
    Calls Try.prog 30 #[.int .i64 n, .int .i64 m] w fun e w' => e = .returned (.int .i64 (lst n m)) ∧ w = w' := by
  obtain ⟨hn0, hn1⟩ := hn
  by_cases h : n < 0
  · have hf : lst n m = (-(n + 1)) % m := by unfold lst; rw [if_pos h]
    rw [hf]
    clear hf
    go_enter Try.func30, Try.ntmps30
    go_wp2
    go_ret
    exact ⟨by show Ending.returned (.int .i64 (-(n + 1).tmod m)) = _; rw [← Int.neg_tmod, Int.tmod_eq_emod_of_nonneg (by omega)], rfl⟩
  · have hf : lst n m = n % m := by unfold lst; rw [if_neg h]
    rw [hf]
    clear hf
    have h0 : 0 ≤ n := by omega
    go_enter Try.func30, Try.ntmps30
    go_wp2
    go_ret
    exact ⟨rfl, rfl⟩

end Go.Proofs.Ytodlabpgjgbbpah
