/-
  What the document's own acceptor answers, each function by a contract.
-/
import Derived.Test.YtodlabpgjgbbpagAccMore
namespace Go.Proofs.Ytodlabpgjgbbpag
open Go.RowKit Go.Agio

set_option maxHeartbeats 2000000 in
theorem real_any (s : Acc.St) (A : Option Addr) (c : Nat) (w : World) :
    Calls Try.prog 17 #[stv s A c] w fun e w' => e = .returned (stv s A c) ∧ Below w.heap.size w w' := by
  obtain ⟨pr, ps, sm, ar, as_, xs⟩ := s
  unfold stv
  simp only []
  generalize xs.length = n at *
  go_enter Try.func17, Try.ntmps17
  go_wp2_with fail
  refine bodyPost_ret (v := .agg (stc pr ps sm ar as_ (.slice A n c))) (by simp [results, Try.results17, go_sem]) rfl ?_
  exact ⟨rfl, ((Below.refl _ _).alloc (Nat.le_refl _) _).alloc (by simp) _⟩

set_option maxHeartbeats 2000000 in
theorem rprepare_any (s : Acc.St) (A : Option Addr) (c : Nat) (r t : Int) (w : World) :
    Calls Try.prog 16 #[stv s A c, .agg #[.int .i64 r, .int .i64 t]] w fun e w' => e = .returned (.tuple #[stv (Acc.prepare s r t) A c, .bool (Acc.prepareOk s r t)]) ∧ Below w.heap.size w w' := by
  obtain ⟨pr, ps, sm, ar, as_, xs⟩ := s
  by_cases h1 : r < 1
  · have F1 := show Acc.prepareOk ⟨pr, ps, sm, ar, as_, xs⟩ r t = false by simp [Acc.prepareOk]; omega
    have F2 := Acc.prepare_no F1
    rw [F1, F2]
    clear F1 F2
    unfold stv
    simp only []
    generalize xs.length = n at *
    go_enter Try.func16, Try.ntmps16
    go_wp2_with fail
    refine bodyPost_ret (v := .tuple #[.agg (stc pr ps sm ar as_ (.slice A n c)), .bool false]) (by simp [results, Try.results16, go_sem]) rfl ?_
    exact ⟨rfl, (((Below.refl _ _).alloc (Nat.le_refl _) _).alloc (by simp) _).alloc (by simp; omega) _⟩
  · have h2 : decide (r < 1) = false := by simpa using h1
    have CT := hide (fun W => (show Calls Try.prog 13 #[.agg #[.int .i64 r, .int .i64 t], .agg #[.int .i64 pr, .int .i64 ps]] W fun e w' => e = .returned (.int .i64 (Bal.compare r t pr ps)) ∧ Below W.heap.size W w' from rcompare_any r t pr ps W))
    have HL := hide (show Acc.low ⟨pr, ps, sm, ar, as_, xs⟩ r t = decide (Bal.compare r t pr ps < 0) from rfl)
    generalize Bal.compare r t pr ps = q at *
    by_cases hq : q < 0
    · have F1 := show Acc.prepareOk ⟨pr, ps, sm, ar, as_, xs⟩ r t = false by simp [Acc.prepareOk, HL.out, hq]
      have F2 := Acc.prepare_no F1
      rw [F1, F2]
      clear F1 F2 HL
      unfold stv
      simp only []
      generalize xs.length = n at *
      go_enter Try.func16, Try.ntmps16
      go_wp2_with fail
      have hN := three_new w (.cells (stc pr ps sm ar as_ (.slice A n c)) 42) (.cells #[.int .i64 r, .int .i64 t] 24) (.cells (stc 0 0 false 0 0 (.slice none 0 0)) 42)
      generalize ((w.alloc (.cells (stc pr ps sm ar as_ (.slice A n c)) 42)).alloc (.cells #[.int .i64 r, .int .i64 t] 24)).alloc (.cells (stc 0 0 false 0 0 (.slice none 0 0)) 42) = W0 at *
      obtain ⟨K0, K1, K2, hs, hb⟩ := hN
      refine (CT.out W0).mono ?_
      rintro e w1 ⟨rfl, hb1⟩
      replace K0 := (hb1.block _ (blk_lt K0)).trans K0
      replace K1 := (hb1.block _ (blk_lt K1)).trans K1
      replace K2 := (hb1.block _ (blk_lt K2)).trans K2
      have HB := hide (below_next hb hb1)
      clear hb hb1 hs
      obtain ⟨x0, x1, x2, x3, x4, x5⟩ := six_at K0
      obtain ⟨xf0, xf1, xf2, xf3, xf4, xf5⟩ := six_live K0
      obtain ⟨y0, y1⟩ := two_at K1
      obtain ⟨z0, z1, z2, z3, z4, z5⟩ := six_at K2
      obtain ⟨zf0, zf1, zf2, zf3, zf4, zf5⟩ := six_live K2
      have K0 := hide K0; have K1 := hide K1; have K2 := hide K2
      have tq : decide (q < 0) = true := by simpa using hq
      go_wp2
      refine bodyPost_ret (v := .tuple #[.agg (stc pr ps sm ar as_ (.slice A n c)), .bool false]) (by simp [results, Try.results16, go_sem, z0, z1, z2, z3, z4, z5]) rfl ?_
      exact ⟨rfl, (set_six (xs := []) ⟨.nil _ none, HB.out⟩ (fun a ha => by cases ha) (by omega) _ _ _ _ _ _).2⟩
    · have F1 := show Acc.prepareOk ⟨pr, ps, sm, ar, as_, xs⟩ r t = true by simp [Acc.prepareOk, HL.out, hq]; omega
      have F2 := Acc.prepare_ok F1
      rw [F1, F2]
      clear F1 F2 HL
      unfold stv
      simp only []
      generalize xs.length = n at *
      go_enter Try.func16, Try.ntmps16
      go_wp2_with fail
      have hN := three_new w (.cells (stc pr ps sm ar as_ (.slice A n c)) 42) (.cells #[.int .i64 r, .int .i64 t] 24) (.cells (stc 0 0 false 0 0 (.slice none 0 0)) 42)
      generalize ((w.alloc (.cells (stc pr ps sm ar as_ (.slice A n c)) 42)).alloc (.cells #[.int .i64 r, .int .i64 t] 24)).alloc (.cells (stc 0 0 false 0 0 (.slice none 0 0)) 42) = W0 at *
      obtain ⟨K0, K1, K2, hs, hb⟩ := hN
      refine (CT.out W0).mono ?_
      rintro e w1 ⟨rfl, hb1⟩
      replace K0 := (hb1.block _ (blk_lt K0)).trans K0
      replace K1 := (hb1.block _ (blk_lt K1)).trans K1
      replace K2 := (hb1.block _ (blk_lt K2)).trans K2
      have HB := hide (below_next hb hb1)
      clear hb hb1 hs
      obtain ⟨x0, x1, x2, x3, x4, x5⟩ := six_at K0
      obtain ⟨xf0, xf1, xf2, xf3, xf4, xf5⟩ := six_live K0
      obtain ⟨y0, y1⟩ := two_at K1
      obtain ⟨z0, z1, z2, z3, z4, z5⟩ := six_at K2
      obtain ⟨zf0, zf1, zf2, zf3, zf4, zf5⟩ := six_live K2
      have K0 := hide K0; have K1 := hide K1; have K2 := hide K2
      have tq : decide (q < 0) = false := by simpa using hq
      go_wp2
      refine bodyPost_ret (v := .tuple #[.agg (stc r t sm ar as_ (.slice A n c)), .bool true]) (by simp [results, Try.results16, go_sem, z0, z1, z2, z3, z4, z5]) rfl ?_
      exact ⟨rfl, (set_six (xs := []) (set_two (b := w.heap.size) ⟨.nil _ none, HB.out⟩ (fun a ha => by cases ha) (by omega) _ _) (fun a ha => by cases ha) (by omega) _ _ _ _ _ _).2⟩

/-- A state, as the document's Accept hands it back. -/
def rgot (s : Acc.St) (A : Option Addr) (c : Nat) (r t : Int) (B : Option Addr) (cb : Nat) (v : List Int) : Value :=
  if Acc.acceptOk s r t then .agg (stc r t true r t (.slice B v.length cb)) else stv s A c

set_option maxHeartbeats 2000000 in
theorem raccept_any (s : Acc.St) (A : Option Addr) (c : Nat) (r t : Int) (B : Option Addr) (cb : Nat) (v : List Int) (w : World) :
    Calls Try.prog 18 #[stv s A c, .agg #[.int .i64 r, .int .i64 t], .slice B v.length cb] w fun e w' => e = .returned (.tuple #[rgot s A c r t B cb v, .bool (Acc.acceptOk s r t)]) ∧ Below w.heap.size w w' := by
  obtain ⟨pr, ps, sm, ar, as_, xs⟩ := s
  have CT := hide (fun W => (show Calls Try.prog 13 #[.agg #[.int .i64 r, .int .i64 t], .agg #[.int .i64 pr, .int .i64 ps]] W fun e w' => e = .returned (.int .i64 (Bal.compare r t pr ps)) ∧ Below W.heap.size W w' from rcompare_any r t pr ps W))
  have HL := hide (show Acc.low ⟨pr, ps, sm, ar, as_, xs⟩ r t = decide (Bal.compare r t pr ps < 0) from rfl)
  generalize Bal.compare r t pr ps = q at *
  by_cases hq : q < 0
  · have F1 := show Acc.acceptOk ⟨pr, ps, sm, ar, as_, xs⟩ r t = false by simp [Acc.acceptOk, HL.out, hq]
    unfold rgot
    rw [F1, if_neg (by decide)]
    clear F1 HL
    unfold stv
    simp only []
    generalize xs.length = n at *
    generalize v.length = m at *
    go_enter Try.func18, Try.ntmps18
    go_wp2_with fail
    have hN := three_new w (.cells (stc pr ps sm ar as_ (.slice A n c)) 42) (.cells #[.int .i64 r, .int .i64 t] 24) (.cells (stc 0 0 false 0 0 (.slice none 0 0)) 42)
    generalize ((w.alloc (.cells (stc pr ps sm ar as_ (.slice A n c)) 42)).alloc (.cells #[.int .i64 r, .int .i64 t] 24)).alloc (.cells (stc 0 0 false 0 0 (.slice none 0 0)) 42) = W0 at *
    obtain ⟨K0, K1, K2, hs, hb⟩ := hN
    refine (CT.out W0).mono ?_
    rintro e w1 ⟨rfl, hb1⟩
    replace K0 := (hb1.block _ (blk_lt K0)).trans K0
    replace K1 := (hb1.block _ (blk_lt K1)).trans K1
    replace K2 := (hb1.block _ (blk_lt K2)).trans K2
    have HB := hide (below_next hb hb1)
    clear hb hb1 hs
    obtain ⟨x0, x1, x2, x3, x4, x5⟩ := six_at K0
    obtain ⟨y0, y1⟩ := two_at K1
    obtain ⟨z0, z1, z2, z3, z4, z5⟩ := six_at K2
    obtain ⟨zf0, zf1, zf2, zf3, zf4, zf5⟩ := six_live K2
    have K0 := hide K0; have K1 := hide K1; have K2 := hide K2
    have tq : decide (q < 0) = true := by simpa using hq
    go_wp2
    refine bodyPost_ret (v := .tuple #[.agg (stc pr ps sm ar as_ (.slice A n c)), .bool false]) (by simp [results, Try.results18, go_sem, z0, z1, z2, z3, z4, z5]) rfl ?_
    exact ⟨rfl, (set_six (xs := []) ⟨.nil _ none, HB.out⟩ (fun a ha => by cases ha) (by omega) _ _ _ _ _ _).2⟩
  · have F1 := show Acc.acceptOk ⟨pr, ps, sm, ar, as_, xs⟩ r t = true by simp [Acc.acceptOk, HL.out, hq]
    unfold rgot
    rw [F1, if_pos rfl]
    clear F1 HL
    unfold stv
    simp only []
    generalize xs.length = n at *
    generalize v.length = m at *
    go_enter Try.func18, Try.ntmps18
    go_wp2_with fail
    have hN := three_new w (.cells (stc pr ps sm ar as_ (.slice A n c)) 42) (.cells #[.int .i64 r, .int .i64 t] 24) (.cells (stc 0 0 false 0 0 (.slice none 0 0)) 42)
    generalize ((w.alloc (.cells (stc pr ps sm ar as_ (.slice A n c)) 42)).alloc (.cells #[.int .i64 r, .int .i64 t] 24)).alloc (.cells (stc 0 0 false 0 0 (.slice none 0 0)) 42) = W0 at *
    obtain ⟨K0, K1, K2, hs, hb⟩ := hN
    refine (CT.out W0).mono ?_
    rintro e w1 ⟨rfl, hb1⟩
    replace K0 := (hb1.block _ (blk_lt K0)).trans K0
    replace K1 := (hb1.block _ (blk_lt K1)).trans K1
    replace K2 := (hb1.block _ (blk_lt K2)).trans K2
    have HB := hide (below_next hb hb1)
    clear hb hb1 hs
    obtain ⟨x0, x1, x2, x3, x4, x5⟩ := six_at K0
    obtain ⟨y0, y1⟩ := two_at K1
    obtain ⟨z0, z1, z2, z3, z4, z5⟩ := six_at K2
    obtain ⟨zf0, zf1, zf2, zf3, zf4, zf5⟩ := six_live K2
    have K0 := hide K0; have K1 := hide K1; have K2 := hide K2
    have tq : decide (q < 0) = false := by simpa using hq
    go_wp2
    refine bodyPost_ret (v := .tuple #[.agg (stc r t true r t (.slice B m cb)), .bool true]) (by simp [results, Try.results18, go_sem, z0, z1, z2, z3, z4, z5]) rfl ?_
    exact ⟨rfl, (set_six (xs := []) ⟨.nil _ none, HB.out⟩ (fun a ha => by cases ha) (by omega) _ _ _ _ _ _).2⟩

end Go.Proofs.Ytodlabpgjgbbpag
