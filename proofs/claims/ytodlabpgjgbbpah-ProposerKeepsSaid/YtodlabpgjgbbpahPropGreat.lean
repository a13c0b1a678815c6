/-
  The place of the greatest ballot, each function by a contract.
-/
import Derived.Test.YtodlabpgjgbbpahPropCells
import Derived.Deep.DeepCutAuto
import Derived.Deep.CutBlock
namespace Go.Proofs.Ytodlabpgjgbbpah
open Go.RowKit Go.Agio Go.Prp

theorem five_at {w : World} {b : Nat} {v0 v1 v2 v3 v4 : Value} {t : TypeId} {fr : Nat × Nat} (h : w.heap[b]? = some (.cells #[v0, v1, v2, v3, v4] t fr)) : w.cell? ⟨b, 0, none⟩ = some v0 ∧ w.cell? ⟨b, 1, none⟩ = some v1 ∧ w.cell? ⟨b, 2, none⟩ = some v2 ∧ w.cell? ⟨b, 3, none⟩ = some v3 ∧ w.cell? ⟨b, 4, none⟩ = some v4 :=
  ⟨cell_blk h 0, cell_blk h 1, cell_blk h 2, cell_blk h 3, cell_blk h 4⟩

set_option maxHeartbeats 2000000 in
/-- The closure of Choose. -/
theorem atP_any (x : Pm) (V : Value) (n : Int) (b : Nat) (w : World) (hb : w.cell? ⟨b, 0, none⟩ = some (.int .i64 n)) (hlt : b < w.heap.size) :
    Calls Try.prog 24 #[.agg #[.int .i64 x.frm, .bool x.some, .int .i64 x.r, .int .i64 x.t, V], .pointer (some ⟨b, 0, none⟩)] w fun e w' => e = .returned (.tuple #[.agg #[.int .i64 x.r, .int .i64 x.t], .bool (ct n x)]) ∧ Below w.heap.size w w' := by
  obtain ⟨f, sm, r, t, l⟩ := x
  simp only []
  go_enter Try.func24, Try.ntmps24
  go_wp2_with fail
  have hN := two_new w (.cells #[.int .i64 f, .bool sm, .int .i64 r, .int .i64 t, V] 34) (.cells #[.int .i64 0, .int .i64 0] 32)
  generalize (w.alloc (.cells #[.int .i64 f, .bool sm, .int .i64 r, .int .i64 t, V] 34)).alloc (.cells #[.int .i64 0, .int .i64 0] 32) = W0 at *
  obtain ⟨K0, K1, hs, hb0⟩ := hN
  obtain ⟨x0, x1, x2, x3, x4⟩ := five_at K0
  obtain ⟨z0, z1⟩ := two_at K1
  obtain ⟨zf0, zf1⟩ := two_live K1
  have hn := (hb0.cell (p := ⟨b, 0, none⟩) hlt).trans hb
  have e1 : ¬ b = w.heap.size + 1 := by omega
  have e2 : ¬ w.heap.size + 1 = b := by omega
  have HB := hide hb0
  clear K0 K1 hb0 hb
  cases sm
  · have HC := hide (show ct n ⟨f, false, r, t, l⟩ = false from rfl)
    go_wp2
    go_region
    go_wp2
    refine bodyPost_ret (v := .tuple #[.agg #[.int .i64 r, .int .i64 t], .bool false]) (by simp [results, Try.results24, go_sem, z0, z1]) rfl ?_
    exact ⟨by rw [HC.out], (set_two (xs := []) (b := w.heap.size + 1) ⟨.nil _ none, HB.out⟩ (fun a ha => by cases ha) (by omega) _ _).2.drew⟩
  · by_cases h1 : 0 ≤ f
    · by_cases h2 : f < n
      · have HC := hide (show ct n ⟨f, true, r, t, l⟩ = true by simp [ct, Bal.inr, h1, h2])
        have g1 : decide (0 ≤ f) = true := by simpa using h1
        have g2 : decide (f < n) = true := by simpa using h2
        go_wp2
        go_region
        go_wp2
        refine bodyPost_ret (v := .tuple #[.agg #[.int .i64 r, .int .i64 t], .bool true]) (by simp [results, Try.results24, go_sem, z0, z1]) rfl ?_
        exact ⟨by rw [HC.out], (set_two (xs := []) (b := w.heap.size + 1) ⟨.nil _ none, HB.out⟩ (fun a ha => by cases ha) (by omega) _ _).2.drew⟩
      · have HC := hide (show ct n ⟨f, true, r, t, l⟩ = false by simp [ct, Bal.inr]; omega)
        have g1 : decide (0 ≤ f) = true := by simpa using h1
        have g2 : decide (f < n) = false := by simpa using h2
        go_wp2
        go_region
        go_wp2
        refine bodyPost_ret (v := .tuple #[.agg #[.int .i64 r, .int .i64 t], .bool false]) (by simp [results, Try.results24, go_sem, z0, z1]) rfl ?_
        exact ⟨by rw [HC.out], (set_two (xs := []) (b := w.heap.size + 1) ⟨.nil _ none, HB.out⟩ (fun a ha => by cases ha) (by omega) _ _).2.drew⟩
    · have HC := hide (show ct n ⟨f, true, r, t, l⟩ = false by simp [ct, Bal.inr, h1])
      have g1 : decide (0 ≤ f) = false := by simpa using h1
      go_wp2
      go_region
      go_wp2
      refine bodyPost_ret (v := .tuple #[.agg #[.int .i64 r, .int .i64 t], .bool false]) (by simp [results, Try.results24, go_sem, z0, z1]) rfl ?_
      exact ⟨by rw [HC.out], (set_two (xs := []) (b := w.heap.size + 1) ⟨.nil _ none, HB.out⟩ (fun a ha => by cases ha) (by omega) _ _).2.drew⟩

set_option maxHeartbeats 2000000 in
/-- The closure of Greatest. -/
theorem atV_any (x : Vt) (w : World) :
    Calls Try.prog 29 #[.agg #[.int .i64 x.frm, .int .i64 x.r, .int .i64 x.t]] w fun e w' => e = .returned (.tuple #[.agg #[.int .i64 x.r, .int .i64 x.t], .bool true]) ∧ Below w.heap.size w w' := by
  obtain ⟨f, r, t⟩ := x
  simp only []
  go_enter Try.func29, Try.ntmps29
  go_wp2_with fail
  refine bodyPost_ret (v := .tuple #[.agg #[.int .i64 r, .int .i64 t], .bool true]) (by simp [results, Try.results29, go_sem]) rfl ?_
  exact ⟨rfl, by go_grown⟩

/-- The greatest ballot so far, as it stands. -/
def topR (r : Nat → Int) : Option Nat → Int
  | none => 0
  | some p => r p


set_option maxRecDepth 100000 in
set_option maxHeartbeats 4000000 in
theorem greatestP_any (A : Option Addr) (c : Nat) (X : List PAt) (n : Int) (b : Nat) (w : World) (hR : PsRd w A X) (hb : w.cell? ⟨b, 0, none⟩ = some (.int .i64 n)) (hlt : b < w.heap.size) (hm : X.length ≤ 9223372036854775806) :
    Calls Try.prog 23 #[.slice A X.length c, .func (.func 24) #[] #[.pointer (some ⟨b, 0, none⟩)]] w fun e w' => e = .returned (.int .i64 (placeOf (bestP n (pms X) X.length))) ∧ Below w.heap.size w w' := by
  have HR := hide hR; have HBC := hide hb
  clear hR hb
  go_enter Try.func23, Try.ntmps23
  go_wp2_with fail
  go_loopw [5, 13] (fun v i wr => ∃ k : Nat, k ≤ X.length ∧ i = .int .i64 k ∧ v = .int .i64 (placeOf (bestP n (pms X) k)) ∧ wr.heap[w.heap.size]? = some (.cells #[.int .i64 (topR (fun i => ((pms X).getD i pm0).r) (bestP n (pms X) k)), .int .i64 (topR (fun i => ((pms X).getD i pm0).t) (bestP n (pms X) k))] 32) ∧ Below w.heap.size w wr) (fun _ i _ => X.length - (intOf i).toNat)
  case atStart => exact ⟨0, Nat.zero_le _, rfl, rfl, heap_new _ _, (Below.refl _ _).alloc (Nat.le_refl _) _⟩
  case round =>
    obtain ⟨k, hk, rfl, rfl, hT, hbr⟩ := hrel
    have HB := hide hbr
    clear hbr
    by_cases h : k < X.length
    · obtain ⟨b1, off, rfl, hb1, c0, c1, c2, c3, c4⟩ := (HR.out.below HB.out).at_ h
      have HYES := hide (fun (h : (ct n ((pms X).getD k pm0) && beats (fun i => ((pms X).getD i pm0).r) (fun i => ((pms X).getD i pm0).t) k (bestP n (pms X) k)) = true) => (show bestP n (pms X) (k + 1) = some k from best_yes (ok := fun i => ct n ((pms X).getD i pm0)) (r := fun i => ((pms X).getD i pm0).r) (t := fun i => ((pms X).getD i pm0).t) (k := k) h))
      have HNO := hide (fun (h : (ct n ((pms X).getD k pm0) && beats (fun i => ((pms X).getD i pm0).r) (fun i => ((pms X).getD i pm0).t) k (bestP n (pms X) k)) = false) => (show bestP n (pms X) (k + 1) = bestP n (pms X) k from best_no (ok := fun i => ct n ((pms X).getD i pm0)) (r := fun i => ((pms X).getD i pm0).r) (t := fun i => ((pms X).getD i pm0).t) (k := k) h))
      have hg := pms_get X k
      obtain ⟨x, hx⟩ : ∃ x, x = X.getD k pa0 := ⟨_, rfl⟩
      rw [← hx] at c0 c1 c2 c3 c4 hg

      have HG := hide hg
      obtain ⟨pl, hpl⟩ : ∃ pl, pl = placeOf (bestP n (pms X) k) := ⟨_, rfl⟩
      obtain ⟨R0, hR0⟩ : ∃ R0, R0 = topR (fun i => ((pms X).getD i pm0).r) (bestP n (pms X) k) := ⟨_, rfl⟩
      obtain ⟨T0, hT0⟩ : ∃ T0, T0 = topR (fun i => ((pms X).getD i pm0).t) (bestP n (pms X) k) := ⟨_, rfl⟩
      rw [← hR0, ← hT0] at hT
      rw [← hpl]
      have HPL := hide hpl; have HR0 := hide hR0; have HT0 := hide hT0
      have hkm : (k : Int) < (X.length : Int) := by omega
      clear hx hg hpl hR0 hT0
      go_wp2_with fail
      have hN := one_new wr (.cells #[.int .i64 x.p.frm, .bool x.p.some, .int .i64 x.p.r, .int .i64 x.p.t, .slice x.at_ x.p.val.length x.cap] 34)
      generalize wr.alloc (.cells #[.int .i64 x.p.frm, .bool x.p.some, .int .i64 x.p.r, .int .i64 x.p.t, .slice x.at_ x.p.val.length x.cap] 34) = W1 at *
      obtain ⟨K0, hs, hbW⟩ := hN
      replace hT := (hbW.block _ (blk_lt hT)).trans hT
      have HB1 := hide (below_next HB.out hbW)
      clear hbW hs K0 c0 c1 c2 c3 c4
      refine (atP_any x.p _ n b W1 ((HB1.out.cell (p := ⟨b, 0, none⟩) hlt).trans HBC.out) (Nat.lt_of_lt_of_le hlt HB1.out.size)).mono ?_
      rintro e w2 ⟨rfl, hb2⟩
      replace hT := (hb2.block _ (blk_lt hT)).trans hT
      have hl2 := blk_lt hT
      have HB2 := hide (below_next HB1.out hb2)
      clear hb2
      go_upto_region 7 with fail
      have hN := one_new w2 (.cells #[.int .i64 x.p.r, .int .i64 x.p.t] 32)
      generalize w2.alloc (.cells #[.int .i64 x.p.r, .int .i64 x.p.t] 32) = W3 at *
      obtain ⟨K9, hs, hb3⟩ := hN
      replace hT := (hb3.block _ (blk_lt hT)).trans hT
      have HB3 := hide (below_next HB2.out hb3)
      have e1 : ¬ w.heap.size = w2.heap.size := by omega
      have e2 : ¬ w2.heap.size = w.heap.size := by omega
      obtain ⟨t0, t1⟩ := two_at hT
      obtain ⟨tf0, tf1⟩ := two_live hT
      obtain ⟨y0, y1⟩ := two_at K9
      have HT := hide hT; have HK9 := hide K9
      clear hT K9 hs hb3
      cases hc : ct n x.p
      · have hno := HNO.out (by rw [HG.out, hc, Bool.false_and])
        go_wp2
        go_roundw
        case rel => exact ⟨k + 1, by omega, by go_num, by rw [hno, HPL.out], by rw [hno, ← HR0.out, ← HT0.out]; exact HT.out, HB3.out⟩
        case measure => simp [intOf]; omega
      · cases hbk : bestP n (pms X) k with
        | none =>
          have hyes := HYES.out (by rw [hbk, HG.out, hc]; rfl)
          have tp : decide (pl < 0) = true := by rw [HPL.out, hbk]; rfl
          clear hbk
          go_wp2
          go_region
          go_wp2
          go_roundw
          case rel => exact ⟨k + 1, by omega, by go_num, by rw [hyes]; rfl, by rw [hyes]; simp only [topR, HG.out]; exact two_put1 (two_put0 HT.out _) _, (set_two (xs := []) (b := w.heap.size) ⟨.nil _ none, HB3.out⟩ (fun a ha => by cases ha) (Nat.le_refl _) _ _).2.drew⟩
          case measure => simp [intOf]; omega
        | some p =>
          have tp : decide (pl < 0) = false := by rw [HPL.out, hbk, decide_eq_false_iff_not]; simp only [placeOf]; omega
          have HQ := hide (show beats (fun i => ((pms X).getD i pm0).r) (fun i => ((pms X).getD i pm0).t) k (bestP n (pms X) k) = decide (0 < Bal.compare x.p.r x.p.t R0 T0) from by rw [HR0.out, HT0.out, hbk]; show decide (0 < Bal.compare ((pms X).getD k pm0).r ((pms X).getD k pm0).t ((pms X).getD p pm0).r ((pms X).getD p pm0).t) = decide (0 < Bal.compare x.p.r x.p.t ((pms X).getD p pm0).r ((pms X).getD p pm0).t); rw [HG.out])
          clear hbk
          have CC := hide (fun W => compare_any x.p.r x.p.t R0 T0 W)
          generalize Bal.compare x.p.r x.p.t R0 T0 = z at *
          go_wp2_with fail
          refine (CC.out _).mono ?_
          rintro e w4 ⟨rfl, hb4⟩
          clear t0 t1 tf0 tf1 y0 y1
          have hT := (hb4.block _ (blk_lt HT.out)).trans HT.out
          obtain ⟨t0, t1⟩ := two_at hT
          obtain ⟨tf0, tf1⟩ := two_live hT
          obtain ⟨y0, y1⟩ := two_at ((hb4.block _ (blk_lt HK9.out)).trans HK9.out)
          replace HT := hide hT
          have HB4 := hide (below_next HB3.out hb4)
          clear hT hb4
          by_cases hz : 0 < z
          · have tz : decide (0 < z) = true := by simpa using hz
            have hyes := HYES.out (by rw [HQ.out, tz, HG.out, hc]; rfl)
            go_wp2
            go_region
            go_wp2
            go_roundw
            case rel => exact ⟨k + 1, by omega, by go_num, by rw [hyes]; rfl, by rw [hyes]; simp only [topR, HG.out]; exact two_put1 (two_put0 HT.out _) _, (set_two (xs := []) (b := w.heap.size) ⟨.nil _ none, HB4.out⟩ (fun a ha => by cases ha) (Nat.le_refl _) _ _).2.drew⟩
            case measure => simp [intOf]; omega
          · have tz : decide (0 < z) = false := by simpa using hz
            have hno := HNO.out (by rw [HQ.out, tz, Bool.and_false])
            go_wp2
            go_roundw
            case rel => exact ⟨k + 1, by omega, by go_num, by rw [hno, HPL.out], by rw [hno, ← HR0.out, ← HT0.out]; exact HT.out, HB4.out⟩
            case measure => simp [intOf]; omega
    · obtain rfl : k = X.length := by omega
      go_wp2
      go_ret
      exact ⟨rfl, HB.out⟩

set_option maxRecDepth 100000 in
set_option maxHeartbeats 4000000 in
theorem greatestV_any (A : Option Addr) (c : Nat) (X : List Vt) (w : World) (hR : VsRd w A X) (hm : X.length ≤ 9223372036854775806) :
    Calls Try.prog 28 #[.slice A X.length c, .func (.func 29) #[] #[]] w fun e w' => e = .returned (.int .i64 (placeOf (bestV X X.length))) ∧ Below w.heap.size w w' := by
  have HR := hide hR
  clear hR
  go_enter Try.func28, Try.ntmps28
  go_wp2_with fail
  go_loopw [5, 13] (fun v i wr => ∃ k : Nat, k ≤ X.length ∧ i = .int .i64 k ∧ v = .int .i64 (placeOf (bestV X k)) ∧ wr.heap[w.heap.size]? = some (.cells #[.int .i64 (topR (fun i => (X.getD i vt0).r) (bestV X k)), .int .i64 (topR (fun i => (X.getD i vt0).t) (bestV X k))] 32) ∧ Below w.heap.size w wr) (fun _ i _ => X.length - (intOf i).toNat)
  case atStart => exact ⟨0, Nat.zero_le _, rfl, rfl, heap_new _ _, (Below.refl _ _).alloc (Nat.le_refl _) _⟩
  case round =>
    obtain ⟨k, hk, rfl, rfl, hT, hbr⟩ := hrel
    have HB := hide hbr
    clear hbr
    by_cases h : k < X.length
    · obtain ⟨b1, off, rfl, hb1, c0, c1, c2⟩ := (HR.out.below HB.out).at_ h
      have HYES := hide (fun (h : (true && beats (fun i => (X.getD i vt0).r) (fun i => (X.getD i vt0).t) k (bestV X k)) = true) => (show bestV X (k + 1) = some k from best_yes (ok := fun _ => true) (r := fun i => (X.getD i vt0).r) (t := fun i => (X.getD i vt0).t) (k := k) h))
      have HNO := hide (fun (h : (true && beats (fun i => (X.getD i vt0).r) (fun i => (X.getD i vt0).t) k (bestV X k)) = false) => (show bestV X (k + 1) = bestV X k from best_no (ok := fun _ => true) (r := fun i => (X.getD i vt0).r) (t := fun i => (X.getD i vt0).t) (k := k) h))
      have hg := (rfl : X.getD k vt0 = X.getD k vt0)
      obtain ⟨x, hx⟩ : ∃ x, x = X.getD k vt0 := ⟨_, rfl⟩
      rw [← hx] at c0 c1 c2
      replace hg : X.getD k vt0 = x := hx.symm
      have HG := hide hg
      obtain ⟨pl, hpl⟩ : ∃ pl, pl = placeOf (bestV X k) := ⟨_, rfl⟩
      obtain ⟨R0, hR0⟩ : ∃ R0, R0 = topR (fun i => (X.getD i vt0).r) (bestV X k) := ⟨_, rfl⟩
      obtain ⟨T0, hT0⟩ : ∃ T0, T0 = topR (fun i => (X.getD i vt0).t) (bestV X k) := ⟨_, rfl⟩
      rw [← hR0, ← hT0] at hT
      rw [← hpl]
      have HPL := hide hpl; have HR0 := hide hR0; have HT0 := hide hT0
      have hkm : (k : Int) < (X.length : Int) := by omega
      clear hx hg hpl hR0 hT0
      go_wp2_with fail
      have hN := one_new wr (.cells #[.int .i64 x.frm, .int .i64 x.r, .int .i64 x.t] 44)
      generalize wr.alloc (.cells #[.int .i64 x.frm, .int .i64 x.r, .int .i64 x.t] 44) = W1 at *
      obtain ⟨K0, hs, hbW⟩ := hN
      replace hT := (hbW.block _ (blk_lt hT)).trans hT
      have HB1 := hide (below_next HB.out hbW)
      clear hbW hs K0 c0 c1 c2
      refine (atV_any x W1).mono ?_
      rintro e w2 ⟨rfl, hb2⟩
      replace hT := (hb2.block _ (blk_lt hT)).trans hT
      have hl2 := blk_lt hT
      have HB2 := hide (below_next HB1.out hb2)
      clear hb2
      go_upto_region 7 with fail
      have hN := one_new w2 (.cells #[.int .i64 x.r, .int .i64 x.t] 32)
      generalize w2.alloc (.cells #[.int .i64 x.r, .int .i64 x.t] 32) = W3 at *
      obtain ⟨K9, hs, hb3⟩ := hN
      replace hT := (hb3.block _ (blk_lt hT)).trans hT
      have HB3 := hide (below_next HB2.out hb3)
      have e1 : ¬ w.heap.size = w2.heap.size := by omega
      have e2 : ¬ w2.heap.size = w.heap.size := by omega
      obtain ⟨t0, t1⟩ := two_at hT
      obtain ⟨tf0, tf1⟩ := two_live hT
      obtain ⟨y0, y1⟩ := two_at K9
      have HT := hide hT; have HK9 := hide K9
      clear hT K9 hs hb3
      cases hbk : bestV X k with
      | none =>
        have hyes := HYES.out (by rw [hbk]; rfl)
        have tp : decide (pl < 0) = true := by rw [HPL.out, hbk]; rfl
        clear hbk
        go_wp2
        go_region
        go_wp2
        go_roundw
        case rel => exact ⟨k + 1, by omega, by go_num, by rw [hyes]; rfl, by rw [hyes]; simp only [topR, HG.out]; exact two_put1 (two_put0 HT.out _) _, (set_two (xs := []) (b := w.heap.size) ⟨.nil _ none, HB3.out⟩ (fun a ha => by cases ha) (Nat.le_refl _) _ _).2.drew⟩
        case measure => simp [intOf]; omega
      | some p =>
        have tp : decide (pl < 0) = false := by rw [HPL.out, hbk, decide_eq_false_iff_not]; simp only [placeOf]; omega
        have HQ := hide (show beats (fun i => (X.getD i vt0).r) (fun i => (X.getD i vt0).t) k (bestV X k) = decide (0 < Bal.compare x.r x.t R0 T0) from by rw [HR0.out, HT0.out, hbk]; show decide (0 < Bal.compare (X.getD k vt0).r (X.getD k vt0).t (X.getD p vt0).r (X.getD p vt0).t) = decide (0 < Bal.compare x.r x.t (X.getD p vt0).r (X.getD p vt0).t); rw [HG.out])
        clear hbk
        have CC := hide (fun W => compare_any x.r x.t R0 T0 W)
        generalize Bal.compare x.r x.t R0 T0 = z at *
        go_wp2_with fail
        refine (CC.out _).mono ?_
        rintro e w4 ⟨rfl, hb4⟩
        clear t0 t1 tf0 tf1 y0 y1
        have hT := (hb4.block _ (blk_lt HT.out)).trans HT.out
        obtain ⟨t0, t1⟩ := two_at hT
        obtain ⟨tf0, tf1⟩ := two_live hT
        obtain ⟨y0, y1⟩ := two_at ((hb4.block _ (blk_lt HK9.out)).trans HK9.out)
        replace HT := hide hT
        have HB4 := hide (below_next HB3.out hb4)
        clear hT hb4
        by_cases hz : 0 < z
        · have tz : decide (0 < z) = true := by simpa using hz
          have hyes := HYES.out (by rw [HQ.out, tz]; rfl)
          go_wp2
          go_region
          go_wp2
          go_roundw
          case rel => exact ⟨k + 1, by omega, by go_num, by rw [hyes]; rfl, by rw [hyes]; simp only [topR, HG.out]; exact two_put1 (two_put0 HT.out _) _, (set_two (xs := []) (b := w.heap.size) ⟨.nil _ none, HB4.out⟩ (fun a ha => by cases ha) (Nat.le_refl _) _ _).2.drew⟩
          case measure => simp [intOf]; omega
        · have tz : decide (0 < z) = false := by simpa using hz
          have hno := HNO.out (by rw [HQ.out, tz, Bool.and_false])
          go_wp2
          go_roundw
          case rel => exact ⟨k + 1, by omega, by go_num, by rw [hno, HPL.out], by rw [hno, ← HR0.out, ← HT0.out]; exact HT.out, HB4.out⟩
          case measure => simp [intOf]; omega
    · obtain rfl : k = X.length := by omega
      go_wp2
      go_ret
      exact ⟨rfl, HB.out⟩

end Go.Proofs.Ytodlabpgjgbbpah
