/-
  What Choose, Decided and Greatest do, each by a contract.
-/
import Derived.Test.YtodlabpgjgbbpahPropGreat
namespace Go.Proofs.Ytodlabpgjgbbpah
open Go.RowKit Go.Agio Go.Prp

theorem own_below {wr W : World} {base size : Nat} {e : TypeId} {v : Value} {n : Nat} {xs : List Value} (h : wr.ownsRow base e size v n xs) (hb : Below wr.heap.size wr W) : W.ownsRow base e size v n xs := by
  refine ⟨h.1, ?_⟩
  rcases h.2 with hn | ⟨g, cap, cur, hv, hbg, hh, rest⟩
  · exact .inl hn
  · exact .inr ⟨g, cap, cur, hv, hbg, (hb.block g (blk_lt hh)).trans hh, rest⟩
theorem infoI : (Try.prog.info? 3).map (fun i => (i.zero, i.size, i.bytes)) = some (some (.int .i64 0), 1, 8) := by kernel_rfl
def frms (X : List PAt) : List Int := X.map fun x => x.p.frm
theorem frms_eq (X : List PAt) : (pms X).map Pm.frm = frms X := by simp [pms, frms]
theorem frms_length (X : List PAt) : (frms X).length = X.length := by simp [frms]
theorem frms_get (X : List PAt) {i : Nat} (h : i < X.length) : (frms X).getD i 0 = (X.getD i pa0).p.frm := by
  unfold frms
  rw [List.getD_eq_getElem?_getD, List.getD_eq_getElem?_getD, List.getElem?_map, List.getElem?_eq_getElem h]
  rfl
theorem frms_snoc (X : List PAt) {i : Nat} (h : i < X.length) : (frms X).take (i + 1) = (frms X).take i ++ [(X.getD i pa0).p.frm] := by
  rw [Agio.take_snoc (frms X) 0 i (by rw [frms_length]; exact h), frms_get X h]
/-- What is asked of promises as they stand. -/
def fineP (X : List PAt) : Prop := ∀ x ∈ X, (Lit.int .i64 x.p.frm).wf = true ∧ x.p.val.length ≤ 140737488351232
/-- What Choose hands back. -/
def CGot (w : World) (n : Int) (l : List Pm) (e : Ending) (w' : World) : Prop := ∃ V cv, e = .returned (.tuple #[.slice V (chosen n l).length cv, .bool (may_ n l)]) ∧ Reads w' V (bys (chosen n l)) ∧ Below w.heap.size w w'

set_option maxRecDepth 100000 in
set_option maxHeartbeats 4000000 in
theorem choose_any (A : Option Addr) (c : Nat) (X : List PAt) (n : Int) (w : World) (hR : PsRd w A X) (hX : fineP X) (hm : X.length ≤ 1000000) (hn : n ≤ 9223372036854775807) :
    Calls Try.prog 10 #[.slice A X.length c, .int .i64 n] w (CGot w n (pms X)) := by
  obtain ⟨i0, hi, hz0, hz1, hz2⟩ := info_parts infoI
  have HR := hide hR; have HX := hide hX
  clear hR hX
  go_enter Try.func10, Try.ntmps10
  go_wp2_with fail
  have hN := one_new w (.cells #[.int .i64 n] 3)
  generalize w.alloc (.cells #[.int .i64 n] 3) = W0 at *
  obtain ⟨K0, hs0, hb0⟩ := hN
  have HR0 := hide (HR.out.below hb0)
  have HB0 := hide hb0; have HK0 := hide K0
  clear hb0 K0
  go_loopw [6, 12] (fun v i wr => ∃ (k : Nat) (B : Option Addr) (q : Nat), k ≤ X.length ∧ i = .int .i64 k ∧ v = .slice B k q ∧ wr.ownsRow W0.heap.size 3 1 (.slice B k q) k (((frms X).take k).map (Value.int .i64)) ∧ Below W0.heap.size W0 wr) (fun _ i _ => X.length - (intOf i).toNat)
  case atStart => exact ⟨0, none, 0, Nat.zero_le _, rfl, rfl, World.ownsRow_nil _ _ _ _, Below.refl _ _⟩
  case round =>
    obtain ⟨k, B, q, hk, rfl, rfl, ho, hbr⟩ := hrel
    have HO := hide ho; have HB := hide hbr
    clear ho hbr
    by_cases h : k < X.length
    · obtain ⟨b1, off, rfl, hb1, c0, c1, c2, c3, c4⟩ := (HR0.out.below HB.out).at_ h
      have HS := hide (frms_snoc X h)
      obtain ⟨x, hx⟩ : ∃ x, x = X.getD k pa0 := ⟨_, rfl⟩
      rw [← hx] at c0 c1 c2 c3 c4 HS
      clear hx
      have hkm : (k : Int) < (X.length : Int) := by omega
      go_upto_region 5 with fail
      have hN := one_new wr (.cells #[.int .i64 x.p.frm, .bool x.p.some, .int .i64 x.p.r, .int .i64 x.p.t, .slice x.at_ x.p.val.length x.cap] 34)
      generalize wr.alloc (.cells #[.int .i64 x.p.frm, .bool x.p.some, .int .i64 x.p.r, .int .i64 x.p.t, .slice x.at_ x.p.val.length x.cap] 34) = W1 at *
      obtain ⟨K1, hs1, hbW⟩ := hN
      obtain ⟨x0, x1, x2, x3, x4⟩ := five_at K1
      have HB1 := hide (below_next HB.out hbW)
      have HO1 := hide (own_below HO.out hbW)
      clear c0 c1 c2 c3 c4 K1 hbW
      go_wp2_with (at_builtin; apply halted)
      refine unhalt (wpList_append_reads rfl (.tmp 16) (.tmp 19) 63 rfl W0.heap.size 3 i0 (.int .i64 0) 8 Try.underlying63 hi hz0 hz1 hz2 rfl _ k (((frms X).take k).map (Value.int .i64)) rfl (HO1.out.alloc _) (some ⟨W1.heap.size, 0, none⟩) 1 1 [.int .i64 x.p.frm] (by simp [Act.eval]) (Reads.new_at _ _ _ _ _ rfl) rfl (one_one _ rfl) (by unfold maxLen; omega) (by omega) (by have := HB1.out.size; simp; omega) ?_)
      intro B4 d4 w4 n4 g4 t4
      have HB4 := hide ((HB1.out.alloc HB1.out.size (.cells #[.int .i64 x.p.frm] 3)).grown g4 (by have := HB1.out.size; simp; omega) (fun g hg => (HO1.out.lt g hg).1))
      have N4 := hide n4
      clear n4 g4 t4 x0 x1 x2 x3 x4
      go_wp2
      go_roundw
      case rel => exact ⟨k + 1, B4, d4, by omega, by go_num, rfl, by rw [HS.out]; simpa using N4.out, HB4.out⟩
      case measure => simp [intOf]; omega
    · obtain rfl : k = X.length := by omega
      have c0 := cell_blk ((HB.out.block _ (blk_lt HK0.out)).trans HK0.out) 0
      replace c0 : wr.cell? ⟨w.heap.size, 0, none⟩ = some (.int .i64 n) := c0
      rw [show (frms X).take X.length = frms X by rw [← frms_length X, List.take_length]] at HO
      have CM := hide (most_any B q (frms X) n wr (Reads.of_own HO.out) (fun z hz => by obtain ⟨x, hx, rfl⟩ := List.mem_map.1 hz; exact (HX.out x hx).1) (by rw [frms_length]; omega) hn)
      rw [frms_length, ← frms_eq] at CM
      have HBW := hide (below_next HB0.out HB.out)
      go_wp2_with fail
      refine CM.out.mono ?_
      rintro e w2 ⟨rfl, hb2⟩
      have HB2 := hide (below_next HBW.out hb2)
      have HM := hide (show Bal.most ((pms X).map Pm.frm) n = may_ n (pms X) from rfl)
      rw [HM.out]
      replace c0 := (hb2.cell (p := ⟨w.heap.size, 0, none⟩) (Nat.lt_of_lt_of_le (blk_lt HK0.out) HB.out.size)).trans c0
      have hl2 : w.heap.size < w2.heap.size := Nat.lt_of_lt_of_le (Nat.lt_of_lt_of_le (blk_lt HK0.out) HB.out.size) hb2.size
      have HR2 := hide (HR.out.below HB2.out)
      clear hb2 CM HO HB HBW HR0 HB0 HK0
      cases hmay : may_ n (pms X)
      · have F : Hid (CGot w n (pms X) (.returned (.tuple #[.slice none 0 0, .bool false])) w2) := hide ⟨none, 0, by simp [chosen, hmay], by simp [chosen, hmay]; exact .nil _ _, HB2.out⟩
        clear hmay HM
        go_wp2
        go_ret2
        exact F.out
      · have CG := hide (greatestP_any A c X n w.heap.size w2 HR2.out c0 hl2 (by omega))
        have HL := hide (show chosen n (pms X) = Prp.leftOf (pms X) (bestP n (pms X) X.length) from by unfold chosen Prp.left; rw [hmay, if_pos rfl, pms_length])
        have HPL := hide (fun p (h : bestP n (pms X) X.length = some p) => (best_some h).1)
        cases hbk : bestP n (pms X) X.length with
        | none =>
          rw [hbk] at CG HL
          have F := hide (fun w' (h : Below w2.heap.size w2 w') => (show CGot w n (pms X) (.returned (.tuple #[.slice none 0 0, .bool true])) w' from ⟨none, 0, by rw [HL.out, hmay]; rfl, by rw [HL.out]; exact .nil _ _, below_next HB2.out h⟩))
          clear hmay HM hbk HPL HL
          go_wp2_with fail
          refine CG.out.mono ?_
          rintro e w3 ⟨rfl, hb3⟩
          rw [show placeOf none = -1 from rfl]
          go_wp2
          go_ret2
          exact F.out _ hb3
        | some p =>
          have hp := HPL.out p hbk
          rw [hbk] at CG HL
          have hlv : (chosen n (pms X)) = (X.getD p pa0).p.val := by rw [HL.out, ← pms_get]; rfl
          have F := hide (fun w' V cv (h : Below w2.heap.size w2 w') (hr : Reads w' V (bys (X.getD p pa0).p.val)) => (show CGot w n (pms X) (.returned (.tuple #[.slice V (X.getD p pa0).p.val.length cv, .bool true])) w' from ⟨V, cv, by rw [hlv, hmay], by rw [hlv]; exact hr, below_next HB2.out h⟩))
          clear hmay HM hbk HPL HL hlv
          go_wp2_with fail
          refine CG.out.mono ?_
          rintro e w3 ⟨rfl, hb3⟩
          rw [show placeOf (some p) = (p : Int) from rfl]
          obtain ⟨b1, off, rfl, hb1, c0', c1, c2, c3, c4⟩ := (HR2.out.below hb3).at_ hp
          have hv := (HR2.out.below hb3).2 _ (getD_mem (d := pa0) hp)
          have hvl := (HX.out _ (getD_mem (d := pa0) hp)).2
          have HV := hide hv
          have hpm : (p : Int) < (X.length : Int) := by omega
          have hp0 : ¬ (p : Int) < 0 := by omega
          clear c0' c1 c2 c3 hv
          generalize X.getD p pa0 = x at *
          go_wp2_with fail
          refine (clone_any x.at_ x.p.val.length x.cap x.p.val w3 HV.out rfl (by omega)).mono ?_
          rintro e w4 ⟨V, cv, rfl, ho, hb4⟩
          have FF := hide (F.out w4 V cv (below_next hb3 hb4) (Reads.of_own ho))
          clear ho hb4 c4
          go_wp2
          go_ret2
          exact FF.out


theorem voters_one_yes {x : Vt} {r t : Int} (hr : x.r = r) (ht : x.t = t) : voters r t [x] = [x.frm] := by
  unfold voters
  rw [List.filter_cons_of_pos (by rw [decide_eq_true_eq]; exact ⟨hr, ht⟩)]
  rfl
theorem voters_one_no {x : Vt} {r t : Int} (hn : ¬ (x.r = r ∧ x.t = t)) : voters r t [x] = [] := by
  unfold voters
  rw [List.filter_cons_of_neg (by rw [decide_eq_true_eq]; exact hn)]
  rfl
theorem voters_append (r t : Int) (a b : List Vt) : voters r t (a ++ b) = voters r t a ++ voters r t b := by
  unfold voters
  rw [List.filter_append, List.map_append]
theorem voters_yes {X : List Vt} {k : Nat} {r t : Int} (h : k < X.length) (hr : (X.getD k vt0).r = r) (ht : (X.getD k vt0).t = t) : voters r t (X.take (k + 1)) = voters r t (X.take k) ++ [(X.getD k vt0).frm] := by
  rw [Agio.take_snoc X vt0 k h, voters_append, voters_one_yes hr ht]
theorem voters_no {X : List Vt} {k : Nat} {r t : Int} (h : k < X.length) (hn : ¬ ((X.getD k vt0).r = r ∧ (X.getD k vt0).t = t)) : voters r t (X.take (k + 1)) = voters r t (X.take k) := by
  rw [Agio.take_snoc X vt0 k h, voters_append, voters_one_no hn, List.append_nil]
theorem voters_le (r t : Int) (X : List Vt) : (voters r t X).length ≤ X.length := by
  unfold voters
  rw [List.length_map]
  exact List.length_filter_le _ _
theorem voters_take_le (r t : Int) (X : List Vt) (k : Nat) : (voters r t (X.take k)).length ≤ X.length :=
  Nat.le_trans (voters_le r t _) (by rw [List.length_take]; omega)
def fineV (X : List Vt) : Prop := ∀ x ∈ X, (Lit.int .i64 x.frm).wf = true

set_option maxRecDepth 100000 in
set_option maxHeartbeats 4000000 in
theorem decided_any (A : Option Addr) (c : Nat) (X : List Vt) (r t n : Int) (w : World) (hR : VsRd w A X) (hX : fineV X) (hm : X.length ≤ 1000000) (hn : n ≤ 9223372036854775807) :
    Calls Try.prog 16 #[.slice A X.length c, .agg #[.int .i64 r, .int .i64 t], .int .i64 n] w fun e w' => e = .returned (.bool (decided r t n X)) ∧ Below w.heap.size w w' := by
  obtain ⟨i0, hi, hz0, hz1, hz2⟩ := info_parts infoI
  have HR := hide hR; have HX := hide hX
  have HVL := hide (voters_take_le r t X)
  clear hR hX
  go_enter Try.func16, Try.ntmps16
  go_wp2_with fail
  have hN := one_new w (.cells #[.int .i64 r, .int .i64 t] 32)
  generalize w.alloc (.cells #[.int .i64 r, .int .i64 t] 32) = W0 at *
  obtain ⟨K0, hs0, hb0⟩ := hN
  have HR0 := hide (HR.out.below hb0)
  have HB0 := hide hb0; have HK0 := hide K0
  clear hb0 K0
  go_loopw [7, 12] (fun v i wr => ∃ (k : Nat) (B : Option Addr) (q m : Nat), k ≤ X.length ∧ i = .int .i64 k ∧ v = .slice B m q ∧ m = (voters r t (X.take k)).length ∧ wr.ownsRow W0.heap.size 3 1 (.slice B m q) m ((voters r t (X.take k)).map (Value.int .i64)) ∧ Below W0.heap.size W0 wr) (fun _ i _ => X.length - (intOf i).toNat)
  case atStart => exact ⟨0, none, 0, 0, Nat.zero_le _, rfl, rfl, rfl, World.ownsRow_nil _ _ _ _, Below.refl _ _⟩
  case round =>
    obtain ⟨k, B, q, m, hk, rfl, rfl, hmm, ho, hbr⟩ := hrel
    have HO := hide ho; have HB := hide hbr; have HMM := hide hmm
    have hmX : m ≤ X.length := by rw [hmm]; exact HVL.out k
    clear ho hbr hmm
    by_cases h : k < X.length
    · obtain ⟨b1, off, rfl, hb1, c0, c1, c2⟩ := (HR0.out.below HB.out).at_ h
      have HY := hide (fun h1 h2 => voters_yes (r := r) (t := t) h h1 h2)
      have HNO := hide (fun h1 => voters_no (r := r) (t := t) h h1)
      obtain ⟨x, hx⟩ : ∃ x, x = X.getD k vt0 := ⟨_, rfl⟩
      rw [← hx] at c0 c1 c2 HY HNO
      clear hx
      have hkm : (k : Int) < (X.length : Int) := by omega
      have y01 := two_at ((HB.out.block _ (blk_lt HK0.out)).trans HK0.out)
      have hl0 : w.heap.size < wr.heap.size := Nat.lt_of_lt_of_le (blk_lt HK0.out) HB.out.size
      go_upto_region 5 with fail
      have hN := one_new wr (.cells #[.int .i64 x.frm, .int .i64 x.r, .int .i64 x.t] 44)
      generalize wr.alloc (.cells #[.int .i64 x.frm, .int .i64 x.r, .int .i64 x.t] 44) = W1 at *
      obtain ⟨K1, hs1, hbW⟩ := hN
      obtain ⟨x0, x1, x2⟩ := three_at K1
      have z0 := (hbW.cell (p := ⟨w.heap.size, 0, none⟩) hl0).trans y01.1
      have z1 := (hbW.cell (p := ⟨w.heap.size, 1, none⟩) hl0).trans y01.2
      have HB1 := hide (below_next HB.out hbW)
      have HO1 := hide (own_below HO.out hbW)
      clear c0 c1 c2 K1 hbW y01
      by_cases hr : x.r = r
      · by_cases ht : x.t = t
        · have hy := HY.out hr ht
          rw [hr] at x1
          rw [ht] at x2
          go_wp2_with (at_builtin; apply halted)
          refine unhalt (wpList_append_reads rfl (.tmp 20) (.tmp 23) 63 rfl W0.heap.size 3 i0 (.int .i64 0) 8 Try.underlying63 hi hz0 hz1 hz2 rfl _ m ((voters r t (X.take k)).map (Value.int .i64)) rfl (HO1.out.alloc _) (some ⟨W1.heap.size, 0, none⟩) 1 1 [.int .i64 x.frm] (by simp [Act.eval]) (Reads.new_at _ _ _ _ _ rfl) rfl (one_one _ rfl) (by unfold maxLen; omega) (by omega) (by have := HB1.out.size; simp; omega) ?_)
          intro B4 d4 w4 n4 g4 t4
          have HB4 := hide ((HB1.out.alloc HB1.out.size (.cells #[.int .i64 x.frm] 3)).grown g4 (by have := HB1.out.size; simp; omega) (fun g hg => (HO1.out.lt g hg).1))
          have N4 := hide n4
          have HYY := hide hy
          clear n4 g4 t4 x0 x1 x2 hy
          go_wp2
          go_roundw
          case rel => exact ⟨k + 1, B4, d4, m + 1, by omega, by go_num, rfl, by rw [HYY.out, List.length_append, ← HMM.out]; rfl, by rw [HYY.out]; simpa using N4.out, HB4.out⟩
          case measure => simp [intOf]; omega
        · have hno := hide (HNO.out (fun hh => ht hh.2))
          go_wp2
          go_roundw
          case rel => exact ⟨k + 1, B, q, m, by omega, by go_num, rfl, by rw [hno.out]; exact HMM.out, by rw [hno.out]; exact HO1.out, HB1.out⟩
          case measure => simp [intOf]; omega
      · have hno := hide (HNO.out (fun hh => hr hh.1))
        go_wp2
        go_roundw
        case rel => exact ⟨k + 1, B, q, m, by omega, by go_num, rfl, by rw [hno.out]; exact HMM.out, by rw [hno.out]; exact HO1.out, HB1.out⟩
        case measure => simp [intOf]; omega
    · obtain rfl : k = X.length := by omega
      rw [List.take_length] at HO HMM
      have CM := hide (most_at B q m (voters r t X) n wr HMM.out.symm (Reads.of_own HO.out) (Below.refl _ _) (fun z hz => by obtain ⟨x, hx, rfl⟩ := List.mem_map.1 hz; exact HX.out x (List.mem_filter.1 hx).1) (by have := HMM.out; omega) hn)
      have HBW := hide (below_next HB0.out HB.out)
      go_wp2_with fail
      refine CM.out.mono ?_
      rintro e w2 ⟨rfl, hb2⟩
      go_wp2
      go_ret
      exact ⟨rfl, below_next HBW.out hb2⟩


set_option maxRecDepth 100000 in
set_option maxHeartbeats 4000000 in
theorem great_any (A : Option Addr) (c : Nat) (X : List Vt) (w : World) (hR : VsRd w A X) (hm : X.length ≤ 1000000) :
    Calls Try.prog 13 #[.slice A X.length c] w fun e w' => e = .returned (.tuple #[.agg #[.int .i64 (great X).1, .int .i64 (great X).2], .bool (anyV X)]) ∧ Below w.heap.size w w' := by
  have HR := hide hR
  clear hR
  have CG := hide (fun (W : World) (hb : Below w.heap.size w W) => greatestV_any A c X W (HR.out.below hb) (by omega))
  have HG := hide (show great X = topOf X (bestV X X.length) from rfl)
  rcases Nat.eq_zero_or_pos X.length with h0 | h0
  · obtain rfl := List.eq_nil_of_length_eq_zero h0
    change Hid (∀ W : World, Below w.heap.size w W → Calls Try.prog 28 #[.slice A 0 c, .func (.func 29) #[] #[]] W fun e w' => e = .returned (.int .i64 (-1)) ∧ Below W.heap.size W w') at CG
    change Calls Try.prog 13 #[.slice A 0 c] w fun e w' => e = .returned (.tuple #[.agg #[.int .i64 0, .int .i64 0], .bool false]) ∧ Below w.heap.size w w'
    clear HR HG hm h0
    go_enter Try.func13, Try.ntmps13
    go_wp2_with fail
    have hb0 := (Below.refl w.heap.size w).alloc (Nat.le_refl _) (.cells #[.int .i64 0, .int .i64 0] 32)
    have K0 := heap_new w (.cells #[.int .i64 0, .int .i64 0] 32)
    refine (CG.out _ hb0).mono ?_
    rintro e w1 ⟨rfl, hb1⟩
    replace K0 := (hb1.block _ (blk_lt K0)).trans K0
    have HB := hide (below_next hb0 hb1)
    obtain ⟨z0, z1⟩ := two_at K0
    obtain ⟨zf0, zf1⟩ := two_live K0
    clear K0 hb0 hb1 CG
    go_wp2
    refine bodyPost_ret (v := .tuple #[.agg #[.int .i64 0, .int .i64 0], .bool false]) (by simp [results, Try.results13, go_sem, z0, z1]) rfl ?_
    exact ⟨rfl, (set_two (xs := []) (b := w.heap.size) ⟨.nil _ none, HB.out⟩ (fun a ha => by cases ha) (Nat.le_refl _) _ _).2⟩
  · obtain ⟨p, hbk⟩ : ∃ p, bestV X X.length = some p := by
      obtain ⟨m, hm'⟩ : ∃ m, X.length = m + 1 := ⟨X.length - 1, by omega⟩
      rw [hm']
      exact best_all
    have hp := (best_some hbk).1
    rw [hbk] at CG HG
    rw [HG.out, show anyV X = true by simp [anyV]; intro h; rw [h] at h0; simp at h0]
    rw [show topOf X (some p) = ((X.getD p vt0).r, (X.getD p vt0).t) from rfl]
    change Hid (∀ W : World, Below w.heap.size w W → Calls Try.prog 28 #[.slice A X.length c, .func (.func 29) #[] #[]] W fun e w' => e = .returned (.int .i64 (p : Int)) ∧ Below W.heap.size W w') at CG
    clear HG hbk
    obtain ⟨b1, off, rfl, hb1, c0, c1, c2⟩ := HR.out.at_ hp
    generalize X.getD p vt0 = x at *
    have hpm : (p : Int) < (X.length : Int) := by omega
    have hp0 : ¬ (p : Int) < 0 := by omega
    clear HR
    go_enter Try.func13, Try.ntmps13
    go_wp2_with fail
    have hb0 := (Below.refl w.heap.size w).alloc (Nat.le_refl _) (.cells #[.int .i64 0, .int .i64 0] 32)
    have K0 := heap_new w (.cells #[.int .i64 0, .int .i64 0] 32)
    refine (CG.out _ hb0).mono ?_
    rintro e w1 ⟨rfl, hb1'⟩
    replace K0 := (hb1'.block _ (blk_lt K0)).trans K0
    have hb := below_next hb0 hb1'
    have HB := hide hb
    replace c0 := (hb.cell (p := ⟨b1, off + p * 3, none⟩) hb1).trans c0
    replace c1 := (hb.cell (p := ⟨b1, off + p * 3 + 1, none⟩) hb1).trans c1
    replace c2 := (hb.cell (p := ⟨b1, off + p * 3 + 2, none⟩) hb1).trans c2
    obtain ⟨z0, z1⟩ := two_at K0
    obtain ⟨zf0, zf1⟩ := two_live K0
    have e1 : ¬ b1 = w.heap.size := by omega
    have e2 : ¬ w.heap.size = b1 := by omega
    clear K0 hb0 hb1' CG hb
    go_wp2
    refine bodyPost_ret (v := .tuple #[.agg #[.int .i64 x.r, .int .i64 x.t], .bool true]) (by simp [results, Try.results13, go_sem, z0, z1]) rfl ?_
    exact ⟨rfl, (set_two (xs := []) (b := w.heap.size) ⟨.nil _ none, HB.out⟩ (fun a ha => by cases ha) (Nat.le_refl _) _ _).2⟩

end Go.Proofs.Ytodlabpgjgbbpah
