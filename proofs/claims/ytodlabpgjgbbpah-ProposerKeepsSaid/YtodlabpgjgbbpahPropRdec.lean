/-
  What the document's Decided and Greatest do, each by a contract.
-/
import Derived.Test.YtodlabpgjgbbpahPropRef
namespace Go.Proofs.Ytodlabpgjgbbpah
open Go.RowKit Go.Agio Go.Prp

theorem three_keep {w : World} {b off : Nat} {v0 v1 v2 : Value} (hb : b < w.heap.size) (c0 : w.cell? ⟨b, off, none⟩ = some v0) (c1 : w.cell? ⟨b, off + 1, none⟩ = some v1) (c2 : w.cell? ⟨b, off + 2, none⟩ = some v2) :
    ∀ W, Below w.heap.size w W → W.cell? ⟨b, off, none⟩ = some v0 ∧ W.cell? ⟨b, off + 1, none⟩ = some v1 ∧ W.cell? ⟨b, off + 2, none⟩ = some v2 :=
  fun _ h => ⟨(h.cell (p := ⟨b, off, none⟩) hb).trans c0, (h.cell (p := ⟨b, off + 1, none⟩) hb).trans c1, (h.cell (p := ⟨b, off + 2, none⟩) hb).trans c2⟩

set_option maxRecDepth 100000 in
set_option maxHeartbeats 4000000 in
theorem rdecided_any (A : Option Addr) (c : Nat) (X : List Vt) (r t n : Int) (w : World) (hR : VsRd w A X) (hm : X.length ≤ 1000000) (hn : n ≤ 9223372036854775807) :
    Calls Try.prog 17 #[.slice A X.length c, .agg #[.int .i64 r, .int .i64 t], .int .i64 n] w fun e w' => e = .returned (.bool (decided r t n X)) ∧ Below w.heap.size w w' := by
  obtain ⟨i0, hi, hz0, hz1, hz2⟩ := info_parts infoI
  have HR := hide hR
  have HVL := hide (voters_take_le r t X)
  clear hR
  go_enter Try.func17, Try.ntmps17
  go_wp2_with fail
  have hN := one_new w (.cells #[.int .i64 r, .int .i64 t] 32)
  generalize w.alloc (.cells #[.int .i64 r, .int .i64 t] 32) = W0 at *
  obtain ⟨K0, hs0, hb0⟩ := hN
  have HR0 := hide (HR.out.below hb0)
  have HB0 := hide hb0; have HK0 := hide K0
  clear hb0 K0
  go_loopw [7, 8] (fun v i wr => ∃ (k : Nat) (B : Option Addr) (q m : Nat), k ≤ X.length ∧ i = .int .i64 k ∧ v = .slice B m q ∧ m = (voters r t (X.take k)).length ∧ wr.ownsRow W0.heap.size 3 1 (.slice B m q) m ((voters r t (X.take k)).map (Value.int .i64)) ∧ Below W0.heap.size W0 wr) (fun _ i _ => X.length - (intOf i).toNat)
  case atStart => exact ⟨0, none, 0, 0, Nat.zero_le _, rfl, rfl, rfl, World.ownsRow_nil _ _ _ _, Below.refl _ _⟩
  case round =>
    obtain ⟨k, B, q, m, hk, rfl, rfl, hmm, ho, hbr⟩ := hrel
    have HO := hide ho; have HB := hide hbr; have HMM := hide hmm
    have hmX : m ≤ X.length := by rw [hmm]; exact HVL.out k
    clear ho hbr hmm
    by_cases h : k < X.length
    · obtain ⟨b1, off, rfl, hb1, c0, c1, c2⟩ := (HR0.out.below HB.out).at_ h
      have HY := hide (fun h1 h2 => voters_yes (r := r) (t := t) h h1 h2)
      have HNO := hide (fun h1 => voters_no (r := r) (t := t) h h1)
      obtain ⟨x, hx⟩ : ∃ x, x = X.getD k vt0 := ⟨_, rfl⟩
      rw [← hx] at c0 c1 c2 HY HNO
      clear hx
      have hkm : (k : Int) < (X.length : Int) := by omega
      obtain ⟨z0, z1⟩ := two_at ((HB.out.block _ (blk_lt HK0.out)).trans HK0.out)
      by_cases hr : x.r = r
      · by_cases ht : x.t = t
        · have HYY := hide (HY.out hr ht)
          rw [hr] at c1
          rw [ht] at c2
          go_wp2
          go_region
          go_wp2_with (at_builtin; apply halted)
          refine unhalt (wpList_append_reads rfl (.tmp 22) (.tmp 28) 63 rfl W0.heap.size 3 i0 (.int .i64 0) 8 Try.underlying63 hi hz0 hz1 hz2 rfl _ m ((voters r t (X.take k)).map (Value.int .i64)) rfl ((own_below HO.out (Below.refl _ _).drew).alloc _) (some ⟨wr.heap.size, 0, none⟩) 1 1 [.int .i64 x.frm] (by simp [Act.eval]) (Reads.new_at _ _ _ _ _ rfl) rfl (one_one _ rfl) (by unfold maxLen; omega) (by omega) (by have := HB.out.size; simp; omega) ?_)
          intro B4 d4 w4 n4 g4 t4
          have HB4 := hide ((HB.out.drew.alloc HB.out.size (.cells #[.int .i64 x.frm] 3)).grown g4 (by have := HB.out.size; simp; omega) (fun g hg => (HO.out.lt g hg).1))
          have N4 := hide n4
          clear n4 g4 t4 c0 c1 c2
          go_wp2
          go_roundw
          case rel => exact ⟨k + 1, B4, d4, m + 1, by omega, by go_num, rfl, by rw [HYY.out, List.length_append, ← HMM.out]; rfl, by rw [HYY.out]; simpa using N4.out, HB4.out⟩
          case measure => simp [intOf]; omega
        · have hno := hide (HNO.out (fun hh => ht hh.2))
          go_wp2
          go_region
          go_wp2
          go_roundw
          case rel => exact ⟨k + 1, B, q, m, by omega, by go_num, rfl, by rw [hno.out]; exact HMM.out, by rw [hno.out]; exact HO.out, HB.out.drew⟩
          case measure => simp [intOf]; omega
      · have hno := hide (HNO.out (fun hh => hr hh.1))
        go_wp2
        go_region
        go_wp2
        go_roundw
        case rel => exact ⟨k + 1, B, q, m, by omega, by go_num, rfl, by rw [hno.out]; exact HMM.out, by rw [hno.out]; exact HO.out, HB.out.drew⟩
        case measure => simp [intOf]; omega
    · obtain rfl : k = X.length := by omega
      rw [List.take_length] at HO HMM
      have CM := hide (rmost_at B q m (voters r t X) n wr HMM.out.symm (Reads.of_own HO.out) (Below.refl _ _) (by have := HMM.out; omega) hn)
      have HBW := hide (below_next HB0.out HB.out)
      go_wp2_with fail
      refine CM.out.mono ?_
      rintro e w2 ⟨rfl, hb2⟩
      go_wp2
      go_ret
      exact ⟨rfl, below_next HBW.out hb2⟩

set_option maxRecDepth 100000 in
set_option maxHeartbeats 4000000 in
theorem rgreat_any (A : Option Addr) (c : Nat) (X : List Vt) (w : World) (hR : VsRd w A X) (hm : X.length ≤ 1000000) :
    Calls Try.prog 14 #[.slice A X.length c] w fun e w' => e = .returned (.tuple #[.agg #[.int .i64 (great X).1, .int .i64 (great X).2], .bool (anyV X)]) ∧ Below w.heap.size w w' := by
  have HR := hide hR
  clear hR
  rcases Nat.eq_zero_or_pos X.length with h0 | h0
  · obtain rfl := List.eq_nil_of_length_eq_zero h0
    change Calls Try.prog 14 #[.slice A 0 c] w fun e w' => e = .returned (.tuple #[.agg #[.int .i64 0, .int .i64 0], .bool false]) ∧ Below w.heap.size w w'
    clear HR hm h0
    go_enter Try.func14, Try.ntmps14
    go_wp2
    refine bodyPost_ret (v := .tuple #[.agg #[.int .i64 0, .int .i64 0], .bool false]) (by simp [results, Try.results14, go_sem]) rfl ?_
    exact ⟨rfl, by go_grown⟩
  · have h0' : ((X.length : Int) == 0) = false := by rw [beq_eq_false_iff_ne]; omega
    have h00 : (0 : Int) < (X.length : Int) := by omega
    obtain ⟨b1, off, rfl, hb1, c0, c1, c2⟩ := HR.out.at_ h0
    rw [Nat.zero_mul, Nat.add_zero] at c0 c1 c2
    obtain ⟨x00, hx00⟩ : ∃ x00, x00 = X.getD 0 vt0 := ⟨_, rfl⟩
    rw [← hx00] at c0 c1 c2
    have HX00 := hide hx00
    clear hx00
    have HGT := hide (show great X = topOf X (bestV X X.length) from rfl)
    have HAV := hide (show anyV X = true by simp [anyV]; intro h; rw [h] at h0; simp at h0)
    rw [HGT.out, HAV.out]
    go_enter Try.func14, Try.ntmps14
    go_wp2_with fail
    have hN := two_new w (.cells #[.int .i64 0, .int .i64 0] 32) (.cells #[.int .i64 x00.r, .int .i64 x00.t] 32)
    generalize (w.alloc (.cells #[.int .i64 0, .int .i64 0] 32)).alloc (.cells #[.int .i64 x00.r, .int .i64 x00.t] 32) = W0 at *
    obtain ⟨K0, K1, hs0, hb0⟩ := hN
    clear c0 c1 c2
    go_loopw [5] (fun i wr => ∃ (k p : Nat), 1 ≤ k ∧ k ≤ X.length ∧ i = .int .i64 k ∧ bestV X k = some p ∧ wr.heap[w.heap.size]? = some (.cells #[.int .i64 0, .int .i64 0] 32) ∧ wr.heap[w.heap.size + 1]? = some (.cells #[.int .i64 (X.getD p vt0).r, .int .i64 (X.getD p vt0).t] 32) ∧ Below w.heap.size w wr) (fun i _ => X.length - (intOf i).toNat)
    case atStart => exact ⟨1, 0, Nat.le_refl _, h0, rfl, best_first X, K0, by rw [← HX00.out]; exact K1, hb0⟩
    case round =>
      obtain ⟨k, p, hk1, hk, rfl, hbk, hK0, hK1, hbr⟩ := hrel
      have HB := hide hbr
      clear hbr
      by_cases h : k < X.length
      · obtain ⟨b2, off2, he, hb2, c0, c1, c2⟩ := HR.out.at_ h
        injection he with he
        injection he with he1 he2
        subst he1 he2
        have CE0 := hide (three_keep hb1 c0 c1 c2)
        have HSTEP := hide (show bestV X (k + 1) = if 0 < Bal.compare (X.getD k vt0).r (X.getD k vt0).t (X.getD p vt0).r (X.getD p vt0).t then some k else some p from by
          obtain ⟨j, rfl⟩ : ∃ j, k = j + 1 := ⟨k - 1, by omega⟩
          exact great_step hbk)
        clear hbk c0 c1 c2 hb2
        obtain ⟨y, hy⟩ : ∃ y, y = X.getD p vt0 := ⟨_, rfl⟩
        obtain ⟨x, hx⟩ : ∃ x, x = X.getD k vt0 := ⟨_, rfl⟩
        rw [← hx, ← hy] at HSTEP
        rw [← hx] at CE0
        rw [← hy] at hK1
        have HX := hide hx; have HY := hide hy
        clear hx hy
        have hkm : (k : Int) < (X.length : Int) := by omega
        have CE := hide (fun (W : World) (hW : Below wr.heap.size wr W) => CE0.out W (below_next HB.out hW))
        have CB := hide (fun (W : World) (hW : Below wr.heap.size wr W) => two_at ((hW.block _ (blk_lt hK1)).trans hK1))
        have CC := hide (fun (W : World) (hW : Below wr.heap.size wr W) => (rcompare_any x.r x.t y.r y.t W).mono (fun e w' h => (show e = .returned (.int .i64 (Bal.compare x.r x.t y.r y.t)) ∧ Below wr.heap.size wr w' from ⟨h.1, below_next hW h.2⟩)))
        generalize Bal.compare x.r x.t y.r y.t = z at *
        have HK0 := hide hK0; have HK1 := hide hK1
        clear hK0 hK1 CE0
        go_wp2_with fail
        by_cases hz : 0 < z
        · have tz : decide (0 < z) = true := by simpa using hz
          have hst := HSTEP.out
          rw [if_pos hz] at hst
          have HST := hide hst
          clear hst HSTEP
          have hd0 := (Below.refl wr.heap.size wr).drew
          refine wp_region_held_drew (S := fun W => Below wr.heap.size wr W) (by kernel_rfl) hd0 (fun hH => ?_)
          refine wpAnyH_take (i := 0) (v := ?vg0) rfl (by kernel_rfl) (by kernel_rfl) (by kernel_rfl) (fun _ _ _ h => h) (Or.inl ⟨by rfl, ?yg0⟩) hH ?rg0
          case yg0 => (intro W hSw; (try dsimp only at hSw); (try simp only [List.getElem_toArray, List.getElem_cons_zero]); obtain ⟨x0, x1, x2⟩ := CE.out W hSw; go_simp; first | done | with_reducible rfl)
          try simp only [Act.put, List.getElem_toArray, List.getElem_cons_zero, List.setIfInBounds_toArray, List.set_cons_zero, List.set_cons_succ]
          refine wpAnyH_take (i := 1) (v := ?vg1) rfl (by kernel_rfl) (by kernel_rfl) (by kernel_rfl) (fun _ _ _ h => h) (Or.inl ⟨by rfl, ?yg1⟩) hH ?rg1
          case yg1 => (intro W hSw; (try dsimp only at hSw); (try simp only [List.getElem_toArray, List.getElem_cons_succ, List.getElem_cons_zero]); obtain ⟨x0, x1, x2⟩ := CE.out W hSw; go_simp; first | done | with_reducible rfl)
          try simp only [Act.put, List.getElem_toArray, List.getElem_cons_succ, List.getElem_cons_zero, List.setIfInBounds_toArray, List.set_cons_zero, List.set_cons_succ]
          refine wpAnyH_take (i := 2) (v := ?vg2) rfl (by kernel_rfl) (by kernel_rfl) (by kernel_rfl) (fun _ _ _ h => h) (Or.inl ⟨by rfl, ?yg2⟩) hH ?rg2
          case yg2 => (intro W hSw; (try dsimp only at hSw); (try simp only [List.getElem_toArray, List.getElem_cons_succ, List.getElem_cons_zero]); obtain ⟨x0, x1, x2⟩ := CE.out W hSw; go_simp; first | done | with_reducible rfl)
          try simp only [Act.put, List.getElem_toArray, List.getElem_cons_succ, List.getElem_cons_zero, List.setIfInBounds_toArray, List.set_cons_zero, List.set_cons_succ]
          refine wpAnyH_take (i := 3) (v := ?vg3) rfl (by kernel_rfl) (by kernel_rfl) (by kernel_rfl) (fun _ _ _ h => h) (Or.inl ⟨by rfl, ?yg3⟩) hH ?rg3
          case yg3 => (intro W hSw; (try dsimp only at hSw); (try simp only [List.getElem_toArray, List.getElem_cons_succ, List.getElem_cons_zero]); obtain ⟨x0, x1, x2⟩ := CE.out W hSw; go_simp; first | done | with_reducible rfl)
          try simp only [Act.put, List.getElem_toArray, List.getElem_cons_succ, List.getElem_cons_zero, List.setIfInBounds_toArray, List.set_cons_zero, List.set_cons_succ]
          refine wpAnyH_take (i := 4) (v := ?vg4) rfl (by kernel_rfl) (by kernel_rfl) (by kernel_rfl) (fun _ _ _ h => h) (Or.inl ⟨by rfl, ?yg4⟩) hH ?rg4
          case yg4 => (intro W hSw; (try dsimp only at hSw); (try simp only [List.getElem_toArray, List.getElem_cons_succ, List.getElem_cons_zero]); obtain ⟨x0, x1, x2⟩ := CE.out W hSw; go_simp; first | done | with_reducible rfl)
          try simp only [Act.put, List.getElem_toArray, List.getElem_cons_succ, List.getElem_cons_zero, List.setIfInBounds_toArray, List.set_cons_zero, List.set_cons_succ]
          refine wpAnyH_take (i := 5) (v := ?vg5) rfl (by kernel_rfl) (by kernel_rfl) (by kernel_rfl) (fun _ _ _ h => h) (Or.inl ⟨by rfl, ?yg5⟩) hH ?rg5
          case yg5 => (intro W hSw; (try dsimp only at hSw); (try simp only [List.getElem_toArray, List.getElem_cons_succ, List.getElem_cons_zero]); obtain ⟨y0, y1⟩ := CB.out W hSw; go_simp; first | done | with_reducible rfl)
          try simp only [Act.put, List.getElem_toArray, List.getElem_cons_succ, List.getElem_cons_zero, List.setIfInBounds_toArray, List.set_cons_zero, List.set_cons_succ]
          refine wpAnyH_ready (rs := [6]) (by kernel_rfl) (by simp) ?_
          refine AllReadyH.cons rfl (fun K hK => ?_) AllReadyH.nil
          simp only [List.getElem_toArray, List.getElem_cons_succ, List.getElem_cons_zero]
          go_simp
          refine (CC.out _ hd0).mono ?_
          rintro e w6 ⟨rfl, hb6⟩
          refine hK.out _ _ hb6 (fun hH2 => ?_)
          clear hK hH2
          refine wpAnyH_take (i := 7) (v := .bool true) rfl (by kernel_rfl) (by kernel_rfl) (by kernel_rfl) (fun _ _ _ h => h) (Or.inl ⟨by rfl, ?yg7⟩) hb6 ?rg7
          case yg7 => (intro W hSw; (try dsimp only at hSw); (try simp only [List.getElem_toArray, List.getElem_cons_succ, List.getElem_cons_zero]); go_simp; (try (simp only [tz])); first | done | with_reducible rfl)
          try simp only [Act.put, List.getElem_toArray, List.getElem_cons_succ, List.getElem_cons_zero, List.setIfInBounds_toArray, List.set_cons_zero, List.set_cons_succ]
          refine wpAnyH_done (by kernel_rfl) ?_ _
          obtain ⟨x0, x1, x2⟩ := CE.out w6 hb6
          have k1 := (hb6.block _ (blk_lt HK1.out)).trans HK1.out
          have k0 := (hb6.block _ (blk_lt HK0.out)).trans HK0.out
          obtain ⟨y0, y1⟩ := two_at k1
          obtain ⟨yf0, yf1⟩ := two_live k1
          have HB6 := hide (below_next HB.out hb6)
          have K0' := hide k0; have K1' := hide k1
          have e1 : ¬ b1 = w.heap.size + 1 := by omega
          have e2 : ¬ w.heap.size + 1 = b1 := by omega
          clear k0 k1 hb6 hd0
          go_wp2
          go_roundw
          case rel => exact ⟨k + 1, k, by omega, by omega, by go_num, HST.out, far (far K0'.out (by omega) _ _) (by omega) _ _, by rw [← HX.out]; exact two_put1 (two_put0 K1'.out _) _, (set_two (xs := []) (b := w.heap.size + 1) ⟨.nil _ none, HB6.out⟩ (fun a ha => by cases ha) (by omega) _ _).2⟩
          case measure => simp [intOf]; omega
        · have tz : decide (0 < z) = false := by simpa using hz
          have hst := HSTEP.out
          rw [if_neg hz] at hst
          have HST := hide hst
          clear hst HSTEP
          have hd0 := (Below.refl wr.heap.size wr).drew
          refine wp_region_held_drew (S := fun W => Below wr.heap.size wr W) (by kernel_rfl) hd0 (fun hH => ?_)
          refine wpAnyH_take (i := 0) (v := ?vh0) rfl (by kernel_rfl) (by kernel_rfl) (by kernel_rfl) (fun _ _ _ h => h) (Or.inl ⟨by rfl, ?yh0⟩) hH ?rh0
          case yh0 => (intro W hSw; (try dsimp only at hSw); (try simp only [List.getElem_toArray, List.getElem_cons_zero]); obtain ⟨x0, x1, x2⟩ := CE.out W hSw; go_simp; first | done | with_reducible rfl)
          try simp only [Act.put, List.getElem_toArray, List.getElem_cons_zero, List.setIfInBounds_toArray, List.set_cons_zero, List.set_cons_succ]
          refine wpAnyH_take (i := 1) (v := ?vh1) rfl (by kernel_rfl) (by kernel_rfl) (by kernel_rfl) (fun _ _ _ h => h) (Or.inl ⟨by rfl, ?yh1⟩) hH ?rh1
          case yh1 => (intro W hSw; (try dsimp only at hSw); (try simp only [List.getElem_toArray, List.getElem_cons_succ, List.getElem_cons_zero]); obtain ⟨x0, x1, x2⟩ := CE.out W hSw; go_simp; first | done | with_reducible rfl)
          try simp only [Act.put, List.getElem_toArray, List.getElem_cons_succ, List.getElem_cons_zero, List.setIfInBounds_toArray, List.set_cons_zero, List.set_cons_succ]
          refine wpAnyH_take (i := 2) (v := ?vh2) rfl (by kernel_rfl) (by kernel_rfl) (by kernel_rfl) (fun _ _ _ h => h) (Or.inl ⟨by rfl, ?yh2⟩) hH ?rh2
          case yh2 => (intro W hSw; (try dsimp only at hSw); (try simp only [List.getElem_toArray, List.getElem_cons_succ, List.getElem_cons_zero]); obtain ⟨x0, x1, x2⟩ := CE.out W hSw; go_simp; first | done | with_reducible rfl)
          try simp only [Act.put, List.getElem_toArray, List.getElem_cons_succ, List.getElem_cons_zero, List.setIfInBounds_toArray, List.set_cons_zero, List.set_cons_succ]
          refine wpAnyH_take (i := 3) (v := ?vh3) rfl (by kernel_rfl) (by kernel_rfl) (by kernel_rfl) (fun _ _ _ h => h) (Or.inl ⟨by rfl, ?yh3⟩) hH ?rh3
          case yh3 => (intro W hSw; (try dsimp only at hSw); (try simp only [List.getElem_toArray, List.getElem_cons_succ, List.getElem_cons_zero]); obtain ⟨x0, x1, x2⟩ := CE.out W hSw; go_simp; first | done | with_reducible rfl)
          try simp only [Act.put, List.getElem_toArray, List.getElem_cons_succ, List.getElem_cons_zero, List.setIfInBounds_toArray, List.set_cons_zero, List.set_cons_succ]
          refine wpAnyH_take (i := 4) (v := ?vh4) rfl (by kernel_rfl) (by kernel_rfl) (by kernel_rfl) (fun _ _ _ h => h) (Or.inl ⟨by rfl, ?yh4⟩) hH ?rh4
          case yh4 => (intro W hSw; (try dsimp only at hSw); (try simp only [List.getElem_toArray, List.getElem_cons_succ, List.getElem_cons_zero]); obtain ⟨x0, x1, x2⟩ := CE.out W hSw; go_simp; first | done | with_reducible rfl)
          try simp only [Act.put, List.getElem_toArray, List.getElem_cons_succ, List.getElem_cons_zero, List.setIfInBounds_toArray, List.set_cons_zero, List.set_cons_succ]
          refine wpAnyH_take (i := 5) (v := ?vh5) rfl (by kernel_rfl) (by kernel_rfl) (by kernel_rfl) (fun _ _ _ h => h) (Or.inl ⟨by rfl, ?yh5⟩) hH ?rh5
          case yh5 => (intro W hSw; (try dsimp only at hSw); (try simp only [List.getElem_toArray, List.getElem_cons_succ, List.getElem_cons_zero]); obtain ⟨y0, y1⟩ := CB.out W hSw; go_simp; first | done | with_reducible rfl)
          try simp only [Act.put, List.getElem_toArray, List.getElem_cons_succ, List.getElem_cons_zero, List.setIfInBounds_toArray, List.set_cons_zero, List.set_cons_succ]
          refine wpAnyH_ready (rs := [6]) (by kernel_rfl) (by simp) ?_
          refine AllReadyH.cons rfl (fun K hK => ?_) AllReadyH.nil
          simp only [List.getElem_toArray, List.getElem_cons_succ, List.getElem_cons_zero]
          go_simp
          refine (CC.out _ hd0).mono ?_
          rintro e w6 ⟨rfl, hb6⟩
          refine hK.out _ _ hb6 (fun hH2 => ?_)
          clear hK hH2
          refine wpAnyH_take (i := 7) (v := .bool false) rfl (by kernel_rfl) (by kernel_rfl) (by kernel_rfl) (fun _ _ _ h => h) (Or.inl ⟨by rfl, ?yh7⟩) hb6 ?rh7
          case yh7 => (intro W hSw; (try dsimp only at hSw); (try simp only [List.getElem_toArray, List.getElem_cons_succ, List.getElem_cons_zero]); go_simp; (try (simp only [tz])); first | done | with_reducible rfl)
          try simp only [Act.put, List.getElem_toArray, List.getElem_cons_succ, List.getElem_cons_zero, List.setIfInBounds_toArray, List.set_cons_zero, List.set_cons_succ]
          refine wpAnyH_done (by kernel_rfl) ?_ _
          have HB6 := hide (below_next HB.out hb6)
          have K0' := hide ((hb6.block _ (blk_lt HK0.out)).trans HK0.out)
          have K1' := hide ((hb6.block _ (blk_lt HK1.out)).trans HK1.out)
          clear hb6 hd0
          go_wp2
          go_roundw
          case rel => exact ⟨k + 1, p, by omega, by omega, by go_num, HST.out, K0'.out, by rw [← HY.out]; exact K1'.out, HB6.out⟩
          case measure => simp [intOf]; omega
      · obtain rfl : k = X.length := by omega
        obtain ⟨y, hy⟩ : ∃ y, y = X.getD p vt0 := ⟨_, rfl⟩
        rw [← hy] at hK1
        have HY := hide hy; have HBK := hide hbk
        clear hy
        obtain ⟨y0, y1⟩ := two_at hK1
        obtain ⟨z0, z1⟩ := two_at hK0
        obtain ⟨zf0, zf1⟩ := two_live hK0
        clear hbk hK0 hK1 HGT HAV
        go_wp2
        refine bodyPost_ret (v := .tuple #[.agg #[.int .i64 y.r, .int .i64 y.t], .bool true]) (by simp [results, Try.results14, go_sem, z0, z1]) rfl ?_
        exact ⟨by rw [HBK.out]; show _ = Ending.returned (.tuple #[.agg #[.int .i64 (X.getD p vt0).r, .int .i64 (X.getD p vt0).t], .bool true]); rw [← HY.out], (set_two (xs := []) (b := w.heap.size) ⟨.nil _ none, HB.out⟩ (fun a ha => by cases ha) (by omega) _ _).2⟩

end Go.Proofs.Ytodlabpgjgbbpah
