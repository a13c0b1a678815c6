/-
  ProposerFree: where nothing was accepted nothing is left; with the promises of all in another order the value is the same, if no two are at one ballot. No conditions.
-/
import Derived.Test.YtodlabpgjgbbpahPropArgs
import Derived.Test.YtodlabpgjgbbpahRows
namespace Go.Proofs.Ytodlabpgjgbbpah
open Go.RowKit Go.Agio Go.Prp Go.ChangeShapes Go.WideShapes Go.ChangeAt

theorem infoPP : (Try.prog.info? 34).map (fun i => (i.zero, i.size, i.bytes)) = some (some (.agg #[.int .i64 0, .bool false, .int .i64 0, .int .i64 0, .slice none 0 0]), 5, 56) := by kernel_rfl
/-- A promise, but for what it accepted. -/
def bareA (x : PAt) : PAt := { x with p := bare x.p }
/-- The promises from a place on, the last one first. -/
def backs (X : List PAt) (j : Nat) : List PAt := (X.drop j).reverse
def bares (X : List PAt) (j : Nat) : List PAt := (backs X j).map bareA
theorem backs_length (X : List PAt) (j : Nat) : (backs X j).length = X.length - j := by simp [backs]
theorem bares_length (X : List PAt) (j : Nat) : (bares X j).length = X.length - j := by simp [bares, backs_length]
theorem backs_next {X : List PAt} {j : Nat} (h : j < X.length) : backs X j = backs X (j + 1) ++ [X.getD j pa0] := by
  unfold backs
  rw [List.drop_eq_getElem_cons h, List.reverse_cons]
  simp [List.getD_eq_getElem?_getD, h]
theorem bares_next {X : List PAt} {j : Nat} (h : j < X.length) : bares X j = bares X (j + 1) ++ [bareA (X.getD j pa0)] := by
  unfold bares
  rw [backs_next h, List.map_append]
  rfl
theorem pms_backs (X : List PAt) : pms (backs X 0) = (pms X).reverse := by simp [pms, backs]
theorem pms_bares (X : List PAt) : pms (bares X 0) = (pms X).reverse.map bare := by
  simp [pms, bares, backs, List.map_map]
  intro a _
  rfl
/-- Two of a list, the later one at a place, with one ballot. -/
def twinAt (X : List PAt) (i k : Nat) : Prop := (X.getD i pa0).p.some = true ∧ (X.getD k pa0).p.some = true ∧ (X.getD i pa0).p.r = (X.getD k pa0).p.r ∧ (X.getD i pa0).p.t = (X.getD k pa0).p.t
theorem no_twin {X : List PAt} (h : ∀ i k, i < X.length → k < i → ¬ twinAt X i k) : ¬ twin (pms X) := by
  rintro ⟨i, k, hi, hk, h1, h2, h3, h4⟩
  rw [pms_length] at hi
  rw [pms_get] at h1 h3 h4
  rw [pms_get] at h2 h3 h4
  exact h i k hi hk ⟨h1, h2, h3, h4⟩
theorem chosen_back (n : Int) {X : List PAt} (h : ¬ twin (pms X)) : chosen n (pms (backs X 0)) = chosen n (pms X) ∧ may_ n (pms (backs X 0)) = may_ n (pms X) := by
  rw [pms_backs]
  unfold chosen
  rw [may_reverse, left_reverse n h]
  exact ⟨rfl, rfl⟩
theorem chosen_bare (n : Int) (X : List PAt) : chosen n (pms (bares X 0)) = [] ∧ may_ n (pms (bares X 0)) = may_ n (pms X) := by
  rw [pms_bares]
  unfold chosen
  rw [may_bare, left_bare]
  exact ⟨by simp, rfl⟩
theorem fine_backs {X : List PAt} (h : fineP X) : fineP (backs X 0) := fun x hx => h x (by simpa [backs] using hx)
theorem fine_bares {X : List PAt} (h : fineP X) : fineP (bares X 0) := fun x hx => by
  obtain ⟨y, hy, rfl⟩ := List.mem_map.1 hx
  exact h y (by simpa [backs] using hy)

theorem apart_own {u v : Value} (h : ∀ g, Value.ownBlock u = some g → Value.ownBlock v ≠ some g) : Value.ownBlock v = none ∨ Value.ownBlock v ≠ Value.ownBlock u := by
  cases hv : Value.ownBlock v with
  | none => exact .inl rfl
  | some g => exact .inr (fun e => h g e.symm hv)
/-- Behind an append: what the row of it is, the other one is not. -/
theorem apart_next {u v u' : Value} {m : Nat} (h : ∀ g, Value.ownBlock u = some g → Value.ownBlock v ≠ some g) (hv : ∀ g, Value.ownBlock v = some g → g ≠ m) (t : Value.ownBlock u' = Value.ownBlock u ∨ Value.ownBlock u' = some m) :
    ∀ g, Value.ownBlock u' = some g → Value.ownBlock v ≠ some g := fun g hg hh => by
  rcases t with t | t
  · exact h g (t ▸ hg) hh
  · rw [t] at hg; injection hg with hg; exact hv g hh hg.symm

set_option maxRecDepth 100000 in
set_option maxHeartbeats 8000000 in
theorem proposerFree_walk (A : Option Addr) (c : Nat) (X : List PAt) (n : Int) (w : World) (hR : PsRd w A X) (hX : fineP X) (hn : n ≤ 9223372036854775807) :
    Calls Try.prog 4 #[.slice A X.length c, .int .i64 n] w fun e w' => e = .returned (.bool true) ∧ Below w.heap.size w w' := by
  obtain ⟨i0, hi, hz0, hz1, hz2⟩ := info_parts infoPP
  have HR := hide hR; have HX := hide hX
  clear hR hX
  go_enter Try.func4, Try.ntmps4
  go_wp2_with fail
  refine (awake_any _).mono ?_
  rintro e w1 ⟨rfl, hb1⟩
  have HB1 := hide hb1
  clear hb1
  by_cases hlen : 100 < X.length
  · have h1 : (100 : Int) < (X.length : Int) := by omega
    go_wp2
    go_ret
    exact ⟨rfl, HB1.out⟩
  · have h1 : ¬ (100 : Int) < (X.length : Int) := by omega
    have h2 : (X.length : Int) ≤ 100 := by omega
    have hlX : X.length ≤ 100 := by omega
    go_wp2_with fail
    go_loopw [6, 7, 8] (fun u v q wr => ∃ (j : Nat) (B C : Option Addr) (cb cc m : Nat), j ≤ X.length ∧ q = .int .i64 ((j : Int) - 1) ∧ m = X.length - j ∧ u = .slice B m cb ∧ v = .slice C m cc ∧
      wr.ownsRow w1.heap.size 34 5 (.slice B m cb) m ((bares X j).flatMap PAt.cells) ∧ wr.ownsRow w1.heap.size 34 5 (.slice C m cc) m ((backs X j).flatMap PAt.cells) ∧
      (∀ g, Value.ownBlock (.slice B m cb) = some g → Value.ownBlock (.slice C m cc) ≠ some g) ∧ (∀ i k, j ≤ i → i < X.length → k < i → ¬ twinAt X i k) ∧ Below w1.heap.size w1 wr) (fun _ _ q _ => (intOf q + 1).toNat)
    case atStart => exact ⟨X.length, none, none, 0, 0, 0, Nat.le_refl _, rfl, by omega, rfl, rfl, ⟨by simp [bares, backs], .inl ⟨rfl, rfl⟩⟩, ⟨by simp [backs], .inl ⟨rfl, rfl⟩⟩, (fun g hg => by cases hg), (fun i k h1 h2 => by omega), Below.refl _ _⟩
    case round =>
      obtain ⟨j, B, C, cb, cc, m, hj, rfl, hmm, rfl, rfl, hnn, hbk, hap, htw, hbr⟩ := hrel
      have HNN := hide hnn; have HBK := hide hbk; have HAP := hide hap; have HTW := hide htw; have HB := hide hbr; have HMM := hide hmm
      have hmX : m ≤ X.length := by omega
      clear hnn hbk hap htw hbr hmm
      rcases Nat.eq_zero_or_pos j with rfl | hj0
      · have htw := no_twin (X := X) (fun i k h h' => HTW.out i k (Nat.zero_le _) h h')
        have hcb := chosen_back n htw
        have hcn := chosen_bare n X
        obtain ⟨v, hv⟩ : ∃ v, v = chosen n (pms X) := ⟨_, rfl⟩
        obtain ⟨a, ha⟩ : ∃ a, a = may_ n (pms X) := ⟨_, rfl⟩
        rw [← hv, ← ha] at hcb
        rw [← ha] at hcn
        have HV := hide hv; have HA := hide ha; have HCB := hide hcb; have HCN := hide hcn
        have HBW := hide (below_next HB1.out HB.out)
        have PB : Hid (PsRd wr C (backs X 0)) := hide ⟨reads_own HBK.out, fun x hx => (HR.out.2 x (by simpa [backs] using hx)).below HBW.out⟩
        have PN : Hid (PsRd wr B (bares X 0)) := hide ⟨reads_own HNN.out, fun x hx => by
          obtain ⟨y, hy, rfl⟩ := List.mem_map.1 hx
          exact (HR.out.2 y (by simpa [backs] using hy)).below HBW.out⟩
        have C1 := hide (choose_any A c X n wr (HR.out.below HBW.out) HX.out (by omega) hn)
        have C2 := hide (fun (W : World) (hW : Below wr.heap.size wr W) => choose_any C cc (backs X 0) n W (PB.out.below hW) (fine_backs HX.out) (by rw [backs_length]; omega) hn)
        have C3 := hide (fun (W : World) (hW : Below wr.heap.size wr W) => choose_any B cb (bares X 0) n W (PN.out.below hW) (fine_bares HX.out) (by rw [bares_length]; omega) hn)
        unfold CGot at C1 C2 C3
        rw [← HV.out, ← HA.out] at C1
        rw [HCB.out.1, HCB.out.2, backs_length, ← HMM.out] at C2
        rw [HCN.out.1, HCN.out.2, bares_length, ← HMM.out] at C3
        clear hv ha hcb hcn htw HMM HV HA HCB HCN PB PN HNN HBK HAP HTW HX
        rw [show (((0 : Nat) : Int) - 1) = -1 from rfl]
        go_wp2_with fail
        refine C1.out.mono ?_
        rintro e w2 ⟨V1, d1, rfl, r1, hb2⟩
        have R1 := hide r1; have HB2 := hide hb2
        clear r1 hb2
        go_wp2_with fail
        refine (C2.out w2 HB2.out).mono ?_
        rintro e w3 ⟨V2, d2, rfl, r2, hb3⟩
        have R2 := hide r2
        replace R1 := hide (R1.out.below hb3)
        have HB3 := hide (below_next HB2.out hb3)
        clear r2 hb3
        go_wp2_with fail
        refine (C3.out w3 HB3.out).mono ?_
        rintro e w4 ⟨V3, d3, rfl, r3, hb4⟩
        have s1 := str_reads w4 V1 v.length d1 v (R1.out.below hb4) rfl
        have s2 := str_reads w4 V2 v.length d2 v (R2.out.below hb4) rfl
        have e1 : ((strOfNums v).toList == (strOfNums v).toList) = true := by simp
        have HB4 := hide (below_next HBW.out (below_next HB3.out hb4))
        clear r3 hb4 C1 C2 C3
        rw [List.length_nil]
        go_wp2
        go_ret
        exact ⟨rfl, HB4.out⟩
      · obtain ⟨i, rfl⟩ : ∃ i, j = i + 1 := ⟨j - 1, by omega⟩
        rw [show ((i + 1 : Nat) : Int) - 1 = (i : Int) by omega]
        have hiX : (i : Int) < (X.length : Int) := by omega
        have hi0 : (0 : Int) ≤ (i : Int) := by omega
        obtain ⟨b1, off, rfl, hb1, c0, c1, c2, c3, c4⟩ := HR.out.at_ (i := i) (by omega)
        have CE0 := hide (five_keep hb1 c0 c1 c2 c3 c4)
        obtain ⟨x, hx⟩ : ∃ x, x = X.getD i pa0 := ⟨_, rfl⟩
        rw [← hx] at CE0
        have HXI := hide hx
        clear c0 c1 c2 c3 c4 hx
        go_wp2_with fail
        obtain ⟨wo, hwo⟩ : ∃ wo, wo = wr := ⟨_, rfl⟩
        subst hwo
        go_loopw [9] (fun q wj => ∃ k : Nat, k ≤ i ∧ q = .int .i64 k ∧ (∀ k', k' < k → ¬ twinAt X i k') ∧ Below wo.heap.size wo wj) (fun q _ => i - (intOf q).toNat)
        case atStart => exact ⟨0, Nat.zero_le _, rfl, fun k' h => by omega, Below.refl _ _⟩
        case round =>
          obtain ⟨k, hk, rfl, htk, hbi⟩ := hrel
          have HTK := hide htk; have HBI := hide hbi
          clear htk hbi
          have HBWI := hide (below_next HB1.out (below_next HB.out HBI.out))
          by_cases hki : k < i
          · have hki' : (k : Int) < (i : Int) := by omega
            have hk0 : (0 : Int) ≤ (k : Int) := by omega
            have hkX : (k : Int) < (X.length : Int) := by omega
            obtain ⟨b2, off2, he, hb2', q0, q1, q2, q3, q4⟩ := HR.out.at_ (i := k) (by omega)
            injection he with he
            injection he with he1 he2
            subst he1 he2
            have CQ := hide (five_keep hb2' q0 q1 q2 q3 q4)
            obtain ⟨y, hy⟩ : ∃ y, y = X.getD k pa0 := ⟨_, rfl⟩
            rw [← hy] at CQ
            have HYK := hide hy
            clear hy q0 q1 q2 q3 q4 hb2'
            have HSN := hide (fun (h : ¬ (x.p.some = true ∧ y.p.some = true ∧ x.p.r = y.p.r ∧ x.p.t = y.p.t)) => (show ∀ k', k' < k + 1 → ¬ twinAt X i k' from fun k' hk' => by
              by_cases hkk : k' = k
              · subst hkk; unfold twinAt; rw [← HXI.out, ← HYK.out]; exact h
              · exact HTK.out k' (by omega)))
            obtain ⟨c0, c1, c2, c3, c4⟩ := CE0.out wr HBWI.out
            obtain ⟨q0, q1, q2, q3, q4⟩ := CQ.out wr HBWI.out
            cases hs1 : x.p.some
            · rw [hs1] at c1
              have HG := hide (HSN.out (by rw [hs1]; simp))
              clear hs1
              go_wp2
              go_region
              go_wp2
              go_roundw
              case rel => exact ⟨k + 1, by omega, by go_num, HG.out, HBI.out.drew⟩
              case measure => simp [intOf]; omega
            · rw [hs1] at c1
              cases hs2 : y.p.some
              · rw [hs2] at q1
                have HG := hide (HSN.out (by rw [hs2]; simp))
                clear hs1 hs2
                go_wp2
                go_region
                go_wp2
                go_roundw
                case rel => exact ⟨k + 1, by omega, by go_num, HG.out, HBI.out.drew⟩
                case measure => simp [intOf]; omega
              · rw [hs2] at q1
                by_cases hr : x.p.r = y.p.r
                · by_cases ht : x.p.t = y.p.t
                  · rw [hr] at c2
                    rw [ht] at c3
                    clear hs1 hs2 HSN hr ht
                    go_wp2
                    go_region
                    go_wp2
                    go_ret
                    exact ⟨rfl, HBWI.out.drew⟩
                  · have HG := hide (HSN.out (fun h => ht h.2.2.2))
                    clear hs1 hs2 HSN
                    go_wp2
                    go_region
                    go_wp2
                    go_roundw
                    case rel => exact ⟨k + 1, by omega, by go_num, HG.out, HBI.out.drew⟩
                    case measure => simp [intOf]; omega
                · have HG := hide (HSN.out (fun h => hr h.2.2.1))
                  clear hs1 hs2 HSN
                  go_wp2
                  go_region
                  go_wp2
                  go_roundw
                  case rel => exact ⟨k + 1, by omega, by go_num, HG.out, HBI.out.drew⟩
                  case measure => simp [intOf]; omega
          · obtain rfl : k = i := by omega
            have HN1 := hide (own_below HNN.out HBI.out)
            have HK1 := hide (own_below HBK.out HBI.out)
            have CE := hide (fun (W : World) (hW : Below w1.heap.size w1 W) => CE0.out W (below_next HB1.out hW))
            go_wp2_with fail
            have HBI0 := hide (below_next HB.out HBI.out)
            have hd0 := HBI0.out.drew
            refine wp_region_held_drew (S := fun W => Below w1.heap.size w1 W) (by kernel_rfl) hd0 (fun hH => ?_)
            refine wpAnyH_take (i := 0) (v := ?va0) rfl (by kernel_rfl) (by kernel_rfl) (by kernel_rfl) (fun _ _ _ h => h) (Or.inl ⟨by rfl, ?ya0⟩) hH ?ra0
            case ya0 => (intro W hSw; (try dsimp only at hSw); (try simp only [List.getElem_toArray, List.getElem_cons_zero]); obtain ⟨x0, x1, x2, x3, x4⟩ := CE.out W hSw; go_simp; first | done | with_reducible rfl)
            try simp only [Act.put, List.getElem_toArray, List.getElem_cons_zero, List.setIfInBounds_toArray, List.set_cons_zero, List.set_cons_succ]
            refine wpAnyH_take (i := 1) (v := ?va1) rfl (by kernel_rfl) (by kernel_rfl) (by kernel_rfl) (fun _ _ _ h => h) (Or.inl ⟨by rfl, ?ya1⟩) hH ?ra1
            case ya1 => (intro W hSw; (try dsimp only at hSw); (try simp only [List.getElem_toArray, List.getElem_cons_succ, List.getElem_cons_zero]); obtain ⟨x0, x1, x2, x3, x4⟩ := CE.out W hSw; go_simp; first | done | with_reducible rfl)
            try simp only [Act.put, List.getElem_toArray, List.getElem_cons_succ, List.getElem_cons_zero, List.setIfInBounds_toArray, List.set_cons_zero, List.set_cons_succ]
            refine wpAnyH_take (i := 2) (v := ?va2) rfl (by kernel_rfl) (by kernel_rfl) (by kernel_rfl) (fun _ _ _ h => h) (Or.inl ⟨by rfl, ?ya2⟩) hH ?ra2
            case ya2 => (intro W hSw; (try dsimp only at hSw); (try simp only [List.getElem_toArray, List.getElem_cons_succ, List.getElem_cons_zero]); obtain ⟨x0, x1, x2, x3, x4⟩ := CE.out W hSw; go_simp; first | done | with_reducible rfl)
            try simp only [Act.put, List.getElem_toArray, List.getElem_cons_succ, List.getElem_cons_zero, List.setIfInBounds_toArray, List.set_cons_zero, List.set_cons_succ]
            refine wpAnyH_take (i := 3) (v := ?va3) rfl (by kernel_rfl) (by kernel_rfl) (by kernel_rfl) (fun _ _ _ h => h) (Or.inl ⟨by rfl, ?ya3⟩) hH ?ra3
            case ya3 => (intro W hSw; (try dsimp only at hSw); (try simp only [List.getElem_toArray, List.getElem_cons_succ, List.getElem_cons_zero]); obtain ⟨x0, x1, x2, x3, x4⟩ := CE.out W hSw; go_simp; first | done | with_reducible rfl)
            try simp only [Act.put, List.getElem_toArray, List.getElem_cons_succ, List.getElem_cons_zero, List.setIfInBounds_toArray, List.set_cons_zero, List.set_cons_succ]
            refine wpAnyH_take (i := 4) (v := ?va4) rfl (by kernel_rfl) (by kernel_rfl) (by kernel_rfl) (fun _ _ _ h => h) (Or.inl ⟨by rfl, ?ya4⟩) hH ?ra4
            case ya4 => (intro W hSw; (try dsimp only at hSw); (try simp only [List.getElem_toArray, List.getElem_cons_succ, List.getElem_cons_zero]); obtain ⟨x0, x1, x2, x3, x4⟩ := CE.out W hSw; go_simp; first | done | with_reducible rfl)
            try simp only [Act.put, List.getElem_toArray, List.getElem_cons_succ, List.getElem_cons_zero, List.setIfInBounds_toArray, List.set_cons_zero, List.set_cons_succ]
            refine wpAnyH_take (i := 5) (v := ?va5) rfl (by kernel_rfl) (by kernel_rfl) (by kernel_rfl) (fun _ _ _ h => h) (Or.inl ⟨by rfl, ?ya5⟩) hH ?ra5
            case ya5 => (intro W hSw; (try dsimp only at hSw); (try simp only [List.getElem_toArray, List.getElem_cons_succ, List.getElem_cons_zero]); obtain ⟨x0, x1, x2, x3, x4⟩ := CE.out W hSw; go_simp; first | done | with_reducible rfl)
            try simp only [Act.put, List.getElem_toArray, List.getElem_cons_succ, List.getElem_cons_zero, List.setIfInBounds_toArray, List.set_cons_zero, List.set_cons_succ]
            refine wpAnyH_take (i := 6) (v := ?va6) rfl (by kernel_rfl) (by kernel_rfl) (by kernel_rfl) (fun _ _ _ h => h) (Or.inl ⟨by rfl, ?ya6⟩) hH ?ra6
            case ya6 => (intro W hSw; (try dsimp only at hSw); (try simp only [List.getElem_toArray, List.getElem_cons_succ, List.getElem_cons_zero]); obtain ⟨x0, x1, x2, x3, x4⟩ := CE.out W hSw; go_simp; first | done | with_reducible rfl)
            try simp only [Act.put, List.getElem_toArray, List.getElem_cons_succ, List.getElem_cons_zero, List.setIfInBounds_toArray, List.set_cons_zero, List.set_cons_succ]
            refine wpAnyH_take (i := 7) (v := ?va7) rfl (by kernel_rfl) (by kernel_rfl) (by kernel_rfl) (fun _ _ _ h => h) (Or.inl ⟨by rfl, ?ya7⟩) hH ?ra7
            case ya7 => (intro W hSw; (try dsimp only at hSw); (try simp only [List.getElem_toArray, List.getElem_cons_succ, List.getElem_cons_zero]); obtain ⟨x0, x1, x2, x3, x4⟩ := CE.out W hSw; go_simp; first | done | with_reducible rfl)
            try simp only [Act.put, List.getElem_toArray, List.getElem_cons_succ, List.getElem_cons_zero, List.setIfInBounds_toArray, List.set_cons_zero, List.set_cons_succ]
            refine wpAnyH_take (i := 8) (v := ?va8) rfl (by kernel_rfl) (by kernel_rfl) (by kernel_rfl) (fun _ _ _ h => h) (Or.inl ⟨by rfl, ?ya8⟩) hH ?ra8
            case ya8 => (intro W hSw; (try dsimp only at hSw); (try simp only [List.getElem_toArray, List.getElem_cons_succ, List.getElem_cons_zero]); obtain ⟨x0, x1, x2, x3, x4⟩ := CE.out W hSw; go_simp; first | done | with_reducible rfl)
            try simp only [Act.put, List.getElem_toArray, List.getElem_cons_succ, List.getElem_cons_zero, List.setIfInBounds_toArray, List.set_cons_zero, List.set_cons_succ]
            refine wpAnyH_take (i := 9) (v := ?va9) rfl (by kernel_rfl) (by kernel_rfl) (by kernel_rfl) (fun _ _ _ h => h) (Or.inl ⟨by rfl, ?ya9⟩) hH ?ra9
            case ya9 => (intro W hSw; (try dsimp only at hSw); (try simp only [List.getElem_toArray, List.getElem_cons_succ, List.getElem_cons_zero]); obtain ⟨x0, x1, x2, x3, x4⟩ := CE.out W hSw; go_simp; first | done | with_reducible rfl)
            try simp only [Act.put, List.getElem_toArray, List.getElem_cons_succ, List.getElem_cons_zero, List.setIfInBounds_toArray, List.set_cons_zero, List.set_cons_succ]
            refine wpAnyH_take (i := 10) (v := ?va10) rfl (by kernel_rfl) (by kernel_rfl) (by kernel_rfl) (fun _ _ _ h => h) (Or.inl ⟨by rfl, ?ya10⟩) hH ?ra10
            case ya10 => (intro W hSw; (try dsimp only at hSw); (try simp only [List.getElem_toArray, List.getElem_cons_succ, List.getElem_cons_zero]); obtain ⟨x0, x1, x2, x3, x4⟩ := CE.out W hSw; go_simp; first | done | with_reducible rfl)
            try simp only [Act.put, List.getElem_toArray, List.getElem_cons_succ, List.getElem_cons_zero, List.setIfInBounds_toArray, List.set_cons_zero, List.set_cons_succ]
            refine wpAnyH_take (i := 11) (v := ?va11) rfl (by kernel_rfl) (by kernel_rfl) (by kernel_rfl) (fun _ _ _ h => h) (Or.inl ⟨by rfl, ?ya11⟩) hH ?ra11
            case ya11 => (intro W hSw; (try dsimp only at hSw); (try simp only [List.getElem_toArray, List.getElem_cons_succ, List.getElem_cons_zero]); obtain ⟨x0, x1, x2, x3, x4⟩ := CE.out W hSw; go_simp; first | done | with_reducible rfl)
            try simp only [Act.put, List.getElem_toArray, List.getElem_cons_succ, List.getElem_cons_zero, List.setIfInBounds_toArray, List.set_cons_zero, List.set_cons_succ]
            refine wpAnyH_take (i := 12) (v := ?va12) rfl (by kernel_rfl) (by kernel_rfl) (by kernel_rfl) (fun _ _ _ h => h) (Or.inl ⟨by rfl, ?ya12⟩) hH ?ra12
            case ya12 => (intro W hSw; (try dsimp only at hSw); (try simp only [List.getElem_toArray, List.getElem_cons_succ, List.getElem_cons_zero]); obtain ⟨x0, x1, x2, x3, x4⟩ := CE.out W hSw; go_simp; first | done | with_reducible rfl)
            try simp only [Act.put, List.getElem_toArray, List.getElem_cons_succ, List.getElem_cons_zero, List.setIfInBounds_toArray, List.set_cons_zero, List.set_cons_succ]
            refine wpAnyH_take (i := 13) (v := ?va13) rfl (by kernel_rfl) (by kernel_rfl) (by kernel_rfl) (fun _ _ _ h => h) (Or.inl ⟨by rfl, ?ya13⟩) hH ?ra13
            case ya13 => (intro W hSw; (try dsimp only at hSw); (try simp only [List.getElem_toArray, List.getElem_cons_succ, List.getElem_cons_zero]); obtain ⟨x0, x1, x2, x3, x4⟩ := CE.out W hSw; go_simp; first | done | with_reducible rfl)
            try simp only [Act.put, List.getElem_toArray, List.getElem_cons_succ, List.getElem_cons_zero, List.setIfInBounds_toArray, List.set_cons_zero, List.set_cons_succ]
            refine wpAnyH_take (i := 14) (v := ?va14) rfl (by kernel_rfl) (by kernel_rfl) (by kernel_rfl) (fun _ _ _ h => h) (Or.inl ⟨by rfl, ?ya14⟩) hH ?ra14
            case ya14 => (intro W hSw; (try dsimp only at hSw); (try simp only [List.getElem_toArray, List.getElem_cons_succ, List.getElem_cons_zero]); obtain ⟨x0, x1, x2, x3, x4⟩ := CE.out W hSw; go_simp; first | done | with_reducible rfl)
            try simp only [Act.put, List.getElem_toArray, List.getElem_cons_succ, List.getElem_cons_zero, List.setIfInBounds_toArray, List.set_cons_zero, List.set_cons_succ]
            refine wpAnyH_take (i := 15) (v := ?va15) rfl (by kernel_rfl) (by kernel_rfl) (by kernel_rfl) (fun _ _ _ h => h) (Or.inl ⟨by rfl, ?ya15⟩) hH ?ra15
            case ya15 => (intro W hSw; (try dsimp only at hSw); (try simp only [List.getElem_toArray, List.getElem_cons_succ, List.getElem_cons_zero]); obtain ⟨x0, x1, x2, x3, x4⟩ := CE.out W hSw; go_simp; first | done | with_reducible rfl)
            try simp only [Act.put, List.getElem_toArray, List.getElem_cons_succ, List.getElem_cons_zero, List.setIfInBounds_toArray, List.set_cons_zero, List.set_cons_succ]
            refine wpAnyH_take (i := 16) (v := ?va16) rfl (by kernel_rfl) (by kernel_rfl) (by kernel_rfl) (fun _ _ _ h => h) (Or.inl ⟨by rfl, ?ya16⟩) hH ?ra16
            case ya16 => (intro W hSw; (try dsimp only at hSw); (try simp only [List.getElem_toArray, List.getElem_cons_succ, List.getElem_cons_zero]); obtain ⟨x0, x1, x2, x3, x4⟩ := CE.out W hSw; go_simp; first | done | with_reducible rfl)
            try simp only [Act.put, List.getElem_toArray, List.getElem_cons_succ, List.getElem_cons_zero, List.setIfInBounds_toArray, List.set_cons_zero, List.set_cons_succ]
            refine wpAnyH_ready (rs := [17]) (by kernel_rfl) (by simp) ?_
            refine AllReadyH.cons rfl (fun K hK => ?_) AllReadyH.nil
            simp only [List.getElem_toArray, List.getElem_cons_succ, List.getElem_cons_zero]
            go_simp
            refine hK.out _ _ (HBI0.out.drew.alloc HBI0.out.size (.cells (bareA x).cells.toArray 34)) (fun hH2 => ?_)
            clear hK hH2
            refine wpAnyH_ready (rs := [18]) (by kernel_rfl) (by simp) ?_
            refine AllReadyH.cons rfl (fun K hK => ?_) AllReadyH.nil
            refine step_append_wide (by rfl) (.tmp 59) (.tmp 76) 22 (by rfl) w1.heap.size 34 i0 (.agg #[.int .i64 0, .bool false, .int .i64 0, .int .i64 0, .slice none 0 0]) 5 56 Try.underlying22 hi hz0 hz1 hz2 rfl (by omega) _ m ((bares X (k + 1)).flatMap PAt.cells) (by rfl) (own_below HN1.out ((Below.refl wr.heap.size wr).drew.alloc (Nat.le_refl _) (.cells (bareA x).cells.toArray 34))) (some ⟨wr.heap.size, 0, none⟩) 1 1 (bareA x).cells (by rfl) (Reads.new_at wr.drew (bareA x).cells _ _ _ rfl) rfl (pat_one (bareA x)) (by unfold maxLen; omega) (by omega) (by have := HBI0.out.size; simp; omega) ?_
            intro A3 c3 w3 n3 g3 t3
            have HB3 := hide ((HBI0.out.drew.alloc HBI0.out.size (.cells (bareA x).cells.toArray 34)).grown g3 (by have := HBI0.out.size; simp; omega) (fun g hg => (HN1.out.lt g hg).1))
            have HN3 := hide n3
            have HK3 := hide ((own_below HK1.out ((Below.refl wr.heap.size wr).drew.alloc (Nat.le_refl _) (.cells (bareA x).cells.toArray 34))).kept g3 (apart_own HAP.out))
            have HAP3 := hide (apart_next (h := HAP.out) (fun g hg => Nat.ne_of_lt (by have := (HK1.out.lt g hg).2; simp; omega)) t3)
            clear n3 g3 t3
            refine hK.out _ _ HB3.out (fun hH2 => ?_)
            clear hK hH2
            try simp only [Act.put, List.getElem_toArray, List.getElem_cons_succ, List.getElem_cons_zero, List.setIfInBounds_toArray, List.set_cons_zero, List.set_cons_succ]
            refine wpAnyH_take (i := 19) (v := ?va19) rfl (by kernel_rfl) (by kernel_rfl) (by kernel_rfl) (fun _ _ _ h => h) (Or.inl ⟨by rfl, ?ya19⟩) HB3.out ?ra19
            case ya19 => (intro W hSw; (try dsimp only at hSw); (try simp only [List.getElem_toArray, List.getElem_cons_succ, List.getElem_cons_zero]); go_simp; first | done | with_reducible rfl)
            try simp only [Act.put, List.getElem_toArray, List.getElem_cons_succ, List.getElem_cons_zero, List.setIfInBounds_toArray, List.set_cons_zero, List.set_cons_succ]
            refine wpAnyH_done (by kernel_rfl) ?_ _
            obtain ⟨d0, d1, d2, d3, d4⟩ := CE.out w3 HB3.out
            have HS3 := hide HB3.out.size
            go_wp2_with (at_builtin; apply halted)
            refine unhalt (wpList_append_wide rfl (.tmp 78) (.tmp 83) 22 rfl w1.heap.size 34 i0 (.agg #[.int .i64 0, .bool false, .int .i64 0, .int .i64 0, .slice none 0 0]) 5 56 Try.underlying22 hi hz0 hz1 hz2 rfl (by omega) _ m ((backs X (k + 1)).flatMap PAt.cells) rfl (own_below HK3.out ((Below.refl _ _).alloc (Nat.le_refl _) _)) (some ⟨w3.heap.size, 0, none⟩) 1 1 x.cells rfl (Reads.new_at w3 x.cells _ _ _ rfl) rfl (pat_one x) (by unfold maxLen; omega) (by omega) (by have := HS3.out; simp; omega) ?_)
            intro C5 c5 w5 n5 g5 t5
            have HB5 := hide ((HB3.out.alloc HB3.out.size (.cells x.cells.toArray 34)).grown g5 (by have := HS3.out; simp; omega) (fun g hg => (HK3.out.lt g hg).1))
            have HK5 := hide n5
            have HN5 := hide ((own_below HN3.out ((Below.refl w3.heap.size w3).alloc (Nat.le_refl _) (.cells x.cells.toArray 34))).kept g5 (apart_own (fun g hg hh => HAP3.out g hh hg)))
            have HAP5 := hide (apart_next (h := fun g hg hh => HAP3.out g hh hg) (fun g hg => Nat.ne_of_lt (by have := (HN3.out.lt g hg).2; simp; omega)) t5)
            clear n5 g5 t5 d0 d1 d2 d3 d4
            go_wp2
            go_roundw
            case rel => exact ⟨k, A3, C5, c3, c5, m + 1, by omega, by go_num, by have := HMM.out; omega, rfl, rfl, by rw [bares_next (by omega), ← HXI.out, List.flatMap_append]; simpa using HN5.out, by rw [backs_next (by omega), ← HXI.out, List.flatMap_append]; simpa using HK5.out, fun g hg hh => HAP5.out g hh hg, fun i k' h1 h2 h3 => by
              by_cases hik : i = k
              · subst hik; exact HTK.out k' h3
              · exact HTW.out i k' (by omega) h2 h3, HB5.out⟩
            case measure => simp [intOf]


set_option maxRecDepth 100000 in
theorem proposerFree_lifted (os : Os) (started : os.Started) (H : Type) (enc : TypeId × Value → H) :
    ReturnsInHanded {} Try.checked os 4 .any (Rows.proposerFreeSpec.pre6 enc Try.prog Try.f4 Rows.proposerFreeRow.domain false) (Rows.proposerFreeSpec.post enc Try.prog Try.f4 false true false false) := by
  refine returnsInHanded_of_change_sized (C := Try.checked) (by kernel_rfl) started (by kernel_rfl) Try.func4
    (ChangeSpec.witness6 (enc := enc) (C := Try.checked) false ⟨#[], #[.slice none 0 0, .int .i64 0], []⟩ 8 (by kernel_rfl) (by kernel_rfl) (by kernel_rfl) (by kernel_rfl)) ?_
  intro W base args ds gs before hval0 hW _ hsz0 _
  have hval : ∀ (j : Nat) t v, Try.f4.params[j]? = some t → args[j]? = some v → Value.okWide Try.prog W .any base t v := hval0
  have hW' := hW
  obtain ⟨p, q, hA0, hV, rfl, _, _⟩ := hW
  have hA : DataW.TrodAll enc Try.prog W 0 (fun _ => true) true Try.f4.params.toList args.toList ds p := hA0
  have hsz : (DataW.weightsEach Try.prog (Try.f4.params.toList ++ Rows.proposerFreeSpec.plain.varTypes Try.prog) (ds ++ gs)).all (· ≤ reachBytes) = true := hsz0
  rw [Try.params4] at hA hval hsz
  obtain ⟨v0, v1, d0, d1, p0, p1, rfl, rfl, rfl, h0, h1⟩ := trodAll_two hA
  obtain ⟨x1, rfl, rfl, rfl, wf1⟩ := open_int Try.underlying3 (hval 1 3 v1 rfl rfl) h1
  have bd1 := bounds_i64 wf1
  obtain ⟨A0, cap0, n0, V, fuel, D, rfl, _, _, hR0, hel, hn0⟩ := open_rows Try.underlying22 (C := 5) (by kernel_rfl) (by omega) (hval 0 22 v0 rfl rfl) h0
  have hS0 : Sized Try.prog 22 d0 := sized_arg hsz (j := 0) rfl rfl
  have hSE : ∀ i, i < n0 → Sized Try.prog 34 (D i) := fun i hi => by rcases hn0 with h | ⟨el, sp, h1, _, h3⟩; omega; rw [h1] at hS0; exact hS0.elem Try.underlying22 (h3 i hi)
  obtain ⟨X, rfl, hX1, hX2⟩ := rows_promises hR0 (fun i hi => promise_cells (hel i hi).1 (hel i hi).2.choose_spec (hSE i hi))
  refine (proposerFree_walk A0 cap0 X x1 W hX1 (fineP_of hX2) bd1.2).mono fun e W' ⟨he, hb⟩ => ?_
  subst he
  exact ⟨_, rfl, post_law (by kernel_rfl) (by kernel_rfl) rfl hW' (by rintro _ rfl; rfl) rfl Try.underlying4 hb⟩

theorem proposerFree_holds : Rows.ProposerFreeSaid :=
  OpenClaim.holds_of_wide 4 Try.f4 rfl rfl rfl rfl rfl rfl rfl ⟨rfl, rfl, rfl, rfl, rfl⟩ rfl rfl rfl rfl rfl (by kernel_rfl) Try.func4 (by kernel_rfl)
    (of_decide_eq_true (by kernel_rfl)) (by unfold Func.isWrapper; first | (rw [if_pos (by decide +kernel)]; kernel_rfl) | (rw [if_neg (by decide +kernel)]; exact ⟨rfl, rfl⟩))
    (fun os started H enc _ => proposerFree_lifted os started H enc)

end Go.Proofs.Ytodlabpgjgbbpah
