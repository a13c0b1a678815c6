/-
  ProposerCounts: whether any votes are most of any number of sites at any ballot, and their greatest ballot. No conditions.
-/
import Derived.Test.YtodlabpgjgbbpahPropArgs
import Derived.Test.YtodlabpgjgbbpahRows
namespace Go.Proofs.Ytodlabpgjgbbpah
open Go.RowKit Go.Agio Go.Prp Go.ChangeShapes Go.WideShapes Go.ChangeAt

theorem two_hold {w : World} {b : Nat} {v0 v1 : Value} {t : TypeId} {fr : Nat × Nat} (h : w.heap[b]? = some (.cells #[v0, v1] t fr)) : ∀ W, Below w.heap.size w W → W.cell? ⟨b, 0, none⟩ = some v0 ∧ W.cell? ⟨b, 1, none⟩ = some v1 :=
  fun _ hb => two_at ((hb.block _ (blk_lt h)).trans h)

set_option maxRecDepth 100000 in
set_option maxHeartbeats 4000000 in
theorem proposerCounts_walk (A : Option Addr) (c : Nat) (X : List Vt) (r t n : Int) (w : World) (hR : VsRd w A X) (hX : fineV X) (hn : n ≤ 9223372036854775807) :
    Calls Try.prog 5 #[.slice A X.length c, .agg #[.int .i64 r, .int .i64 t], .int .i64 n] w fun e w' => e = .returned (.bool true) ∧ Below w.heap.size w w' := by
  have HR := hide hR; have HX := hide hX
  clear hR hX
  go_enter Try.func5, Try.ntmps5
  go_wp2_with fail
  have hN := one_new w (.cells #[.int .i64 r, .int .i64 t] 32)
  generalize w.alloc (.cells #[.int .i64 r, .int .i64 t] 32) = W0 at *
  obtain ⟨K0, hs0, hb0⟩ := hN
  refine (awake_any W0).mono ?_
  rintro e w1 ⟨rfl, hb1⟩
  have K1 := hide ((hb1.block _ (blk_lt K0)).trans K0)
  have HB1 := hide (below_next hb0 hb1)
  clear hb0 hb1 K0 hs0
  by_cases hlen : 200 < X.length
  · have h1 : (200 : Int) < (X.length : Int) := by omega
    go_wp2
    go_ret
    exact ⟨rfl, HB1.out⟩
  · have h1 : ¬ (200 : Int) < (X.length : Int) := by omega
    have h2 : (X.length : Int) ≤ 200 := by omega
    obtain ⟨g1, hg1⟩ : ∃ g, g = (great X).1 := ⟨_, rfl⟩
    obtain ⟨g2, hg2⟩ : ∃ g, g = (great X).2 := ⟨_, rfl⟩
    obtain ⟨a, ha⟩ : ∃ a, a = anyV X := ⟨_, rfl⟩
    obtain ⟨d, hd⟩ : ∃ d, d = decided r t n X := ⟨_, rfl⟩
    have HG1 := hide hg1; have HG2 := hide hg2; have HA := hide ha; have HD := hide hd
    clear hg1 hg2 ha hd
    go_wp2_with fail
    refine (great_any A c X w1 (HR.out.below HB1.out) (by omega)).mono ?_
    rintro e w2 ⟨rfl, hb2⟩
    rw [← HG1.out, ← HG2.out, ← HA.out]
    have K2 := hide ((hb2.block _ (blk_lt K1.out)).trans K1.out)
    have HB2 := hide (below_next HB1.out hb2)
    clear hb2
    go_upto_region 5 with fail
    have hN := one_new w2 (.cells #[.int .i64 g1, .int .i64 g2] 32)
    generalize w2.alloc (.cells #[.int .i64 g1, .int .i64 g2] 32) = W2 at *
    obtain ⟨KX, hs2, hbx⟩ := hN
    have K3 := hide ((hbx.block _ (blk_lt K2.out)).trans K2.out)
    have HB3 := hide (below_next HB2.out hbx)
    have KX := hide KX
    clear hbx hs2
    go_wp2_with fail
    refine (votes_any A c X W2 (HR.out.below HB3.out) (by omega)).mono ?_
    rintro e w3 ⟨B, q, rfl, hV, hb3⟩
    go_wp2_with fail
    refine (rgreat_any B q X w3 hV (by omega)).mono ?_
    rintro e w5 ⟨rfl, hb5⟩
    rw [← HG1.out, ← HG2.out, ← HA.out]
    have hb35 := below_next hb3 hb5
    have K4 := hide ((hb35.block _ (blk_lt K3.out)).trans K3.out)
    have KX4 := hide ((hb35.block _ (blk_lt KX.out)).trans KX.out)
    have HB4 := hide (below_next HB3.out hb35)
    clear hb3 hb5 hb35 hV
    go_upto_region 6 with fail
    have hN := one_new w5 (.cells #[.int .i64 g1, .int .i64 g2] 32)
    generalize w5.alloc (.cells #[.int .i64 g1, .int .i64 g2] 32) = w4 at *
    obtain ⟨KY, hs4, hby⟩ := hN
    have CB := hide (two_hold ((hby.block _ (blk_lt K4.out)).trans K4.out))
    have CX := hide (two_hold ((hby.block _ (blk_lt KX4.out)).trans KX4.out))
    have CY := hide (two_hold KY)
    have HB5 := hide (below_next HB4.out hby)
    clear hby hs4 KY
    have HR5 := hide (HR.out.below HB5.out)
    have C1 := hide (fun (W : World) (hW : Below w4.heap.size w4 W) => (decided_any A c X r t n W (HR5.out.below hW) HX.out (by omega) hn).mono (fun e w' h => (show e = .returned (.bool d) ∧ Below w4.heap.size w4 w' from ⟨by rw [h.1, HD.out], below_next hW h.2⟩)))
    have C2 := hide (fun (W : World) (hW : Below w4.heap.size w4 W) => (votes_any A c X W (HR5.out.below hW) (by omega)).mono (fun (e : Ending) w' h => (show ∃ B q, e = Ending.returned (.slice B X.length q) ∧ VsRd w' B X ∧ Below w4.heap.size w4 w' from by obtain ⟨B, q, h1, h2, h3⟩ := h; exact ⟨B, q, h1, h2, below_next hW h3⟩)))
    have C3 := hide (fun (B : Option Addr) (q : Nat) (W : World) (hW : Below w4.heap.size w4 W) (hV : VsRd W B X) => (rdecided_any B q X r t n W hV (by omega) hn).mono (fun e w' h => (show e = .returned (.bool d) ∧ Below w4.heap.size w4 w' from ⟨by rw [h.1, HD.out], below_next hW h.2⟩)))
    have hd0 := (Below.refl w4.heap.size w4).drew
    refine wp_region_held_drew (S := fun W => Below w4.heap.size w4 W) (by kernel_rfl) hd0 (fun hH => ?_)
    refine wpAnyH_take (i := 0) (v := .bool true) rfl (by kernel_rfl) (by kernel_rfl) (by kernel_rfl) (fun _ _ _ h => h) (Or.inl ⟨by rfl, ?ya0⟩) hH ?ra0
    case ya0 => (intro W hSw; (try dsimp only at hSw); (try simp only [List.getElem_toArray, List.getElem_cons_zero]); go_simp; first | done | with_reducible rfl)
    try simp only [Act.put, List.getElem_toArray, List.getElem_cons_zero, List.setIfInBounds_toArray, List.set_cons_zero, List.set_cons_succ]
    refine wpAnyH_take (i := 1) (v := .bool true) rfl (by kernel_rfl) (by kernel_rfl) (by kernel_rfl) (fun _ _ _ h => h) (Or.inl ⟨by rfl, ?ya1⟩) hH ?ra1
    case ya1 => (intro W hSw; (try dsimp only at hSw); (try simp only [List.getElem_toArray, List.getElem_cons_succ, List.getElem_cons_zero]); go_simp; first | done | with_reducible rfl)
    try simp only [Act.put, List.getElem_toArray, List.getElem_cons_succ, List.getElem_cons_zero, List.setIfInBounds_toArray, List.set_cons_zero, List.set_cons_succ]
    refine wpAnyH_take (i := 2) (v := ?va2) rfl (by kernel_rfl) (by kernel_rfl) (by kernel_rfl) (fun _ _ _ h => h) (Or.inl ⟨by rfl, ?ya2⟩) hH ?ra2
    case ya2 => (intro W hSw; (try dsimp only at hSw); (try simp only [List.getElem_toArray, List.getElem_cons_succ, List.getElem_cons_zero]); go_simp; first | done | with_reducible rfl)
    try simp only [Act.put, List.getElem_toArray, List.getElem_cons_succ, List.getElem_cons_zero, List.setIfInBounds_toArray, List.set_cons_zero, List.set_cons_succ]
    refine wpAnyH_take (i := 3) (v := ?va3) rfl (by kernel_rfl) (by kernel_rfl) (by kernel_rfl) (fun _ _ _ h => h) (Or.inl ⟨by rfl, ?ya3⟩) hH ?ra3
    case ya3 => (intro W hSw; (try dsimp only at hSw); (try simp only [List.getElem_toArray, List.getElem_cons_succ, List.getElem_cons_zero]); obtain ⟨y0, y1⟩ := CB.out W hSw; go_simp; first | done | with_reducible rfl)
    try simp only [Act.put, List.getElem_toArray, List.getElem_cons_succ, List.getElem_cons_zero, List.setIfInBounds_toArray, List.set_cons_zero, List.set_cons_succ]
    refine wpAnyH_take (i := 4) (v := ?va4) rfl (by kernel_rfl) (by kernel_rfl) (by kernel_rfl) (fun _ _ _ h => h) (Or.inl ⟨by rfl, ?ya4⟩) hH ?ra4
    case ya4 => (intro W hSw; (try dsimp only at hSw); (try simp only [List.getElem_toArray, List.getElem_cons_succ, List.getElem_cons_zero]); go_simp; first | done | with_reducible rfl)
    try simp only [Act.put, List.getElem_toArray, List.getElem_cons_succ, List.getElem_cons_zero, List.setIfInBounds_toArray, List.set_cons_zero, List.set_cons_succ]
    refine wpAnyH_take (i := 6) (v := ?va6) rfl (by kernel_rfl) (by kernel_rfl) (by kernel_rfl) (fun _ _ _ h => h) (Or.inl ⟨by rfl, ?ya6⟩) hH ?ra6
    case ya6 => (intro W hSw; (try dsimp only at hSw); (try simp only [List.getElem_toArray, List.getElem_cons_succ, List.getElem_cons_zero]); go_simp; first | done | with_reducible rfl)
    try simp only [Act.put, List.getElem_toArray, List.getElem_cons_succ, List.getElem_cons_zero, List.setIfInBounds_toArray, List.set_cons_zero, List.set_cons_succ]
    refine wpAnyH_take (i := 8) (v := ?va8) rfl (by kernel_rfl) (by kernel_rfl) (by kernel_rfl) (fun _ _ _ h => h) (Or.inl ⟨by rfl, ?ya8⟩) hH ?ra8
    case ya8 => (intro W hSw; (try dsimp only at hSw); (try simp only [List.getElem_toArray, List.getElem_cons_succ, List.getElem_cons_zero]); obtain ⟨y0, y1⟩ := CB.out W hSw; go_simp; first | done | with_reducible rfl)
    try simp only [Act.put, List.getElem_toArray, List.getElem_cons_succ, List.getElem_cons_zero, List.setIfInBounds_toArray, List.set_cons_zero, List.set_cons_succ]
    refine wpAnyH_take (i := 9) (v := ?va9) rfl (by kernel_rfl) (by kernel_rfl) (by kernel_rfl) (fun _ _ _ h => h) (Or.inl ⟨by rfl, ?ya9⟩) hH ?ra9
    case ya9 => (intro W hSw; (try dsimp only at hSw); (try simp only [List.getElem_toArray, List.getElem_cons_succ, List.getElem_cons_zero]); go_simp; first | done | with_reducible rfl)
    try simp only [Act.put, List.getElem_toArray, List.getElem_cons_succ, List.getElem_cons_zero, List.setIfInBounds_toArray, List.set_cons_zero, List.set_cons_succ]
    refine wpAnyH_ready (rs := [5]) (by kernel_rfl) (by simp) ?_
    refine AllReadyH.cons rfl (fun K hK => ?_) AllReadyH.nil
    simp only [List.getElem_toArray, List.getElem_cons_succ, List.getElem_cons_zero]
    go_simp
    refine (C1.out _ hd0).mono ?_
    rintro e w5 ⟨rfl, hb5⟩
    refine hK.out _ _ hb5 (fun hH2 => ?_)
    clear hK hH2
    refine wpAnyH_ready (rs := [7]) (by kernel_rfl) (by simp) ?_
    refine AllReadyH.cons rfl (fun K hK => ?_) AllReadyH.nil
    simp only [List.getElem_toArray, List.getElem_cons_succ, List.getElem_cons_zero]
    go_simp
    refine (C2.out _ hb5).mono ?_
    rintro e w6 ⟨B, q, rfl, hV, hb6⟩
    refine hK.out _ _ hb6 (fun hH2 => ?_)
    clear hK hH2
    refine wpAnyH_ready (rs := [10]) (by kernel_rfl) (by simp) ?_
    refine AllReadyH.cons rfl (fun K hK => ?_) AllReadyH.nil
    simp only [List.getElem_toArray, List.getElem_cons_succ, List.getElem_cons_zero]
    go_simp
    refine (C3.out B q _ hb6 hV).mono ?_
    rintro e w7 ⟨rfl, hb7⟩
    refine hK.out _ _ hb7 (fun hH2 => ?_)
    clear hK hH2
    refine wpAnyH_take (i := 11) (v := .bool true) rfl (by kernel_rfl) (by kernel_rfl) (by kernel_rfl) (fun _ _ _ h => h) (Or.inl ⟨by rfl, ?ya11⟩) hb7 ?ra11
    case ya11 => (intro W hSw; (try dsimp only at hSw); (try simp only [List.getElem_toArray, List.getElem_cons_succ, List.getElem_cons_zero]); go_simp; first | done | with_reducible rfl)
    try simp only [Act.put, List.getElem_toArray, List.getElem_cons_succ, List.getElem_cons_zero, List.setIfInBounds_toArray, List.set_cons_zero, List.set_cons_succ]
    refine wpAnyH_take (i := 12) (v := .bool true) rfl (by kernel_rfl) (by kernel_rfl) (by kernel_rfl) (fun _ _ _ h => h) (Or.inl ⟨by rfl, ?ya12⟩) hb7 ?ra12
    case ya12 => (intro W hSw; (try dsimp only at hSw); (try simp only [List.getElem_toArray, List.getElem_cons_succ, List.getElem_cons_zero]); go_simp; first | done | with_reducible rfl)
    try simp only [Act.put, List.getElem_toArray, List.getElem_cons_succ, List.getElem_cons_zero, List.setIfInBounds_toArray, List.set_cons_zero, List.set_cons_succ]
    refine wpAnyH_take (i := 13) (v := .bool true) rfl (by kernel_rfl) (by kernel_rfl) (by kernel_rfl) (fun _ _ _ h => h) (Or.inl ⟨by rfl, ?ya13⟩) hb7 ?ra13
    case ya13 => (intro W hSw; (try dsimp only at hSw); (try simp only [List.getElem_toArray, List.getElem_cons_succ, List.getElem_cons_zero]); go_simp; first | done | with_reducible rfl)
    try simp only [Act.put, List.getElem_toArray, List.getElem_cons_succ, List.getElem_cons_zero, List.setIfInBounds_toArray, List.set_cons_zero, List.set_cons_succ]
    refine wpAnyH_take (i := 14) (v := ?va14) rfl (by kernel_rfl) (by kernel_rfl) (by kernel_rfl) (fun _ _ _ h => h) (Or.inl ⟨by rfl, ?ya14⟩) hb7 ?ra14
    case ya14 => (intro W hSw; (try dsimp only at hSw); (try simp only [List.getElem_toArray, List.getElem_cons_succ, List.getElem_cons_zero]); obtain ⟨y0, y1⟩ := CX.out W hSw; go_simp; first | done | with_reducible rfl)
    try simp only [Act.put, List.getElem_toArray, List.getElem_cons_succ, List.getElem_cons_zero, List.setIfInBounds_toArray, List.set_cons_zero, List.set_cons_succ]
    refine wpAnyH_take (i := 15) (v := ?va15) rfl (by kernel_rfl) (by kernel_rfl) (by kernel_rfl) (fun _ _ _ h => h) (Or.inl ⟨by rfl, ?ya15⟩) hb7 ?ra15
    case ya15 => (intro W hSw; (try dsimp only at hSw); (try simp only [List.getElem_toArray, List.getElem_cons_succ, List.getElem_cons_zero]); obtain ⟨y0, y1⟩ := CY.out W hSw; go_simp; first | done | with_reducible rfl)
    try simp only [Act.put, List.getElem_toArray, List.getElem_cons_succ, List.getElem_cons_zero, List.setIfInBounds_toArray, List.set_cons_zero, List.set_cons_succ]
    refine wpAnyH_take (i := 16) (v := .bool true) rfl (by kernel_rfl) (by kernel_rfl) (by kernel_rfl) (fun _ _ _ h => h) (Or.inl ⟨by rfl, ?ya16⟩) hb7 ?ra16
    case ya16 => (intro W hSw; (try dsimp only at hSw); (try simp only [List.getElem_toArray, List.getElem_cons_succ, List.getElem_cons_zero]); go_simp; first | done | with_reducible rfl)
    try simp only [Act.put, List.getElem_toArray, List.getElem_cons_succ, List.getElem_cons_zero, List.setIfInBounds_toArray, List.set_cons_zero, List.set_cons_succ]
    refine wpAnyH_take (i := 17) (v := .bool true) rfl (by kernel_rfl) (by kernel_rfl) (by kernel_rfl) (fun _ _ _ h => h) (Or.inl ⟨by rfl, ?ya17⟩) hb7 ?ra17
    case ya17 => (intro W hSw; (try dsimp only at hSw); (try simp only [List.getElem_toArray, List.getElem_cons_succ, List.getElem_cons_zero]); go_simp; first | done | with_reducible rfl)
    try simp only [Act.put, List.getElem_toArray, List.getElem_cons_succ, List.getElem_cons_zero, List.setIfInBounds_toArray, List.set_cons_zero, List.set_cons_succ]
    refine wpAnyH_take (i := 18) (v := .bool true) rfl (by kernel_rfl) (by kernel_rfl) (by kernel_rfl) (fun _ _ _ h => h) (Or.inl ⟨by rfl, ?ya18⟩) hb7 ?ra18
    case ya18 => (intro W hSw; (try dsimp only at hSw); (try simp only [List.getElem_toArray, List.getElem_cons_succ, List.getElem_cons_zero]); go_simp; first | done | with_reducible rfl)
    try simp only [Act.put, List.getElem_toArray, List.getElem_cons_succ, List.getElem_cons_zero, List.setIfInBounds_toArray, List.set_cons_zero, List.set_cons_succ]
    refine wpAnyH_take (i := 19) (v := ?va19) rfl (by kernel_rfl) (by kernel_rfl) (by kernel_rfl) (fun _ _ _ h => h) (Or.inl ⟨by rfl, ?ya19⟩) hb7 ?ra19
    case ya19 => (intro W hSw; (try dsimp only at hSw); (try simp only [List.getElem_toArray, List.getElem_cons_succ, List.getElem_cons_zero]); go_simp; first | done | with_reducible rfl)
    try simp only [Act.put, List.getElem_toArray, List.getElem_cons_succ, List.getElem_cons_zero, List.setIfInBounds_toArray, List.set_cons_zero, List.set_cons_succ]
    refine wpAnyH_take (i := 20) (v := ?va20) rfl (by kernel_rfl) (by kernel_rfl) (by kernel_rfl) (fun _ _ _ h => h) (Or.inl ⟨by rfl, ?ya20⟩) hb7 ?ra20
    case ya20 => (intro W hSw; (try dsimp only at hSw); (try simp only [List.getElem_toArray, List.getElem_cons_succ, List.getElem_cons_zero]); go_simp; first | done | with_reducible rfl)
    try simp only [Act.put, List.getElem_toArray, List.getElem_cons_succ, List.getElem_cons_zero, List.setIfInBounds_toArray, List.set_cons_zero, List.set_cons_succ]
    refine wpAnyH_take (i := 21) (v := .bool true) rfl (by kernel_rfl) (by kernel_rfl) (by kernel_rfl) (fun _ _ _ h => h) (Or.inl ⟨by rfl, ?ya21⟩) hb7 ?ra21
    case ya21 => (intro W hSw; (try dsimp only at hSw); (try simp only [List.getElem_toArray, List.getElem_cons_succ, List.getElem_cons_zero]); go_simp; first | done | with_reducible rfl)
    try simp only [Act.put, List.getElem_toArray, List.getElem_cons_succ, List.getElem_cons_zero, List.setIfInBounds_toArray, List.set_cons_zero, List.set_cons_succ]
    refine wpAnyH_take (i := 22) (v := .bool true) rfl (by kernel_rfl) (by kernel_rfl) (by kernel_rfl) (fun _ _ _ h => h) (Or.inl ⟨by rfl, ?ya22⟩) hb7 ?ra22
    case ya22 => (intro W hSw; (try dsimp only at hSw); (try simp only [List.getElem_toArray, List.getElem_cons_succ, List.getElem_cons_zero]); go_simp; first | done | with_reducible rfl)
    try simp only [Act.put, List.getElem_toArray, List.getElem_cons_succ, List.getElem_cons_zero, List.setIfInBounds_toArray, List.set_cons_zero, List.set_cons_succ]
    refine wpAnyH_take (i := 23) (v := ?va23) rfl (by kernel_rfl) (by kernel_rfl) (by kernel_rfl) (fun _ _ _ h => h) (Or.inl ⟨by rfl, ?ya23⟩) hb7 ?ra23
    case ya23 => (intro W hSw; (try dsimp only at hSw); (try simp only [List.getElem_toArray, List.getElem_cons_succ, List.getElem_cons_zero]); go_simp; first | done | with_reducible rfl)
    try simp only [Act.put, List.getElem_toArray, List.getElem_cons_succ, List.getElem_cons_zero, List.setIfInBounds_toArray, List.set_cons_zero, List.set_cons_succ]
    refine wpAnyH_done (by kernel_rfl) ?_ _
    have HB7 := hide (below_next HB5.out hb7)
    clear hb5 hb6 hb7 hd0 hV C1 C2 C3 CB CX CY
    go_wp2
    go_ret
    exact ⟨rfl, HB7.out⟩

set_option maxRecDepth 100000 in
theorem proposerCounts_lifted (os : Os) (started : os.Started) (H : Type) (enc : TypeId × Value → H) :
    ReturnsInHanded {} Try.checked os 5 .any (Rows.proposerCountsSpec.pre6 enc Try.prog Try.f5 Rows.proposerCountsRow.domain false) (Rows.proposerCountsSpec.post enc Try.prog Try.f5 false true false false) := by
  refine returnsInHanded_of_change_sized (C := Try.checked) (by kernel_rfl) started (by kernel_rfl) Try.func5
    (ChangeSpec.witness6 (enc := enc) (C := Try.checked) false ⟨#[], #[.slice none 0 0, .agg #[.int .i64 0, .int .i64 0], .int .i64 0], []⟩ 8 (by kernel_rfl) (by kernel_rfl) (by kernel_rfl) (by kernel_rfl)) ?_
  intro W base args ds gs before hval0 hW _ hsz0 _
  have hval : ∀ (j : Nat) t v, Try.f5.params[j]? = some t → args[j]? = some v → Value.okWide Try.prog W .any base t v := hval0
  have hW' := hW
  obtain ⟨p, q, hA0, hV, rfl, _, _⟩ := hW
  have hA : DataW.TrodAll enc Try.prog W 0 (fun _ => true) true Try.f5.params.toList args.toList ds p := hA0
  have _hsz : (DataW.weightsEach Try.prog (Try.f5.params.toList ++ Rows.proposerCountsSpec.plain.varTypes Try.prog) (ds ++ gs)).all (· ≤ reachBytes) = true := hsz0
  rw [Try.params5] at hA hval
  obtain ⟨v0, v1, v2, d0, d1, d2, p0, p1, p2, rfl, rfl, rfl, h0, h1, h2⟩ := trodAll_three hA
  obtain ⟨u1_0, u1_1, y1_0, y1_1, n1, rfl, rfl, rfl, hy1_0, hy1_1⟩ := Joins.open_agg2 Try.underlying32 (by kernel_rfl) (by kernel_rfl) (hval 1 32 v1 rfl rfl) h1
  obtain ⟨x1_0, e1_0, rfl, wf1_0⟩ := DataW.trod_int Try.underlying3 hy1_0
  have bd1_0 := bounds_i64 wf1_0
  simp only [List.cons.injEq, and_true] at e1_0
  subst e1_0
  obtain ⟨x1_1, e1_1, rfl, wf1_1⟩ := DataW.trod_int Try.underlying3 hy1_1
  have bd1_1 := bounds_i64 wf1_1
  simp only [List.cons.injEq, and_true] at e1_1
  subst e1_1
  obtain ⟨x2, rfl, rfl, rfl, wf2⟩ := open_int Try.underlying3 (hval 2 3 v2 rfl rfl) h2
  have bd2 := bounds_i64 wf2
  obtain ⟨A0, cap0, n0, V, fuel, D, rfl, _, _, hR0, hel, hn0⟩ := open_rows Try.underlying35 (C := 3) (by kernel_rfl) (by omega) (hval 0 35 v0 rfl rfl) h0
  obtain ⟨X, rfl, hX1, hX2⟩ := rows_votes hR0 (fun i hi => vote_cells (hel i hi).1 (hel i hi).2.choose_spec)
  refine (proposerCounts_walk A0 cap0 X x1_0 x1_1 x2 W hX1 (fineV_of hX2) bd2.2).mono fun e W' ⟨he, hb⟩ => ?_
  subst he
  exact ⟨_, rfl, post_law (by kernel_rfl) (by kernel_rfl) rfl hW' (by rintro _ rfl; rfl) rfl Try.underlying4 hb⟩

theorem proposerCounts_holds : Rows.ProposerCountsSaid :=
  OpenClaim.holds_of_wide 5 Try.f5 rfl rfl rfl rfl rfl rfl rfl ⟨rfl, rfl, rfl, rfl, rfl⟩ rfl rfl rfl rfl rfl (by kernel_rfl) Try.func5 (by kernel_rfl)
    (of_decide_eq_true (by kernel_rfl)) (by unfold Func.isWrapper; first | (rw [if_pos (by decide +kernel)]; kernel_rfl) | (rw [if_neg (by decide +kernel)]; exact ⟨rfl, rfl⟩))
    (fun os started H enc _ => proposerCounts_lifted os started H enc)

end Go.Proofs.Ytodlabpgjgbbpah
