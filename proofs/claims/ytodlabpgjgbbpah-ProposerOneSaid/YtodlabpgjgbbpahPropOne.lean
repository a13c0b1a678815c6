/-
  ProposerOne: all ballots of a slot that are decided have one value: the owner's, or nothing. No conditions.
-/
import Derived.Test.YtodlabpgjgbbpahPaxGood
import Derived.Test.YtodlabpgjgbbpahRows
namespace Go.Proofs.Ytodlabpgjgbbpah
open Go.RowKit Go.Agio Go.Prp Go.Pax Go.ChangeShapes Go.WideShapes Go.ChangeAt

set_option maxRecDepth 100000 in
set_option maxHeartbeats 8000000 in
theorem proposerOne_walk (p q : Int) (A E : Option Addr) (c e : Nat) (v : List Int) (X : List Ev) (w : World) (hp : 0 ≤ p ∧ p ≤ 255) (hq : 0 ≤ q ∧ q ≤ 255) (hR : Reads w A (bys v)) (hv : v.length ≤ 140737488351232) (hE : Reads w E (X.flatMap Ev.cells)) (hX : ∀ x ∈ X, Ev.fine x) (hn : X.length ≤ maxLen) :
    Calls Try.prog 7 #[.agg #[.int .u8 p, .int .u8 q, .slice A v.length c, .slice E X.length e]] w fun e w' => e = .returned (.bool true) ∧ Below w.heap.size w w' := by
  have HR := hide hR; have HE := hide hE; have HX := hide hX; have HV := hide hv; have HNX := hide hn
  clear hR hE hX hv hn
  go_enter Try.func7, Try.ntmps7
  go_wp2_with fail
  have hN := one_new w (.cells #[.int .u8 p, .int .u8 q, .slice A v.length c, .slice E X.length e] 49)
  generalize w.alloc (.cells #[.int .u8 p, .int .u8 q, .slice A v.length c, .slice E X.length e] 49) = W0 at *
  obtain ⟨K0, hs0, hb0⟩ := hN
  refine (awake_any W0).mono ?_
  rintro e' W1 ⟨rfl, hb1⟩
  have KV1 := hide ((hb1.block _ (blk_lt K0)).trans K0)
  have HB1 := hide (below_next hb0 hb1)
  obtain ⟨s0, s1, s2, s3⟩ := four_at KV1.out
  clear hb0 hb1 K0 hs0
  obtain ⟨N, hN⟩ : ∃ N : Nat, 1 + p % 7 = (N : Int) := ⟨(1 + p % 7).toNat, by omega⟩
  have hN1 : 0 < N := by omega
  have hN7 : N ≤ 7 := by omega
  obtain ⟨hp0, hp1⟩ := hp
  obtain ⟨hq0, hq1⟩ := hq
  go_wp2_with fail
  have HN := hide hN
  obtain ⟨o, ho⟩ : ∃ o : Int, (IntKind.i64.wrap q).tmod (N : Int) = o := ⟨_, rfl⟩
  have ho0 : 0 ≤ o := by rw [← ho, IntWalk.i64_in q (by omega)]; exact Int.tmod_nonneg _ hq0
  have ni2 : ¬ N = 0 := by omega
  have HO := hide ho
  have NI := hide ni2
  clear hN ho ni2
  have CV := hide (fun (W : World) (hW : Below W1.heap.size W1 W) => four_at ((hW.block _ (blk_lt KV1.out)).trans KV1.out))
  have CB := hide (fun (W : World) (hW : Below W1.heap.size W1 W) => begun_any N o A c v W ((HR.out.below HB1.out).below hW) HV.out)
  go_cut [6] (fun u wx => ∃ B, u = .pointer (some ⟨B, 0, none⟩) ∧ Good wx W1.heap.size B N 0 (first o v) ∧ Below W1.heap.size W1 wx)
  case first =>
    have hd0 := (Below.refl W1.heap.size W1).drew
    refine wp_region_held_drew (S := fun W => Below W1.heap.size W1 W) (by kernel_rfl) hd0 (fun hH => ?_)
    refine wpAnyH_take (i := 0) (v := ?va0) rfl (by kernel_rfl) (by kernel_rfl) (by kernel_rfl) (fun _ _ _ h => h) (Or.inl ⟨by rfl, ?ya0⟩) hd0 ?ra0
    case ya0 => (intro W hSw; (try dsimp only at hSw); (try simp only [List.getElem_toArray, List.getElem_cons_zero]); obtain ⟨x0, x1, x2, x3⟩ := CV.out W hSw; go_simp; first | done | with_reducible rfl)
    try simp only [Act.put, List.getElem_toArray, List.getElem_cons_zero, List.setIfInBounds_toArray, List.set_cons_zero, List.set_cons_succ]
    refine wpAnyH_take (i := 1) (v := ?va1) rfl (by kernel_rfl) (by kernel_rfl) (by kernel_rfl) (fun _ _ _ h => h) (Or.inl ⟨by rfl, ?ya1⟩) hd0 ?ra1
    case ya1 => (intro W hSw; (try dsimp only at hSw); (try simp only [List.getElem_toArray, List.getElem_cons_succ, List.getElem_cons_zero]); obtain ⟨x0, x1, x2, x3⟩ := CV.out W hSw; go_simp; first | done | with_reducible rfl)
    try simp only [Act.put, List.getElem_toArray, List.getElem_cons_succ, List.getElem_cons_zero, List.setIfInBounds_toArray, List.set_cons_zero, List.set_cons_succ]
    refine wpAnyH_take (i := 2) (v := ?va2) rfl (by kernel_rfl) (by kernel_rfl) (by kernel_rfl) (fun _ _ _ h => h) (Or.inl ⟨by rfl, ?ya2⟩) hd0 ?ra2
    case ya2 => (intro W hSw; (try dsimp only at hSw); (try simp only [List.getElem_toArray, List.getElem_cons_succ, List.getElem_cons_zero]); obtain ⟨x0, x1, x2, x3⟩ := CV.out W hSw; go_simp; first | done | with_reducible rfl)
    try simp only [Act.put, List.getElem_toArray, List.getElem_cons_succ, List.getElem_cons_zero, List.setIfInBounds_toArray, List.set_cons_zero, List.set_cons_succ]
    refine wpAnyH_take (i := 3) (v := ?va3) rfl (by kernel_rfl) (by kernel_rfl) (by kernel_rfl) (fun _ _ _ h => h) (Or.inl ⟨by rfl, ?ya3⟩) hd0 ?ra3
    case ya3 => (intro W hSw; (try dsimp only at hSw); (try simp only [List.getElem_toArray, List.getElem_cons_succ, List.getElem_cons_zero]); obtain ⟨x0, x1, x2, x3⟩ := CV.out W hSw; go_simp; first | done | with_reducible rfl)
    try simp only [Act.put, List.getElem_toArray, List.getElem_cons_succ, List.getElem_cons_zero, List.setIfInBounds_toArray, List.set_cons_zero, List.set_cons_succ]
    refine wpAnyH_take (i := 4) (v := ?va4) rfl (by kernel_rfl) (by kernel_rfl) (by kernel_rfl) (fun _ _ _ h => h) (Or.inl ⟨by rfl, ?ya4⟩) hd0 ?ra4
    case ya4 => (intro W hSw; (try dsimp only at hSw); (try simp only [List.getElem_toArray, List.getElem_cons_succ, List.getElem_cons_zero]); obtain ⟨x0, x1, x2, x3⟩ := CV.out W hSw; go_simp; first | done | with_reducible rfl)
    try simp only [Act.put, List.getElem_toArray, List.getElem_cons_succ, List.getElem_cons_zero, List.setIfInBounds_toArray, List.set_cons_zero, List.set_cons_succ]
    refine wpAnyH_take (i := 5) (v := .int .i64 o) rfl (by kernel_rfl) (by kernel_rfl) (by kernel_rfl) (fun _ _ _ h => h) (Or.inl ⟨by rfl, ?ya5⟩) hd0 ?ra5
    case ya5 => (intro W hSw; (try dsimp only at hSw); (try simp only [List.getElem_toArray, List.getElem_cons_succ, List.getElem_cons_zero]); go_simp; rw [if_neg NI.out, HO.out]; first | done | with_reducible rfl)
    try simp only [Act.put, List.getElem_toArray, List.getElem_cons_succ, List.getElem_cons_zero, List.setIfInBounds_toArray, List.set_cons_zero, List.set_cons_succ]
    refine wpAnyH_take (i := 6) (v := ?va6) rfl (by kernel_rfl) (by kernel_rfl) (by kernel_rfl) (fun _ _ _ h => h) (Or.inl ⟨by rfl, ?ya6⟩) hd0 ?ra6
    case ya6 => (intro W hSw; (try dsimp only at hSw); (try simp only [List.getElem_toArray, List.getElem_cons_succ, List.getElem_cons_zero]); obtain ⟨x0, x1, x2, x3⟩ := CV.out W hSw; go_simp; first | done | with_reducible rfl)
    try simp only [Act.put, List.getElem_toArray, List.getElem_cons_succ, List.getElem_cons_zero, List.setIfInBounds_toArray, List.set_cons_zero, List.set_cons_succ]
    refine wpAnyH_take (i := 7) (v := ?va7) rfl (by kernel_rfl) (by kernel_rfl) (by kernel_rfl) (fun _ _ _ h => h) (Or.inl ⟨by rfl, ?ya7⟩) hd0 ?ra7
    case ya7 => (intro W hSw; (try dsimp only at hSw); (try simp only [List.getElem_toArray, List.getElem_cons_succ, List.getElem_cons_zero]); obtain ⟨x0, x1, x2, x3⟩ := CV.out W hSw; go_simp; first | done | with_reducible rfl)
    try simp only [Act.put, List.getElem_toArray, List.getElem_cons_succ, List.getElem_cons_zero, List.setIfInBounds_toArray, List.set_cons_zero, List.set_cons_succ]
    refine wpAnyH_ready (rs := [8, 9]) (by kernel_rfl) (by simp) ?_
    refine AllReadyH.cons rfl (fun K hK => ?_) (AllReadyH.cons rfl (fun K hK => ?_) AllReadyH.nil)
    · simp only [List.getElem_toArray, List.getElem_cons_succ, List.getElem_cons_zero]
      go_simp
      refine (CB.out _ hd0).mono ?_
      rintro e2 w2 ⟨V, vc, g, rfl, hg, hG, hRV, hVA, hb2'⟩
      have hb2 := below_next hd0 hb2'

      refine hK.out _ _ hb2 (fun hH2 => ?_)
      clear hK hH2
      refine wpAnyH_ready (rs := [9]) (by kernel_rfl) (by simp) ?_
      refine AllReadyH.cons rfl (fun K hK => ?_) AllReadyH.nil
      simp only [List.getElem_toArray, List.getElem_cons_succ, List.getElem_cons_zero]
      go_simp
      refine hK.out _ _ (hb2.alloc hb2.size (.cells #[.int .i64 0, .int .i64 0, .int .i64 0, .bool false, .int .i64 0, .int .i64 0, .slice none 0 0, .int .i64 0, .int .i64 0, .bool false, .int .i64 0, .int .i64 0, .slice none 0 0, .int .i64 0, .int .i64 0, .bool false, .int .i64 0, .int .i64 0, .slice none 0 0, .int .i64 0, .int .i64 0, .bool false, .int .i64 0, .int .i64 0, .slice none 0 0, .int .i64 0, .int .i64 0, .bool false, .int .i64 0, .int .i64 0, .slice none 0 0, .int .i64 0, .int .i64 0, .bool false, .int .i64 0, .int .i64 0, .slice none 0 0, .int .i64 0, .int .i64 0, .bool false, .int .i64 0, .int .i64 0, .slice none 0 0, .slice none 0 0] 55)) (fun hH2 => ?_)
      clear hK hH2
      have K9 : (w2.alloc (.cells #[.int .i64 0, .int .i64 0, .int .i64 0, .bool false, .int .i64 0, .int .i64 0, .slice none 0 0, .int .i64 0, .int .i64 0, .bool false, .int .i64 0, .int .i64 0, .slice none 0 0, .int .i64 0, .int .i64 0, .bool false, .int .i64 0, .int .i64 0, .slice none 0 0, .int .i64 0, .int .i64 0, .bool false, .int .i64 0, .int .i64 0, .slice none 0 0, .int .i64 0, .int .i64 0, .bool false, .int .i64 0, .int .i64 0, .slice none 0 0, .int .i64 0, .int .i64 0, .bool false, .int .i64 0, .int .i64 0, .slice none 0 0, .int .i64 0, .int .i64 0, .bool false, .int .i64 0, .int .i64 0, .slice none 0 0, .slice none 0 0] 55)).heap[w2.heap.size]? = some (.cells zero44.toArray 55) := heap_new w2 (.cells #[.int .i64 0, .int .i64 0, .int .i64 0, .bool false, .int .i64 0, .int .i64 0, .slice none 0 0, .int .i64 0, .int .i64 0, .bool false, .int .i64 0, .int .i64 0, .slice none 0 0, .int .i64 0, .int .i64 0, .bool false, .int .i64 0, .int .i64 0, .slice none 0 0, .int .i64 0, .int .i64 0, .bool false, .int .i64 0, .int .i64 0, .slice none 0 0, .int .i64 0, .int .i64 0, .bool false, .int .i64 0, .int .i64 0, .slice none 0 0, .int .i64 0, .int .i64 0, .bool false, .int .i64 0, .int .i64 0, .slice none 0 0, .int .i64 0, .int .i64 0, .bool false, .int .i64 0, .int .i64 0, .slice none 0 0, .slice none 0 0] 55)
      refine wpAnyH_ready (rs := [10]) (by kernel_rfl) (by simp) ?_
      refine AllReadyH.cons rfl (fun K hK => ?_) AllReadyH.nil
      refine step_store_mid (by rfl) 55 (.tmp 6) (.tmp 25) (by rfl) w2.heap.size 0 (slotC N (List.replicate 7 sa0) (.slice (some ⟨g, 0, none⟩) 1 1)).toArray (by rfl) (by rfl) (there44 K9) info55 (all_oneCell_toArray (slotC_one _ _ _ _ _)) ?_
      have hbF := below_setCells (b := w2.heap.size) (by first | exact hb2.size | exact Nat.le_refl _) (slotC N (List.replicate 7 sa0) (.slice (some ⟨g, 0, none⟩) 1 1)).toArray.toList 0 _ (hb2.alloc hb2.size (.cells #[.int .i64 0, .int .i64 0, .int .i64 0, .bool false, .int .i64 0, .int .i64 0, .slice none 0 0, .int .i64 0, .int .i64 0, .bool false, .int .i64 0, .int .i64 0, .slice none 0 0, .int .i64 0, .int .i64 0, .bool false, .int .i64 0, .int .i64 0, .slice none 0 0, .int .i64 0, .int .i64 0, .bool false, .int .i64 0, .int .i64 0, .slice none 0 0, .int .i64 0, .int .i64 0, .bool false, .int .i64 0, .int .i64 0, .slice none 0 0, .int .i64 0, .int .i64 0, .bool false, .int .i64 0, .int .i64 0, .slice none 0 0, .int .i64 0, .int .i64 0, .bool false, .int .i64 0, .int .i64 0, .slice none 0 0, .slice none 0 0] 55))
      refine hK.out _ _ hbF (fun hH2 => ?_)
      clear hK hH2
      refine wpAnyH_done (by kernel_rfl) ?_ _
      have HREL := hide (made (b0 := W1.heap.size) K9 hb2.size (Nat.le_trans hd0.size hg) ((Below.heap_alloc _ _ _ (blk_lt hG)).trans hG) (fun e => by have := blk_lt hG; omega) (hRV.alloc _) (fun hne a ha => ⟨fun e => by have := Reads.lt_some hRV ha hne; omega, (hVA a ha).2⟩) hN7 ho0 HV.out)
      go_wp2
      go_meet
      case rel => exact ⟨_, rfl, HREL.out, hbF⟩
    · have hbZ : Below W1.heap.size W1 (W1.drew.alloc (.cells #[.int .i64 0, .int .i64 0, .int .i64 0, .bool false, .int .i64 0, .int .i64 0, .slice none 0 0, .int .i64 0, .int .i64 0, .bool false, .int .i64 0, .int .i64 0, .slice none 0 0, .int .i64 0, .int .i64 0, .bool false, .int .i64 0, .int .i64 0, .slice none 0 0, .int .i64 0, .int .i64 0, .bool false, .int .i64 0, .int .i64 0, .slice none 0 0, .int .i64 0, .int .i64 0, .bool false, .int .i64 0, .int .i64 0, .slice none 0 0, .int .i64 0, .int .i64 0, .bool false, .int .i64 0, .int .i64 0, .slice none 0 0, .int .i64 0, .int .i64 0, .bool false, .int .i64 0, .int .i64 0, .slice none 0 0, .slice none 0 0] 55)) := hd0.alloc (Nat.le_refl _) _
      simp only [List.getElem_toArray, List.getElem_cons_succ, List.getElem_cons_zero]
      go_simp
      refine hK.out _ _ hbZ (fun hH2 => ?_)
      clear hK hH2
      refine wpAnyH_ready (rs := [8]) (by kernel_rfl) (by simp) ?_
      refine AllReadyH.cons rfl (fun K hK => ?_) AllReadyH.nil
      simp only [List.getElem_toArray, List.getElem_cons_succ, List.getElem_cons_zero]
      go_simp
      refine (CB.out _ hbZ).mono ?_
      rintro e2 w2 ⟨V, vc, g, rfl, hg, hG, hRV, hVA, hb2'⟩
      have hb2 := below_next hbZ hb2'
      have K9 : w2.heap[W1.heap.size]? = some (.cells zero44.toArray 55) := (hb2'.block W1.heap.size (by simp)).trans (heap_new W1.drew (.cells #[.int .i64 0, .int .i64 0, .int .i64 0, .bool false, .int .i64 0, .int .i64 0, .slice none 0 0, .int .i64 0, .int .i64 0, .bool false, .int .i64 0, .int .i64 0, .slice none 0 0, .int .i64 0, .int .i64 0, .bool false, .int .i64 0, .int .i64 0, .slice none 0 0, .int .i64 0, .int .i64 0, .bool false, .int .i64 0, .int .i64 0, .slice none 0 0, .int .i64 0, .int .i64 0, .bool false, .int .i64 0, .int .i64 0, .slice none 0 0, .int .i64 0, .int .i64 0, .bool false, .int .i64 0, .int .i64 0, .slice none 0 0, .int .i64 0, .int .i64 0, .bool false, .int .i64 0, .int .i64 0, .slice none 0 0, .slice none 0 0] 55))
      have hg' : W1.heap.size < g := Nat.lt_of_lt_of_le (by simp) hg
      refine hK.out _ _ hb2 (fun hH2 => ?_)
      clear hK hH2
      refine wpAnyH_ready (rs := [10]) (by kernel_rfl) (by simp) ?_
      refine AllReadyH.cons rfl (fun K hK => ?_) AllReadyH.nil
      refine step_store_mid (by rfl) 55 (.tmp 6) (.tmp 25) (by rfl) W1.heap.size 0 (slotC N (List.replicate 7 sa0) (.slice (some ⟨g, 0, none⟩) 1 1)).toArray (by rfl) (by rfl) (there44 K9) info55 (all_oneCell_toArray (slotC_one _ _ _ _ _)) ?_
      have hbF := below_setCells (b := W1.heap.size) (by first | exact hb2.size | exact Nat.le_refl _) (slotC N (List.replicate 7 sa0) (.slice (some ⟨g, 0, none⟩) 1 1)).toArray.toList 0 _ hb2
      refine hK.out _ _ hbF (fun hH2 => ?_)
      clear hK hH2
      refine wpAnyH_done (by kernel_rfl) ?_ _
      have HREL := hide (made (b0 := W1.heap.size) K9 (Nat.le_refl _) (by omega) hG (by omega) hRV (fun _ a ha => ⟨fun e => by have := (hVA a ha).1; simp at this; omega, (hVA a ha).2⟩) hN7 ho0 HV.out)
      go_wp2
      go_meet
      case rel => exact ⟨_, rfl, HREL.out, hbF⟩
  obtain ⟨B, rfl, hG0, hb0⟩ := hcut
  obtain ⟨b0, hb0'⟩ : ∃ b0, b0 = W1.heap.size := ⟨_, rfl⟩
  rw [← hb0'] at hG0 hb0
  have HB0' := hide hb0'
  clear hb0' CV CB s0 s1 s2 s3 HN HO
  go_wp2_with fail
  go_loopw [7] (fun i wr => ∃ (j : Nat) (s : Sl), j ≤ X.length ∧ j ≤ 200 ∧ i = .int .i64 j ∧ Good wr b0 B N j s ∧ Below b0 W1 wr) (fun i _ => X.length - (intOf i).toNat)
  case atStart => exact ⟨0, _, Nat.zero_le _, by omega, rfl, hG0, hb0⟩
  case round =>
    obtain ⟨j, s, hjn, hj2, rfl, hG, hbr⟩ := hrel
    have HG := hide hG; have HBR := hide hbr
    have HFIN := hide (below_next HB1.out (by rw [← HB0'.out]; exact hbr))
    clear hG hbr hG0 hb0
    by_cases hlt : j < X.length ∧ j < 200
    · obtain ⟨h1, h2⟩ := hlt
      obtain ⟨b, off, he, hb, hc⟩ := Reads.flat Ev.cells_length ev0 ((HE.out.below HB1.out).below (by rw [← HB0'.out]; exact HBR.out)) (by omega) h1
      have hxf := HX.out (X.getD j ev0) (getD_mem h1)
      have k0 := hc 0 (by omega); have k1 := hc 1 (by omega); have k2 := hc 2 (by omega); have k3 := hc 3 (by omega); have k4 := hc 4 (by omega)
      clear hc
      generalize X.getD j ev0 = x at *
      subst he
      obtain ⟨kd, ep, ek, ea, lost⟩ := x
      obtain ⟨f1, f2, f3⟩ := hxf
      have HF := hide (And.intro f1 (And.intro f2 f3))
      clear f1 f2 f3
      replace k0 : wr.cell? ⟨b, off + j * 5, none⟩ = some (.int .i64 kd) := k0
      replace k1 : wr.cell? ⟨b, off + j * 5 + 1, none⟩ = some (.int .i64 ep) := k1
      replace k2 : wr.cell? ⟨b, off + j * 5 + 2, none⟩ = some (.int .i64 ek) := k2
      replace k3 : wr.cell? ⟨b, off + j * 5 + 3, none⟩ = some (.int .i64 ea) := k3
      replace k4 : wr.cell? ⟨b, off + j * 5 + 4, none⟩ = some (.bool lost) := k4
      have i1 : (j : Int) < (X.length : Int) := by omega
      have i2 : (j : Int) < 200 := by omega
      have i0 : (0 : Int) ≤ (j : Int) := by omega
      go_wp2_with fail
      refine (play_all wr b0 B N j s kd ep ek ea lost HG.out ⟨hN1, hN7⟩ (by omega) HF.out.1 HF.out.2.1 HF.out.2.2).mono ?_
      rintro e2 w2 ⟨rfl, hG2, hb2⟩
      have HG2 := hide hG2
      have HB2 := hide (HBR.out.trans hb2)
      clear hG2 hb2 k0 k1 k2 k3 k4
      go_wp2_with fail
      refine (one_all w2 b0 B N (j + 1) _ HG2.out ⟨hN1, hN7⟩ (by omega)).mono ?_
      rintro e3 w3 ⟨rfl, hb3⟩
      have HB3 := hide (HB2.out.trans (hb3.mono (Nat.le_trans HG2.out.base.1 (Nat.le_of_lt HG2.out.base.2))))
      have HG3 := hide (HG2.out.below hb3)
      clear hb3
      go_wp2
      go_roundw
      case rel => exact ⟨j + 1, _, by omega, by omega, by go_num, HG3.out, HB3.out⟩
      case measure => simp [intOf]; omega
    · by_cases h1 : j < X.length
      · have i1 : (j : Int) < (X.length : Int) := by omega
        obtain rfl : j = 200 := by omega
        go_wp2
        go_ret
        exact ⟨rfl, HFIN.out⟩
      · obtain rfl : j = X.length := by omega
        go_wp2
        go_ret
        exact ⟨rfl, HFIN.out⟩

theorem agg_slot {cs : Array Value} {l : Array Value} (h : cs.toList = l.toList) : cs = l := by
  cases cs; cases l; simpa using h
set_option maxRecDepth 100000 in
theorem proposerOne_lifted (os : Os) (started : os.Started) (H : Type) (enc : TypeId × Value → H) :
    ReturnsInHanded {} Try.checked os 7 .any (Rows.proposerOneSpec.pre6 enc Try.prog Try.f7 Rows.proposerOneRow.domain false) (Rows.proposerOneSpec.post enc Try.prog Try.f7 false true false false) := by
  refine returnsInHanded_of_change_sized (C := Try.checked) (by kernel_rfl) started (by kernel_rfl) Try.func7
    (ChangeSpec.witness6 (enc := enc) (C := Try.checked) false ⟨#[], #[.agg #[.int .u8 0, .int .u8 0, .slice none 0 0, .slice none 0 0]], []⟩ 8 (by kernel_rfl) (by kernel_rfl) (by kernel_rfl) (by kernel_rfl)) ?_
  intro W base args ds gs before hval0 hW _ hsz0 _
  have hval : ∀ (j : Nat) t v, Try.f7.params[j]? = some t → args[j]? = some v → Value.okWide Try.prog W .any base t v := hval0
  have hW' := hW
  obtain ⟨p, q, hA0, hV, rfl, _, _⟩ := hW
  have hA : DataW.TrodAll enc Try.prog W 0 (fun _ => true) true Try.f7.params.toList args.toList ds p := hA0
  have hsz : (DataW.weightsEach Try.prog (Try.f7.params.toList ++ Rows.proposerOneSpec.plain.varTypes Try.prog) (ds ++ gs)).all (· ≤ reachBytes) = true := hsz0
  rw [Try.params7] at hA hval hsz
  obtain ⟨v0, d0, rfl, rfl, h0⟩ := trodAll_one hA
  obtain ⟨cs0, rfl, hz0⟩ := okWide_struct Try.underlying49 (hval 0 49 v0 rfl rfl)
  obtain ⟨fuel0, hf0⟩ := h0
  obtain ⟨p0, q0, A0, E0, c0, e0, y0, X0, hc0, hp0, hq0, hR0, hl0, hE0, hX0, hm0⟩ := slot_cells (by simpa [Value.cells] using hz0.trans (show Try.prog.cellsOf 49 = 4 by kernel_rfl)) hf0 (sized_arg hsz (j := 0) rfl rfl)
  obtain rfl := agg_slot hc0
  refine (proposerOne_walk p0 q0 A0 E0 c0 e0 y0 X0 W hp0 hq0 hR0 hl0 hE0 hX0 hm0).mono fun e W' ⟨he, hb⟩ => ?_
  subst he
  exact ⟨_, rfl, post_law (by kernel_rfl) (by kernel_rfl) rfl hW' (by rintro _ rfl; rfl) rfl Try.underlying4 hb⟩

theorem proposerOne_holds : Rows.ProposerOneSaid :=
  OpenClaim.holds_of_wide 7 Try.f7 rfl rfl rfl rfl rfl rfl rfl ⟨rfl, rfl, rfl, rfl, rfl⟩ rfl rfl rfl rfl rfl (by kernel_rfl) Try.func7 (by kernel_rfl)
    (of_decide_eq_true (by kernel_rfl)) (by unfold Func.isWrapper; first | (rw [if_pos (by decide +kernel)]; kernel_rfl) | (rw [if_neg (by decide +kernel)]; exact ⟨rfl, rfl⟩))
    (fun os started H enc _ => proposerOne_lifted os started H enc)

end Go.Proofs.Ytodlabpgjgbbpah
