/-
  ProposerKeeps: a value that was decided is what each ballot chooses behind it. No conditions.
-/
import Derived.Test.YtodlabpgjgbbpahPaxGood
import Derived.Test.YtodlabpgjgbbpahRows
namespace Go.Proofs.Ytodlabpgjgbbpah
open Go.RowKit Go.Agio Go.Prp Go.Pax Go.ChangeShapes Go.WideShapes Go.ChangeAt

theorem plc_small {n m : Int} (h0 : 0 ≤ n) (h1 : n < m) : plc n m = n := by
  unfold plc; rw [if_neg (by omega)]; exact Int.emod_eq_of_lt h0 h1
theorem play_new (N : Nat) (s : Sl) (lost : Bool) : opPlay N s 0 0 0 0 lost = opNew s 0 := by
  unfold opPlay; rw [if_pos rfl]
  congr 1
theorem play_ask {N L m : Nat} {s : Sl} (hm : m < N) (hs : s.rs.length = L + 1) : opPlay N s 1 0 L m false = opAsk s L m false := by
  unfold opPlay
  rw [if_neg (by decide), if_pos rfl, hs, plc_small (by omega) (by omega), plc_small (by omega) (by omega)]
  rfl
theorem Good.mono {w : World} {b0 B N m n : Nat} {s : Sl} (h : Good w b0 B N m s) (hmn : m ≤ n) : Good w b0 B N n s := by
  obtain ⟨g, all, rs, rc, hM, h1, h2, h3⟩ := h
  exact ⟨g, all, rs, rc, hM, h1, h2, h3.mono hmn⟩

set_option maxRecDepth 100000 in
set_option maxHeartbeats 8000000 in
theorem proposerKeeps_walk (p q : Int) (A E : Option Addr) (c e : Nat) (v : List Int) (X : List Ev) (w : World) (hp : 0 ≤ p ∧ p ≤ 255) (hq : 0 ≤ q ∧ q ≤ 255) (hR : Reads w A (bys v)) (hv : v.length ≤ 140737488351232) (hE : Reads w E (X.flatMap Ev.cells)) (hX : ∀ x ∈ X, Ev.fine x) (hn : X.length ≤ maxLen) :
    Calls Try.prog 8 #[.agg #[.int .u8 p, .int .u8 q, .slice A v.length c, .slice E X.length e]] w fun e w' => e = .returned (.bool true) ∧ Below w.heap.size w w' := by
  have HR := hide hR; have HE := hide hE; have HX := hide hX; have HV := hide hv; have HNX := hide hn
  clear hR hE hX hv hn
  go_enter Try.func8, Try.ntmps8
  go_wp2_with fail
  have hN := one_new w (.cells #[.int .u8 p, .int .u8 q, .slice A v.length c, .slice E X.length e] 49)
  generalize w.alloc (.cells #[.int .u8 p, .int .u8 q, .slice A v.length c, .slice E X.length e] 49) = W0 at *
  obtain ⟨K0, hs0, hb0⟩ := hN
  refine (awake_any W0).mono ?_
  rintro e' W1 ⟨rfl, hb1⟩
  have KV1 := hide ((hb1.block _ (blk_lt K0)).trans K0)
  have HB1 := hide (below_next hb0 hb1)
  obtain ⟨s0, s1, s2, s3⟩ := four_at KV1.out
  clear hb0 hb1 K0 hs0
  obtain ⟨N, hN⟩ : ∃ N : Nat, 1 + p % 7 = (N : Int) := ⟨(1 + p % 7).toNat, by omega⟩
  have hN1 : 0 < N := by omega
  have hN7 : N ≤ 7 := by omega
  obtain ⟨hp0, hp1⟩ := hp
  obtain ⟨hq0, hq1⟩ := hq
  go_wp2_with fail
  have HN := hide hN
  obtain ⟨o, ho⟩ : ∃ o : Int, (IntKind.i64.wrap q).tmod (N : Int) = o := ⟨_, rfl⟩
  have ho0 : 0 ≤ o := by rw [← ho, IntWalk.i64_in q (by omega)]; exact Int.tmod_nonneg _ hq0
  have ni2 : ¬ N = 0 := by omega
  have HO := hide ho
  have NI := hide ni2
  clear hN ho ni2
  have CV := hide (fun (W : World) (hW : Below W1.heap.size W1 W) => four_at ((hW.block _ (blk_lt KV1.out)).trans KV1.out))
  have CB := hide (fun (W : World) (hW : Below W1.heap.size W1 W) => begun_any N o A c v W ((HR.out.below HB1.out).below hW) HV.out)
  go_cut [6] (fun u wx => ∃ B, u = .pointer (some ⟨B, 0, none⟩) ∧ Good wx W1.heap.size B N 0 (first o v) ∧ Below W1.heap.size W1 wx)
  case first =>
    have hd0 := (Below.refl W1.heap.size W1).drew
    refine wp_region_held_drew (S := fun W => Below W1.heap.size W1 W) (by kernel_rfl) hd0 (fun hH => ?_)
    refine wpAnyH_take (i := 0) (v := ?va0) rfl (by kernel_rfl) (by kernel_rfl) (by kernel_rfl) (fun _ _ _ h => h) (Or.inl ⟨by rfl, ?ya0⟩) hd0 ?ra0
    case ya0 => (intro W hSw; (try dsimp only at hSw); (try simp only [List.getElem_toArray, List.getElem_cons_zero]); obtain ⟨x0, x1, x2, x3⟩ := CV.out W hSw; go_simp; first | done | with_reducible rfl)
    try simp only [Act.put, List.getElem_toArray, List.getElem_cons_zero, List.setIfInBounds_toArray, List.set_cons_zero, List.set_cons_succ]
    refine wpAnyH_take (i := 1) (v := ?va1) rfl (by kernel_rfl) (by kernel_rfl) (by kernel_rfl) (fun _ _ _ h => h) (Or.inl ⟨by rfl, ?ya1⟩) hd0 ?ra1
    case ya1 => (intro W hSw; (try dsimp only at hSw); (try simp only [List.getElem_toArray, List.getElem_cons_succ, List.getElem_cons_zero]); obtain ⟨x0, x1, x2, x3⟩ := CV.out W hSw; go_simp; first | done | with_reducible rfl)
    try simp only [Act.put, List.getElem_toArray, List.getElem_cons_succ, List.getElem_cons_zero, List.setIfInBounds_toArray, List.set_cons_zero, List.set_cons_succ]
    refine wpAnyH_take (i := 2) (v := ?va2) rfl (by kernel_rfl) (by kernel_rfl) (by kernel_rfl) (fun _ _ _ h => h) (Or.inl ⟨by rfl, ?ya2⟩) hd0 ?ra2
    case ya2 => (intro W hSw; (try dsimp only at hSw); (try simp only [List.getElem_toArray, List.getElem_cons_succ, List.getElem_cons_zero]); obtain ⟨x0, x1, x2, x3⟩ := CV.out W hSw; go_simp; first | done | with_reducible rfl)
    try simp only [Act.put, List.getElem_toArray, List.getElem_cons_succ, List.getElem_cons_zero, List.setIfInBounds_toArray, List.set_cons_zero, List.set_cons_succ]
    refine wpAnyH_take (i := 3) (v := ?va3) rfl (by kernel_rfl) (by kernel_rfl) (by kernel_rfl) (fun _ _ _ h => h) (Or.inl ⟨by rfl, ?ya3⟩) hd0 ?ra3
    case ya3 => (intro W hSw; (try dsimp only at hSw); (try simp only [List.getElem_toArray, List.getElem_cons_succ, List.getElem_cons_zero]); obtain ⟨x0, x1, x2, x3⟩ := CV.out W hSw; go_simp; first | done | with_reducible rfl)
    try simp only [Act.put, List.getElem_toArray, List.getElem_cons_succ, List.getElem_cons_zero, List.setIfInBounds_toArray, List.set_cons_zero, List.set_cons_succ]
    refine wpAnyH_take (i := 4) (v := ?va4) rfl (by kernel_rfl) (by kernel_rfl) (by kernel_rfl) (fun _ _ _ h => h) (Or.inl ⟨by rfl, ?ya4⟩) hd0 ?ra4
    case ya4 => (intro W hSw; (try dsimp only at hSw); (try simp only [List.getElem_toArray, List.getElem_cons_succ, List.getElem_cons_zero]); obtain ⟨x0, x1, x2, x3⟩ := CV.out W hSw; go_simp; first | done | with_reducible rfl)
    try simp only [Act.put, List.getElem_toArray, List.getElem_cons_succ, List.getElem_cons_zero, List.setIfInBounds_toArray, List.set_cons_zero, List.set_cons_succ]
    refine wpAnyH_take (i := 5) (v := .int .i64 o) rfl (by kernel_rfl) (by kernel_rfl) (by kernel_rfl) (fun _ _ _ h => h) (Or.inl ⟨by rfl, ?ya5⟩) hd0 ?ra5
    case ya5 => (intro W hSw; (try dsimp only at hSw); (try simp only [List.getElem_toArray, List.getElem_cons_succ, List.getElem_cons_zero]); go_simp; rw [if_neg NI.out, HO.out]; first | done | with_reducible rfl)
    try simp only [Act.put, List.getElem_toArray, List.getElem_cons_succ, List.getElem_cons_zero, List.setIfInBounds_toArray, List.set_cons_zero, List.set_cons_succ]
    refine wpAnyH_take (i := 6) (v := ?va6) rfl (by kernel_rfl) (by kernel_rfl) (by kernel_rfl) (fun _ _ _ h => h) (Or.inl ⟨by rfl, ?ya6⟩) hd0 ?ra6
    case ya6 => (intro W hSw; (try dsimp only at hSw); (try simp only [List.getElem_toArray, List.getElem_cons_succ, List.getElem_cons_zero]); obtain ⟨x0, x1, x2, x3⟩ := CV.out W hSw; go_simp; first | done | with_reducible rfl)
    try simp only [Act.put, List.getElem_toArray, List.getElem_cons_succ, List.getElem_cons_zero, List.setIfInBounds_toArray, List.set_cons_zero, List.set_cons_succ]
    refine wpAnyH_take (i := 7) (v := ?va7) rfl (by kernel_rfl) (by kernel_rfl) (by kernel_rfl) (fun _ _ _ h => h) (Or.inl ⟨by rfl, ?ya7⟩) hd0 ?ra7
    case ya7 => (intro W hSw; (try dsimp only at hSw); (try simp only [List.getElem_toArray, List.getElem_cons_succ, List.getElem_cons_zero]); obtain ⟨x0, x1, x2, x3⟩ := CV.out W hSw; go_simp; first | done | with_reducible rfl)
    try simp only [Act.put, List.getElem_toArray, List.getElem_cons_succ, List.getElem_cons_zero, List.setIfInBounds_toArray, List.set_cons_zero, List.set_cons_succ]
    refine wpAnyH_ready (rs := [8, 9]) (by kernel_rfl) (by simp) ?_
    refine AllReadyH.cons rfl (fun K hK => ?_) (AllReadyH.cons rfl (fun K hK => ?_) AllReadyH.nil)
    · simp only [List.getElem_toArray, List.getElem_cons_succ, List.getElem_cons_zero]
      go_simp
      refine (CB.out _ hd0).mono ?_
      rintro e2 w2 ⟨V, vc, g, rfl, hg, hG, hRV, hVA, hb2'⟩
      have hb2 := below_next hd0 hb2'

      refine hK.out _ _ hb2 (fun hH2 => ?_)
      clear hK hH2
      refine wpAnyH_ready (rs := [9]) (by kernel_rfl) (by simp) ?_
      refine AllReadyH.cons rfl (fun K hK => ?_) AllReadyH.nil
      simp only [List.getElem_toArray, List.getElem_cons_succ, List.getElem_cons_zero]
      go_simp
      refine hK.out _ _ (hb2.alloc hb2.size (.cells #[.int .i64 0, .int .i64 0, .int .i64 0, .bool false, .int .i64 0, .int .i64 0, .slice none 0 0, .int .i64 0, .int .i64 0, .bool false, .int .i64 0, .int .i64 0, .slice none 0 0, .int .i64 0, .int .i64 0, .bool false, .int .i64 0, .int .i64 0, .slice none 0 0, .int .i64 0, .int .i64 0, .bool false, .int .i64 0, .int .i64 0, .slice none 0 0, .int .i64 0, .int .i64 0, .bool false, .int .i64 0, .int .i64 0, .slice none 0 0, .int .i64 0, .int .i64 0, .bool false, .int .i64 0, .int .i64 0, .slice none 0 0, .int .i64 0, .int .i64 0, .bool false, .int .i64 0, .int .i64 0, .slice none 0 0, .slice none 0 0] 55)) (fun hH2 => ?_)
      clear hK hH2
      have K9 : (w2.alloc (.cells #[.int .i64 0, .int .i64 0, .int .i64 0, .bool false, .int .i64 0, .int .i64 0, .slice none 0 0, .int .i64 0, .int .i64 0, .bool false, .int .i64 0, .int .i64 0, .slice none 0 0, .int .i64 0, .int .i64 0, .bool false, .int .i64 0, .int .i64 0, .slice none 0 0, .int .i64 0, .int .i64 0, .bool false, .int .i64 0, .int .i64 0, .slice none 0 0, .int .i64 0, .int .i64 0, .bool false, .int .i64 0, .int .i64 0, .slice none 0 0, .int .i64 0, .int .i64 0, .bool false, .int .i64 0, .int .i64 0, .slice none 0 0, .int .i64 0, .int .i64 0, .bool false, .int .i64 0, .int .i64 0, .slice none 0 0, .slice none 0 0] 55)).heap[w2.heap.size]? = some (.cells zero44.toArray 55) := heap_new w2 (.cells #[.int .i64 0, .int .i64 0, .int .i64 0, .bool false, .int .i64 0, .int .i64 0, .slice none 0 0, .int .i64 0, .int .i64 0, .bool false, .int .i64 0, .int .i64 0, .slice none 0 0, .int .i64 0, .int .i64 0, .bool false, .int .i64 0, .int .i64 0, .slice none 0 0, .int .i64 0, .int .i64 0, .bool false, .int .i64 0, .int .i64 0, .slice none 0 0, .int .i64 0, .int .i64 0, .bool false, .int .i64 0, .int .i64 0, .slice none 0 0, .int .i64 0, .int .i64 0, .bool false, .int .i64 0, .int .i64 0, .slice none 0 0, .int .i64 0, .int .i64 0, .bool false, .int .i64 0, .int .i64 0, .slice none 0 0, .slice none 0 0] 55)
      refine wpAnyH_ready (rs := [10]) (by kernel_rfl) (by simp) ?_
      refine AllReadyH.cons rfl (fun K hK => ?_) AllReadyH.nil
      refine step_store_mid (by rfl) 55 (.tmp 6) (.tmp 31) (by rfl) w2.heap.size 0 (slotC N (List.replicate 7 sa0) (.slice (some ⟨g, 0, none⟩) 1 1)).toArray (by rfl) (by rfl) (there44 K9) info55 (all_oneCell_toArray (slotC_one _ _ _ _ _)) ?_
      have hbF := below_setCells (b := w2.heap.size) (by first | exact hb2.size | exact Nat.le_refl _) (slotC N (List.replicate 7 sa0) (.slice (some ⟨g, 0, none⟩) 1 1)).toArray.toList 0 _ (hb2.alloc hb2.size (.cells #[.int .i64 0, .int .i64 0, .int .i64 0, .bool false, .int .i64 0, .int .i64 0, .slice none 0 0, .int .i64 0, .int .i64 0, .bool false, .int .i64 0, .int .i64 0, .slice none 0 0, .int .i64 0, .int .i64 0, .bool false, .int .i64 0, .int .i64 0, .slice none 0 0, .int .i64 0, .int .i64 0, .bool false, .int .i64 0, .int .i64 0, .slice none 0 0, .int .i64 0, .int .i64 0, .bool false, .int .i64 0, .int .i64 0, .slice none 0 0, .int .i64 0, .int .i64 0, .bool false, .int .i64 0, .int .i64 0, .slice none 0 0, .int .i64 0, .int .i64 0, .bool false, .int .i64 0, .int .i64 0, .slice none 0 0, .slice none 0 0] 55))
      refine hK.out _ _ hbF (fun hH2 => ?_)
      clear hK hH2
      refine wpAnyH_done (by kernel_rfl) ?_ _
      have HREL := hide (made (b0 := W1.heap.size) K9 hb2.size (Nat.le_trans hd0.size hg) ((Below.heap_alloc _ _ _ (blk_lt hG)).trans hG) (fun e => by have := blk_lt hG; omega) (hRV.alloc _) (fun hne a ha => ⟨fun e => by have := Reads.lt_some hRV ha hne; omega, (hVA a ha).2⟩) hN7 ho0 HV.out)
      go_wp2
      go_meet
      case rel => exact ⟨_, rfl, HREL.out, hbF⟩
    · have hbZ : Below W1.heap.size W1 (W1.drew.alloc (.cells #[.int .i64 0, .int .i64 0, .int .i64 0, .bool false, .int .i64 0, .int .i64 0, .slice none 0 0, .int .i64 0, .int .i64 0, .bool false, .int .i64 0, .int .i64 0, .slice none 0 0, .int .i64 0, .int .i64 0, .bool false, .int .i64 0, .int .i64 0, .slice none 0 0, .int .i64 0, .int .i64 0, .bool false, .int .i64 0, .int .i64 0, .slice none 0 0, .int .i64 0, .int .i64 0, .bool false, .int .i64 0, .int .i64 0, .slice none 0 0, .int .i64 0, .int .i64 0, .bool false, .int .i64 0, .int .i64 0, .slice none 0 0, .int .i64 0, .int .i64 0, .bool false, .int .i64 0, .int .i64 0, .slice none 0 0, .slice none 0 0] 55)) := hd0.alloc (Nat.le_refl _) _
      simp only [List.getElem_toArray, List.getElem_cons_succ, List.getElem_cons_zero]
      go_simp
      refine hK.out _ _ hbZ (fun hH2 => ?_)
      clear hK hH2
      refine wpAnyH_ready (rs := [8]) (by kernel_rfl) (by simp) ?_
      refine AllReadyH.cons rfl (fun K hK => ?_) AllReadyH.nil
      simp only [List.getElem_toArray, List.getElem_cons_succ, List.getElem_cons_zero]
      go_simp
      refine (CB.out _ hbZ).mono ?_
      rintro e2 w2 ⟨V, vc, g, rfl, hg, hG, hRV, hVA, hb2'⟩
      have hb2 := below_next hbZ hb2'
      have K9 : w2.heap[W1.heap.size]? = some (.cells zero44.toArray 55) := (hb2'.block W1.heap.size (by simp)).trans (heap_new W1.drew (.cells #[.int .i64 0, .int .i64 0, .int .i64 0, .bool false, .int .i64 0, .int .i64 0, .slice none 0 0, .int .i64 0, .int .i64 0, .bool false, .int .i64 0, .int .i64 0, .slice none 0 0, .int .i64 0, .int .i64 0, .bool false, .int .i64 0, .int .i64 0, .slice none 0 0, .int .i64 0, .int .i64 0, .bool false, .int .i64 0, .int .i64 0, .slice none 0 0, .int .i64 0, .int .i64 0, .bool false, .int .i64 0, .int .i64 0, .slice none 0 0, .int .i64 0, .int .i64 0, .bool false, .int .i64 0, .int .i64 0, .slice none 0 0, .int .i64 0, .int .i64 0, .bool false, .int .i64 0, .int .i64 0, .slice none 0 0, .slice none 0 0] 55))
      have hg' : W1.heap.size < g := Nat.lt_of_lt_of_le (by simp) hg
      refine hK.out _ _ hb2 (fun hH2 => ?_)
      clear hK hH2
      refine wpAnyH_ready (rs := [10]) (by kernel_rfl) (by simp) ?_
      refine AllReadyH.cons rfl (fun K hK => ?_) AllReadyH.nil
      refine step_store_mid (by rfl) 55 (.tmp 6) (.tmp 31) (by rfl) W1.heap.size 0 (slotC N (List.replicate 7 sa0) (.slice (some ⟨g, 0, none⟩) 1 1)).toArray (by rfl) (by rfl) (there44 K9) info55 (all_oneCell_toArray (slotC_one _ _ _ _ _)) ?_
      have hbF := below_setCells (b := W1.heap.size) (by first | exact hb2.size | exact Nat.le_refl _) (slotC N (List.replicate 7 sa0) (.slice (some ⟨g, 0, none⟩) 1 1)).toArray.toList 0 _ hb2
      refine hK.out _ _ hbF (fun hH2 => ?_)
      clear hK hH2
      refine wpAnyH_done (by kernel_rfl) ?_ _
      have HREL := hide (made (b0 := W1.heap.size) K9 (Nat.le_refl _) (by omega) hG (by omega) hRV (fun _ a ha => ⟨fun e => by have := (hVA a ha).1; simp at this; omega, (hVA a ha).2⟩) hN7 ho0 HV.out)
      go_wp2
      go_meet
      case rel => exact ⟨_, rfl, HREL.out, hbF⟩
  obtain ⟨B, rfl, hG0, hb0⟩ := hcut
  obtain ⟨b0, hb0'⟩ : ∃ b0, b0 = W1.heap.size := ⟨_, rfl⟩
  rw [← hb0'] at hG0 hb0
  have HB0' := hide hb0'
  clear hb0' CV CB s0 s1 s2 s3 HN HO
  go_upto_block 0 with fail
  go_cut [7] (fun _ wx => ∃ s, Good wx b0 B N 150 s ∧ Below b0 W1 wx)
  case first =>
    go_wp2_with fail
    go_loopw [7] (fun i wr => ∃ (j : Nat) (s : Sl), j ≤ X.length ∧ j ≤ 150 ∧ i = .int .i64 j ∧ Good wr b0 B N j s ∧ Below b0 W1 wr) (fun i _ => X.length - (intOf i).toNat)
    case atStart => exact ⟨0, _, Nat.zero_le _, by omega, rfl, hG0, hb0⟩
    case round =>
      obtain ⟨j, s, hjn, hj2, rfl, hG, hbr⟩ := hrel
      have HG := hide hG; have HBR := hide hbr
      clear hG hbr hG0 hb0
      by_cases hlt : j < X.length ∧ j < 150
      · obtain ⟨h1, h2⟩ := hlt
        obtain ⟨b, off, he, hb, hc⟩ := Reads.flat Ev.cells_length ev0 ((HE.out.below HB1.out).below (by rw [← HB0'.out]; exact HBR.out)) (by omega) h1
        have hxf := HX.out (X.getD j ev0) (getD_mem h1)
        have k0 := hc 0 (by omega); have k1 := hc 1 (by omega); have k2 := hc 2 (by omega); have k3 := hc 3 (by omega); have k4 := hc 4 (by omega)
        clear hc
        generalize X.getD j ev0 = x at *
        subst he
        obtain ⟨kd, ep, ek, ea, lost⟩ := x
        obtain ⟨f1, f2, f3⟩ := hxf
        have HF := hide (And.intro f1 (And.intro f2 f3))
        clear f1 f2 f3
        replace k0 : wr.cell? ⟨b, off + j * 5, none⟩ = some (.int .i64 kd) := k0
        replace k1 : wr.cell? ⟨b, off + j * 5 + 1, none⟩ = some (.int .i64 ep) := k1
        replace k2 : wr.cell? ⟨b, off + j * 5 + 2, none⟩ = some (.int .i64 ek) := k2
        replace k3 : wr.cell? ⟨b, off + j * 5 + 3, none⟩ = some (.int .i64 ea) := k3
        replace k4 : wr.cell? ⟨b, off + j * 5 + 4, none⟩ = some (.bool lost) := k4
        have i1 : (j : Int) < (X.length : Int) := by omega
        have i2 : (j : Int) < 150 := by omega
        have i0 : (0 : Int) ≤ (j : Int) := by omega
        go_wp2_with fail
        refine (play_all wr b0 B N j s kd ep ek ea lost HG.out ⟨hN1, hN7⟩ (by omega) HF.out.1 HF.out.2.1 HF.out.2.2).mono ?_
        rintro e2 w2 ⟨rfl, hG2, hb2⟩
        have HG2 := hide hG2
        have HB2 := hide (HBR.out.trans hb2)
        clear hG2 hb2 k0 k1 k2 k3 k4
        go_wp2
        go_roundw
        case rel => exact ⟨j + 1, _, by omega, by omega, by go_num, HG2.out, HB2.out⟩
        case measure => simp [intOf]; omega
      · have HGF := hide (HG.out.mono hj2)
        by_cases h1 : j < X.length
        · have i1 : (j : Int) < (X.length : Int) := by omega
          obtain rfl : j = 150 := by omega
          go_wp2
          go_meet
          case rel => exact ⟨s, HGF.out, HBR.out⟩
        · obtain rfl : j = X.length := by omega
          go_wp2
          go_meet
          case rel => exact ⟨s, HGF.out, HBR.out⟩
  obtain ⟨s, hG, hbw⟩ := hcut
  generalize wc = W2 at *
  have HG := hide hG
  have HBW := hide hbw
  obtain ⟨g, all, rs, rc, hM, hs, hI, hS⟩ := hG
  have HM := hide hM; have HI := hide hI; have HS := hide hS; have HSS := hide hs
  have hrl : (abs all rs).rs.length = rs.length := by simp [abs]
  have hl : 0 < rs.length ∧ rs.length ≤ 1000 := by rw [← hrl, hs]; have := hI.len; have := hS.len; omega
  obtain ⟨hl1, hl2⟩ := hl
  have HXR := hide (fun (y : RnA) (hy : y ∈ rs) => (show y.vs.length ≤ 1000000 ∧ fineV y.vs from ⟨by have := (small_rs (by rw [hs]; exact hS) y hy).2.1; omega, fineV_inv (by rw [hs]; exact hI) hN7 hy⟩))
  have HRL := hide hrl
  clear hM hs hI hS hbw hrl
  clear hG0 hb0
  go_upto_block 2 with fail
  go_cut [8] (fun u wx => ∃ d : Int, u = .int .i64 d ∧ (d = -1 ∨ ∃ k : Nat, d = (k : Int) ∧ k < rs.length ∧ dec N (abs all rs) k = true) ∧ Below W2.heap.size W2 wx)
  case first =>
    go_wp2_with fail
    go_loopw [8, 9] (fun u i wr => ∃ (j : Nat) (d : Int), j ≤ rs.length ∧ i = .int .i64 j ∧ u = .int .i64 d ∧ (d = -1 ∨ ∃ k : Nat, d = (k : Int) ∧ k < rs.length ∧ dec N (abs all rs) k = true) ∧ Below W2.heap.size W2 wr) (fun _ i _ => rs.length - (intOf i).toNat)
    case atStart => exact ⟨0, -1, Nat.zero_le _, rfl, rfl, .inl rfl, Below.refl _ _⟩
    case round =>
      obtain ⟨j, d, hj, rfl, rfl, hd, hbr⟩ := hrel
      have HB := hide hbr; have HD := hide hd
      have HMr := hide (HM.out.below hbr)
      clear hbr
      obtain ⟨c0, c43⟩ := slot_at HMr.out
      have hBl := HMr.out.blt
      by_cases h : j < rs.length
      · obtain ⟨z0, z1, z2, z3, z4, z5⟩ := rnd_hold HMr.out h
        obtain ⟨y, hy⟩ : ∃ y, y = rs.getD j ra0 := ⟨_, rfl⟩
        rw [← hy] at z0 z1 z2 z3 z4 z5
        have HYM := hide (show y ∈ rs from by rw [hy]; exact getD_mem h)
        have HY := hide hy
        clear hy
        have hji : (j : Int) < (rs.length : Int) := by omega
        have i0 : (0 : Int) ≤ (j : Int) := by omega
        go_upto_region 14 with fail
        have hN := one_new wr (.cells #[.int .i64 y.r, .int .i64 y.t, .slice y.P y.X.length y.pc, .bool y.has, .slice y.V y.val.length y.vc, .slice y.W y.vs.length y.wc] 62)
        generalize wr.alloc (.cells #[.int .i64 y.r, .int .i64 y.t, .slice y.P y.X.length y.pc, .bool y.has, .slice y.V y.val.length y.vc, .slice y.W y.vs.length y.wc] 62) = W3 at *
        obtain ⟨KX, hs3, hb3⟩ := hN
        obtain ⟨r0, r1, r2, r3, r4, r5⟩ := six_at KX
        have HB3 := hide (below_next HB.out hb3)
        have HM3 := hide (HM.out.below HB3.out)
        clear z0 z1 z2 z3 z4 z5 c0 c43 hb3 hs3 KX
        rcases hd with rfl | ⟨k, rfl, hk1, hk2⟩
        · obtain ⟨dd, hdd⟩ : ∃ dd, dd = decided y.r y.t N y.vs := ⟨_, rfl⟩
          have HDD := hide hdd
          clear HD hdd
          go_wp2_with fail
          refine (decided_any y.W y.wc y.vs y.r y.t N W3 (show VsRd W3 y.W y.vs from ((HM3.out.rr y HYM.out).2.2.2.reads)) (HXR.out y HYM.out).2 (HXR.out y HYM.out).1 (by omega)).mono ?_
          rintro e5 w5 ⟨rfl, hb5⟩
          rw [← HDD.out]
          have HB5 := hide (below_next HB3.out hb5)
          clear hb5 r0 r1 r2 r3 r4 r5
          cases dd
          · go_wp2
            go_roundw
            case rel => exact ⟨j + 1, -1, by omega, by go_num, rfl, .inl rfl, HB5.out⟩
            case measure => simp [intOf]; omega
          · have HDC := hide (show dec N (abs all rs) j = true from by rw [abs_dec, ← HY.out]; exact HDD.out.symm)
            go_wp2
            go_roundw
            case rel => exact ⟨j + 1, j, by omega, by go_num, rfl, .inr ⟨j, rfl, h, HDC.out⟩, HB5.out⟩
            case measure => simp [intOf]; omega
        · have HK2 := hide hk2
          clear hk2 HD
          have hk0 : ¬ (k : Int) < 0 := by omega
          go_wp2
          go_roundw
          case rel => exact ⟨j + 1, k, by omega, by go_num, rfl, .inr ⟨k, rfl, hk1, HK2.out⟩, HB3.out⟩
          case measure => simp [intOf]; omega
      · obtain rfl : j = rs.length := by omega
        go_wp2
        go_meet
        case rel => exact ⟨d, rfl, HD.out, HB.out⟩
  obtain ⟨d, rfl, hd, hbx⟩ := hcut
  generalize wc = W3 at *
  have HBX := hide hbx
  have HBW3 := hide (show Below w.heap.size w W3 from below_next (below_next HB1.out (by rw [← HB0'.out]; exact HBW.out)) (hbx.mono (by have := HBW.out.size; omega)))
  have HG3 := hide (HG.out.below hbx)
  clear hbx
  rcases hd with rfl | ⟨k, rfl, hk1, hk2⟩
  · go_wp2
    go_ret
    exact ⟨rfl, HBW3.out⟩
  · have HKD := hide hk2
    have hk0 : ¬ (k : Int) < 0 := by omega
    have hwb0 : w.heap.size ≤ b0 := by rw [HB0'.out]; exact HB1.out.size
    clear hk2
    go_wp2_with fail
    refine (play_all W3 b0 B N 150 s 0 0 0 0 false HG3.out ⟨hN1, hN7⟩ (by omega) ⟨by omega, by omega⟩ ⟨by omega, by omega⟩ ⟨by omega, by omega⟩).mono ?_
    rintro e2 w4 ⟨rfl, hG4, hb4⟩
    rw [play_new] at hG4
    have HG4 := hide hG4
    have HBW4 := hide (HBW3.out.trans (hb4.mono hwb0))
    obtain ⟨g4, all4, rs4, rc4, hM4, hs4, _, _⟩ := hG4
    obtain ⟨L, hL⟩ : ∃ L, L = rs.length := ⟨_, rfl⟩
    have HL := hide hL
    have hl4 : rs4.length = L + 1 := by
      have h1 : (abs all4 rs4).rs.length = rs4.length := by simp [abs]
      rw [← h1, hs4, ← HSS.out]
      simp [opNew, abs, hL]
    obtain ⟨c0, c43⟩ := slot_at hM4
    rw [hl4] at c43
    have hBl := hM4.blt
    have hL1 : L ≤ 1000 := by omega
    have hkL : k < L := by omega
    clear hb4 hM4 hs4 hl4 hL
    go_upto_block 4 with fail
    have hsL : s.rs.length = L := by rw [← HSS.out, HRL.out, HL.out]
    have HAK := hide (fun (m : Nat) (hm : m ≤ N) => (show Asked N L 0 s (asked (opNew s 0) L m) m from by have h := asked_is HI.out (Int.le_refl 0) m hm; rw [hsL] at h; exact h))
    have HSL := hide hsL
    clear hsL
    go_cut [12] (fun _ wx => Good wx b0 B N (151 + N) (asked (opNew s 0) L N) ∧ Below b0 w4 wx)
    case first =>
      clear c0 c43
      go_wp2_with fail
      go_loopw [12] (fun i wr => ∃ m : Nat, m ≤ N ∧ i = .int .i64 m ∧ Good wr b0 B N (151 + m) (asked (opNew s 0) L m) ∧ Below b0 w4 wr) (fun i _ => N - (intOf i).toNat)
      case atStart => exact ⟨0, Nat.zero_le _, rfl, HG4.out, Below.refl _ _⟩
      case round =>
        obtain ⟨m, hm, rfl, hG, hbr⟩ := hrel
        have HGr := hide hG; have HBR := hide hbr
        clear hG hbr
        by_cases h : m < N
        · have i1 : (m : Int) < (N : Int) := by omega
          have i0 : (0 : Int) ≤ (m : Int) := by omega
          go_wp2_with fail
          refine (play_all wr b0 B N (151 + m) _ 1 0 L m false HGr.out ⟨hN1, hN7⟩ (by omega) ⟨by omega, by omega⟩ ⟨by omega, by omega⟩ ⟨by omega, by omega⟩).mono ?_
          rintro e5 w5 ⟨rfl, hG5, hb5⟩
          rw [play_ask h (HAK.out m hm).len] at hG5
          have HG5 := hide (show Good w5 b0 B N (151 + (m + 1)) (asked (opNew s 0) L (m + 1)) from hG5)
          have HB5 := hide (HBR.out.trans hb5)
          clear hG5 hb5
          go_wp2
          go_roundw
          case rel => exact ⟨m + 1, by omega, by go_num, HG5.out, HB5.out⟩
          case measure => simp [intOf]; omega
        · obtain rfl : m = N := by omega
          go_wp2
          go_meet
          case rel => exact ⟨HGr.out, HBR.out⟩
    obtain ⟨hG6, hb6⟩ := hcut
    clear c0 c43
    generalize wc = W6 at *
    have HBW6 := hide (HBW4.out.trans (hb6.mono hwb0))
    obtain ⟨g6, all6, rs6, rc6, hM6, hs6, hI6, hS6⟩ := hG6
    have hA := HAK.out N (Nat.le_refl _)
    rw [← hs6] at hA hI6 hS6
    have hl6 : rs6.length = L + 1 := by
      have h1 : (abs all6 rs6).rs.length = rs6.length := by simp [abs]
      rw [← h1]; exact hA.len
    have hke := keeps hN1 (show Asked N s.rs.length 0 s (abs all6 rs6) N from by rw [HSL.out]; exact hA) (j := k) (by rw [HSL.out]; exact hkL) (show dec N s k = true from by rw [← HSS.out]; exact HKD.out)
    rw [HSL.out, abs_rd] at hke
    have hold := hA.old k hkL
    rw [abs_rd] at hold
    have HM6 := hide hM6
    obtain ⟨y, hy⟩ : ∃ y, y = rs6.getD L ra0 := ⟨_, rfl⟩
    obtain ⟨q, hq5⟩ : ∃ q, q = rs6.getD k ra0 := ⟨_, rfl⟩
    obtain ⟨vv, hvv⟩ : ∃ vv, vv = (rd s k).val := ⟨_, rfl⟩
    rw [← hy] at hke
    rw [← hq5] at hold
    have hmay : may_ N (pms y.X) = true := hke.1
    have hcu : chosen N (pms y.X) = vv := by unfold chosen; rw [if_pos hmay, hvv]; exact hke.2
    have hqv : q.val = vv := by rw [hvv]; exact congrArg Rnd.val hold
    have hym : y ∈ rs6 := by rw [hy]; exact getD_mem (by omega)
    have hqm : q ∈ rs6 := by rw [hq5]; exact getD_mem (by omega)
    have CC := choose_new y.P y.pc y.X N W6 (hM6.ps hym) (fineP_inv hI6 hN7 hym (small_rs hS6 y hym).2.2.2) (by have := (small_rs hS6 y hym).1; omega) (by omega)
    unfold CNew at CC
    rw [hcu, hmay] at CC
    have HCC := hide CC
    have HY := hide hy; have HQ := hide hq5; have HQV := hide hqv; have HQM := hide hqm
    obtain ⟨c0, c43⟩ := slot_at hM6
    obtain ⟨z0, z1, z2, z3, z4, z5⟩ := rnd_hold hM6 (k := L) (by omega)
    rw [← hy] at z2
    have hLi : (L : Int) < (rs6.length : Int) := by omega
    have hki : (k : Int) < (rs6.length : Int) := by omega
    have h0L : (0 : Int) ≤ (L : Int) := by omega
    have h0k : (0 : Int) ≤ (k : Int) := by omega
    have hkr : k < rs6.length := by omega
    clear hy hq5 hvv hke hold hqv hmay hcu hqm CC hA hI6 hS6 hs6 hM6 hl6 z0 z1 z3 z4 z5 hb6
    go_wp2_with fail
    refine HCC.out.mono ?_
    rintro e7 w7 ⟨V, cv, rfl, hRV, _, hb7⟩
    have HRV := hide hRV
    have HM7 := hide (HM6.out.below hb7)
    have HBW7 := hide (below_next HBW6.out hb7)
    clear z2 c0 c43 hRV hb7
    obtain ⟨c0, c43⟩ := slot_at HM7.out
    obtain ⟨z0, z1, z2, z3, z4, z5⟩ := rnd_hold HM7.out hkr
    rw [← HQ.out] at z4
    rw [HQV.out] at z4
    have HRQ := hide (show Reads w7 q.V (bys vv) from by have h := (HM7.out.rr q HQM.out).2.2.1.reads; rw [HQV.out] at h; exact h)
    clear z0 z1 z2 z3 z5 c0
    go_wp2_with fail
    have e1 : ((strOfNums vv).toList == (strOfNums vv).toList) = true := by simp
    have hS0 : (fun W => (convert 24 9 (.slice V vv.length cv)).run Try.prog W = .ok (.string (strOfNums vv)) W ∧ (convert 24 9 (.slice q.V vv.length q.vc)).run Try.prog W = .ok (.string (strOfNums vv)) W ∧ W.cell? ⟨B, 43, none⟩ = some (.slice (some ⟨g6, 0, none⟩) rs6.length rc6) ∧ W.cell? ⟨g6, k * 6 + 4, none⟩ = some (.slice q.V vv.length q.vc)) w7.drew := ⟨str_reads _ V vv.length cv vv (Reads.drew HRV.out) rfl, str_reads _ q.V vv.length q.vc vv (Reads.drew HRQ.out) rfl, drew_cell c43, drew_cell z4⟩
    refine wp_region_held_drew (S := fun W => (convert 24 9 (.slice V vv.length cv)).run Try.prog W = .ok (.string (strOfNums vv)) W ∧ (convert 24 9 (.slice q.V vv.length q.vc)).run Try.prog W = .ok (.string (strOfNums vv)) W ∧ W.cell? ⟨B, 43, none⟩ = some (.slice (some ⟨g6, 0, none⟩) rs6.length rc6) ∧ W.cell? ⟨g6, k * 6 + 4, none⟩ = some (.slice q.V vv.length q.vc)) (by kernel_rfl) hS0 (fun hH => ?_)
    refine wpAnyH_take (i := 0) (v := .bool true) rfl (by kernel_rfl) (by kernel_rfl) (by kernel_rfl) (fun _ _ _ h => h) (Or.inl ⟨by rfl, ?yd0⟩) hS0 ?rd0
    case yd0 => (intro W hSw; (try dsimp only at hSw); (try simp only [List.getElem_toArray, List.getElem_cons_zero]); obtain ⟨q0, q1, q2, q3⟩ := hSw; go_simp; first | done | with_reducible rfl)
    try simp only [Act.put, List.getElem_toArray, List.getElem_cons_zero, List.setIfInBounds_toArray, List.set_cons_zero, List.set_cons_succ]
    refine wpAnyH_take (i := 1) (v := .bool true) rfl (by kernel_rfl) (by kernel_rfl) (by kernel_rfl) (fun _ _ _ h => h) (Or.inl ⟨by rfl, ?yd1⟩) hS0 ?rd1
    case yd1 => (intro W hSw; (try dsimp only at hSw); (try simp only [List.getElem_toArray, List.getElem_cons_succ, List.getElem_cons_zero]); obtain ⟨q0, q1, q2, q3⟩ := hSw; go_simp; first | done | with_reducible rfl)
    try simp only [Act.put, List.getElem_toArray, List.getElem_cons_succ, List.getElem_cons_zero, List.setIfInBounds_toArray, List.set_cons_zero, List.set_cons_succ]
    refine wpAnyH_take (i := 2) (v := .bool true) rfl (by kernel_rfl) (by kernel_rfl) (by kernel_rfl) (fun _ _ _ h => h) (Or.inl ⟨by rfl, ?yd2⟩) hS0 ?rd2
    case yd2 => (intro W hSw; (try dsimp only at hSw); (try simp only [List.getElem_toArray, List.getElem_cons_succ, List.getElem_cons_zero]); obtain ⟨q0, q1, q2, q3⟩ := hSw; go_simp; first | done | with_reducible rfl)
    try simp only [Act.put, List.getElem_toArray, List.getElem_cons_succ, List.getElem_cons_zero, List.setIfInBounds_toArray, List.set_cons_zero, List.set_cons_succ]
    refine wpAnyH_take (i := 3) (v := .bool true) rfl (by kernel_rfl) (by kernel_rfl) (by kernel_rfl) (fun _ _ _ h => h) (Or.inl ⟨by rfl, ?yd3⟩) hS0 ?rd3
    case yd3 => (intro W hSw; (try dsimp only at hSw); (try simp only [List.getElem_toArray, List.getElem_cons_succ, List.getElem_cons_zero]); obtain ⟨q0, q1, q2, q3⟩ := hSw; go_simp; first | done | with_reducible rfl)
    try simp only [Act.put, List.getElem_toArray, List.getElem_cons_succ, List.getElem_cons_zero, List.setIfInBounds_toArray, List.set_cons_zero, List.set_cons_succ]
    refine wpAnyH_take (i := 4) (v := .bool true) rfl (by kernel_rfl) (by kernel_rfl) (by kernel_rfl) (fun _ _ _ h => h) (Or.inl ⟨by rfl, ?yd4⟩) hS0 ?rd4
    case yd4 => (intro W hSw; (try dsimp only at hSw); (try simp only [List.getElem_toArray, List.getElem_cons_succ, List.getElem_cons_zero]); obtain ⟨q0, q1, q2, q3⟩ := hSw; go_simp; first | done | with_reducible rfl)
    try simp only [Act.put, List.getElem_toArray, List.getElem_cons_succ, List.getElem_cons_zero, List.setIfInBounds_toArray, List.set_cons_zero, List.set_cons_succ]
    refine wpAnyH_take (i := 5) (v := ?vd5) rfl (by kernel_rfl) (by kernel_rfl) (by kernel_rfl) (fun _ _ _ h => h) (Or.inl ⟨by rfl, ?yd5⟩) hS0 ?rd5
    case yd5 => (intro W hSw; (try dsimp only at hSw); (try simp only [List.getElem_toArray, List.getElem_cons_succ, List.getElem_cons_zero]); obtain ⟨q0, q1, q2, q3⟩ := hSw; go_simp; first | done | with_reducible rfl)
    try simp only [Act.put, List.getElem_toArray, List.getElem_cons_succ, List.getElem_cons_zero, List.setIfInBounds_toArray, List.set_cons_zero, List.set_cons_succ]
    refine wpAnyH_take (i := 6) (v := ?vd6) rfl (by kernel_rfl) (by kernel_rfl) (by kernel_rfl) (fun _ _ _ h => h) (Or.inl ⟨by rfl, ?yd6⟩) hS0 ?rd6
    case yd6 => (intro W hSw; (try dsimp only at hSw); (try simp only [List.getElem_toArray, List.getElem_cons_succ, List.getElem_cons_zero]); obtain ⟨q0, q1, q2, q3⟩ := hSw; go_simp; first | done | with_reducible rfl)
    try simp only [Act.put, List.getElem_toArray, List.getElem_cons_succ, List.getElem_cons_zero, List.setIfInBounds_toArray, List.set_cons_zero, List.set_cons_succ]
    refine wpAnyH_take (i := 7) (v := ?vd7) rfl (by kernel_rfl) (by kernel_rfl) (by kernel_rfl) (fun _ _ _ h => h) (Or.inl ⟨by rfl, ?yd7⟩) hS0 ?rd7
    case yd7 => (intro W hSw; (try dsimp only at hSw); (try simp only [List.getElem_toArray, List.getElem_cons_succ, List.getElem_cons_zero]); obtain ⟨q0, q1, q2, q3⟩ := hSw; go_simp; first | done | with_reducible rfl)
    try simp only [Act.put, List.getElem_toArray, List.getElem_cons_succ, List.getElem_cons_zero, List.setIfInBounds_toArray, List.set_cons_zero, List.set_cons_succ]
    refine wpAnyH_take (i := 8) (v := ?vd8) rfl (by kernel_rfl) (by kernel_rfl) (by kernel_rfl) (fun _ _ _ h => h) (Or.inl ⟨by rfl, ?yd8⟩) hS0 ?rd8
    case yd8 => (intro W hSw; (try dsimp only at hSw); (try simp only [List.getElem_toArray, List.getElem_cons_succ, List.getElem_cons_zero]); obtain ⟨q0, q1, q2, q3⟩ := hSw; go_simp; first | done | with_reducible rfl)
    try simp only [Act.put, List.getElem_toArray, List.getElem_cons_succ, List.getElem_cons_zero, List.setIfInBounds_toArray, List.set_cons_zero, List.set_cons_succ]
    refine wpAnyH_take (i := 9) (v := ?vd9) rfl (by kernel_rfl) (by kernel_rfl) (by kernel_rfl) (fun _ _ _ h => h) (Or.inl ⟨by rfl, ?yd9⟩) hS0 ?rd9
    case yd9 => (intro W hSw; (try dsimp only at hSw); (try simp only [List.getElem_toArray, List.getElem_cons_succ, List.getElem_cons_zero]); obtain ⟨q0, q1, q2, q3⟩ := hSw; go_simp; first | done | with_reducible rfl)
    try simp only [Act.put, List.getElem_toArray, List.getElem_cons_succ, List.getElem_cons_zero, List.setIfInBounds_toArray, List.set_cons_zero, List.set_cons_succ]
    refine wpAnyH_take (i := 10) (v := ?vd10) rfl (by kernel_rfl) (by kernel_rfl) (by kernel_rfl) (fun _ _ _ h => h) (Or.inl ⟨by rfl, ?yd10⟩) hS0 ?rd10
    case yd10 => (intro W hSw; (try dsimp only at hSw); (try simp only [List.getElem_toArray, List.getElem_cons_succ, List.getElem_cons_zero]); obtain ⟨q0, q1, q2, q3⟩ := hSw; go_simp; first | done | with_reducible rfl)
    try simp only [Act.put, List.getElem_toArray, List.getElem_cons_succ, List.getElem_cons_zero, List.setIfInBounds_toArray, List.set_cons_zero, List.set_cons_succ]
    refine wpAnyH_take (i := 11) (v := ?vd11) rfl (by kernel_rfl) (by kernel_rfl) (by kernel_rfl) (fun _ _ _ h => h) (Or.inl ⟨by rfl, ?yd11⟩) hS0 ?rd11
    case yd11 => (intro W hSw; (try dsimp only at hSw); (try simp only [List.getElem_toArray, List.getElem_cons_succ, List.getElem_cons_zero]); obtain ⟨q0, q1, q2, q3⟩ := hSw; go_simp; first | done | with_reducible rfl)
    try simp only [Act.put, List.getElem_toArray, List.getElem_cons_succ, List.getElem_cons_zero, List.setIfInBounds_toArray, List.set_cons_zero, List.set_cons_succ]
    refine wpAnyH_take (i := 12) (v := ?vd12) rfl (by kernel_rfl) (by kernel_rfl) (by kernel_rfl) (fun _ _ _ h => h) (Or.inl ⟨by rfl, ?yd12⟩) hS0 ?rd12
    case yd12 => (intro W hSw; (try dsimp only at hSw); (try simp only [List.getElem_toArray, List.getElem_cons_succ, List.getElem_cons_zero]); obtain ⟨q0, q1, q2, q3⟩ := hSw; go_simp; first | done | with_reducible rfl)
    try simp only [Act.put, List.getElem_toArray, List.getElem_cons_succ, List.getElem_cons_zero, List.setIfInBounds_toArray, List.set_cons_zero, List.set_cons_succ]
    refine wpAnyH_take (i := 13) (v := ?vd13) rfl (by kernel_rfl) (by kernel_rfl) (by kernel_rfl) (fun _ _ _ h => h) (Or.inl ⟨by rfl, ?yd13⟩) hS0 ?rd13
    case yd13 => (intro W hSw; (try dsimp only at hSw); (try simp only [List.getElem_toArray, List.getElem_cons_succ, List.getElem_cons_zero]); obtain ⟨q0, q1, q2, q3⟩ := hSw; go_simp; first | done | with_reducible rfl)
    try simp only [Act.put, List.getElem_toArray, List.getElem_cons_succ, List.getElem_cons_zero, List.setIfInBounds_toArray, List.set_cons_zero, List.set_cons_succ]
    refine wpAnyH_take (i := 14) (v := .bool true) rfl (by kernel_rfl) (by kernel_rfl) (by kernel_rfl) (fun _ _ _ h => h) (Or.inl ⟨by rfl, ?yd14⟩) hS0 ?rd14
    case yd14 => (intro W hSw; (try dsimp only at hSw); (try simp only [List.getElem_toArray, List.getElem_cons_succ, List.getElem_cons_zero]); obtain ⟨q0, q1, q2, q3⟩ := hSw; go_simp; first | done | with_reducible rfl)
    try simp only [Act.put, List.getElem_toArray, List.getElem_cons_succ, List.getElem_cons_zero, List.setIfInBounds_toArray, List.set_cons_zero, List.set_cons_succ]
    refine wpAnyH_take (i := 15) (v := .bool true) rfl (by kernel_rfl) (by kernel_rfl) (by kernel_rfl) (fun _ _ _ h => h) (Or.inl ⟨by rfl, ?yd15⟩) hS0 ?rd15
    case yd15 => (intro W hSw; (try dsimp only at hSw); (try simp only [List.getElem_toArray, List.getElem_cons_succ, List.getElem_cons_zero]); obtain ⟨q0, q1, q2, q3⟩ := hSw; go_simp; first | done | with_reducible rfl)
    try simp only [Act.put, List.getElem_toArray, List.getElem_cons_succ, List.getElem_cons_zero, List.setIfInBounds_toArray, List.set_cons_zero, List.set_cons_succ]
    refine wpAnyH_take (i := 16) (v := ?vd16) rfl (by kernel_rfl) (by kernel_rfl) (by kernel_rfl) (fun _ _ _ h => h) (Or.inl ⟨by rfl, ?yd16⟩) hS0 ?rd16
    case yd16 => (intro W hSw; (try dsimp only at hSw); (try simp only [List.getElem_toArray, List.getElem_cons_succ, List.getElem_cons_zero]); obtain ⟨q0, q1, q2, q3⟩ := hSw; go_simp; first | done | with_reducible rfl)
    try simp only [Act.put, List.getElem_toArray, List.getElem_cons_succ, List.getElem_cons_zero, List.setIfInBounds_toArray, List.set_cons_zero, List.set_cons_succ]
    refine wpAnyH_done (by kernel_rfl) ?_ _
    go_wp2
    go_ret
    exact ⟨rfl, HBW7.out.drew⟩

theorem agg_slot {cs : Array Value} {l : Array Value} (h : cs.toList = l.toList) : cs = l := by
  cases cs; cases l; simpa using h
set_option maxRecDepth 100000 in
theorem proposerKeeps_lifted (os : Os) (started : os.Started) (H : Type) (enc : TypeId × Value → H) :
    ReturnsInHanded {} Try.checked os 8 .any (Rows.proposerKeepsSpec.pre6 enc Try.prog Try.f8 Rows.proposerKeepsRow.domain false) (Rows.proposerKeepsSpec.post enc Try.prog Try.f8 false true false false) := by
  refine returnsInHanded_of_change_sized (C := Try.checked) (by kernel_rfl) started (by kernel_rfl) Try.func8
    (ChangeSpec.witness6 (enc := enc) (C := Try.checked) false ⟨#[], #[.agg #[.int .u8 0, .int .u8 0, .slice none 0 0, .slice none 0 0]], []⟩ 8 (by kernel_rfl) (by kernel_rfl) (by kernel_rfl) (by kernel_rfl)) ?_
  intro W base args ds gs before hval0 hW _ hsz0 _
  have hval : ∀ (j : Nat) t v, Try.f8.params[j]? = some t → args[j]? = some v → Value.okWide Try.prog W .any base t v := hval0
  have hW' := hW
  obtain ⟨p, q, hA0, hV, rfl, _, _⟩ := hW
  have hA : DataW.TrodAll enc Try.prog W 0 (fun _ => true) true Try.f8.params.toList args.toList ds p := hA0
  have hsz : (DataW.weightsEach Try.prog (Try.f8.params.toList ++ Rows.proposerKeepsSpec.plain.varTypes Try.prog) (ds ++ gs)).all (· ≤ reachBytes) = true := hsz0
  rw [Try.params8] at hA hval hsz
  obtain ⟨v0, d0, rfl, rfl, h0⟩ := trodAll_one hA
  obtain ⟨cs0, rfl, hz0⟩ := okWide_struct Try.underlying49 (hval 0 49 v0 rfl rfl)
  obtain ⟨fuel0, hf0⟩ := h0
  obtain ⟨p0, q0, A0, E0, c0, e0, y0, X0, hc0, hp0, hq0, hR0, hl0, hE0, hX0, hm0⟩ := slot_cells (by simpa [Value.cells] using hz0.trans (show Try.prog.cellsOf 49 = 4 by kernel_rfl)) hf0 (sized_arg hsz (j := 0) rfl rfl)
  obtain rfl := agg_slot hc0
  refine (proposerKeeps_walk p0 q0 A0 E0 c0 e0 y0 X0 W hp0 hq0 hR0 hl0 hE0 hX0 hm0).mono fun e W' ⟨he, hb⟩ => ?_
  subst he
  exact ⟨_, rfl, post_law (by kernel_rfl) (by kernel_rfl) rfl hW' (by rintro _ rfl; rfl) rfl Try.underlying4 hb⟩

theorem proposerKeeps_holds : Rows.ProposerKeepsSaid :=
  OpenClaim.holds_of_wide 8 Try.f8 rfl rfl rfl rfl rfl rfl rfl ⟨rfl, rfl, rfl, rfl, rfl⟩ rfl rfl rfl rfl rfl (by kernel_rfl) Try.func8 (by kernel_rfl)
    (of_decide_eq_true (by kernel_rfl)) (by unfold Func.isWrapper; first | (rw [if_pos (by decide +kernel)]; kernel_rfl) | (rw [if_neg (by decide +kernel)]; exact ⟨rfl, rfl⟩))
    (fun os started H enc _ => proposerKeeps_lifted os started H enc)

end Go.Proofs.Ytodlabpgjgbbpah
