/-
  What play does: arm 2 (a round chooses its value).
-/
import Derived.Test.YtodlabpgjgbbpahPaxMid
namespace Go.Proofs.Ytodlabpgjgbbpah
open Go.RowKit Go.Agio Go.Prp Go.Pax

theorem choose_no {all : List StA} {rs : List RnA} {k N : Nat} {y : RnA} (hy : y = rs.getD k ra0) (hn : (may_ N (pms y.X) && !y.has) = false) : abs all rs = opChoose (abs all rs) N k := by
  unfold opChoose
  rw [abs_rd, ← hy]
  show _ = (if (may_ N (pms y.X) && !y.has) = true then _ else _)
  rw [if_neg (by rw [hn]; decide)]
theorem choose_yes {all : List StA} {rs : List RnA} {k N : Nat} {y : RnA} {V : Option Addr} {vc : Nat} (hy : y = rs.getD k ra0) (hn : (may_ N (pms y.X) && !y.has) = true) :
    abs all (rs.set k { y with has := true, V := V, vc := vc, val := chosen N (pms y.X) }) = opChoose (abs all rs) N k := by
  unfold opChoose
  rw [abs_put, abs_rd, ← hy]
  show _ = (if (may_ N (pms y.X) && !y.has) = true then _ else _)
  rw [if_pos hn]
  have hm : may_ N (pms y.X) = true := by simp only [Bool.and_eq_true] at hn; exact hn.1
  unfold RnA.rn chosen
  rw [if_pos hm]
  rfl

set_option maxRecDepth 100000 in
set_option maxHeartbeats 8000000 in
theorem play2 (w : World) (b0 B g : Nat) (N : Nat) (all : List StA) (rs : List RnA) (rc : Nat) (ep ek ea : Int) (lost : Bool) (hM : Mem w b0 B g N all rs rc) (hN : 0 < N ∧ N ≤ 7) (hl : 0 < rs.length ∧ rs.length ≤ 1000)
    (_he1 : -9223372036854775808 ≤ ep ∧ ep ≤ 9223372036854775807) (he2 : -9223372036854775808 ≤ ek ∧ ek ≤ 9223372036854775807) (he3 : -9223372036854775808 ≤ ea ∧ ea ≤ 9223372036854775807) (hx : ∀ y ∈ rs, y.X.length ≤ 1000000 ∧ fineP y.X) :
    Calls Try.prog 20 #[.pointer (some ⟨B, 0, none⟩), .agg #[.int .i64 2, .int .i64 ep, .int .i64 ek, .int .i64 ea, .bool lost]] w (Played w b0 B N (opChoose (abs all rs) N (lst ek rs.length).toNat)) := by
  have HXL := hide hx
  clear hx
  have HM := hide hM
  obtain ⟨hN1, hN7⟩ := hN
  obtain ⟨hl1, hl2⟩ := hl
  have hal : all.length = 7 := hM.seven
  have HAL := hide hal
  clear hM hal
  go_enter Try.func20, Try.ntmps20
  go_wp2_with fail
  have hN := one_new w (.cells #[.int .i64 2, .int .i64 ep, .int .i64 ek, .int .i64 ea, .bool lost] 59)
  generalize w.alloc (.cells #[.int .i64 2, .int .i64 ep, .int .i64 ek, .int .i64 ea, .bool lost] 59) = W0 at *
  obtain ⟨KE, hs0, hb0⟩ := hN
  have HM0 := hide (HM.out.below hb0)
  have HB0 := hide hb0
  have KE := hide KE
  have CE := hide (five_hold KE.out)
  have CB := hide (slot_hold HM0.out)
  clear hb0
  obtain ⟨k, hk⟩ : ∃ k : Nat, lst ek rs.length = (k : Int) := ⟨(lst ek rs.length).toNat, by have := lst_range (n := ek) (m := rs.length) (by omega); omega⟩
  have hkl : k < rs.length := by have := lst_range (n := ek) (m := rs.length) (by omega); omega
  obtain ⟨a, ha⟩ : ∃ a : Nat, lst ea N = (a : Int) := ⟨(lst ea N).toNat, by have := lst_range (n := ea) (m := N) (by omega); omega⟩
  have haN : a < N := by have := lst_range (n := ea) (m := N) (by omega); omega
  have CK := hide (fun (W : World) (hW : Below W0.heap.size W0 W) => (least_any ek rs.length W (by omega) he2 (by omega)).mono (fun e w' h => (show e = .returned (.int .i64 k) ∧ Below W0.heap.size W0 w' from ⟨by rw [h.1, hk], h.2 ▸ hW⟩)))
  have CA := hide (fun (W : World) (hW : Below W0.heap.size W0 W) => (least_any ea N W (by omega) he3 (by omega)).mono (fun e w' h => (show e = .returned (.int .i64 a) ∧ Below W0.heap.size W0 w' from ⟨by rw [h.1, ha], h.2 ▸ hW⟩)))
  have HK := hide hk; have HA := hide ha
  clear hk ha
  have hd0 := (Below.refl W0.heap.size W0).drew
  refine wp_region_held_drew (S := fun W => Below W0.heap.size W0 W) (by kernel_rfl) hd0 (fun hH => ?_)
  refine wpAnyH_take (i := 0) (v := ?va0) rfl (by kernel_rfl) (by kernel_rfl) (by kernel_rfl) (fun _ _ _ h => h) (Or.inl ⟨by rfl, ?ya0⟩) hH ?ra0
  case ya0 => (intro W hSw; (try dsimp only at hSw); (try simp only [List.getElem_toArray, List.getElem_cons_zero]); obtain ⟨x0, x1, x2, x3, x4⟩ := CE.out W hSw; go_simp; first | done | with_reducible rfl)
  try simp only [Act.put, List.getElem_toArray, List.getElem_cons_zero, List.setIfInBounds_toArray, List.set_cons_zero, List.set_cons_succ]
  refine wpAnyH_take (i := 1) (v := ?va1) rfl (by kernel_rfl) (by kernel_rfl) (by kernel_rfl) (fun _ _ _ h => h) (Or.inl ⟨by rfl, ?ya1⟩) hH ?ra1
  case ya1 => (intro W hSw; (try dsimp only at hSw); (try simp only [List.getElem_toArray, List.getElem_cons_succ, List.getElem_cons_zero]); obtain ⟨x0, x1, x2, x3, x4⟩ := CE.out W hSw; go_simp; first | done | with_reducible rfl)
  try simp only [Act.put, List.getElem_toArray, List.getElem_cons_succ, List.getElem_cons_zero, List.setIfInBounds_toArray, List.set_cons_zero, List.set_cons_succ]
  refine wpAnyH_take (i := 2) (v := ?va2) rfl (by kernel_rfl) (by kernel_rfl) (by kernel_rfl) (fun _ _ _ h => h) (Or.inl ⟨by rfl, ?ya2⟩) hH ?ra2
  case ya2 => (intro W hSw; (try dsimp only at hSw); (try simp only [List.getElem_toArray, List.getElem_cons_succ, List.getElem_cons_zero]); obtain ⟨y0, y1⟩ := CB.out W hSw; go_simp; first | done | with_reducible rfl)
  try simp only [Act.put, List.getElem_toArray, List.getElem_cons_succ, List.getElem_cons_zero, List.setIfInBounds_toArray, List.set_cons_zero, List.set_cons_succ]
  refine wpAnyH_take (i := 3) (v := ?va3) rfl (by kernel_rfl) (by kernel_rfl) (by kernel_rfl) (fun _ _ _ h => h) (Or.inl ⟨by rfl, ?ya3⟩) hH ?ra3
  case ya3 => (intro W hSw; (try dsimp only at hSw); (try simp only [List.getElem_toArray, List.getElem_cons_succ, List.getElem_cons_zero]); obtain ⟨y0, y1⟩ := CB.out W hSw; go_simp; first | done | with_reducible rfl)
  try simp only [Act.put, List.getElem_toArray, List.getElem_cons_succ, List.getElem_cons_zero, List.setIfInBounds_toArray, List.set_cons_zero, List.set_cons_succ]
  refine wpAnyH_take (i := 4) (v := ?va4) rfl (by kernel_rfl) (by kernel_rfl) (by kernel_rfl) (fun _ _ _ h => h) (Or.inl ⟨by rfl, ?ya4⟩) hH ?ra4
  case ya4 => (intro W hSw; (try dsimp only at hSw); (try simp only [List.getElem_toArray, List.getElem_cons_succ, List.getElem_cons_zero]); obtain ⟨y0, y1⟩ := CB.out W hSw; go_simp; first | done | with_reducible rfl)
  try simp only [Act.put, List.getElem_toArray, List.getElem_cons_succ, List.getElem_cons_zero, List.setIfInBounds_toArray, List.set_cons_zero, List.set_cons_succ]
  refine wpAnyH_take (i := 5) (v := ?va5) rfl (by kernel_rfl) (by kernel_rfl) (by kernel_rfl) (fun _ _ _ h => h) (Or.inl ⟨by rfl, ?ya5⟩) hH ?ra5
  case ya5 => (intro W hSw; (try dsimp only at hSw); (try simp only [List.getElem_toArray, List.getElem_cons_succ, List.getElem_cons_zero]); obtain ⟨y0, y1⟩ := CB.out W hSw; go_simp; first | done | with_reducible rfl)
  try simp only [Act.put, List.getElem_toArray, List.getElem_cons_succ, List.getElem_cons_zero, List.setIfInBounds_toArray, List.set_cons_zero, List.set_cons_succ]
  refine wpAnyH_take (i := 6) (v := ?va6) rfl (by kernel_rfl) (by kernel_rfl) (by kernel_rfl) (fun _ _ _ h => h) (Or.inl ⟨by rfl, ?ya6⟩) hH ?ra6
  case ya6 => (intro W hSw; (try dsimp only at hSw); (try simp only [List.getElem_toArray, List.getElem_cons_succ, List.getElem_cons_zero]); obtain ⟨y0, y1⟩ := CB.out W hSw; go_simp; first | done | with_reducible rfl)
  try simp only [Act.put, List.getElem_toArray, List.getElem_cons_succ, List.getElem_cons_zero, List.setIfInBounds_toArray, List.set_cons_zero, List.set_cons_succ]
  refine wpAnyH_ready (rs := [7]) (by kernel_rfl) (by simp) ?_
  refine AllReadyH.cons rfl (fun K hK => ?_) AllReadyH.nil
  simp only [List.getElem_toArray, List.getElem_cons_succ, List.getElem_cons_zero]
  go_simp
  refine (CK.out _ hd0).mono ?_
  rintro e w1 ⟨rfl, hb1⟩
  refine hK.out _ _ hb1 (fun hH2 => ?_)
  clear hK hH2
  refine wpAnyH_take (i := 8) (v := ?va8) rfl (by kernel_rfl) (by kernel_rfl) (by kernel_rfl) (fun _ _ _ h => h) (Or.inl ⟨by rfl, ?ya8⟩) hb1 ?ra8
  case ya8 => (intro W hSw; (try dsimp only at hSw); (try simp only [List.getElem_toArray, List.getElem_cons_succ, List.getElem_cons_zero]); go_simp; first | done | with_reducible rfl)
  try simp only [Act.put, List.getElem_toArray, List.getElem_cons_succ, List.getElem_cons_zero, List.setIfInBounds_toArray, List.set_cons_zero, List.set_cons_succ]
  refine wpAnyH_done (by kernel_rfl) ?_ _
  go_wp2_with fail
  have hd1 := hb1.drew
  refine wp_region_held_drew (S := fun W => Below W0.heap.size W0 W) (by kernel_rfl) hd1 (fun hH => ?_)
  refine wpAnyH_take (i := 0) (v := ?vb0) rfl (by kernel_rfl) (by kernel_rfl) (by kernel_rfl) (fun _ _ _ h => h) (Or.inl ⟨by rfl, ?yb0⟩) hH ?rb0
  case yb0 => (intro W hSw; (try dsimp only at hSw); (try simp only [List.getElem_toArray, List.getElem_cons_zero]); obtain ⟨x0, x1, x2, x3, x4⟩ := CE.out W hSw; go_simp; first | done | with_reducible rfl)
  try simp only [Act.put, List.getElem_toArray, List.getElem_cons_zero, List.setIfInBounds_toArray, List.set_cons_zero, List.set_cons_succ]
  refine wpAnyH_take (i := 1) (v := ?vb1) rfl (by kernel_rfl) (by kernel_rfl) (by kernel_rfl) (fun _ _ _ h => h) (Or.inl ⟨by rfl, ?yb1⟩) hH ?rb1
  case yb1 => (intro W hSw; (try dsimp only at hSw); (try simp only [List.getElem_toArray, List.getElem_cons_succ, List.getElem_cons_zero]); obtain ⟨x0, x1, x2, x3, x4⟩ := CE.out W hSw; go_simp; first | done | with_reducible rfl)
  try simp only [Act.put, List.getElem_toArray, List.getElem_cons_succ, List.getElem_cons_zero, List.setIfInBounds_toArray, List.set_cons_zero, List.set_cons_succ]
  refine wpAnyH_take (i := 2) (v := ?vb2) rfl (by kernel_rfl) (by kernel_rfl) (by kernel_rfl) (fun _ _ _ h => h) (Or.inl ⟨by rfl, ?yb2⟩) hH ?rb2
  case yb2 => (intro W hSw; (try dsimp only at hSw); (try simp only [List.getElem_toArray, List.getElem_cons_succ, List.getElem_cons_zero]); obtain ⟨y0, y1⟩ := CB.out W hSw; go_simp; first | done | with_reducible rfl)
  try simp only [Act.put, List.getElem_toArray, List.getElem_cons_succ, List.getElem_cons_zero, List.setIfInBounds_toArray, List.set_cons_zero, List.set_cons_succ]
  refine wpAnyH_take (i := 3) (v := ?vb3) rfl (by kernel_rfl) (by kernel_rfl) (by kernel_rfl) (fun _ _ _ h => h) (Or.inl ⟨by rfl, ?yb3⟩) hH ?rb3
  case yb3 => (intro W hSw; (try dsimp only at hSw); (try simp only [List.getElem_toArray, List.getElem_cons_succ, List.getElem_cons_zero]); obtain ⟨y0, y1⟩ := CB.out W hSw; go_simp; first | done | with_reducible rfl)
  try simp only [Act.put, List.getElem_toArray, List.getElem_cons_succ, List.getElem_cons_zero, List.setIfInBounds_toArray, List.set_cons_zero, List.set_cons_succ]
  refine wpAnyH_take (i := 4) (v := ?vb4) rfl (by kernel_rfl) (by kernel_rfl) (by kernel_rfl) (fun _ _ _ h => h) (Or.inl ⟨by rfl, ?yb4⟩) hH ?rb4
  case yb4 => (intro W hSw; (try dsimp only at hSw); (try simp only [List.getElem_toArray, List.getElem_cons_succ, List.getElem_cons_zero]); obtain ⟨y0, y1⟩ := CB.out W hSw; go_simp; first | done | with_reducible rfl)
  try simp only [Act.put, List.getElem_toArray, List.getElem_cons_succ, List.getElem_cons_zero, List.setIfInBounds_toArray, List.set_cons_zero, List.set_cons_succ]
  refine wpAnyH_take (i := 5) (v := ?vb5) rfl (by kernel_rfl) (by kernel_rfl) (by kernel_rfl) (fun _ _ _ h => h) (Or.inl ⟨by rfl, ?yb5⟩) hH ?rb5
  case yb5 => (intro W hSw; (try dsimp only at hSw); (try simp only [List.getElem_toArray, List.getElem_cons_succ, List.getElem_cons_zero]); obtain ⟨y0, y1⟩ := CB.out W hSw; go_simp; first | done | with_reducible rfl)
  try simp only [Act.put, List.getElem_toArray, List.getElem_cons_succ, List.getElem_cons_zero, List.setIfInBounds_toArray, List.set_cons_zero, List.set_cons_succ]
  refine wpAnyH_ready (rs := [6]) (by kernel_rfl) (by simp) ?_
  refine AllReadyH.cons rfl (fun K hK => ?_) AllReadyH.nil
  simp only [List.getElem_toArray, List.getElem_cons_succ, List.getElem_cons_zero]
  go_simp
  refine (CA.out _ hd1).mono ?_
  rintro e w2 ⟨rfl, hb2⟩
  refine hK.out _ _ hb2 (fun hH2 => ?_)
  clear hK hH2
  refine wpAnyH_take (i := 7) (v := ?vb7) rfl (by kernel_rfl) (by kernel_rfl) (by kernel_rfl) (fun _ _ _ h => h) (Or.inl ⟨by rfl, ?yb7⟩) hb2 ?rb7
  case yb7 => (intro W hSw; (try dsimp only at hSw); (try simp only [List.getElem_toArray, List.getElem_cons_succ, List.getElem_cons_zero]); go_simp; first | done | with_reducible rfl)
  try simp only [Act.put, List.getElem_toArray, List.getElem_cons_succ, List.getElem_cons_zero, List.setIfInBounds_toArray, List.set_cons_zero, List.set_cons_succ]
  refine wpAnyH_done (by kernel_rfl) ?_ _
  obtain ⟨y0, y1⟩ := CB.out w2 hb2
  obtain ⟨x0, x1, x2, x3, x4⟩ := CE.out w2 hb2
  have HM2 := hide (HM0.out.below hb2)
  obtain ⟨z0, z1, z2, z3, z4, z5⟩ := rnd_hold HM2.out hkl
  obtain ⟨y, hy⟩ : ∃ y, y = rs.getD k ra0 := ⟨_, rfl⟩
  rw [← hy] at z0 z1 z2 z3 z4 z5
  have HY := hide hy
  have HYM := hide (show y ∈ rs from by rw [hy]; exact getD_mem hkl)
  have HB2 := hide (below_next HB0.out hb2)
  have KE2 := hide ((hb2.block _ (blk_lt KE.out)).trans KE.out)
  have hki : (k : Int) < (rs.length : Int) := by omega
  clear hd0 hd1 hb1 hb2 CK CA CE CB HM0 HB0 KE hy
  go_upto_region 4 with fail
  have hgw := HM.out.glt.2
  have hBw := HM.out.blt
  have hN := one_new w2 (.cells #[.int .i64 y.r, .int .i64 y.t, .slice y.P y.X.length y.pc, .bool y.has, .slice y.V y.val.length y.vc, .slice y.W y.vs.length y.wc] 62)
  generalize w2.alloc (.cells #[.int .i64 y.r, .int .i64 y.t, .slice y.P y.X.length y.pc, .bool y.has, .slice y.V y.val.length y.vc, .slice y.W y.vs.length y.wc] 62) = W3 at *
  obtain ⟨KX, hs3, hb3⟩ := hN
  have HM3 := hide (HM2.out.below hb3)
  have HB3 := hide (below_next HB2.out hb3)
  have KE3 := hide ((hb3.block _ (blk_lt KE2.out)).trans KE2.out)
  have hXB := HB2.out.size
  have KX3 := hide KX
  clear x0 x1 x2 x3 x4 y0 y1 z0 z1 z2 z3 z4 z5 hb3 HM2 KE2 HB2 KX hs3
  obtain ⟨x0, x1, x2, x3, x4⟩ := five_at KE3.out
  have CB := hide (slot_hold HM3.out)
  have CX := hide (six_hold KX3.out)
  obtain ⟨v, hv⟩ : ∃ v, v = chosen N (pms y.X) := ⟨_, rfl⟩
  obtain ⟨m, hm⟩ : ∃ m, m = may_ N (pms y.X) := ⟨_, rfl⟩
  have CC := hide (fun (W : World) (hW : Below W3.heap.size W3 W) => choose_new y.P y.pc y.X N W ((HM3.out.ps HYM.out).below hW) (HXL.out y HYM.out).2 (HXL.out y HYM.out).1 (by omega))
  unfold CNew at CC
  rw [← hv, ← hm] at CC
  have HV := hide hv; have HMM := hide hm
  clear hv hm
  go_wp2_with fail
  clear x0 x1 x2 x3 x4
  have hd0 := (Below.refl W3.heap.size W3).drew
  refine wp_region_held_drew (S := fun W => Below W3.heap.size W3 W) (by kernel_rfl) hd0 (fun hH => ?_)
  refine wpAnyH_take (i := 0) (v := ?vc0) rfl (by kernel_rfl) (by kernel_rfl) (by kernel_rfl) (fun _ _ _ h => h) (Or.inl ⟨by rfl, ?yc0⟩) hd0 ?rc0
  case yc0 => (intro W hSw; (try dsimp only at hSw); (try simp only [List.getElem_toArray, List.getElem_cons_zero]); obtain ⟨r0, r1, r2, r3, r4, r5⟩ := CX.out W hSw; obtain ⟨y0, y1⟩ := CB.out W hSw; go_simp; first | done | with_reducible rfl)
  try simp only [Act.put, List.getElem_toArray, List.getElem_cons_zero, List.setIfInBounds_toArray, List.set_cons_zero, List.set_cons_succ]
  refine wpAnyH_take (i := 1) (v := ?vc1) rfl (by kernel_rfl) (by kernel_rfl) (by kernel_rfl) (fun _ _ _ h => h) (Or.inl ⟨by rfl, ?yc1⟩) hd0 ?rc1
  case yc1 => (intro W hSw; (try dsimp only at hSw); (try simp only [List.getElem_toArray, List.getElem_cons_succ, List.getElem_cons_zero]); obtain ⟨r0, r1, r2, r3, r4, r5⟩ := CX.out W hSw; obtain ⟨y0, y1⟩ := CB.out W hSw; go_simp; first | done | with_reducible rfl)
  try simp only [Act.put, List.getElem_toArray, List.getElem_cons_succ, List.getElem_cons_zero, List.setIfInBounds_toArray, List.set_cons_zero, List.set_cons_succ]
  refine wpAnyH_take (i := 2) (v := ?vc2) rfl (by kernel_rfl) (by kernel_rfl) (by kernel_rfl) (fun _ _ _ h => h) (Or.inl ⟨by rfl, ?yc2⟩) hd0 ?rc2
  case yc2 => (intro W hSw; (try dsimp only at hSw); (try simp only [List.getElem_toArray, List.getElem_cons_succ, List.getElem_cons_zero]); obtain ⟨r0, r1, r2, r3, r4, r5⟩ := CX.out W hSw; obtain ⟨y0, y1⟩ := CB.out W hSw; go_simp; first | done | with_reducible rfl)
  try simp only [Act.put, List.getElem_toArray, List.getElem_cons_succ, List.getElem_cons_zero, List.setIfInBounds_toArray, List.set_cons_zero, List.set_cons_succ]
  refine wpAnyH_take (i := 3) (v := ?vc3) rfl (by kernel_rfl) (by kernel_rfl) (by kernel_rfl) (fun _ _ _ h => h) (Or.inl ⟨by rfl, ?yc3⟩) hd0 ?rc3
  case yc3 => (intro W hSw; (try dsimp only at hSw); (try simp only [List.getElem_toArray, List.getElem_cons_succ, List.getElem_cons_zero]); obtain ⟨r0, r1, r2, r3, r4, r5⟩ := CX.out W hSw; obtain ⟨y0, y1⟩ := CB.out W hSw; go_simp; first | done | with_reducible rfl)
  try simp only [Act.put, List.getElem_toArray, List.getElem_cons_succ, List.getElem_cons_zero, List.setIfInBounds_toArray, List.set_cons_zero, List.set_cons_succ]
  refine wpAnyH_take (i := 4) (v := ?vc4) rfl (by kernel_rfl) (by kernel_rfl) (by kernel_rfl) (fun _ _ _ h => h) (Or.inl ⟨by rfl, ?yc4⟩) hd0 ?rc4
  case yc4 => (intro W hSw; (try dsimp only at hSw); (try simp only [List.getElem_toArray, List.getElem_cons_succ, List.getElem_cons_zero]); obtain ⟨r0, r1, r2, r3, r4, r5⟩ := CX.out W hSw; obtain ⟨y0, y1⟩ := CB.out W hSw; go_simp; first | done | with_reducible rfl)
  try simp only [Act.put, List.getElem_toArray, List.getElem_cons_succ, List.getElem_cons_zero, List.setIfInBounds_toArray, List.set_cons_zero, List.set_cons_succ]
  refine wpAnyH_take (i := 5) (v := ?vc5) rfl (by kernel_rfl) (by kernel_rfl) (by kernel_rfl) (fun _ _ _ h => h) (Or.inl ⟨by rfl, ?yc5⟩) hd0 ?rc5
  case yc5 => (intro W hSw; (try dsimp only at hSw); (try simp only [List.getElem_toArray, List.getElem_cons_succ, List.getElem_cons_zero]); obtain ⟨r0, r1, r2, r3, r4, r5⟩ := CX.out W hSw; obtain ⟨y0, y1⟩ := CB.out W hSw; go_simp; first | done | with_reducible rfl)
  try simp only [Act.put, List.getElem_toArray, List.getElem_cons_succ, List.getElem_cons_zero, List.setIfInBounds_toArray, List.set_cons_zero, List.set_cons_succ]
  refine wpAnyH_ready (rs := [6]) (by kernel_rfl) (by simp) ?_
  refine AllReadyH.cons rfl (fun K hK => ?_) AllReadyH.nil
  simp only [List.getElem_toArray, List.getElem_cons_succ, List.getElem_cons_zero]
  go_simp
  refine (CC.out _ hd0).mono ?_
  rintro e w5 ⟨V5, c5, rfl, R5, P5, hb5'⟩
  have hb5 := below_next hd0 hb5'
  refine hK.out _ _ hb5 (fun hH2 => ?_)
  clear hK hH2
  refine wpAnyH_take (i := 7) (v := ?vc7) rfl (by kernel_rfl) (by kernel_rfl) (by kernel_rfl) (fun _ _ _ h => h) (Or.inl ⟨by rfl, ?yc7⟩) hb5 ?rc7
  case yc7 => (intro W hSw; (try dsimp only at hSw); (try simp only [List.getElem_toArray, List.getElem_cons_succ, List.getElem_cons_zero]); go_simp; first | done | with_reducible rfl)
  try simp only [Act.put, List.getElem_toArray, List.getElem_cons_succ, List.getElem_cons_zero, List.setIfInBounds_toArray, List.set_cons_zero, List.set_cons_succ]
  refine wpAnyH_take (i := 8) (v := ?vc8) rfl (by kernel_rfl) (by kernel_rfl) (by kernel_rfl) (fun _ _ _ h => h) (Or.inl ⟨by rfl, ?yc8⟩) hb5 ?rc8
  case yc8 => (intro W hSw; (try dsimp only at hSw); (try simp only [List.getElem_toArray, List.getElem_cons_succ, List.getElem_cons_zero]); go_simp; first | done | with_reducible rfl)
  try simp only [Act.put, List.getElem_toArray, List.getElem_cons_succ, List.getElem_cons_zero, List.setIfInBounds_toArray, List.set_cons_zero, List.set_cons_succ]
  refine wpAnyH_take (i := 9) (v := ?vc9) rfl (by kernel_rfl) (by kernel_rfl) (by kernel_rfl) (fun _ _ _ h => h) (Or.inl ⟨by rfl, ?yc9⟩) hb5 ?rc9
  case yc9 => (intro W hSw; (try dsimp only at hSw); (try simp only [List.getElem_toArray, List.getElem_cons_succ, List.getElem_cons_zero]); go_simp; first | done | with_reducible rfl)
  try simp only [Act.put, List.getElem_toArray, List.getElem_cons_succ, List.getElem_cons_zero, List.setIfInBounds_toArray, List.set_cons_zero, List.set_cons_succ]
  refine wpAnyH_take (i := 10) (v := ?vc10) rfl (by kernel_rfl) (by kernel_rfl) (by kernel_rfl) (fun _ _ _ h => h) (Or.inl ⟨by rfl, ?yc10⟩) hb5 ?rc10
  case yc10 => (intro W hSw; (try dsimp only at hSw); (try simp only [List.getElem_toArray, List.getElem_cons_succ, List.getElem_cons_zero]); go_simp; first | done | with_reducible rfl)
  try simp only [Act.put, List.getElem_toArray, List.getElem_cons_succ, List.getElem_cons_zero, List.setIfInBounds_toArray, List.set_cons_zero, List.set_cons_succ]
  refine wpAnyH_take (i := 11) (v := ?vc11) rfl (by kernel_rfl) (by kernel_rfl) (by kernel_rfl) (fun _ _ _ h => h) (Or.inl ⟨by rfl, ?yc11⟩) hb5 ?rc11
  case yc11 => (intro W hSw; (try dsimp only at hSw); (try simp only [List.getElem_toArray, List.getElem_cons_succ, List.getElem_cons_zero]); go_simp; first | done | with_reducible rfl)
  try simp only [Act.put, List.getElem_toArray, List.getElem_cons_succ, List.getElem_cons_zero, List.setIfInBounds_toArray, List.set_cons_zero, List.set_cons_succ]
  refine wpAnyH_done (by kernel_rfl) ?_ _
  have HR5 := hide R5; have HP5 := hide (fun (a : Addr) (ha : V5 = some a) => (show W3.heap.size ≤ a.block from by have := P5 a ha; simpa using this))
  have HB5 := hide (below_next HB3.out hb5)
  have HD5 := hide (HM.out.mid HB5.out)
  have KX5 := hide ((hb5.block _ (blk_lt KX3.out)).trans KX3.out)
  have hsz5 := hb5.size
  have hx3 := blk_lt KX3.out
  have HFIN := hide (fun (hn : (m && !y.has) = false) => (show Played w b0 B N (opChoose (abs all rs) N (lst ek rs.length).toNat) (.returned (.tuple #[])) w5 from by
    rw [HK.out, Int.toNat_natCast]
    exact ⟨rfl, g, all, rs, rc, HM.out.below HB5.out, choose_no HY.out (by rw [← HMM.out]; exact hn), HD5.out.bel⟩))
  clear hd0 hb5 hb5' R5 P5 CC CB CX HM3 KX3 HB3
  obtain ⟨r0, r1, r2, r3, r4, r5⟩ := six_at KX5.out
  obtain ⟨rf0, rf1, rf2, rf3, rf4, rf5⟩ := six_live KX5.out
  cases m
  · have F := hide (HFIN.out rfl)
    go_wp2
    refine bodyPost_end (v := .tuple #[]) (by simp [results, Try.results20, go_sem]) rfl ?_
    exact F.out
  · cases hhas : y.has
    · rw [hhas] at r3
      go_upto_region 26 with fail
      have hXB3 : w2.heap.size ≠ B := by omega
      have hXg3 : w2.heap.size ≠ g := by omega
      have HBX : b0 ≤ w2.heap.size := by have := HM.out.base; omega
      have HD8 := hide ((HD5.out.other hXB hXB3 hXg3 HBX 3 (.bool true)).other hXB hXB3 hXg3 HBX 4 (.slice V5 v.length c5))
      have KXh := KX5.out
      rw [hhas] at KXh
      have KX8 := hide (six_put4 (six_put3 KXh (.bool true)) (.slice V5 v.length c5))
      have HR8 := hide ((HR5.out.keepset w2.heap.size 3 (.bool true) (fun a ha => by have := HP5.out a ha; omega)).keepset w2.heap.size 4 (.slice V5 v.length c5) (fun a ha => by have := HP5.out a ha; omega))
      have hs8 : ((w5.setCell ⟨w2.heap.size, 3, none⟩ (.bool true)).setCell ⟨w2.heap.size, 4, none⟩ (.slice V5 v.length c5)).heap.size = w5.heap.size := by simp [World.setCell]
      have HAL7 := HAL.out
      have hgw3 := hgw
      clear r0 r1 r2 r3 r4 r5 rf0 rf1 rf2 rf3 rf4 rf5 HD5 KX5 HR5 KXh
      generalize (w5.setCell ⟨w2.heap.size, 3, none⟩ (.bool true)).setCell ⟨w2.heap.size, 4, none⟩ (.slice V5 v.length c5) = W8 at *
      have hXg : ¬ w2.heap.size = g := by omega
      have hBg : ¬ B = g := HM.out.apart
      have HSW := hide (fun (W : World) (h1 : W.heap[w2.heap.size]? = some (.cells #[.int .i64 y.r, .int .i64 y.t, .slice y.P y.X.length y.pc, .bool true, .slice V5 v.length c5, .slice y.W y.vs.length y.wc] 62)) (h2 : W.cell? ⟨B, 43, none⟩ = some (.slice (some ⟨g, 0, none⟩) rs.length rc)) => (show W.cell? ⟨w2.heap.size, 0, none⟩ = some (.int .i64 y.r) ∧ W.cell? ⟨w2.heap.size, 1, none⟩ = some (.int .i64 y.t) ∧ W.cell? ⟨w2.heap.size, 2, none⟩ = some (.slice y.P y.X.length y.pc) ∧ W.cell? ⟨w2.heap.size, 3, none⟩ = some (.bool true) ∧ W.cell? ⟨w2.heap.size, 4, none⟩ = some (.slice V5 v.length c5) ∧ W.cell? ⟨w2.heap.size, 5, none⟩ = some (.slice y.W y.vs.length y.wc) ∧ W.cell? ⟨B, 43, none⟩ = some (.slice (some ⟨g, 0, none⟩) rs.length rc) from ⟨(six_at h1).1, (six_at h1).2.1, (six_at h1).2.2.1, (six_at h1).2.2.2.1, (six_at h1).2.2.2.2.1, (six_at h1).2.2.2.2.2, h2⟩))
      have c43 := (mid_slot HD8.out HAL7).2
      obtain ⟨z0, z1, z2, z3, z4, z5⟩ := mid_rnd HD8.out hkl
      have fg := fun j => HD8.out.own.frozenAt j
      have g0 := fg (k * 6); have g1 := fg (k * 6 + 1); have g2 := fg (k * 6 + 2); have g3 := fg (k * 6 + 3); have g4 := fg (k * 6 + 4); have g5 := fg (k * 6 + 5)
      clear fg
      have hS0 := HSW.out W8.drew (drew_at KX8.out) (drew_cell c43)
      refine wp_region_held_drew (S := fun W => W.cell? ⟨w2.heap.size, 0, none⟩ = some (.int .i64 y.r) ∧ W.cell? ⟨w2.heap.size, 1, none⟩ = some (.int .i64 y.t) ∧ W.cell? ⟨w2.heap.size, 2, none⟩ = some (.slice y.P y.X.length y.pc) ∧ W.cell? ⟨w2.heap.size, 3, none⟩ = some (.bool true) ∧ W.cell? ⟨w2.heap.size, 4, none⟩ = some (.slice V5 v.length c5) ∧ W.cell? ⟨w2.heap.size, 5, none⟩ = some (.slice y.W y.vs.length y.wc) ∧ W.cell? ⟨B, 43, none⟩ = some (.slice (some ⟨g, 0, none⟩) rs.length rc)) (by kernel_rfl) hS0 (fun hH => ?_)
      refine wpAnyH_take (i := 0) (v := ?vw0) rfl (by kernel_rfl) (by kernel_rfl) (by kernel_rfl) (fun _ _ _ h => h) (Or.inl ⟨by rfl, ?yw0⟩) hS0 ?rw0
      case yw0 => (intro W hSw; (try dsimp only at hSw); (try simp only [List.getElem_toArray, List.getElem_cons_zero]); obtain ⟨s0, s1, s2, s3, s4, s5, s6⟩ := hSw; go_simp; first | done | with_reducible rfl)
      try simp only [Act.put, List.getElem_toArray, List.getElem_cons_zero, List.setIfInBounds_toArray, List.set_cons_zero, List.set_cons_succ]
      refine wpAnyH_take (i := 1) (v := ?vw1) rfl (by kernel_rfl) (by kernel_rfl) (by kernel_rfl) (fun _ _ _ h => h) (Or.inl ⟨by rfl, ?yw1⟩) hS0 ?rw1
      case yw1 => (intro W hSw; (try dsimp only at hSw); (try simp only [List.getElem_toArray, List.getElem_cons_succ, List.getElem_cons_zero]); obtain ⟨s0, s1, s2, s3, s4, s5, s6⟩ := hSw; go_simp; first | done | with_reducible rfl)
      try simp only [Act.put, List.getElem_toArray, List.getElem_cons_succ, List.getElem_cons_zero, List.setIfInBounds_toArray, List.set_cons_zero, List.set_cons_succ]
      refine wpAnyH_take (i := 2) (v := ?vw2) rfl (by kernel_rfl) (by kernel_rfl) (by kernel_rfl) (fun _ _ _ h => h) (Or.inl ⟨by rfl, ?yw2⟩) hS0 ?rw2
      case yw2 => (intro W hSw; (try dsimp only at hSw); (try simp only [List.getElem_toArray, List.getElem_cons_succ, List.getElem_cons_zero]); obtain ⟨s0, s1, s2, s3, s4, s5, s6⟩ := hSw; go_simp; first | done | with_reducible rfl)
      try simp only [Act.put, List.getElem_toArray, List.getElem_cons_succ, List.getElem_cons_zero, List.setIfInBounds_toArray, List.set_cons_zero, List.set_cons_succ]
      refine wpAnyH_take (i := 3) (v := ?vw3) rfl (by kernel_rfl) (by kernel_rfl) (by kernel_rfl) (fun _ _ _ h => h) (Or.inl ⟨by rfl, ?yw3⟩) hS0 ?rw3
      case yw3 => (intro W hSw; (try dsimp only at hSw); (try simp only [List.getElem_toArray, List.getElem_cons_succ, List.getElem_cons_zero]); obtain ⟨s0, s1, s2, s3, s4, s5, s6⟩ := hSw; go_simp; first | done | with_reducible rfl)
      try simp only [Act.put, List.getElem_toArray, List.getElem_cons_succ, List.getElem_cons_zero, List.setIfInBounds_toArray, List.set_cons_zero, List.set_cons_succ]
      refine wpAnyH_take (i := 4) (v := ?vw4) rfl (by kernel_rfl) (by kernel_rfl) (by kernel_rfl) (fun _ _ _ h => h) (Or.inl ⟨by rfl, ?yw4⟩) hS0 ?rw4
      case yw4 => (intro W hSw; (try dsimp only at hSw); (try simp only [List.getElem_toArray, List.getElem_cons_succ, List.getElem_cons_zero]); obtain ⟨s0, s1, s2, s3, s4, s5, s6⟩ := hSw; go_simp; first | done | with_reducible rfl)
      try simp only [Act.put, List.getElem_toArray, List.getElem_cons_succ, List.getElem_cons_zero, List.setIfInBounds_toArray, List.set_cons_zero, List.set_cons_succ]
      refine wpAnyH_take (i := 5) (v := ?vw5) rfl (by kernel_rfl) (by kernel_rfl) (by kernel_rfl) (fun _ _ _ h => h) (Or.inl ⟨by rfl, ?yw5⟩) hS0 ?rw5
      case yw5 => (intro W hSw; (try dsimp only at hSw); (try simp only [List.getElem_toArray, List.getElem_cons_succ, List.getElem_cons_zero]); obtain ⟨s0, s1, s2, s3, s4, s5, s6⟩ := hSw; go_simp; first | done | with_reducible rfl)
      try simp only [Act.put, List.getElem_toArray, List.getElem_cons_succ, List.getElem_cons_zero, List.setIfInBounds_toArray, List.set_cons_zero, List.set_cons_succ]
      refine wpAnyH_take (i := 6) (v := ?vw6) rfl (by kernel_rfl) (by kernel_rfl) (by kernel_rfl) (fun _ _ _ h => h) (Or.inl ⟨by rfl, ?yw6⟩) hS0 ?rw6
      case yw6 => (intro W hSw; (try dsimp only at hSw); (try simp only [List.getElem_toArray, List.getElem_cons_succ, List.getElem_cons_zero]); obtain ⟨s0, s1, s2, s3, s4, s5, s6⟩ := hSw; go_simp; first | done | with_reducible rfl)
      try simp only [Act.put, List.getElem_toArray, List.getElem_cons_succ, List.getElem_cons_zero, List.setIfInBounds_toArray, List.set_cons_zero, List.set_cons_succ]
      refine wpAnyH_ready (rs := [7]) (by kernel_rfl) (by simp) ?_
      refine AllReadyH.cons rfl (fun K hK => ?_) AllReadyH.nil
      simp only [List.getElem_toArray, List.getElem_cons_succ, List.getElem_cons_zero]
      go_simp
      have KXF' : ((((((W8.setCell ⟨g, k * 6, none⟩ (.int .i64 y.r)).setCell ⟨g, k * 6 + 1, none⟩ (.int .i64 y.t)).setCell ⟨g, k * 6 + 2, none⟩ (.slice y.P y.X.length y.pc)).setCell ⟨g, k * 6 + 3, none⟩ (.bool true)).setCell ⟨g, k * 6 + 4, none⟩ (.slice V5 v.length c5)).setCell ⟨g, k * 6 + 5, none⟩ (.slice y.W y.vs.length y.wc)).heap[w2.heap.size]? = some (.cells #[.int .i64 y.r, .int .i64 y.t, .slice y.P y.X.length y.pc, .bool true, .slice V5 v.length c5, .slice y.W y.vs.length y.wc] 62) := six_far KX8.out hXg
      have c43F : ((((((W8.setCell ⟨g, k * 6, none⟩ (.int .i64 y.r)).setCell ⟨g, k * 6 + 1, none⟩ (.int .i64 y.t)).setCell ⟨g, k * 6 + 2, none⟩ (.slice y.P y.X.length y.pc)).setCell ⟨g, k * 6 + 3, none⟩ (.bool true)).setCell ⟨g, k * 6 + 4, none⟩ (.slice V5 v.length c5)).setCell ⟨g, k * 6 + 5, none⟩ (.slice y.W y.vs.length y.wc)).cell? ⟨B, 43, none⟩ = some (.slice (some ⟨g, 0, none⟩) rs.length rc) := (cell_of_heap (six_far_eq hBg) 43).trans c43
      refine hK.out _ _ (HSW.out ((((((W8.setCell ⟨g, k * 6, none⟩ (.int .i64 y.r)).setCell ⟨g, k * 6 + 1, none⟩ (.int .i64 y.t)).setCell ⟨g, k * 6 + 2, none⟩ (.slice y.P y.X.length y.pc)).setCell ⟨g, k * 6 + 3, none⟩ (.bool true)).setCell ⟨g, k * 6 + 4, none⟩ (.slice V5 v.length c5)).setCell ⟨g, k * 6 + 5, none⟩ (.slice y.W y.vs.length y.wc)).drew (drew_at KXF') (drew_cell c43F)) (fun hH2 => ?_)
      clear hK hH2
      refine wpAnyH_done (by kernel_rfl) ?_ _
      have HDF := hide ((HD8.out.setRnd hBg hkl (y := { y with has := true, V := V5, vc := c5, val := v }) rfl).drew)
      have hsF : ((((((W8.setCell ⟨g, k * 6, none⟩ (.int .i64 y.r)).setCell ⟨g, k * 6 + 1, none⟩ (.int .i64 y.t)).setCell ⟨g, k * 6 + 2, none⟩ (.slice y.P y.X.length y.pc)).setCell ⟨g, k * 6 + 3, none⟩ (.bool true)).setCell ⟨g, k * 6 + 4, none⟩ (.slice V5 v.length c5)).setCell ⟨g, k * 6 + 5, none⟩ (.slice y.W y.vs.length y.wc)).drew.heap.size = W8.heap.size := by simp [World.setCell]
      have RF := six_reads (j0 := k * 6) (j1 := k * 6 + 1) (j2 := k * 6 + 2) (j3 := k * 6 + 3) (j4 := k * 6 + 4) (j5 := k * 6 + 5) (u0 := .int .i64 y.r) (u1 := .int .i64 y.t) (u2 := .slice y.P y.X.length y.pc) (u3 := .bool true) (u4 := .slice V5 v.length c5) (u5 := .slice y.W y.vs.length y.wc) (b := g) HR8.out (fun a ha => by have := HP5.out a ha; omega)
      have RFd := RF.drew
      obtain ⟨o1, o2, o3, o4⟩ := HM.out.rr y HYM.out
      have FIN : Hid (Played w b0 B N (opChoose (abs all rs) N (lst ek rs.length).toNat) (.returned (.tuple #[])) ((((((W8.setCell ⟨g, k * 6, none⟩ (.int .i64 y.r)).setCell ⟨g, k * 6 + 1, none⟩ (.int .i64 y.t)).setCell ⟨g, k * 6 + 2, none⟩ (.slice y.P y.X.length y.pc)).setCell ⟨g, k * 6 + 3, none⟩ (.bool true)).setCell ⟨g, k * 6 + 4, none⟩ (.slice V5 v.length c5)).setCell ⟨g, k * 6 + 5, none⟩ (.slice y.W y.vs.length y.wc)).drew) := hide (by
        rw [HK.out, Int.toNat_natCast, ← choose_yes (V := V5) (vc := c5) HY.out (by rw [← HMM.out, hhas]; rfl), ← HV.out]
        refine ⟨rfl, g, all, _, rc, HDF.out.done HM.out HAL7 (fun x hx => .inl hx) (fun z hz => ?_), rfl, HDF.out.bel⟩
        rcases List.mem_or_eq_of_mem_set hz with h1 | h1
        · exact .inl h1
        · subst h1
          exact .inr ⟨o1.keep HDF.out.keep, fun x hx => (o2 x hx).keep HDF.out.keep, Aw.of RFd (fun a ha => by have := HP5.out a ha; omega), o4.keep HDF.out.keep⟩)
      go_wp2
      refine bodyPost_end (v := .tuple #[]) (by simp [results, Try.results20, go_sem]) rfl ?_
      exact FIN.out
    · rw [hhas] at r3
      have F := hide (HFIN.out (by rw [hhas]; rfl))
      clear hhas
      go_wp2
      refine bodyPost_end (v := .tuple #[]) (by simp [results, Try.results20, go_sem]) rfl ?_
      exact F.out

end Go.Proofs.Ytodlabpgjgbbpah
