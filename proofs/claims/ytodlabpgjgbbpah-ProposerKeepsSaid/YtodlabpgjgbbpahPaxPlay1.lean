/-
  What play does: arm 1 (a promise is asked for).
-/
import Derived.Test.YtodlabpgjgbbpahPaxMid
namespace Go.Proofs.Ytodlabpgjgbbpah
open Go.RowKit Go.Agio Go.Prp Go.Pax

theorem infoPm : (Try.prog.info? 34).map (fun i => (i.zero, i.size, i.bytes)) = some (some (.agg #[.int .i64 0, .bool false, .int .i64 0, .int .i64 0, .slice none 0 0]), 5, 56) := by kernel_rfl
theorem pats_one (X : List PAt) : ∀ u ∈ X.flatMap PAt.cells, u.oneCell' = true := fun u hu => by
  obtain ⟨x, _, h⟩ := List.mem_flatMap.1 hu
  exact pat_one x u h
theorem ask_no {all : List StA} {rs : List RnA} {k a : Nat} {lost ok : Bool} {q h : StA} {y : RnA} (hh : h = all.getD a sa0) (hy : y = rs.getD k ra0) (hq : q.s = Acc.prepare h.s y.r y.t) (hok : ok = Acc.prepareOk h.s y.r y.t) (hn : (ok && !lost) = false) :
    abs (all.set a q) rs = opAsk (abs all rs) k a lost := by
  unfold opAsk
  rw [abs_set, abs_rd, abs_ac, ← hh, ← hy, hq]
  show _ = (⟨_, if (Acc.prepareOk h.s y.r y.t && !lost) = true then _ else _⟩ : Sl)
  rw [← hok, hn, if_neg (by decide)]
  rfl
theorem ask_yes {all : List StA} {rs : List RnA} {k a : Nat} {q h : StA} {y : RnA} {m : PAt} {P : Option Addr} {pc : Nat} (hh : h = all.getD a sa0) (hy : y = rs.getD k ra0) (hq : q.s = Acc.prepare h.s y.r y.t) (hok : true = Acc.prepareOk h.s y.r y.t) (hm : m.p = told a h.s) :
    abs (all.set a q) (rs.set k { y with P := P, pc := pc, X := y.X ++ [m] }) = opAsk (abs all rs) k a false := by
  unfold opAsk
  rw [abs_put, abs_set, abs_rd, abs_ac, ← hh, ← hy, hq]
  show _ = (⟨_, if (Acc.prepareOk h.s y.r y.t && !false) = true then _ else _⟩ : Sl)
  rw [if_pos (by rw [← hok]; rfl)]
  unfold RnA.rn
  simp [hm]

theorem behind19 {w W6 wx w9 : World} {b0 B g : Nat} {n : Int} {all : List StA} {rs : List RnA} {rc : Nat} {A5 : Option Addr} {xs : List Value} {xb j : Nat} {v : Value} (hD : Mid w W6 b0 B g n all rs rc) (hR : Reads W6 A5 xs) (hw : wx = w9.setCell ⟨xb, j, none⟩ v) (hb : Below W6.heap.size W6 w9) (h0 : b0 ≤ W6.heap.size) (hB : xb ≠ B) (hg : xb ≠ g) (hx0 : b0 ≤ xb) (hw0 : w.heap.size ≤ xb) (hA : ∀ a, A5 = some a → a.block ≠ xb) :
    Mid w wx b0 B g n all rs rc ∧ Reads wx A5 xs ∧ W6.heap.size ≤ wx.heap.size := by
  subst hw
  exact ⟨(hD.below hb h0).other hw0 hB hg hx0 j v, (hR.below hb).keepset xb j v hA, by simpa [World.setCell] using hb.size⟩

set_option maxRecDepth 100000 in
set_option maxHeartbeats 8000000 in
theorem play1 (w : World) (b0 B g : Nat) (N : Nat) (all : List StA) (rs : List RnA) (rc : Nat) (ep ek ea : Int) (lost : Bool) (hM : Mem w b0 B g N all rs rc) (hN : 0 < N ∧ N ≤ 7) (hl : 0 < rs.length ∧ rs.length ≤ 1000)
    (_he1 : -9223372036854775808 ≤ ep ∧ ep ≤ 9223372036854775807) (he2 : -9223372036854775808 ≤ ek ∧ ek ≤ 9223372036854775807) (he3 : -9223372036854775808 ≤ ea ∧ ea ≤ 9223372036854775807) (hv : ∀ x ∈ all, x.s.val.length ≤ 140737488351232) (hx : ∀ y ∈ rs, y.X.length ≤ 1000000) :
    Calls Try.prog 20 #[.pointer (some ⟨B, 0, none⟩), .agg #[.int .i64 1, .int .i64 ep, .int .i64 ek, .int .i64 ea, .bool lost]] w (Played w b0 B N (opAsk (abs all rs) (lst ek rs.length).toNat (lst ea N).toNat lost)) := by
  have HV := hide hv; have HXL := hide hx
  clear hv hx
  have HM := hide hM
  obtain ⟨hN1, hN7⟩ := hN
  obtain ⟨hl1, hl2⟩ := hl
  have hal : all.length = 7 := hM.seven
  have HAL := hide hal
  clear hM hal
  go_enter Try.func20, Try.ntmps20
  go_wp2_with fail
  have hN := one_new w (.cells #[.int .i64 1, .int .i64 ep, .int .i64 ek, .int .i64 ea, .bool lost] 59)
  generalize w.alloc (.cells #[.int .i64 1, .int .i64 ep, .int .i64 ek, .int .i64 ea, .bool lost] 59) = W0 at *
  obtain ⟨KE, hs0, hb0⟩ := hN
  have HM0 := hide (HM.out.below hb0)
  have HB0 := hide hb0
  have KE := hide KE
  have CE := hide (five_hold KE.out)
  have CB := hide (slot_hold HM0.out)
  clear hb0
  obtain ⟨k, hk⟩ : ∃ k : Nat, lst ek rs.length = (k : Int) := ⟨(lst ek rs.length).toNat, by have := lst_range (n := ek) (m := rs.length) (by omega); omega⟩
  have hkl : k < rs.length := by have := lst_range (n := ek) (m := rs.length) (by omega); omega
  obtain ⟨a, ha⟩ : ∃ a : Nat, lst ea N = (a : Int) := ⟨(lst ea N).toNat, by have := lst_range (n := ea) (m := N) (by omega); omega⟩
  have haN : a < N := by have := lst_range (n := ea) (m := N) (by omega); omega
  have CK := hide (fun (W : World) (hW : Below W0.heap.size W0 W) => (least_any ek rs.length W (by omega) he2 (by omega)).mono (fun e w' h => (show e = .returned (.int .i64 k) ∧ Below W0.heap.size W0 w' from ⟨by rw [h.1, hk], h.2 ▸ hW⟩)))
  have CA := hide (fun (W : World) (hW : Below W0.heap.size W0 W) => (least_any ea N W (by omega) he3 (by omega)).mono (fun e w' h => (show e = .returned (.int .i64 a) ∧ Below W0.heap.size W0 w' from ⟨by rw [h.1, ha], h.2 ▸ hW⟩)))
  have HK := hide hk; have HA := hide ha
  clear hk ha
  have hd0 := (Below.refl W0.heap.size W0).drew
  refine wp_region_held_drew (S := fun W => Below W0.heap.size W0 W) (by kernel_rfl) hd0 (fun hH => ?_)
  refine wpAnyH_take (i := 0) (v := ?va0) rfl (by kernel_rfl) (by kernel_rfl) (by kernel_rfl) (fun _ _ _ h => h) (Or.inl ⟨by rfl, ?ya0⟩) hH ?ra0
  case ya0 => (intro W hSw; (try dsimp only at hSw); (try simp only [List.getElem_toArray, List.getElem_cons_zero]); obtain ⟨x0, x1, x2, x3, x4⟩ := CE.out W hSw; go_simp; first | done | with_reducible rfl)
  try simp only [Act.put, List.getElem_toArray, List.getElem_cons_zero, List.setIfInBounds_toArray, List.set_cons_zero, List.set_cons_succ]
  refine wpAnyH_take (i := 1) (v := ?va1) rfl (by kernel_rfl) (by kernel_rfl) (by kernel_rfl) (fun _ _ _ h => h) (Or.inl ⟨by rfl, ?ya1⟩) hH ?ra1
  case ya1 => (intro W hSw; (try dsimp only at hSw); (try simp only [List.getElem_toArray, List.getElem_cons_succ, List.getElem_cons_zero]); obtain ⟨x0, x1, x2, x3, x4⟩ := CE.out W hSw; go_simp; first | done | with_reducible rfl)
  try simp only [Act.put, List.getElem_toArray, List.getElem_cons_succ, List.getElem_cons_zero, List.setIfInBounds_toArray, List.set_cons_zero, List.set_cons_succ]
  refine wpAnyH_take (i := 2) (v := ?va2) rfl (by kernel_rfl) (by kernel_rfl) (by kernel_rfl) (fun _ _ _ h => h) (Or.inl ⟨by rfl, ?ya2⟩) hH ?ra2
  case ya2 => (intro W hSw; (try dsimp only at hSw); (try simp only [List.getElem_toArray, List.getElem_cons_succ, List.getElem_cons_zero]); obtain ⟨y0, y1⟩ := CB.out W hSw; go_simp; first | done | with_reducible rfl)
  try simp only [Act.put, List.getElem_toArray, List.getElem_cons_succ, List.getElem_cons_zero, List.setIfInBounds_toArray, List.set_cons_zero, List.set_cons_succ]
  refine wpAnyH_take (i := 3) (v := ?va3) rfl (by kernel_rfl) (by kernel_rfl) (by kernel_rfl) (fun _ _ _ h => h) (Or.inl ⟨by rfl, ?ya3⟩) hH ?ra3
  case ya3 => (intro W hSw; (try dsimp only at hSw); (try simp only [List.getElem_toArray, List.getElem_cons_succ, List.getElem_cons_zero]); obtain ⟨y0, y1⟩ := CB.out W hSw; go_simp; first | done | with_reducible rfl)
  try simp only [Act.put, List.getElem_toArray, List.getElem_cons_succ, List.getElem_cons_zero, List.setIfInBounds_toArray, List.set_cons_zero, List.set_cons_succ]
  refine wpAnyH_take (i := 4) (v := ?va4) rfl (by kernel_rfl) (by kernel_rfl) (by kernel_rfl) (fun _ _ _ h => h) (Or.inl ⟨by rfl, ?ya4⟩) hH ?ra4
  case ya4 => (intro W hSw; (try dsimp only at hSw); (try simp only [List.getElem_toArray, List.getElem_cons_succ, List.getElem_cons_zero]); obtain ⟨y0, y1⟩ := CB.out W hSw; go_simp; first | done | with_reducible rfl)
  try simp only [Act.put, List.getElem_toArray, List.getElem_cons_succ, List.getElem_cons_zero, List.setIfInBounds_toArray, List.set_cons_zero, List.set_cons_succ]
  refine wpAnyH_take (i := 5) (v := ?va5) rfl (by kernel_rfl) (by kernel_rfl) (by kernel_rfl) (fun _ _ _ h => h) (Or.inl ⟨by rfl, ?ya5⟩) hH ?ra5
  case ya5 => (intro W hSw; (try dsimp only at hSw); (try simp only [List.getElem_toArray, List.getElem_cons_succ, List.getElem_cons_zero]); obtain ⟨y0, y1⟩ := CB.out W hSw; go_simp; first | done | with_reducible rfl)
  try simp only [Act.put, List.getElem_toArray, List.getElem_cons_succ, List.getElem_cons_zero, List.setIfInBounds_toArray, List.set_cons_zero, List.set_cons_succ]
  refine wpAnyH_take (i := 6) (v := ?va6) rfl (by kernel_rfl) (by kernel_rfl) (by kernel_rfl) (fun _ _ _ h => h) (Or.inl ⟨by rfl, ?ya6⟩) hH ?ra6
  case ya6 => (intro W hSw; (try dsimp only at hSw); (try simp only [List.getElem_toArray, List.getElem_cons_succ, List.getElem_cons_zero]); obtain ⟨y0, y1⟩ := CB.out W hSw; go_simp; first | done | with_reducible rfl)
  try simp only [Act.put, List.getElem_toArray, List.getElem_cons_succ, List.getElem_cons_zero, List.setIfInBounds_toArray, List.set_cons_zero, List.set_cons_succ]
  refine wpAnyH_ready (rs := [7]) (by kernel_rfl) (by simp) ?_
  refine AllReadyH.cons rfl (fun K hK => ?_) AllReadyH.nil
  simp only [List.getElem_toArray, List.getElem_cons_succ, List.getElem_cons_zero]
  go_simp
  refine (CK.out _ hd0).mono ?_
  rintro e w1 ⟨rfl, hb1⟩
  refine hK.out _ _ hb1 (fun hH2 => ?_)
  clear hK hH2
  refine wpAnyH_take (i := 8) (v := ?va8) rfl (by kernel_rfl) (by kernel_rfl) (by kernel_rfl) (fun _ _ _ h => h) (Or.inl ⟨by rfl, ?ya8⟩) hb1 ?ra8
  case ya8 => (intro W hSw; (try dsimp only at hSw); (try simp only [List.getElem_toArray, List.getElem_cons_succ, List.getElem_cons_zero]); go_simp; first | done | with_reducible rfl)
  try simp only [Act.put, List.getElem_toArray, List.getElem_cons_succ, List.getElem_cons_zero, List.setIfInBounds_toArray, List.set_cons_zero, List.set_cons_succ]
  refine wpAnyH_done (by kernel_rfl) ?_ _
  go_wp2_with fail
  have hd1 := hb1.drew
  refine wp_region_held_drew (S := fun W => Below W0.heap.size W0 W) (by kernel_rfl) hd1 (fun hH => ?_)
  refine wpAnyH_take (i := 0) (v := ?vb0) rfl (by kernel_rfl) (by kernel_rfl) (by kernel_rfl) (fun _ _ _ h => h) (Or.inl ⟨by rfl, ?yb0⟩) hH ?rb0
  case yb0 => (intro W hSw; (try dsimp only at hSw); (try simp only [List.getElem_toArray, List.getElem_cons_zero]); obtain ⟨x0, x1, x2, x3, x4⟩ := CE.out W hSw; go_simp; first | done | with_reducible rfl)
  try simp only [Act.put, List.getElem_toArray, List.getElem_cons_zero, List.setIfInBounds_toArray, List.set_cons_zero, List.set_cons_succ]
  refine wpAnyH_take (i := 1) (v := ?vb1) rfl (by kernel_rfl) (by kernel_rfl) (by kernel_rfl) (fun _ _ _ h => h) (Or.inl ⟨by rfl, ?yb1⟩) hH ?rb1
  case yb1 => (intro W hSw; (try dsimp only at hSw); (try simp only [List.getElem_toArray, List.getElem_cons_succ, List.getElem_cons_zero]); obtain ⟨x0, x1, x2, x3, x4⟩ := CE.out W hSw; go_simp; first | done | with_reducible rfl)
  try simp only [Act.put, List.getElem_toArray, List.getElem_cons_succ, List.getElem_cons_zero, List.setIfInBounds_toArray, List.set_cons_zero, List.set_cons_succ]
  refine wpAnyH_take (i := 2) (v := ?vb2) rfl (by kernel_rfl) (by kernel_rfl) (by kernel_rfl) (fun _ _ _ h => h) (Or.inl ⟨by rfl, ?yb2⟩) hH ?rb2
  case yb2 => (intro W hSw; (try dsimp only at hSw); (try simp only [List.getElem_toArray, List.getElem_cons_succ, List.getElem_cons_zero]); obtain ⟨y0, y1⟩ := CB.out W hSw; go_simp; first | done | with_reducible rfl)
  try simp only [Act.put, List.getElem_toArray, List.getElem_cons_succ, List.getElem_cons_zero, List.setIfInBounds_toArray, List.set_cons_zero, List.set_cons_succ]
  refine wpAnyH_take (i := 3) (v := ?vb3) rfl (by kernel_rfl) (by kernel_rfl) (by kernel_rfl) (fun _ _ _ h => h) (Or.inl ⟨by rfl, ?yb3⟩) hH ?rb3
  case yb3 => (intro W hSw; (try dsimp only at hSw); (try simp only [List.getElem_toArray, List.getElem_cons_succ, List.getElem_cons_zero]); obtain ⟨y0, y1⟩ := CB.out W hSw; go_simp; first | done | with_reducible rfl)
  try simp only [Act.put, List.getElem_toArray, List.getElem_cons_succ, List.getElem_cons_zero, List.setIfInBounds_toArray, List.set_cons_zero, List.set_cons_succ]
  refine wpAnyH_take (i := 4) (v := ?vb4) rfl (by kernel_rfl) (by kernel_rfl) (by kernel_rfl) (fun _ _ _ h => h) (Or.inl ⟨by rfl, ?yb4⟩) hH ?rb4
  case yb4 => (intro W hSw; (try dsimp only at hSw); (try simp only [List.getElem_toArray, List.getElem_cons_succ, List.getElem_cons_zero]); obtain ⟨y0, y1⟩ := CB.out W hSw; go_simp; first | done | with_reducible rfl)
  try simp only [Act.put, List.getElem_toArray, List.getElem_cons_succ, List.getElem_cons_zero, List.setIfInBounds_toArray, List.set_cons_zero, List.set_cons_succ]
  refine wpAnyH_take (i := 5) (v := ?vb5) rfl (by kernel_rfl) (by kernel_rfl) (by kernel_rfl) (fun _ _ _ h => h) (Or.inl ⟨by rfl, ?yb5⟩) hH ?rb5
  case yb5 => (intro W hSw; (try dsimp only at hSw); (try simp only [List.getElem_toArray, List.getElem_cons_succ, List.getElem_cons_zero]); obtain ⟨y0, y1⟩ := CB.out W hSw; go_simp; first | done | with_reducible rfl)
  try simp only [Act.put, List.getElem_toArray, List.getElem_cons_succ, List.getElem_cons_zero, List.setIfInBounds_toArray, List.set_cons_zero, List.set_cons_succ]
  refine wpAnyH_ready (rs := [6]) (by kernel_rfl) (by simp) ?_
  refine AllReadyH.cons rfl (fun K hK => ?_) AllReadyH.nil
  simp only [List.getElem_toArray, List.getElem_cons_succ, List.getElem_cons_zero]
  go_simp
  refine (CA.out _ hd1).mono ?_
  rintro e w2 ⟨rfl, hb2⟩
  refine hK.out _ _ hb2 (fun hH2 => ?_)
  clear hK hH2
  refine wpAnyH_take (i := 7) (v := ?vb7) rfl (by kernel_rfl) (by kernel_rfl) (by kernel_rfl) (fun _ _ _ h => h) (Or.inl ⟨by rfl, ?yb7⟩) hb2 ?rb7
  case yb7 => (intro W hSw; (try dsimp only at hSw); (try simp only [List.getElem_toArray, List.getElem_cons_succ, List.getElem_cons_zero]); go_simp; first | done | with_reducible rfl)
  try simp only [Act.put, List.getElem_toArray, List.getElem_cons_succ, List.getElem_cons_zero, List.setIfInBounds_toArray, List.set_cons_zero, List.set_cons_succ]
  refine wpAnyH_done (by kernel_rfl) ?_ _
  obtain ⟨y0, y1⟩ := CB.out w2 hb2
  obtain ⟨x0, x1, x2, x3, x4⟩ := CE.out w2 hb2
  have HM2 := hide (HM0.out.below hb2)
  obtain ⟨z0, z1, z2, z3, z4, z5⟩ := rnd_hold HM2.out hkl
  obtain ⟨y, hy⟩ : ∃ y, y = rs.getD k ra0 := ⟨_, rfl⟩
  rw [← hy] at z0 z1 z2 z3 z4 z5
  have HY := hide hy
  have HYM := hide (show y ∈ rs from by rw [hy]; exact getD_mem hkl)
  have HB2 := hide (below_next HB0.out hb2)
  have KE2 := hide ((hb2.block _ (blk_lt KE.out)).trans KE.out)
  have hki : (k : Int) < (rs.length : Int) := by omega
  clear hd0 hd1 hb1 hb2 CK CA CE CB HM0 HB0 KE hy
  go_upto_region 4 with fail
  rw [HK.out, HA.out, Int.toNat_natCast, Int.toNat_natCast]
  have hgw := HM.out.glt.2
  have hBw := HM.out.blt
  have hN := one_new w2 (.cells #[.int .i64 y.r, .int .i64 y.t, .slice y.P y.X.length y.pc, .bool y.has, .slice y.V y.val.length y.vc, .slice y.W y.vs.length y.wc] 62)
  generalize w2.alloc (.cells #[.int .i64 y.r, .int .i64 y.t, .slice y.P y.X.length y.pc, .bool y.has, .slice y.V y.val.length y.vc, .slice y.W y.vs.length y.wc] 62) = W3 at *
  obtain ⟨KX, hs3, hb3⟩ := hN
  have HM3 := hide (HM2.out.below hb3)
  have KE3 := hide ((hb3.block _ (blk_lt KE2.out)).trans KE2.out)
  have HB3 := hide (below_next HB2.out hb3)
  have hXB := HB2.out.size
  have KX3 := hide KX
  clear x0 x1 x2 x3 x4 y0 y1 z0 z1 z2 z3 z4 z5 hb3 HM2 KE2 HB2 KX hs3
  obtain ⟨x0, x1, x2, x3, x4⟩ := five_at KE3.out
  have hal7 : a < all.length := by rw [HAL.out]; omega
  obtain ⟨h, hh⟩ : ∃ h, h = all.getD a sa0 := ⟨_, rfl⟩
  have HH := hide hh
  have HHM := hide (show h ∈ all from by rw [hh]; exact getD_mem hal7)
  clear hh
  obtain ⟨a0, a1, a2, a3, a4, a5⟩ := acc_at HM3.out hal7
  rw [← HH.out] at a0 a1 a2 a3 a4 a5
  have hB3 := HM3.out.blt
  have hai : (a : Int) < 7 := by omega
  go_upto_region 16 with fail
  have hN := one_new W3 (.cells #[.int .i64 h.s.pr, .int .i64 h.s.ps, .bool h.s.some, .int .i64 h.s.ar, .int .i64 h.s.as_, .slice h.at_ h.s.val.length h.cap] 51)
  generalize W3.alloc (.cells #[.int .i64 h.s.pr, .int .i64 h.s.ps, .bool h.s.some, .int .i64 h.s.ar, .int .i64 h.s.as_, .slice h.at_ h.s.val.length h.cap] 51) = W4 at *
  obtain ⟨KH, hs4, hb4⟩ := hN
  have HM4 := hide (HM3.out.below hb4)
  have KE4 := hide ((hb4.block _ (blk_lt KE3.out)).trans KE3.out)
  have KX4 := hide ((hb4.block _ (blk_lt KX3.out)).trans KX3.out)
  have KH4 := hide KH
  have HB4 := hide (below_next HB3.out hb4)
  have hw34 := hb4.size
  have hx3 := blk_lt KX3.out
  clear a0 a1 a2 a3 a4 a5 x0 x1 x2 x3 x4 KH hb4 hs4 HM3 KE3 KX3 HB3
  obtain ⟨t, ht⟩ : ∃ t, t = Acc.prepare h.s y.r y.t := ⟨_, rfl⟩
  obtain ⟨ok, hok⟩ : ∃ ok, ok = Acc.prepareOk h.s y.r y.t := ⟨_, rfl⟩
  have HT := hide ht; have HOK := hide hok
  clear ht hok
  have CA := hide (fun (W : World) (hW : Below W4.heap.size W4 W) => (show W.cell? ⟨B, 1 + a * 6, none⟩ = some (.int .i64 h.s.pr) ∧ W.cell? ⟨B, 1 + a * 6 + 1, none⟩ = some (.int .i64 h.s.ps) ∧ W.cell? ⟨B, 1 + a * 6 + 2, none⟩ = some (.bool h.s.some) ∧ W.cell? ⟨B, 1 + a * 6 + 3, none⟩ = some (.int .i64 h.s.ar) ∧ W.cell? ⟨B, 1 + a * 6 + 4, none⟩ = some (.int .i64 h.s.as_) ∧ W.cell? ⟨B, 1 + a * 6 + 5, none⟩ = some (.slice h.at_ h.s.val.length h.cap) from by rw [HH.out]; exact acc_at (HM4.out.below hW) hal7))
  have CX := hide (six_hold KX4.out)
  have CP := hide (fun (W : World) (hW : Below W4.heap.size W4 W) => prepare_any h.s h.at_ h.cap y.r y.t W (((HM4.out.ra h HHM.out).reads).below hW) (by have := HV.out h HHM.out; omega))
  unfold stv at CP
  rw [← HT.out, ← HOK.out] at CP
  go_cut [9, 10] (fun ut uo wx => ∃ tb A5 c5, ut = .pointer (some ⟨tb, 0, none⟩) ∧ uo = .bool ok ∧ wx.heap[tb]? = some (.cells (stc t.pr t.ps t.some t.ar t.as_ (.slice A5 t.val.length c5)) 51) ∧ W4.heap.size ≤ tb ∧ Reads wx A5 (bys t.val) ∧ (∀ a, A5 = some a → W4.heap.size ≤ a.block) ∧ Below W4.heap.size W4 wx)
  case first =>
    have hd0 := (Below.refl W4.heap.size W4).drew
    refine wp_region_held_drew (S := fun W => Below W4.heap.size W4 W) (by kernel_rfl) hd0 (fun hH => ?_)
    refine wpAnyH_take (i := 0) (v := ?vc0) rfl (by kernel_rfl) (by kernel_rfl) (by kernel_rfl) (fun _ _ _ h => h) (Or.inl ⟨by rfl, ?yc0⟩) hd0 ?rc0
    case yc0 => (intro W hSw; (try dsimp only at hSw); (try simp only [List.getElem_toArray, List.getElem_cons_zero]); obtain ⟨a0, a1, a2, a3, a4, a5⟩ := CA.out W hSw; obtain ⟨r0, r1, r2, r3, r4, r5⟩ := CX.out W hSw; go_simp; first | done | with_reducible rfl)
    try simp only [Act.put, List.getElem_toArray, List.getElem_cons_zero, List.setIfInBounds_toArray, List.set_cons_zero, List.set_cons_succ]
    refine wpAnyH_take (i := 1) (v := ?vc1) rfl (by kernel_rfl) (by kernel_rfl) (by kernel_rfl) (fun _ _ _ h => h) (Or.inl ⟨by rfl, ?yc1⟩) hd0 ?rc1
    case yc1 => (intro W hSw; (try dsimp only at hSw); (try simp only [List.getElem_toArray, List.getElem_cons_succ, List.getElem_cons_zero]); obtain ⟨a0, a1, a2, a3, a4, a5⟩ := CA.out W hSw; obtain ⟨r0, r1, r2, r3, r4, r5⟩ := CX.out W hSw; go_simp; first | done | with_reducible rfl)
    try simp only [Act.put, List.getElem_toArray, List.getElem_cons_succ, List.getElem_cons_zero, List.setIfInBounds_toArray, List.set_cons_zero, List.set_cons_succ]
    refine wpAnyH_take (i := 2) (v := ?vc2) rfl (by kernel_rfl) (by kernel_rfl) (by kernel_rfl) (fun _ _ _ h => h) (Or.inl ⟨by rfl, ?yc2⟩) hd0 ?rc2
    case yc2 => (intro W hSw; (try dsimp only at hSw); (try simp only [List.getElem_toArray, List.getElem_cons_succ, List.getElem_cons_zero]); obtain ⟨a0, a1, a2, a3, a4, a5⟩ := CA.out W hSw; obtain ⟨r0, r1, r2, r3, r4, r5⟩ := CX.out W hSw; go_simp; first | done | with_reducible rfl)
    try simp only [Act.put, List.getElem_toArray, List.getElem_cons_succ, List.getElem_cons_zero, List.setIfInBounds_toArray, List.set_cons_zero, List.set_cons_succ]
    refine wpAnyH_take (i := 3) (v := ?vc3) rfl (by kernel_rfl) (by kernel_rfl) (by kernel_rfl) (fun _ _ _ h => h) (Or.inl ⟨by rfl, ?yc3⟩) hd0 ?rc3
    case yc3 => (intro W hSw; (try dsimp only at hSw); (try simp only [List.getElem_toArray, List.getElem_cons_succ, List.getElem_cons_zero]); obtain ⟨a0, a1, a2, a3, a4, a5⟩ := CA.out W hSw; obtain ⟨r0, r1, r2, r3, r4, r5⟩ := CX.out W hSw; go_simp; first | done | with_reducible rfl)
    try simp only [Act.put, List.getElem_toArray, List.getElem_cons_succ, List.getElem_cons_zero, List.setIfInBounds_toArray, List.set_cons_zero, List.set_cons_succ]
    refine wpAnyH_take (i := 4) (v := ?vc4) rfl (by kernel_rfl) (by kernel_rfl) (by kernel_rfl) (fun _ _ _ h => h) (Or.inl ⟨by rfl, ?yc4⟩) hd0 ?rc4
    case yc4 => (intro W hSw; (try dsimp only at hSw); (try simp only [List.getElem_toArray, List.getElem_cons_succ, List.getElem_cons_zero]); obtain ⟨a0, a1, a2, a3, a4, a5⟩ := CA.out W hSw; obtain ⟨r0, r1, r2, r3, r4, r5⟩ := CX.out W hSw; go_simp; first | done | with_reducible rfl)
    try simp only [Act.put, List.getElem_toArray, List.getElem_cons_succ, List.getElem_cons_zero, List.setIfInBounds_toArray, List.set_cons_zero, List.set_cons_succ]
    refine wpAnyH_take (i := 5) (v := ?vc5) rfl (by kernel_rfl) (by kernel_rfl) (by kernel_rfl) (fun _ _ _ h => h) (Or.inl ⟨by rfl, ?yc5⟩) hd0 ?rc5
    case yc5 => (intro W hSw; (try dsimp only at hSw); (try simp only [List.getElem_toArray, List.getElem_cons_succ, List.getElem_cons_zero]); obtain ⟨a0, a1, a2, a3, a4, a5⟩ := CA.out W hSw; obtain ⟨r0, r1, r2, r3, r4, r5⟩ := CX.out W hSw; go_simp; first | done | with_reducible rfl)
    try simp only [Act.put, List.getElem_toArray, List.getElem_cons_succ, List.getElem_cons_zero, List.setIfInBounds_toArray, List.set_cons_zero, List.set_cons_succ]
    refine wpAnyH_take (i := 6) (v := ?vc6) rfl (by kernel_rfl) (by kernel_rfl) (by kernel_rfl) (fun _ _ _ h => h) (Or.inl ⟨by rfl, ?yc6⟩) hd0 ?rc6
    case yc6 => (intro W hSw; (try dsimp only at hSw); (try simp only [List.getElem_toArray, List.getElem_cons_succ, List.getElem_cons_zero]); obtain ⟨a0, a1, a2, a3, a4, a5⟩ := CA.out W hSw; obtain ⟨r0, r1, r2, r3, r4, r5⟩ := CX.out W hSw; go_simp; first | done | with_reducible rfl)
    try simp only [Act.put, List.getElem_toArray, List.getElem_cons_succ, List.getElem_cons_zero, List.setIfInBounds_toArray, List.set_cons_zero, List.set_cons_succ]
    refine wpAnyH_take (i := 7) (v := ?vc7) rfl (by kernel_rfl) (by kernel_rfl) (by kernel_rfl) (fun _ _ _ h => h) (Or.inl ⟨by rfl, ?yc7⟩) hd0 ?rc7
    case yc7 => (intro W hSw; (try dsimp only at hSw); (try simp only [List.getElem_toArray, List.getElem_cons_succ, List.getElem_cons_zero]); obtain ⟨a0, a1, a2, a3, a4, a5⟩ := CA.out W hSw; obtain ⟨r0, r1, r2, r3, r4, r5⟩ := CX.out W hSw; go_simp; first | done | with_reducible rfl)
    try simp only [Act.put, List.getElem_toArray, List.getElem_cons_succ, List.getElem_cons_zero, List.setIfInBounds_toArray, List.set_cons_zero, List.set_cons_succ]
    refine wpAnyH_ready (rs := [8, 12]) (by kernel_rfl) (by simp) ?_
    refine AllReadyH.cons rfl (fun K hK => ?_) (AllReadyH.cons rfl (fun K hK => ?_) AllReadyH.nil)
    · simp only [List.getElem_toArray, List.getElem_cons_succ, List.getElem_cons_zero]
      go_simp
      refine (CP.out _ hd0).mono ?_
      rintro e w5 ⟨A5, c5, rfl, R5, P5, hb5'⟩
      have hb5 := below_next hd0 hb5'

      refine hK.out _ _ hb5 (fun hH2 => ?_)
      clear hK hH2
      refine wpAnyH_take (i := 9) (v := ?vcA9) rfl (by kernel_rfl) (by kernel_rfl) (by kernel_rfl) (fun _ _ _ h => h) (Or.inl ⟨by rfl, ?ycA9⟩) hb5 ?rcA9
      case ycA9 => (intro W hSw; (try dsimp only at hSw); (try simp only [List.getElem_toArray, List.getElem_cons_succ, List.getElem_cons_zero]); go_simp; first | done | with_reducible rfl)
      try simp only [Act.put, List.getElem_toArray, List.getElem_cons_succ, List.getElem_cons_zero, List.setIfInBounds_toArray, List.set_cons_zero, List.set_cons_succ]
      refine wpAnyH_take (i := 10) (v := ?vcA10) rfl (by kernel_rfl) (by kernel_rfl) (by kernel_rfl) (fun _ _ _ h => h) (Or.inl ⟨by rfl, ?ycA10⟩) hb5 ?rcA10
      case ycA10 => (intro W hSw; (try dsimp only at hSw); (try simp only [List.getElem_toArray, List.getElem_cons_succ, List.getElem_cons_zero]); go_simp; first | done | with_reducible rfl)
      try simp only [Act.put, List.getElem_toArray, List.getElem_cons_succ, List.getElem_cons_zero, List.setIfInBounds_toArray, List.set_cons_zero, List.set_cons_succ]
      refine wpAnyH_take (i := 11) (v := ?vcA11) rfl (by kernel_rfl) (by kernel_rfl) (by kernel_rfl) (fun _ _ _ h => h) (Or.inl ⟨by rfl, ?ycA11⟩) hb5 ?rcA11
      case ycA11 => (intro W hSw; (try dsimp only at hSw); (try simp only [List.getElem_toArray, List.getElem_cons_succ, List.getElem_cons_zero]); go_simp; first | done | with_reducible rfl)
      try simp only [Act.put, List.getElem_toArray, List.getElem_cons_succ, List.getElem_cons_zero, List.setIfInBounds_toArray, List.set_cons_zero, List.set_cons_succ]
      refine wpAnyH_ready (rs := [12]) (by kernel_rfl) (by simp) ?_
      refine AllReadyH.cons rfl (fun K hK => ?_) AllReadyH.nil
      simp only [List.getElem_toArray, List.getElem_cons_succ, List.getElem_cons_zero]
      go_simp
      refine hK.out _ _ (hb5.alloc hb5.size (.cells #[.int .i64 0, .int .i64 0, .bool false, .int .i64 0, .int .i64 0, .slice none 0 0] 51)) (fun hH2 => ?_)
      clear hK hH2
      have K9 := heap_new w5 (.cells #[.int .i64 0, .int .i64 0, .bool false, .int .i64 0, .int .i64 0, .slice none 0 0] 51)
      obtain ⟨q0, q1, q2, q3, q4, q5⟩ := six_at K9
      obtain ⟨qf0, qf1, qf2, qf3, qf4, qf5⟩ := six_live K9
      refine wpAnyH_ready (rs := [13]) (by kernel_rfl) (by simp) ?_
      refine AllReadyH.cons rfl (fun K hK => ?_) AllReadyH.nil
      simp only [List.getElem_toArray, List.getElem_cons_succ, List.getElem_cons_zero]
      go_simp
      refine hK.out _ _ (hb5.alloc hb5.size (.cells (stc t.pr t.ps t.some t.ar t.as_ (.slice A5 t.val.length c5)) 51)) (fun hH2 => ?_)
      clear hK hH2
      refine wpAnyH_take (i := 14) (v := ?vcA14) rfl (by kernel_rfl) (by kernel_rfl) (by kernel_rfl) (fun _ _ _ h => h) (Or.inl ⟨by rfl, ?ycA14⟩) (hb5.alloc hb5.size (.cells (stc t.pr t.ps t.some t.ar t.as_ (.slice A5 t.val.length c5)) 51)) ?rcA14
      case ycA14 => (intro W hSw; (try dsimp only at hSw); (try simp only [List.getElem_toArray, List.getElem_cons_succ, List.getElem_cons_zero]); go_simp; first | done | with_reducible rfl)
      try simp only [Act.put, List.getElem_toArray, List.getElem_cons_succ, List.getElem_cons_zero, List.setIfInBounds_toArray, List.set_cons_zero, List.set_cons_succ]
      refine wpAnyH_done (by kernel_rfl) ?_ _
      go_wp2
      go_meet
      case rel => exact ⟨_, A5, c5, rfl, rfl, heap_new _ _, hb5.size, R5.alloc _, (fun a ha => P5 a ha), hb5.alloc hb5.size _⟩
    · simp only [List.getElem_toArray, List.getElem_cons_succ, List.getElem_cons_zero]
      go_simp
      refine hK.out _ _ (hd0.alloc (Nat.le_refl _) (.cells #[.int .i64 0, .int .i64 0, .bool false, .int .i64 0, .int .i64 0, .slice none 0 0] 51)) (fun hH2 => ?_)
      clear hK hH2
      refine wpAnyH_ready (rs := [8]) (by kernel_rfl) (by simp) ?_
      refine AllReadyH.cons rfl (fun K hK => ?_) AllReadyH.nil
      simp only [List.getElem_toArray, List.getElem_cons_succ, List.getElem_cons_zero]
      go_simp
      refine (CP.out _ (hd0.alloc (Nat.le_refl _) (.cells #[.int .i64 0, .int .i64 0, .bool false, .int .i64 0, .int .i64 0, .slice none 0 0] 51))).mono ?_
      rintro e w5 ⟨A5, c5, rfl, R5, P5, hb5'⟩
      have hb5 := below_next (hd0.alloc (Nat.le_refl _) (.cells #[.int .i64 0, .int .i64 0, .bool false, .int .i64 0, .int .i64 0, .slice none 0 0] 51)) hb5'
      have K9 := (hb5'.block W4.heap.size (by simp)).trans (heap_new W4.drew (.cells #[.int .i64 0, .int .i64 0, .bool false, .int .i64 0, .int .i64 0, .slice none 0 0] 51))
      refine hK.out _ _ hb5 (fun hH2 => ?_)
      clear hK hH2
      refine wpAnyH_take (i := 9) (v := ?vcB9) rfl (by kernel_rfl) (by kernel_rfl) (by kernel_rfl) (fun _ _ _ h => h) (Or.inl ⟨by rfl, ?ycB9⟩) hb5 ?rcB9
      case ycB9 => (intro W hSw; (try dsimp only at hSw); (try simp only [List.getElem_toArray, List.getElem_cons_succ, List.getElem_cons_zero]); go_simp; first | done | with_reducible rfl)
      try simp only [Act.put, List.getElem_toArray, List.getElem_cons_succ, List.getElem_cons_zero, List.setIfInBounds_toArray, List.set_cons_zero, List.set_cons_succ]
      refine wpAnyH_take (i := 10) (v := ?vcB10) rfl (by kernel_rfl) (by kernel_rfl) (by kernel_rfl) (fun _ _ _ h => h) (Or.inl ⟨by rfl, ?ycB10⟩) hb5 ?rcB10
      case ycB10 => (intro W hSw; (try dsimp only at hSw); (try simp only [List.getElem_toArray, List.getElem_cons_succ, List.getElem_cons_zero]); go_simp; first | done | with_reducible rfl)
      try simp only [Act.put, List.getElem_toArray, List.getElem_cons_succ, List.getElem_cons_zero, List.setIfInBounds_toArray, List.set_cons_zero, List.set_cons_succ]
      refine wpAnyH_take (i := 11) (v := ?vcB11) rfl (by kernel_rfl) (by kernel_rfl) (by kernel_rfl) (fun _ _ _ h => h) (Or.inl ⟨by rfl, ?ycB11⟩) hb5 ?rcB11
      case ycB11 => (intro W hSw; (try dsimp only at hSw); (try simp only [List.getElem_toArray, List.getElem_cons_succ, List.getElem_cons_zero]); go_simp; first | done | with_reducible rfl)
      try simp only [Act.put, List.getElem_toArray, List.getElem_cons_succ, List.getElem_cons_zero, List.setIfInBounds_toArray, List.set_cons_zero, List.set_cons_succ]
      obtain ⟨q0, q1, q2, q3, q4, q5⟩ := six_at K9
      obtain ⟨qf0, qf1, qf2, qf3, qf4, qf5⟩ := six_live K9
      have PS := put_six K9 hb5 (Nat.le_refl _) (.int .i64 t.pr) (.int .i64 t.ps) (.bool t.some) (.int .i64 t.ar) (.int .i64 t.as_) (.slice A5 t.val.length c5)
      refine wpAnyH_ready (rs := [13]) (by kernel_rfl) (by simp) ?_
      refine AllReadyH.cons rfl (fun K hK => ?_) AllReadyH.nil
      simp only [List.getElem_toArray, List.getElem_cons_succ, List.getElem_cons_zero]
      go_simp
      refine hK.out _ _ PS.2 (fun hH2 => ?_)
      clear hK hH2
      refine wpAnyH_take (i := 14) (v := ?vcB14) rfl (by kernel_rfl) (by kernel_rfl) (by kernel_rfl) (fun _ _ _ h => h) (Or.inl ⟨by rfl, ?ycB14⟩) PS.2 ?rcB14
      case ycB14 => (intro W hSw; (try dsimp only at hSw); (try simp only [List.getElem_toArray, List.getElem_cons_succ, List.getElem_cons_zero]); go_simp; first | done | with_reducible rfl)
      try simp only [Act.put, List.getElem_toArray, List.getElem_cons_succ, List.getElem_cons_zero, List.setIfInBounds_toArray, List.set_cons_zero, List.set_cons_succ]
      refine wpAnyH_done (by kernel_rfl) ?_ _
      go_wp2
      go_meet
      case rel => exact ⟨_, A5, c5, rfl, rfl, PS.1, Nat.le_refl _, six_reads R5 (fun a ha => by have := P5 a ha; simp at this; omega), (fun a ha => by have := P5 a ha; simp at this; omega), PS.2⟩
  obtain ⟨tb, A5, c5, rfl, rfl, KT, htb, R5, P5, hb5⟩ := hcut
  have HB5 := hide (below_next HB4.out hb5)
  have HD5 := hide (HM.out.mid HB5.out)
  have KE5 := hide ((hb5.block _ (blk_lt KE4.out)).trans KE4.out)
  have KX5 := hide ((hb5.block _ (blk_lt KX4.out)).trans KX4.out)
  have KH5 := hide ((hb5.block _ (blk_lt KH4.out)).trans KH4.out)

  have HR5 := hide R5; have HP5 := hide P5
  have hw45 := hb5.size
  have htl := blk_lt KT
  have HKT := hide KT
  clear HM4 KE4 KX4 KH4 CA CX CP hb5 R5 P5 KT
  go_upto_region 17 with fail
  obtain ⟨a0, a1, a2, a3, a4, a5⟩ := mid_acc HD5.out hal7
  have fl := fun j => live HD5.out.blk j
  have f0 := fl (1 + a * 6); have f1 := fl (1 + a * 6 + 1); have f2 := fl (1 + a * 6 + 2); have f3 := fl (1 + a * 6 + 3); have f4 := fl (1 + a * 6 + 4); have f5 := fl (1 + a * 6 + 5)
  clear fl
  have hw04 := HB4.out.size
  have hBtb : ¬ B = tb := by omega
  have hBtb' : ¬ tb = B := by omega
  have hd5 := (Below.refl wc.heap.size wc).drew
  refine wp_region_held_drew (S := fun W => W.cell? ⟨tb, 0, none⟩ = some (.int .i64 t.pr) ∧ W.cell? ⟨tb, 1, none⟩ = some (.int .i64 t.ps) ∧ W.cell? ⟨tb, 2, none⟩ = some (.bool t.some) ∧ W.cell? ⟨tb, 3, none⟩ = some (.int .i64 t.ar) ∧ W.cell? ⟨tb, 4, none⟩ = some (.int .i64 t.as_) ∧ W.cell? ⟨tb, 5, none⟩ = some (.slice A5 t.val.length c5)) (by kernel_rfl) (six_hold HKT.out _ hd5) (fun hH => ?_)
  refine wpAnyH_take (i := 0) (v := ?vt0) rfl (by kernel_rfl) (by kernel_rfl) (by kernel_rfl) (fun _ _ _ h => h) (Or.inl ⟨by rfl, ?yt0⟩) (six_hold HKT.out _ hd5) ?rt0
  case yt0 => (intro W hSw; (try dsimp only at hSw); (try simp only [List.getElem_toArray, List.getElem_cons_zero]); obtain ⟨q0, q1, q2, q3, q4, q5⟩ := hSw; go_simp; first | done | with_reducible rfl)
  try simp only [Act.put, List.getElem_toArray, List.getElem_cons_zero, List.setIfInBounds_toArray, List.set_cons_zero, List.set_cons_succ]
  refine wpAnyH_take (i := 1) (v := ?vt1) rfl (by kernel_rfl) (by kernel_rfl) (by kernel_rfl) (fun _ _ _ h => h) (Or.inl ⟨by rfl, ?yt1⟩) (six_hold HKT.out _ hd5) ?rt1
  case yt1 => (intro W hSw; (try dsimp only at hSw); (try simp only [List.getElem_toArray, List.getElem_cons_succ, List.getElem_cons_zero]); obtain ⟨q0, q1, q2, q3, q4, q5⟩ := hSw; go_simp; first | done | with_reducible rfl)
  try simp only [Act.put, List.getElem_toArray, List.getElem_cons_succ, List.getElem_cons_zero, List.setIfInBounds_toArray, List.set_cons_zero, List.set_cons_succ]
  refine wpAnyH_take (i := 2) (v := ?vt2) rfl (by kernel_rfl) (by kernel_rfl) (by kernel_rfl) (fun _ _ _ h => h) (Or.inl ⟨by rfl, ?yt2⟩) (six_hold HKT.out _ hd5) ?rt2
  case yt2 => (intro W hSw; (try dsimp only at hSw); (try simp only [List.getElem_toArray, List.getElem_cons_succ, List.getElem_cons_zero]); obtain ⟨q0, q1, q2, q3, q4, q5⟩ := hSw; go_simp; first | done | with_reducible rfl)
  try simp only [Act.put, List.getElem_toArray, List.getElem_cons_succ, List.getElem_cons_zero, List.setIfInBounds_toArray, List.set_cons_zero, List.set_cons_succ]
  refine wpAnyH_take (i := 3) (v := ?vt3) rfl (by kernel_rfl) (by kernel_rfl) (by kernel_rfl) (fun _ _ _ h => h) (Or.inl ⟨by rfl, ?yt3⟩) (six_hold HKT.out _ hd5) ?rt3
  case yt3 => (intro W hSw; (try dsimp only at hSw); (try simp only [List.getElem_toArray, List.getElem_cons_succ, List.getElem_cons_zero]); obtain ⟨q0, q1, q2, q3, q4, q5⟩ := hSw; go_simp; first | done | with_reducible rfl)
  try simp only [Act.put, List.getElem_toArray, List.getElem_cons_succ, List.getElem_cons_zero, List.setIfInBounds_toArray, List.set_cons_zero, List.set_cons_succ]
  refine wpAnyH_take (i := 4) (v := ?vt4) rfl (by kernel_rfl) (by kernel_rfl) (by kernel_rfl) (fun _ _ _ h => h) (Or.inl ⟨by rfl, ?yt4⟩) (six_hold HKT.out _ hd5) ?rt4
  case yt4 => (intro W hSw; (try dsimp only at hSw); (try simp only [List.getElem_toArray, List.getElem_cons_succ, List.getElem_cons_zero]); obtain ⟨q0, q1, q2, q3, q4, q5⟩ := hSw; go_simp; first | done | with_reducible rfl)
  try simp only [Act.put, List.getElem_toArray, List.getElem_cons_succ, List.getElem_cons_zero, List.setIfInBounds_toArray, List.set_cons_zero, List.set_cons_succ]
  refine wpAnyH_take (i := 5) (v := ?vt5) rfl (by kernel_rfl) (by kernel_rfl) (by kernel_rfl) (fun _ _ _ h => h) (Or.inl ⟨by rfl, ?yt5⟩) (six_hold HKT.out _ hd5) ?rt5
  case yt5 => (intro W hSw; (try dsimp only at hSw); (try simp only [List.getElem_toArray, List.getElem_cons_succ, List.getElem_cons_zero]); obtain ⟨q0, q1, q2, q3, q4, q5⟩ := hSw; go_simp; first | done | with_reducible rfl)
  try simp only [Act.put, List.getElem_toArray, List.getElem_cons_succ, List.getElem_cons_zero, List.setIfInBounds_toArray, List.set_cons_zero, List.set_cons_succ]
  refine wpAnyH_ready (rs := [6]) (by kernel_rfl) (by simp) ?_
  refine AllReadyH.cons rfl (fun K hK => ?_) AllReadyH.nil
  simp only [List.getElem_toArray, List.getElem_cons_succ, List.getElem_cons_zero]
  go_simp
  have KT6' : ((((((wc.setCell ⟨B, 1 + a * 6, none⟩ (.int .i64 t.pr)).setCell ⟨B, 1 + a * 6 + 1, none⟩ (.int .i64 t.ps)).setCell ⟨B, 1 + a * 6 + 2, none⟩ (.bool t.some)).setCell ⟨B, 1 + a * 6 + 3, none⟩ (.int .i64 t.ar)).setCell ⟨B, 1 + a * 6 + 4, none⟩ (.int .i64 t.as_)).setCell ⟨B, 1 + a * 6 + 5, none⟩ (.slice A5 t.val.length c5)).heap[tb]? = some (.cells (stc t.pr t.ps t.some t.ar t.as_ (.slice A5 t.val.length c5)) 51) := six_far HKT.out hBtb'
  have KT6 : ((((((wc.setCell ⟨B, 1 + a * 6, none⟩ (.int .i64 t.pr)).setCell ⟨B, 1 + a * 6 + 1, none⟩ (.int .i64 t.ps)).setCell ⟨B, 1 + a * 6 + 2, none⟩ (.bool t.some)).setCell ⟨B, 1 + a * 6 + 3, none⟩ (.int .i64 t.ar)).setCell ⟨B, 1 + a * 6 + 4, none⟩ (.int .i64 t.as_)).setCell ⟨B, 1 + a * 6 + 5, none⟩ (.slice A5 t.val.length c5)).drew.heap[tb]? = some (.cells (stc t.pr t.ps t.some t.ar t.as_ (.slice A5 t.val.length c5)) 51) := drew_at KT6'
  clear KT6'
  refine hK.out _ _ (six_at KT6) (fun hH2 => ?_)
  clear hK hH2
  refine wpAnyH_done (by kernel_rfl) ?_ _
  have HD6 := hide ((HD5.out.setAcc HM.out.base HM.out.apart hal7 (q := ⟨t, A5, c5⟩) rfl).drew)
  have hs6 : ((((((wc.setCell ⟨B, 1 + a * 6, none⟩ (.int .i64 t.pr)).setCell ⟨B, 1 + a * 6 + 1, none⟩ (.int .i64 t.ps)).setCell ⟨B, 1 + a * 6 + 2, none⟩ (.bool t.some)).setCell ⟨B, 1 + a * 6 + 3, none⟩ (.int .i64 t.ar)).setCell ⟨B, 1 + a * 6 + 4, none⟩ (.int .i64 t.as_)).setCell ⟨B, 1 + a * 6 + 5, none⟩ (.slice A5 t.val.length c5)).drew.heap.size = wc.heap.size := by simp [World.setCell]
  have hne : ∀ p, w.heap.size ≤ p → p ≠ B := fun p hp => by omega
  have KE6 := hide (drew_at (six_far (j0 := 1 + a * 6) (j1 := 1 + a * 6 + 1) (j2 := 1 + a * 6 + 2) (j3 := 1 + a * 6 + 3) (j4 := 1 + a * 6 + 4) (j5 := 1 + a * 6 + 5) (u0 := .int .i64 t.pr) (u1 := .int .i64 t.ps) (u2 := .bool t.some) (u3 := .int .i64 t.ar) (u4 := .int .i64 t.as_) (u5 := .slice A5 t.val.length c5) KE5.out (hne _ (by omega))))
  have KX6 := hide (drew_at (six_far (j0 := 1 + a * 6) (j1 := 1 + a * 6 + 1) (j2 := 1 + a * 6 + 2) (j3 := 1 + a * 6 + 3) (j4 := 1 + a * 6 + 4) (j5 := 1 + a * 6 + 5) (u0 := .int .i64 t.pr) (u1 := .int .i64 t.ps) (u2 := .bool t.some) (u3 := .int .i64 t.ar) (u4 := .int .i64 t.as_) (u5 := .slice A5 t.val.length c5) KX5.out (hne _ (by omega))))
  have KH6 := hide (drew_at (six_far (j0 := 1 + a * 6) (j1 := 1 + a * 6 + 1) (j2 := 1 + a * 6 + 2) (j3 := 1 + a * 6 + 3) (j4 := 1 + a * 6 + 4) (j5 := 1 + a * 6 + 5) (u0 := .int .i64 t.pr) (u1 := .int .i64 t.ps) (u2 := .bool t.some) (u3 := .int .i64 t.ar) (u4 := .int .i64 t.as_) (u5 := .slice A5 t.val.length c5) KH5.out (hne _ (by omega))))
  have HR6 := hide (Reads.drew (six_reads (j0 := 1 + a * 6) (j1 := 1 + a * 6 + 1) (j2 := 1 + a * 6 + 2) (j3 := 1 + a * 6 + 3) (j4 := 1 + a * 6 + 4) (j5 := 1 + a * 6 + 5) (u0 := .int .i64 t.pr) (u1 := .int .i64 t.ps) (u2 := .bool t.some) (u3 := .int .i64 t.ar) (u4 := .int .i64 t.as_) (u5 := .slice A5 t.val.length c5) (b := B) HR5.out (fun a ha => hne _ (Nat.le_trans (by omega) (HP5.out a ha)))))
  have hwc0 := HB5.out.size
  clear a0 a1 a2 a3 a4 a5 f0 f1 f2 f3 f4 f5 KT6 hd5 HD5 KE5 KX5 KH5 HR5 HKT
  generalize ((((((wc.setCell ⟨B, 1 + a * 6, none⟩ (.int .i64 t.pr)).setCell ⟨B, 1 + a * 6 + 1, none⟩ (.int .i64 t.ps)).setCell ⟨B, 1 + a * 6 + 2, none⟩ (.bool t.some)).setCell ⟨B, 1 + a * 6 + 3, none⟩ (.int .i64 t.ar)).setCell ⟨B, 1 + a * 6 + 4, none⟩ (.int .i64 t.as_)).setCell ⟨B, 1 + a * 6 + 5, none⟩ (.slice A5 t.val.length c5)).drew = W6 at *
  obtain ⟨x0, x1, x2, x3, x4⟩ := five_at KE6.out
  have HBW : Hid (b0 ≤ w.heap.size) := hide (Nat.le_trans HM.out.base (Nat.le_of_lt hBw))
  have HA5 := hide (fun x (hx : x ∈ all.set a ⟨t, A5, c5⟩) => (show x ∈ all ∨ Aw W6 B g x.at_ (bys x.s.val) from by
    rcases List.mem_or_eq_of_mem_set hx with h1 | h1
    · exact .inl h1
    · subst h1
      exact .inr (Aw.of HR6.out (fun a ha => by have := HP5.out a ha; omega))))
  have hfin : ∀ (hn : (ok && !lost) = false), Played w b0 B N (opAsk (abs all rs) (lst ek rs.length).toNat (lst ea N).toNat lost) (.returned (.tuple #[])) W6 := fun hn => by
    rw [HK.out, HA.out, Int.toNat_natCast, Int.toNat_natCast]
    exact ⟨rfl, g, all.set a ⟨t, A5, c5⟩, rs, rc, HD6.out.done HM.out (by simp [HAL.out]) HA5.out (fun y hy => .inl hy), ask_no HH.out HY.out HT.out HOK.out hn, HD6.out.bel⟩
  have HFIN := hide hfin
  clear hfin
  cases ok
  · have F := hide (HFIN.out rfl)
    go_wp2
    refine bodyPost_end (v := .tuple #[]) (by simp [results, Try.results20, go_sem]) rfl ?_
    exact F.out
  · cases lost
    · go_upto_region 19 with fail
      obtain ⟨i0, hi, hz0, hz1, hz2⟩ := info_parts infoPm
      go_cut [10] (fun u wx => u = .bool true ∧ ∃ P9 p9, wx.heap[w2.heap.size]? = some (.cells #[.int .i64 y.r, .int .i64 y.t, .slice P9 (y.X.length + 1) p9, .bool y.has, .slice y.V y.val.length y.vc, .slice y.W y.vs.length y.wc] 62) ∧ Reads wx P9 (y.X.flatMap PAt.cells ++ PAt.cells ⟨told a h.s, h.at_, h.cap⟩) ∧ (∀ a, P9 = some a → W6.heap.size ≤ a.block) ∧ ∃ w9 v, wx = w9.setCell ⟨w2.heap.size, 2, none⟩ v ∧ Below W6.heap.size W6 w9)
      case first =>
        try clear x0
        try clear x1
        try clear x2
        try clear x3
        try clear x4
        try clear HFIN
        try clear HA5
        try clear hki
        try clear hai
        try clear HT
        try clear HOK
        try clear HR6
        try clear KE6
        have KHd := drew_at KH6.out
        have RPd := hide ((((HM.out.rr y HYM.out).1).keep HD6.out.keep).reads.drew)
        have hd0 := (Below.refl W6.heap.size W6).drew
        have HKXd := hide (drew_at KX6.out)
        have hsz := hide (show W6.drew.heap.size = W6.heap.size from rfl)
        have hx6 := blk_lt KX6.out
        have hh6 := blk_lt KH6.out
        have hXL := HXL.out y HYM.out
        have hXne : ¬ W3.heap.size = w2.heap.size := by omega
        have hXW : w2.heap.size < W6.heap.size := hx6
        try clear he2
        try clear he3
        try clear _he1
        try clear hN1
        try clear hN7
        try clear hl1
        try clear hl2
        try clear haN
        try clear hkl
        try clear hal7
        try clear hw34
        try clear hw45
        try clear hwc0
        try clear hw04
        try clear htb
        try clear htl
        try clear hs6
        try clear hB5
        try clear hx3
        try clear hXB
        try clear hBtb
        try clear hBtb'
        try clear hgw
        try clear hBw
        try clear hne
        try clear hB3
        have hne2 : ∀ W : World, (W.heap[W3.heap.size]? = some (.cells #[.int .i64 h.s.pr, .int .i64 h.s.ps, .bool h.s.some, .int .i64 h.s.ar, .int .i64 h.s.as_, .slice h.at_ h.s.val.length h.cap] 51)) → (W.cell? ⟨W3.heap.size, 2, none⟩ = some (.bool h.s.some) ∧ W.cell? ⟨W3.heap.size, 3, none⟩ = some (.int .i64 h.s.ar) ∧ W.cell? ⟨W3.heap.size, 4, none⟩ = some (.int .i64 h.s.as_) ∧ W.cell? ⟨W3.heap.size, 5, none⟩ = some (.slice h.at_ h.s.val.length h.cap)) := fun W hW => ⟨(six_at hW).2.2.1, (six_at hW).2.2.2.1, (six_at hW).2.2.2.2.1, (six_at hW).2.2.2.2.2⟩
        have HNE := hide hne2
        clear hne2
        refine wp_region_held_drew (S := fun W => W.cell? ⟨W3.heap.size, 2, none⟩ = some (.bool h.s.some) ∧ W.cell? ⟨W3.heap.size, 3, none⟩ = some (.int .i64 h.s.ar) ∧ W.cell? ⟨W3.heap.size, 4, none⟩ = some (.int .i64 h.s.as_) ∧ W.cell? ⟨W3.heap.size, 5, none⟩ = some (.slice h.at_ h.s.val.length h.cap)) (by kernel_rfl) (HNE.out _ KHd) (fun hH => ?_)
        have SHp := hide (fun (W : World) (hW : Below W6.heap.size W6 W) => HNE.out W ((hW.block _ hh6).trans KH6.out))
        have SHd := SHp.out _ hd0
        have RP7 := hide (fun (W : World) (hW : Below W6.heap.size W6 W) => (show Reads W y.P (y.X.flatMap PAt.cells) from ((((HM.out.rr y HYM.out).1).keep HD6.out.keep).reads.below hW)))
        generalize W6.drew = W7 at *
        refine wpAnyH_take (i := 1) (v := ?vg1) rfl (by kernel_rfl) (by kernel_rfl) (by kernel_rfl) (fun _ _ _ h => h) (Or.inl ⟨by rfl, ?yg1⟩) SHd ?rg1
        case yg1 => (intro W hSw; (try dsimp only at hSw); (try simp only [List.getElem_toArray, List.getElem_cons_succ, List.getElem_cons_zero]); obtain ⟨q2, q3, q4, q5⟩ := hSw; go_simp; first | done | with_reducible rfl)
        try simp only [Act.put, List.getElem_toArray, List.getElem_cons_succ, List.getElem_cons_zero, List.setIfInBounds_toArray, List.set_cons_zero, List.set_cons_succ]
        refine wpAnyH_take (i := 4) (v := ?vg4) rfl (by kernel_rfl) (by kernel_rfl) (by kernel_rfl) (fun _ _ _ h => h) (Or.inl ⟨by rfl, ?yg4⟩) SHd ?rg4
        case yg4 => (intro W hSw; (try dsimp only at hSw); (try simp only [List.getElem_toArray, List.getElem_cons_succ, List.getElem_cons_zero]); obtain ⟨q2, q3, q4, q5⟩ := hSw; go_simp; first | done | with_reducible rfl)
        try simp only [Act.put, List.getElem_toArray, List.getElem_cons_succ, List.getElem_cons_zero, List.setIfInBounds_toArray, List.set_cons_zero, List.set_cons_succ]
        refine wpAnyH_take (i := 5) (v := ?vg5) rfl (by kernel_rfl) (by kernel_rfl) (by kernel_rfl) (fun _ _ _ h => h) (Or.inl ⟨by rfl, ?yg5⟩) SHd ?rg5
        case yg5 => (intro W hSw; (try dsimp only at hSw); (try simp only [List.getElem_toArray, List.getElem_cons_succ, List.getElem_cons_zero]); obtain ⟨q2, q3, q4, q5⟩ := hSw; go_simp; first | done | with_reducible rfl)
        try simp only [Act.put, List.getElem_toArray, List.getElem_cons_succ, List.getElem_cons_zero, List.setIfInBounds_toArray, List.set_cons_zero, List.set_cons_succ]
        refine wpAnyH_take (i := 6) (v := ?vg6) rfl (by kernel_rfl) (by kernel_rfl) (by kernel_rfl) (fun _ _ _ h => h) (Or.inl ⟨by rfl, ?yg6⟩) SHd ?rg6
        case yg6 => (intro W hSw; (try dsimp only at hSw); (try simp only [List.getElem_toArray, List.getElem_cons_succ, List.getElem_cons_zero]); obtain ⟨q2, q3, q4, q5⟩ := hSw; go_simp; first | done | with_reducible rfl)
        try simp only [Act.put, List.getElem_toArray, List.getElem_cons_succ, List.getElem_cons_zero, List.setIfInBounds_toArray, List.set_cons_zero, List.set_cons_succ]
        refine wpAnyH_take (i := 7) (v := ?vg7) rfl (by kernel_rfl) (by kernel_rfl) (by kernel_rfl) (fun _ _ _ h => h) (Or.inl ⟨by rfl, ?yg7⟩) SHd ?rg7
        case yg7 => (intro W hSw; (try dsimp only at hSw); (try simp only [List.getElem_toArray, List.getElem_cons_succ, List.getElem_cons_zero]); obtain ⟨q2, q3, q4, q5⟩ := hSw; go_simp; first | done | with_reducible rfl)
        try simp only [Act.put, List.getElem_toArray, List.getElem_cons_succ, List.getElem_cons_zero, List.setIfInBounds_toArray, List.set_cons_zero, List.set_cons_succ]
        refine wpAnyH_take (i := 8) (v := ?vg8) rfl (by kernel_rfl) (by kernel_rfl) (by kernel_rfl) (fun _ _ _ h => h) (Or.inl ⟨by rfl, ?yg8⟩) SHd ?rg8
        case yg8 => (intro W hSw; (try dsimp only at hSw); (try simp only [List.getElem_toArray, List.getElem_cons_succ, List.getElem_cons_zero]); obtain ⟨q2, q3, q4, q5⟩ := hSw; go_simp; first | done | with_reducible rfl)
        try simp only [Act.put, List.getElem_toArray, List.getElem_cons_succ, List.getElem_cons_zero, List.setIfInBounds_toArray, List.set_cons_zero, List.set_cons_succ]
        refine wpAnyH_take (i := 9) (v := ?vg9) rfl (by kernel_rfl) (by kernel_rfl) (by kernel_rfl) (fun _ _ _ h => h) (Or.inl ⟨by rfl, ?yg9⟩) SHd ?rg9
        case yg9 => (intro W hSw; (try dsimp only at hSw); (try simp only [List.getElem_toArray, List.getElem_cons_succ, List.getElem_cons_zero]); obtain ⟨q2, q3, q4, q5⟩ := hSw; go_simp; first | done | with_reducible rfl)
        try simp only [Act.put, List.getElem_toArray, List.getElem_cons_succ, List.getElem_cons_zero, List.setIfInBounds_toArray, List.set_cons_zero, List.set_cons_succ]
        refine wpAnyH_take (i := 10) (v := ?vg10) rfl (by kernel_rfl) (by kernel_rfl) (by kernel_rfl) (fun _ _ _ h => h) (Or.inl ⟨by rfl, ?yg10⟩) SHd ?rg10
        case yg10 => (intro W hSw; (try dsimp only at hSw); (try simp only [List.getElem_toArray, List.getElem_cons_succ, List.getElem_cons_zero]); obtain ⟨q2, q3, q4, q5⟩ := hSw; go_simp; first | done | with_reducible rfl)
        try simp only [Act.put, List.getElem_toArray, List.getElem_cons_succ, List.getElem_cons_zero, List.setIfInBounds_toArray, List.set_cons_zero, List.set_cons_succ]
        refine wpAnyH_take (i := 11) (v := ?vg11) rfl (by kernel_rfl) (by kernel_rfl) (by kernel_rfl) (fun _ _ _ h => h) (Or.inl ⟨by rfl, ?yg11⟩) SHd ?rg11
        case yg11 => (intro W hSw; (try dsimp only at hSw); (try simp only [List.getElem_toArray, List.getElem_cons_succ, List.getElem_cons_zero]); obtain ⟨q2, q3, q4, q5⟩ := hSw; go_simp; first | done | with_reducible rfl)
        try simp only [Act.put, List.getElem_toArray, List.getElem_cons_succ, List.getElem_cons_zero, List.setIfInBounds_toArray, List.set_cons_zero, List.set_cons_succ]
        refine wpAnyH_ready (rs := [0, 2, 12]) (by kernel_rfl) (by simp) ?_
        refine AllReadyH.cons rfl (fun K hK => ?_) (AllReadyH.cons rfl (fun K hK => ?_) (AllReadyH.cons rfl (fun K hK => ?_) AllReadyH.nil))
        · simp only [List.getElem_toArray, List.getElem_cons_zero]
          go_simp
          have hbN := hd0.alloc hd0.size (.cells #[] 34)
          have hlN := (Below.refl W7.heap.size W7).alloc (Nat.le_refl _) (.cells #[] 34)
          have hoN := own_empty W7 W6.heap.size 34 5 W7.heap.size rfl hd0.size
          have hsE := hide (hd0.size)
          generalize hWN : W7.alloc (.cells #[] 34) = WE at *
          have hsg0 := hide (show WE.heap.size = W7.heap.size + 1 from by rw [← hWN]; simp)
          clear hWN hlN
          refine hK.out _ _ (SHp.out _ hbN) (fun hH2 => ?_)
          clear hK hH2
          have hg0 := hbN; clear hbN
          have hog0 := hoN; clear hoN
          refine wpAnyH_ready (rs := [2, 12]) (by kernel_rfl) (by simp) ?_
          refine AllReadyH.cons rfl (fun K hK => ?_) (AllReadyH.cons rfl (fun K hK => ?_) AllReadyH.nil)
          · obtain ⟨r0, r1, r2, r3, r4, r5⟩ := six_at ((hg0.block _ hx6).trans KX6.out)
            simp only [List.getElem_toArray, List.getElem_cons_succ, List.getElem_cons_zero]
            go_simp
            refine hK.out _ _ (SHp.out _ hg0) (fun hH2 => ?_)
            clear hK hH2 r0 r1 r2 r3 r4 r5
            refine wpAnyH_ready (rs := [3, 12]) (by kernel_rfl) (by simp) ?_
            refine AllReadyH.cons rfl (fun K hK => ?_) (AllReadyH.cons rfl (fun K hK => ?_) AllReadyH.nil)
            · refine step_append_wide (by rfl) (.tmp 149) (.tmp 151) 22 (by rfl) W6.heap.size 34 i0 (.agg #[.int .i64 0, .bool false, .int .i64 0, .int .i64 0, .slice none 0 0]) 5 56 Try.underlying22 hi hz0 hz1 hz2 rfl (by omega) _ 0 [] (by rfl) hog0 y.P y.X.length y.pc (y.X.flatMap PAt.cells) (by rfl) (RP7.out _ hg0) (flat_length PAt.cells_length y.X) (pats_one y.X) (by unfold maxLen; omega) (by omega) hg0.size ?_
              intro A8 c8 w8 n8 g8 t8
              have hbN := hg0.grown g8 hg0.size (fun g hg => (hog0.lt g hg).1)
              simp only [Nat.zero_add, List.nil_append] at n8 ⊢
              refine hK.out _ _ (SHp.out _ hbN) (fun hH2 => ?_)
              clear hK hH2 g8 t8
              try simp only [Act.put, List.getElem_toArray, List.getElem_cons_succ, List.getElem_cons_zero, List.setIfInBounds_toArray, List.set_cons_zero, List.set_cons_succ]
              have hg023 := hbN; clear hbN
              have hog023 := n8; clear n8
              refine wpAnyH_ready (rs := [12]) (by kernel_rfl) (by simp) ?_
              refine AllReadyH.cons rfl (fun K hK => ?_) AllReadyH.nil
              simp only [List.getElem_toArray, List.getElem_cons_succ, List.getElem_cons_zero]
              go_simp
              have hbN := hg023.alloc hg023.size (.cells #[.int .i64 (a : Int), .bool h.s.some, .int .i64 h.s.ar, .int .i64 h.s.as_, .slice h.at_ h.s.val.length h.cap] 34)
              have hlN := (Below.refl w8.heap.size w8).alloc (Nat.le_refl _) (.cells #[.int .i64 (a : Int), .bool h.s.some, .int .i64 h.s.ar, .int .i64 h.s.as_, .slice h.at_ h.s.val.length h.cap] 34)
              have hvN : Reads (w8.alloc (.cells #[.int .i64 (a : Int), .bool h.s.some, .int .i64 h.s.ar, .int .i64 h.s.as_, .slice h.at_ h.s.val.length h.cap] 34)) (some ⟨w8.heap.size, 0, none⟩) (PAt.cells ⟨told a h.s, h.at_, h.cap⟩) := Reads.new w8 (PAt.cells ⟨told a h.s, h.at_, h.cap⟩) _ _
              have hoN := own_below hog023 hlN
              generalize hWN : w8.alloc (.cells #[.int .i64 (a : Int), .bool h.s.some, .int .i64 h.s.ar, .int .i64 h.s.as_, .slice h.at_ h.s.val.length h.cap] 34) = WV at *
              have hsg02312 := hide (show WV.heap.size = w8.heap.size + 1 from by rw [← hWN]; simp)
              clear hWN hlN
              refine hK.out _ _ (SHp.out _ hbN) (fun hH2 => ?_)
              clear hK hH2
              have hg02312 := hbN; clear hbN
              have hog02312 := hoN; clear hoN
              have hvg02312 := hvN; clear hvN
              refine wpAnyH_ready (rs := [13]) (by kernel_rfl) (by simp) ?_
              refine AllReadyH.cons rfl (fun K hK => ?_) AllReadyH.nil
              refine step_append_wide (by rfl) (.tmp 152) (.tmp 161) 22 (by rfl) W6.heap.size 34 i0 (.agg #[.int .i64 0, .bool false, .int .i64 0, .int .i64 0, .slice none 0 0]) 5 56 Try.underlying22 hi hz0 hz1 hz2 rfl (by omega) _ y.X.length (y.X.flatMap PAt.cells) (by rfl) hog02312 (some ⟨w8.heap.size, 0, none⟩) 1 1 (PAt.cells ⟨told a h.s, h.at_, h.cap⟩) (by rfl) hvg02312 rfl (pat_one _) (by unfold maxLen; omega) (by omega) hg02312.size ?_
              intro A9 c9 w9 n9 g9 t9
              have hbN := hg02312.grown g9 hg02312.size (fun g hg => (hog02312.lt g hg).1)
              have hf9 : ∀ a, A9 = some a → W6.heap.size ≤ a.block := fun a ha => (n9.lt a.block (by rw [ha]; rfl)).1
              refine hK.out _ _ (SHp.out _ hbN) (fun hH2 => ?_)
              clear hK hH2 g9 t9
              try simp only [Act.put, List.getElem_toArray, List.getElem_cons_succ, List.getElem_cons_zero, List.setIfInBounds_toArray, List.set_cons_zero, List.set_cons_succ]
              refine wpAnyH_take (i := 14) (v := ?vg0231214) rfl (by kernel_rfl) (by kernel_rfl) (by kernel_rfl) (fun _ _ _ h => h) (Or.inl ⟨by rfl, ?yg0231214⟩) (SHp.out _ hbN) ?rg0231214
              case yg0231214 => (intro W hSw; (try dsimp only at hSw); (try simp only [List.getElem_toArray, List.getElem_cons_succ, List.getElem_cons_zero]); go_simp; first | done | with_reducible rfl)
              try simp only [Act.put, List.getElem_toArray, List.getElem_cons_succ, List.getElem_cons_zero, List.setIfInBounds_toArray, List.set_cons_zero, List.set_cons_succ]
              have KXw := (hbN.block _ hx6).trans KX6.out
              obtain ⟨r0, r1, r2, r3, r4, r5⟩ := six_at KXw
              obtain ⟨rf0, rf1, rf2, rf3, rf4, rf5⟩ := six_live KXw
              refine wpAnyH_ready (rs := [15]) (by kernel_rfl) (by simp) ?_
              refine AllReadyH.cons rfl (fun K hK => ?_) AllReadyH.nil
              simp only [List.getElem_toArray, List.getElem_cons_succ, List.getElem_cons_zero]
              go_simp
              have KHw : (w9.setCell ⟨w2.heap.size, 2, none⟩ (.slice A9 (y.X.length + 1) c9)).heap[W3.heap.size]? = some (.cells #[.int .i64 h.s.pr, .int .i64 h.s.ps, .bool h.s.some, .int .i64 h.s.ar, .int .i64 h.s.as_, .slice h.at_ h.s.val.length h.cap] 51) := far ((hbN.block _ hh6).trans KH6.out) hXne _ _
              refine hK.out _ _ (HNE.out _ KHw) (fun hH2 => ?_)
              clear hK hH2
              refine wpAnyH_done (by kernel_rfl) ?_ _
              have HREL := hide (And.intro (six_put2 KXw (.slice A9 (y.X.length + 1) c9)) (And.intro ((reads_own n9).keepset w2.heap.size 2 (.slice A9 (y.X.length + 1) c9) (fun a ha => by have := hf9 a ha; omega)) hf9))
              go_wp2
              go_meet
              case rel => exact ⟨rfl, A9, c9, HREL.out.1, HREL.out.2.1, HREL.out.2.2, w9, _, rfl, hbN⟩
            · simp only [List.getElem_toArray, List.getElem_cons_succ, List.getElem_cons_zero]
              go_simp
              have hbN := hg0.alloc hg0.size (.cells #[.int .i64 (a : Int), .bool h.s.some, .int .i64 h.s.ar, .int .i64 h.s.as_, .slice h.at_ h.s.val.length h.cap] 34)
              have hlN := (Below.refl WE.heap.size WE).alloc (Nat.le_refl _) (.cells #[.int .i64 (a : Int), .bool h.s.some, .int .i64 h.s.ar, .int .i64 h.s.as_, .slice h.at_ h.s.val.length h.cap] 34)
              have hvN : Reads (WE.alloc (.cells #[.int .i64 (a : Int), .bool h.s.some, .int .i64 h.s.ar, .int .i64 h.s.as_, .slice h.at_ h.s.val.length h.cap] 34)) (some ⟨WE.heap.size, 0, none⟩) (PAt.cells ⟨told a h.s, h.at_, h.cap⟩) := Reads.new WE (PAt.cells ⟨told a h.s, h.at_, h.cap⟩) _ _
              have hoN := own_below hog0 hlN
              generalize hWN : WE.alloc (.cells #[.int .i64 (a : Int), .bool h.s.some, .int .i64 h.s.ar, .int .i64 h.s.as_, .slice h.at_ h.s.val.length h.cap] 34) = WV at *
              have hsg0212 := hide (show WV.heap.size = WE.heap.size + 1 from by rw [← hWN]; simp)
              clear hWN hlN
              refine hK.out _ _ (SHp.out _ hbN) (fun hH2 => ?_)
              clear hK hH2
              have hg0212 := hbN; clear hbN
              have hog0212 := hoN; clear hoN
              have hvg0212 := hvN; clear hvN
              have hqg0212 := hide (show ¬ WE.heap.size = W7.heap.size from by have := hsg0.out; have := hsg0212.out; omega)
              refine wpAnyH_ready (rs := [3]) (by kernel_rfl) (by simp) ?_
              refine AllReadyH.cons rfl (fun K hK => ?_) AllReadyH.nil
              refine step_append_wide (by rfl) (.tmp 149) (.tmp 151) 22 (by rfl) W6.heap.size 34 i0 (.agg #[.int .i64 0, .bool false, .int .i64 0, .int .i64 0, .slice none 0 0]) 5 56 Try.underlying22 hi hz0 hz1 hz2 rfl (by omega) _ 0 [] (by rfl) hog0212 y.P y.X.length y.pc (y.X.flatMap PAt.cells) (by rfl) (RP7.out _ hg0212) (flat_length PAt.cells_length y.X) (pats_one y.X) (by unfold maxLen; omega) (by omega) hg0212.size ?_
              intro A8 c8 w8 n8 g8 t8
              have hbN := hg0212.grown g8 hg0212.size (fun g hg => (hog0212.lt g hg).1)
              simp only [Nat.zero_add, List.nil_append] at n8 ⊢
              have hvN := Reads.grown hvg0212 g8 (fun b off he h' => by injection he with he; injection he with he1 _; have h2 : some b = some W7.heap.size := h'; injection h2 with h2; rw [← he1] at h2; exact absurd h2 (hqg0212.out))
              refine hK.out _ _ (SHp.out _ hbN) (fun hH2 => ?_)
              clear hK hH2 g8 t8
              try simp only [Act.put, List.getElem_toArray, List.getElem_cons_succ, List.getElem_cons_zero, List.setIfInBounds_toArray, List.set_cons_zero, List.set_cons_succ]
              have hg02123 := hbN; clear hbN
              have hog02123 := n8; clear n8
              have hvg02123 := hvN; clear hvN
              refine wpAnyH_ready (rs := [13]) (by kernel_rfl) (by simp) ?_
              refine AllReadyH.cons rfl (fun K hK => ?_) AllReadyH.nil
              refine step_append_wide (by rfl) (.tmp 152) (.tmp 161) 22 (by rfl) W6.heap.size 34 i0 (.agg #[.int .i64 0, .bool false, .int .i64 0, .int .i64 0, .slice none 0 0]) 5 56 Try.underlying22 hi hz0 hz1 hz2 rfl (by omega) _ y.X.length (y.X.flatMap PAt.cells) (by rfl) hog02123 (some ⟨WE.heap.size, 0, none⟩) 1 1 (PAt.cells ⟨told a h.s, h.at_, h.cap⟩) (by rfl) hvg02123 rfl (pat_one _) (by unfold maxLen; omega) (by omega) hg02123.size ?_
              intro A9 c9 w9 n9 g9 t9
              have hbN := hg02123.grown g9 hg02123.size (fun g hg => (hog02123.lt g hg).1)
              have hf9 : ∀ a, A9 = some a → W6.heap.size ≤ a.block := fun a ha => (n9.lt a.block (by rw [ha]; rfl)).1
              refine hK.out _ _ (SHp.out _ hbN) (fun hH2 => ?_)
              clear hK hH2 g9 t9
              try simp only [Act.put, List.getElem_toArray, List.getElem_cons_succ, List.getElem_cons_zero, List.setIfInBounds_toArray, List.set_cons_zero, List.set_cons_succ]
              refine wpAnyH_take (i := 14) (v := ?vg0212314) rfl (by kernel_rfl) (by kernel_rfl) (by kernel_rfl) (fun _ _ _ h => h) (Or.inl ⟨by rfl, ?yg0212314⟩) (SHp.out _ hbN) ?rg0212314
              case yg0212314 => (intro W hSw; (try dsimp only at hSw); (try simp only [List.getElem_toArray, List.getElem_cons_succ, List.getElem_cons_zero]); go_simp; first | done | with_reducible rfl)
              try simp only [Act.put, List.getElem_toArray, List.getElem_cons_succ, List.getElem_cons_zero, List.setIfInBounds_toArray, List.set_cons_zero, List.set_cons_succ]
              have KXw := (hbN.block _ hx6).trans KX6.out
              obtain ⟨r0, r1, r2, r3, r4, r5⟩ := six_at KXw
              obtain ⟨rf0, rf1, rf2, rf3, rf4, rf5⟩ := six_live KXw
              refine wpAnyH_ready (rs := [15]) (by kernel_rfl) (by simp) ?_
              refine AllReadyH.cons rfl (fun K hK => ?_) AllReadyH.nil
              simp only [List.getElem_toArray, List.getElem_cons_succ, List.getElem_cons_zero]
              go_simp
              have KHw : (w9.setCell ⟨w2.heap.size, 2, none⟩ (.slice A9 (y.X.length + 1) c9)).heap[W3.heap.size]? = some (.cells #[.int .i64 h.s.pr, .int .i64 h.s.ps, .bool h.s.some, .int .i64 h.s.ar, .int .i64 h.s.as_, .slice h.at_ h.s.val.length h.cap] 51) := far ((hbN.block _ hh6).trans KH6.out) hXne _ _
              refine hK.out _ _ (HNE.out _ KHw) (fun hH2 => ?_)
              clear hK hH2
              refine wpAnyH_done (by kernel_rfl) ?_ _
              have HREL := hide (And.intro (six_put2 KXw (.slice A9 (y.X.length + 1) c9)) (And.intro ((reads_own n9).keepset w2.heap.size 2 (.slice A9 (y.X.length + 1) c9) (fun a ha => by have := hf9 a ha; omega)) hf9))
              go_wp2
              go_meet
              case rel => exact ⟨rfl, A9, c9, HREL.out.1, HREL.out.2.1, HREL.out.2.2, w9, _, rfl, hbN⟩
          · simp only [List.getElem_toArray, List.getElem_cons_succ, List.getElem_cons_zero]
            go_simp
            have hbN := hg0.alloc hg0.size (.cells #[.int .i64 (a : Int), .bool h.s.some, .int .i64 h.s.ar, .int .i64 h.s.as_, .slice h.at_ h.s.val.length h.cap] 34)
            have hlN := (Below.refl WE.heap.size WE).alloc (Nat.le_refl _) (.cells #[.int .i64 (a : Int), .bool h.s.some, .int .i64 h.s.ar, .int .i64 h.s.as_, .slice h.at_ h.s.val.length h.cap] 34)
            have hvN : Reads (WE.alloc (.cells #[.int .i64 (a : Int), .bool h.s.some, .int .i64 h.s.ar, .int .i64 h.s.as_, .slice h.at_ h.s.val.length h.cap] 34)) (some ⟨WE.heap.size, 0, none⟩) (PAt.cells ⟨told a h.s, h.at_, h.cap⟩) := Reads.new WE (PAt.cells ⟨told a h.s, h.at_, h.cap⟩) _ _
            have hoN := own_below hog0 hlN
            generalize hWN : WE.alloc (.cells #[.int .i64 (a : Int), .bool h.s.some, .int .i64 h.s.ar, .int .i64 h.s.as_, .slice h.at_ h.s.val.length h.cap] 34) = WV at *
            have hsg012 := hide (show WV.heap.size = WE.heap.size + 1 from by rw [← hWN]; simp)
            clear hWN hlN
            refine hK.out _ _ (SHp.out _ hbN) (fun hH2 => ?_)
            clear hK hH2
            have hg012 := hbN; clear hbN
            have hog012 := hoN; clear hoN
            have hvg012 := hvN; clear hvN
            have hqg012 := hide (show ¬ WE.heap.size = W7.heap.size from by have := hsg0.out; have := hsg012.out; omega)
            refine wpAnyH_ready (rs := [2]) (by kernel_rfl) (by simp) ?_
            refine AllReadyH.cons rfl (fun K hK => ?_) AllReadyH.nil
            obtain ⟨r0, r1, r2, r3, r4, r5⟩ := six_at ((hg012.block _ hx6).trans KX6.out)
            simp only [List.getElem_toArray, List.getElem_cons_succ, List.getElem_cons_zero]
            go_simp
            refine hK.out _ _ (SHp.out _ hg012) (fun hH2 => ?_)
            clear hK hH2 r0 r1 r2 r3 r4 r5
            refine wpAnyH_ready (rs := [3]) (by kernel_rfl) (by simp) ?_
            refine AllReadyH.cons rfl (fun K hK => ?_) AllReadyH.nil
            refine step_append_wide (by rfl) (.tmp 149) (.tmp 151) 22 (by rfl) W6.heap.size 34 i0 (.agg #[.int .i64 0, .bool false, .int .i64 0, .int .i64 0, .slice none 0 0]) 5 56 Try.underlying22 hi hz0 hz1 hz2 rfl (by omega) _ 0 [] (by rfl) hog012 y.P y.X.length y.pc (y.X.flatMap PAt.cells) (by rfl) (RP7.out _ hg012) (flat_length PAt.cells_length y.X) (pats_one y.X) (by unfold maxLen; omega) (by omega) hg012.size ?_
            intro A8 c8 w8 n8 g8 t8
            have hbN := hg012.grown g8 hg012.size (fun g hg => (hog012.lt g hg).1)
            simp only [Nat.zero_add, List.nil_append] at n8 ⊢
            have hvN := Reads.grown hvg012 g8 (fun b off he h' => by injection he with he; injection he with he1 _; have h2 : some b = some W7.heap.size := h'; injection h2 with h2; rw [← he1] at h2; exact absurd h2 (hqg012.out))
            refine hK.out _ _ (SHp.out _ hbN) (fun hH2 => ?_)
            clear hK hH2 g8 t8
            try simp only [Act.put, List.getElem_toArray, List.getElem_cons_succ, List.getElem_cons_zero, List.setIfInBounds_toArray, List.set_cons_zero, List.set_cons_succ]
            have hg01223 := hbN; clear hbN
            have hog01223 := n8; clear n8
            have hvg01223 := hvN; clear hvN
            refine wpAnyH_ready (rs := [13]) (by kernel_rfl) (by simp) ?_
            refine AllReadyH.cons rfl (fun K hK => ?_) AllReadyH.nil
            refine step_append_wide (by rfl) (.tmp 152) (.tmp 161) 22 (by rfl) W6.heap.size 34 i0 (.agg #[.int .i64 0, .bool false, .int .i64 0, .int .i64 0, .slice none 0 0]) 5 56 Try.underlying22 hi hz0 hz1 hz2 rfl (by omega) _ y.X.length (y.X.flatMap PAt.cells) (by rfl) hog01223 (some ⟨WE.heap.size, 0, none⟩) 1 1 (PAt.cells ⟨told a h.s, h.at_, h.cap⟩) (by rfl) hvg01223 rfl (pat_one _) (by unfold maxLen; omega) (by omega) hg01223.size ?_
            intro A9 c9 w9 n9 g9 t9
            have hbN := hg01223.grown g9 hg01223.size (fun g hg => (hog01223.lt g hg).1)
            have hf9 : ∀ a, A9 = some a → W6.heap.size ≤ a.block := fun a ha => (n9.lt a.block (by rw [ha]; rfl)).1
            refine hK.out _ _ (SHp.out _ hbN) (fun hH2 => ?_)
            clear hK hH2 g9 t9
            try simp only [Act.put, List.getElem_toArray, List.getElem_cons_succ, List.getElem_cons_zero, List.setIfInBounds_toArray, List.set_cons_zero, List.set_cons_succ]
            refine wpAnyH_take (i := 14) (v := ?vg0122314) rfl (by kernel_rfl) (by kernel_rfl) (by kernel_rfl) (fun _ _ _ h => h) (Or.inl ⟨by rfl, ?yg0122314⟩) (SHp.out _ hbN) ?rg0122314
            case yg0122314 => (intro W hSw; (try dsimp only at hSw); (try simp only [List.getElem_toArray, List.getElem_cons_succ, List.getElem_cons_zero]); go_simp; first | done | with_reducible rfl)
            try simp only [Act.put, List.getElem_toArray, List.getElem_cons_succ, List.getElem_cons_zero, List.setIfInBounds_toArray, List.set_cons_zero, List.set_cons_succ]
            have KXw := (hbN.block _ hx6).trans KX6.out
            obtain ⟨r0, r1, r2, r3, r4, r5⟩ := six_at KXw
            obtain ⟨rf0, rf1, rf2, rf3, rf4, rf5⟩ := six_live KXw
            refine wpAnyH_ready (rs := [15]) (by kernel_rfl) (by simp) ?_
            refine AllReadyH.cons rfl (fun K hK => ?_) AllReadyH.nil
            simp only [List.getElem_toArray, List.getElem_cons_succ, List.getElem_cons_zero]
            go_simp
            have KHw : (w9.setCell ⟨w2.heap.size, 2, none⟩ (.slice A9 (y.X.length + 1) c9)).heap[W3.heap.size]? = some (.cells #[.int .i64 h.s.pr, .int .i64 h.s.ps, .bool h.s.some, .int .i64 h.s.ar, .int .i64 h.s.as_, .slice h.at_ h.s.val.length h.cap] 51) := far ((hbN.block _ hh6).trans KH6.out) hXne _ _
            refine hK.out _ _ (HNE.out _ KHw) (fun hH2 => ?_)
            clear hK hH2
            refine wpAnyH_done (by kernel_rfl) ?_ _
            have HREL := hide (And.intro (six_put2 KXw (.slice A9 (y.X.length + 1) c9)) (And.intro ((reads_own n9).keepset w2.heap.size 2 (.slice A9 (y.X.length + 1) c9) (fun a ha => by have := hf9 a ha; omega)) hf9))
            go_wp2
            go_meet
            case rel => exact ⟨rfl, A9, c9, HREL.out.1, HREL.out.2.1, HREL.out.2.2, w9, _, rfl, hbN⟩
        · obtain ⟨r0, r1, r2, r3, r4, r5⟩ := six_at ((hd0.block _ hx6).trans KX6.out)
          simp only [List.getElem_toArray, List.getElem_cons_succ, List.getElem_cons_zero]
          go_simp
          refine hK.out _ _ (SHp.out _ hd0) (fun hH2 => ?_)
          clear hK hH2 r0 r1 r2 r3 r4 r5
          refine wpAnyH_ready (rs := [0, 12]) (by kernel_rfl) (by simp) ?_
          refine AllReadyH.cons rfl (fun K hK => ?_) (AllReadyH.cons rfl (fun K hK => ?_) AllReadyH.nil)
          · simp only [List.getElem_toArray, List.getElem_cons_zero]
            go_simp
            have hbN := hd0.alloc hd0.size (.cells #[] 34)
            have hlN := (Below.refl W7.heap.size W7).alloc (Nat.le_refl _) (.cells #[] 34)
            have hoN := own_empty W7 W6.heap.size 34 5 W7.heap.size rfl hd0.size
            have hsE := hide (hd0.size)
            generalize hWN : W7.alloc (.cells #[] 34) = WE at *
            have hsg20 := hide (show WE.heap.size = W7.heap.size + 1 from by rw [← hWN]; simp)
            clear hWN hlN
            refine hK.out _ _ (SHp.out _ hbN) (fun hH2 => ?_)
            clear hK hH2
            have hg20 := hbN; clear hbN
            have hog20 := hoN; clear hoN
            refine wpAnyH_ready (rs := [3, 12]) (by kernel_rfl) (by simp) ?_
            refine AllReadyH.cons rfl (fun K hK => ?_) (AllReadyH.cons rfl (fun K hK => ?_) AllReadyH.nil)
            · refine step_append_wide (by rfl) (.tmp 149) (.tmp 151) 22 (by rfl) W6.heap.size 34 i0 (.agg #[.int .i64 0, .bool false, .int .i64 0, .int .i64 0, .slice none 0 0]) 5 56 Try.underlying22 hi hz0 hz1 hz2 rfl (by omega) _ 0 [] (by rfl) hog20 y.P y.X.length y.pc (y.X.flatMap PAt.cells) (by rfl) (RP7.out _ hg20) (flat_length PAt.cells_length y.X) (pats_one y.X) (by unfold maxLen; omega) (by omega) hg20.size ?_
              intro A8 c8 w8 n8 g8 t8
              have hbN := hg20.grown g8 hg20.size (fun g hg => (hog20.lt g hg).1)
              simp only [Nat.zero_add, List.nil_append] at n8 ⊢
              refine hK.out _ _ (SHp.out _ hbN) (fun hH2 => ?_)
              clear hK hH2 g8 t8
              try simp only [Act.put, List.getElem_toArray, List.getElem_cons_succ, List.getElem_cons_zero, List.setIfInBounds_toArray, List.set_cons_zero, List.set_cons_succ]
              have hg203 := hbN; clear hbN
              have hog203 := n8; clear n8
              refine wpAnyH_ready (rs := [12]) (by kernel_rfl) (by simp) ?_
              refine AllReadyH.cons rfl (fun K hK => ?_) AllReadyH.nil
              simp only [List.getElem_toArray, List.getElem_cons_succ, List.getElem_cons_zero]
              go_simp
              have hbN := hg203.alloc hg203.size (.cells #[.int .i64 (a : Int), .bool h.s.some, .int .i64 h.s.ar, .int .i64 h.s.as_, .slice h.at_ h.s.val.length h.cap] 34)
              have hlN := (Below.refl w8.heap.size w8).alloc (Nat.le_refl _) (.cells #[.int .i64 (a : Int), .bool h.s.some, .int .i64 h.s.ar, .int .i64 h.s.as_, .slice h.at_ h.s.val.length h.cap] 34)
              have hvN : Reads (w8.alloc (.cells #[.int .i64 (a : Int), .bool h.s.some, .int .i64 h.s.ar, .int .i64 h.s.as_, .slice h.at_ h.s.val.length h.cap] 34)) (some ⟨w8.heap.size, 0, none⟩) (PAt.cells ⟨told a h.s, h.at_, h.cap⟩) := Reads.new w8 (PAt.cells ⟨told a h.s, h.at_, h.cap⟩) _ _
              have hoN := own_below hog203 hlN
              generalize hWN : w8.alloc (.cells #[.int .i64 (a : Int), .bool h.s.some, .int .i64 h.s.ar, .int .i64 h.s.as_, .slice h.at_ h.s.val.length h.cap] 34) = WV at *
              have hsg20312 := hide (show WV.heap.size = w8.heap.size + 1 from by rw [← hWN]; simp)
              clear hWN hlN
              refine hK.out _ _ (SHp.out _ hbN) (fun hH2 => ?_)
              clear hK hH2
              have hg20312 := hbN; clear hbN
              have hog20312 := hoN; clear hoN
              have hvg20312 := hvN; clear hvN
              refine wpAnyH_ready (rs := [13]) (by kernel_rfl) (by simp) ?_
              refine AllReadyH.cons rfl (fun K hK => ?_) AllReadyH.nil
              refine step_append_wide (by rfl) (.tmp 152) (.tmp 161) 22 (by rfl) W6.heap.size 34 i0 (.agg #[.int .i64 0, .bool false, .int .i64 0, .int .i64 0, .slice none 0 0]) 5 56 Try.underlying22 hi hz0 hz1 hz2 rfl (by omega) _ y.X.length (y.X.flatMap PAt.cells) (by rfl) hog20312 (some ⟨w8.heap.size, 0, none⟩) 1 1 (PAt.cells ⟨told a h.s, h.at_, h.cap⟩) (by rfl) hvg20312 rfl (pat_one _) (by unfold maxLen; omega) (by omega) hg20312.size ?_
              intro A9 c9 w9 n9 g9 t9
              have hbN := hg20312.grown g9 hg20312.size (fun g hg => (hog20312.lt g hg).1)
              have hf9 : ∀ a, A9 = some a → W6.heap.size ≤ a.block := fun a ha => (n9.lt a.block (by rw [ha]; rfl)).1
              refine hK.out _ _ (SHp.out _ hbN) (fun hH2 => ?_)
              clear hK hH2 g9 t9
              try simp only [Act.put, List.getElem_toArray, List.getElem_cons_succ, List.getElem_cons_zero, List.setIfInBounds_toArray, List.set_cons_zero, List.set_cons_succ]
              refine wpAnyH_take (i := 14) (v := ?vg2031214) rfl (by kernel_rfl) (by kernel_rfl) (by kernel_rfl) (fun _ _ _ h => h) (Or.inl ⟨by rfl, ?yg2031214⟩) (SHp.out _ hbN) ?rg2031214
              case yg2031214 => (intro W hSw; (try dsimp only at hSw); (try simp only [List.getElem_toArray, List.getElem_cons_succ, List.getElem_cons_zero]); go_simp; first | done | with_reducible rfl)
              try simp only [Act.put, List.getElem_toArray, List.getElem_cons_succ, List.getElem_cons_zero, List.setIfInBounds_toArray, List.set_cons_zero, List.set_cons_succ]
              have KXw := (hbN.block _ hx6).trans KX6.out
              obtain ⟨r0, r1, r2, r3, r4, r5⟩ := six_at KXw
              obtain ⟨rf0, rf1, rf2, rf3, rf4, rf5⟩ := six_live KXw
              refine wpAnyH_ready (rs := [15]) (by kernel_rfl) (by simp) ?_
              refine AllReadyH.cons rfl (fun K hK => ?_) AllReadyH.nil
              simp only [List.getElem_toArray, List.getElem_cons_succ, List.getElem_cons_zero]
              go_simp
              have KHw : (w9.setCell ⟨w2.heap.size, 2, none⟩ (.slice A9 (y.X.length + 1) c9)).heap[W3.heap.size]? = some (.cells #[.int .i64 h.s.pr, .int .i64 h.s.ps, .bool h.s.some, .int .i64 h.s.ar, .int .i64 h.s.as_, .slice h.at_ h.s.val.length h.cap] 51) := far ((hbN.block _ hh6).trans KH6.out) hXne _ _
              refine hK.out _ _ (HNE.out _ KHw) (fun hH2 => ?_)
              clear hK hH2
              refine wpAnyH_done (by kernel_rfl) ?_ _
              have HREL := hide (And.intro (six_put2 KXw (.slice A9 (y.X.length + 1) c9)) (And.intro ((reads_own n9).keepset w2.heap.size 2 (.slice A9 (y.X.length + 1) c9) (fun a ha => by have := hf9 a ha; omega)) hf9))
              go_wp2
              go_meet
              case rel => exact ⟨rfl, A9, c9, HREL.out.1, HREL.out.2.1, HREL.out.2.2, w9, _, rfl, hbN⟩
            · simp only [List.getElem_toArray, List.getElem_cons_succ, List.getElem_cons_zero]
              go_simp
              have hbN := hg20.alloc hg20.size (.cells #[.int .i64 (a : Int), .bool h.s.some, .int .i64 h.s.ar, .int .i64 h.s.as_, .slice h.at_ h.s.val.length h.cap] 34)
              have hlN := (Below.refl WE.heap.size WE).alloc (Nat.le_refl _) (.cells #[.int .i64 (a : Int), .bool h.s.some, .int .i64 h.s.ar, .int .i64 h.s.as_, .slice h.at_ h.s.val.length h.cap] 34)
              have hvN : Reads (WE.alloc (.cells #[.int .i64 (a : Int), .bool h.s.some, .int .i64 h.s.ar, .int .i64 h.s.as_, .slice h.at_ h.s.val.length h.cap] 34)) (some ⟨WE.heap.size, 0, none⟩) (PAt.cells ⟨told a h.s, h.at_, h.cap⟩) := Reads.new WE (PAt.cells ⟨told a h.s, h.at_, h.cap⟩) _ _
              have hoN := own_below hog20 hlN
              generalize hWN : WE.alloc (.cells #[.int .i64 (a : Int), .bool h.s.some, .int .i64 h.s.ar, .int .i64 h.s.as_, .slice h.at_ h.s.val.length h.cap] 34) = WV at *
              have hsg2012 := hide (show WV.heap.size = WE.heap.size + 1 from by rw [← hWN]; simp)
              clear hWN hlN
              refine hK.out _ _ (SHp.out _ hbN) (fun hH2 => ?_)
              clear hK hH2
              have hg2012 := hbN; clear hbN
              have hog2012 := hoN; clear hoN
              have hvg2012 := hvN; clear hvN
              have hqg2012 := hide (show ¬ WE.heap.size = W7.heap.size from by have := hsg20.out; have := hsg2012.out; omega)
              refine wpAnyH_ready (rs := [3]) (by kernel_rfl) (by simp) ?_
              refine AllReadyH.cons rfl (fun K hK => ?_) AllReadyH.nil
              refine step_append_wide (by rfl) (.tmp 149) (.tmp 151) 22 (by rfl) W6.heap.size 34 i0 (.agg #[.int .i64 0, .bool false, .int .i64 0, .int .i64 0, .slice none 0 0]) 5 56 Try.underlying22 hi hz0 hz1 hz2 rfl (by omega) _ 0 [] (by rfl) hog2012 y.P y.X.length y.pc (y.X.flatMap PAt.cells) (by rfl) (RP7.out _ hg2012) (flat_length PAt.cells_length y.X) (pats_one y.X) (by unfold maxLen; omega) (by omega) hg2012.size ?_
              intro A8 c8 w8 n8 g8 t8
              have hbN := hg2012.grown g8 hg2012.size (fun g hg => (hog2012.lt g hg).1)
              simp only [Nat.zero_add, List.nil_append] at n8 ⊢
              have hvN := Reads.grown hvg2012 g8 (fun b off he h' => by injection he with he; injection he with he1 _; have h2 : some b = some W7.heap.size := h'; injection h2 with h2; rw [← he1] at h2; exact absurd h2 (hqg2012.out))
              refine hK.out _ _ (SHp.out _ hbN) (fun hH2 => ?_)
              clear hK hH2 g8 t8
              try simp only [Act.put, List.getElem_toArray, List.getElem_cons_succ, List.getElem_cons_zero, List.setIfInBounds_toArray, List.set_cons_zero, List.set_cons_succ]
              have hg20123 := hbN; clear hbN
              have hog20123 := n8; clear n8
              have hvg20123 := hvN; clear hvN
              refine wpAnyH_ready (rs := [13]) (by kernel_rfl) (by simp) ?_
              refine AllReadyH.cons rfl (fun K hK => ?_) AllReadyH.nil
              refine step_append_wide (by rfl) (.tmp 152) (.tmp 161) 22 (by rfl) W6.heap.size 34 i0 (.agg #[.int .i64 0, .bool false, .int .i64 0, .int .i64 0, .slice none 0 0]) 5 56 Try.underlying22 hi hz0 hz1 hz2 rfl (by omega) _ y.X.length (y.X.flatMap PAt.cells) (by rfl) hog20123 (some ⟨WE.heap.size, 0, none⟩) 1 1 (PAt.cells ⟨told a h.s, h.at_, h.cap⟩) (by rfl) hvg20123 rfl (pat_one _) (by unfold maxLen; omega) (by omega) hg20123.size ?_
              intro A9 c9 w9 n9 g9 t9
              have hbN := hg20123.grown g9 hg20123.size (fun g hg => (hog20123.lt g hg).1)
              have hf9 : ∀ a, A9 = some a → W6.heap.size ≤ a.block := fun a ha => (n9.lt a.block (by rw [ha]; rfl)).1
              refine hK.out _ _ (SHp.out _ hbN) (fun hH2 => ?_)
              clear hK hH2 g9 t9
              try simp only [Act.put, List.getElem_toArray, List.getElem_cons_succ, List.getElem_cons_zero, List.setIfInBounds_toArray, List.set_cons_zero, List.set_cons_succ]
              refine wpAnyH_take (i := 14) (v := ?vg2012314) rfl (by kernel_rfl) (by kernel_rfl) (by kernel_rfl) (fun _ _ _ h => h) (Or.inl ⟨by rfl, ?yg2012314⟩) (SHp.out _ hbN) ?rg2012314
              case yg2012314 => (intro W hSw; (try dsimp only at hSw); (try simp only [List.getElem_toArray, List.getElem_cons_succ, List.getElem_cons_zero]); go_simp; first | done | with_reducible rfl)
              try simp only [Act.put, List.getElem_toArray, List.getElem_cons_succ, List.getElem_cons_zero, List.setIfInBounds_toArray, List.set_cons_zero, List.set_cons_succ]
              have KXw := (hbN.block _ hx6).trans KX6.out
              obtain ⟨r0, r1, r2, r3, r4, r5⟩ := six_at KXw
              obtain ⟨rf0, rf1, rf2, rf3, rf4, rf5⟩ := six_live KXw
              refine wpAnyH_ready (rs := [15]) (by kernel_rfl) (by simp) ?_
              refine AllReadyH.cons rfl (fun K hK => ?_) AllReadyH.nil
              simp only [List.getElem_toArray, List.getElem_cons_succ, List.getElem_cons_zero]
              go_simp
              have KHw : (w9.setCell ⟨w2.heap.size, 2, none⟩ (.slice A9 (y.X.length + 1) c9)).heap[W3.heap.size]? = some (.cells #[.int .i64 h.s.pr, .int .i64 h.s.ps, .bool h.s.some, .int .i64 h.s.ar, .int .i64 h.s.as_, .slice h.at_ h.s.val.length h.cap] 51) := far ((hbN.block _ hh6).trans KH6.out) hXne _ _
              refine hK.out _ _ (HNE.out _ KHw) (fun hH2 => ?_)
              clear hK hH2
              refine wpAnyH_done (by kernel_rfl) ?_ _
              have HREL := hide (And.intro (six_put2 KXw (.slice A9 (y.X.length + 1) c9)) (And.intro ((reads_own n9).keepset w2.heap.size 2 (.slice A9 (y.X.length + 1) c9) (fun a ha => by have := hf9 a ha; omega)) hf9))
              go_wp2
              go_meet
              case rel => exact ⟨rfl, A9, c9, HREL.out.1, HREL.out.2.1, HREL.out.2.2, w9, _, rfl, hbN⟩
          · simp only [List.getElem_toArray, List.getElem_cons_succ, List.getElem_cons_zero]
            go_simp
            have hbN := hd0.alloc hd0.size (.cells #[.int .i64 (a : Int), .bool h.s.some, .int .i64 h.s.ar, .int .i64 h.s.as_, .slice h.at_ h.s.val.length h.cap] 34)
            have hlN := (Below.refl W7.heap.size W7).alloc (Nat.le_refl _) (.cells #[.int .i64 (a : Int), .bool h.s.some, .int .i64 h.s.ar, .int .i64 h.s.as_, .slice h.at_ h.s.val.length h.cap] 34)
            have hvN : Reads (W7.alloc (.cells #[.int .i64 (a : Int), .bool h.s.some, .int .i64 h.s.ar, .int .i64 h.s.as_, .slice h.at_ h.s.val.length h.cap] 34)) (some ⟨W7.heap.size, 0, none⟩) (PAt.cells ⟨told a h.s, h.at_, h.cap⟩) := Reads.new W7 (PAt.cells ⟨told a h.s, h.at_, h.cap⟩) _ _
            generalize hWN : W7.alloc (.cells #[.int .i64 (a : Int), .bool h.s.some, .int .i64 h.s.ar, .int .i64 h.s.as_, .slice h.at_ h.s.val.length h.cap] 34) = WV at *
            have hsg212 := hide (show WV.heap.size = W7.heap.size + 1 from by rw [← hWN]; simp)
            clear hWN hlN
            refine hK.out _ _ (SHp.out _ hbN) (fun hH2 => ?_)
            clear hK hH2
            have hg212 := hbN; clear hbN
            have hvg212 := hvN; clear hvN
            refine wpAnyH_ready (rs := [0]) (by kernel_rfl) (by simp) ?_
            refine AllReadyH.cons rfl (fun K hK => ?_) AllReadyH.nil
            simp only [List.getElem_toArray, List.getElem_cons_zero]
            go_simp
            have hbN := hg212.alloc hg212.size (.cells #[] 34)
            have hlN := (Below.refl WV.heap.size WV).alloc (Nat.le_refl _) (.cells #[] 34)
            have hoN := own_empty WV W6.heap.size 34 5 WV.heap.size rfl hg212.size
            have hsE := hide (hg212.size)
            have hvN := hvg212.below hlN
            generalize hWN : WV.alloc (.cells #[] 34) = WE at *
            have hsg2120 := hide (show WE.heap.size = WV.heap.size + 1 from by rw [← hWN]; simp)
            clear hWN hlN
            refine hK.out _ _ (SHp.out _ hbN) (fun hH2 => ?_)
            clear hK hH2
            have hg2120 := hbN; clear hbN
            have hog2120 := hoN; clear hoN
            have hvg2120 := hvN; clear hvN
            have hqg2120 := hide (show ¬ W7.heap.size = WV.heap.size from by have := hsg212.out; have := hsg2120.out; omega)
            refine wpAnyH_ready (rs := [3]) (by kernel_rfl) (by simp) ?_
            refine AllReadyH.cons rfl (fun K hK => ?_) AllReadyH.nil
            refine step_append_wide (by rfl) (.tmp 149) (.tmp 151) 22 (by rfl) W6.heap.size 34 i0 (.agg #[.int .i64 0, .bool false, .int .i64 0, .int .i64 0, .slice none 0 0]) 5 56 Try.underlying22 hi hz0 hz1 hz2 rfl (by omega) _ 0 [] (by rfl) hog2120 y.P y.X.length y.pc (y.X.flatMap PAt.cells) (by rfl) (RP7.out _ hg2120) (flat_length PAt.cells_length y.X) (pats_one y.X) (by unfold maxLen; omega) (by omega) hg2120.size ?_
            intro A8 c8 w8 n8 g8 t8
            have hbN := hg2120.grown g8 hg2120.size (fun g hg => (hog2120.lt g hg).1)
            simp only [Nat.zero_add, List.nil_append] at n8 ⊢
            have hvN := Reads.grown hvg2120 g8 (fun b off he h' => by injection he with he; injection he with he1 _; have h2 : some b = some WV.heap.size := h'; injection h2 with h2; rw [← he1] at h2; exact absurd h2 (hqg2120.out))
            refine hK.out _ _ (SHp.out _ hbN) (fun hH2 => ?_)
            clear hK hH2 g8 t8
            try simp only [Act.put, List.getElem_toArray, List.getElem_cons_succ, List.getElem_cons_zero, List.setIfInBounds_toArray, List.set_cons_zero, List.set_cons_succ]
            have hg21203 := hbN; clear hbN
            have hog21203 := n8; clear n8
            have hvg21203 := hvN; clear hvN
            refine wpAnyH_ready (rs := [13]) (by kernel_rfl) (by simp) ?_
            refine AllReadyH.cons rfl (fun K hK => ?_) AllReadyH.nil
            refine step_append_wide (by rfl) (.tmp 152) (.tmp 161) 22 (by rfl) W6.heap.size 34 i0 (.agg #[.int .i64 0, .bool false, .int .i64 0, .int .i64 0, .slice none 0 0]) 5 56 Try.underlying22 hi hz0 hz1 hz2 rfl (by omega) _ y.X.length (y.X.flatMap PAt.cells) (by rfl) hog21203 (some ⟨W7.heap.size, 0, none⟩) 1 1 (PAt.cells ⟨told a h.s, h.at_, h.cap⟩) (by rfl) hvg21203 rfl (pat_one _) (by unfold maxLen; omega) (by omega) hg21203.size ?_
            intro A9 c9 w9 n9 g9 t9
            have hbN := hg21203.grown g9 hg21203.size (fun g hg => (hog21203.lt g hg).1)
            have hf9 : ∀ a, A9 = some a → W6.heap.size ≤ a.block := fun a ha => (n9.lt a.block (by rw [ha]; rfl)).1
            refine hK.out _ _ (SHp.out _ hbN) (fun hH2 => ?_)
            clear hK hH2 g9 t9
            try simp only [Act.put, List.getElem_toArray, List.getElem_cons_succ, List.getElem_cons_zero, List.setIfInBounds_toArray, List.set_cons_zero, List.set_cons_succ]
            refine wpAnyH_take (i := 14) (v := ?vg2120314) rfl (by kernel_rfl) (by kernel_rfl) (by kernel_rfl) (fun _ _ _ h => h) (Or.inl ⟨by rfl, ?yg2120314⟩) (SHp.out _ hbN) ?rg2120314
            case yg2120314 => (intro W hSw; (try dsimp only at hSw); (try simp only [List.getElem_toArray, List.getElem_cons_succ, List.getElem_cons_zero]); go_simp; first | done | with_reducible rfl)
            try simp only [Act.put, List.getElem_toArray, List.getElem_cons_succ, List.getElem_cons_zero, List.setIfInBounds_toArray, List.set_cons_zero, List.set_cons_succ]
            have KXw := (hbN.block _ hx6).trans KX6.out
            obtain ⟨r0, r1, r2, r3, r4, r5⟩ := six_at KXw
            obtain ⟨rf0, rf1, rf2, rf3, rf4, rf5⟩ := six_live KXw
            refine wpAnyH_ready (rs := [15]) (by kernel_rfl) (by simp) ?_
            refine AllReadyH.cons rfl (fun K hK => ?_) AllReadyH.nil
            simp only [List.getElem_toArray, List.getElem_cons_succ, List.getElem_cons_zero]
            go_simp
            have KHw : (w9.setCell ⟨w2.heap.size, 2, none⟩ (.slice A9 (y.X.length + 1) c9)).heap[W3.heap.size]? = some (.cells #[.int .i64 h.s.pr, .int .i64 h.s.ps, .bool h.s.some, .int .i64 h.s.ar, .int .i64 h.s.as_, .slice h.at_ h.s.val.length h.cap] 51) := far ((hbN.block _ hh6).trans KH6.out) hXne _ _
            refine hK.out _ _ (HNE.out _ KHw) (fun hH2 => ?_)
            clear hK hH2
            refine wpAnyH_done (by kernel_rfl) ?_ _
            have HREL := hide (And.intro (six_put2 KXw (.slice A9 (y.X.length + 1) c9)) (And.intro ((reads_own n9).keepset w2.heap.size 2 (.slice A9 (y.X.length + 1) c9) (fun a ha => by have := hf9 a ha; omega)) hf9))
            go_wp2
            go_meet
            case rel => exact ⟨rfl, A9, c9, HREL.out.1, HREL.out.2.1, HREL.out.2.2, w9, _, rfl, hbN⟩
        · simp only [List.getElem_toArray, List.getElem_cons_succ, List.getElem_cons_zero]
          go_simp
          have hbN := hd0.alloc hd0.size (.cells #[.int .i64 (a : Int), .bool h.s.some, .int .i64 h.s.ar, .int .i64 h.s.as_, .slice h.at_ h.s.val.length h.cap] 34)
          have hlN := (Below.refl W7.heap.size W7).alloc (Nat.le_refl _) (.cells #[.int .i64 (a : Int), .bool h.s.some, .int .i64 h.s.ar, .int .i64 h.s.as_, .slice h.at_ h.s.val.length h.cap] 34)
          have hvN : Reads (W7.alloc (.cells #[.int .i64 (a : Int), .bool h.s.some, .int .i64 h.s.ar, .int .i64 h.s.as_, .slice h.at_ h.s.val.length h.cap] 34)) (some ⟨W7.heap.size, 0, none⟩) (PAt.cells ⟨told a h.s, h.at_, h.cap⟩) := Reads.new W7 (PAt.cells ⟨told a h.s, h.at_, h.cap⟩) _ _
          generalize hWN : W7.alloc (.cells #[.int .i64 (a : Int), .bool h.s.some, .int .i64 h.s.ar, .int .i64 h.s.as_, .slice h.at_ h.s.val.length h.cap] 34) = WV at *
          have hsg12 := hide (show WV.heap.size = W7.heap.size + 1 from by rw [← hWN]; simp)
          clear hWN hlN
          refine hK.out _ _ (SHp.out _ hbN) (fun hH2 => ?_)
          clear hK hH2
          have hg12 := hbN; clear hbN
          have hvg12 := hvN; clear hvN
          refine wpAnyH_ready (rs := [0, 2]) (by kernel_rfl) (by simp) ?_
          refine AllReadyH.cons rfl (fun K hK => ?_) (AllReadyH.cons rfl (fun K hK => ?_) AllReadyH.nil)
          · simp only [List.getElem_toArray, List.getElem_cons_zero]
            go_simp
            have hbN := hg12.alloc hg12.size (.cells #[] 34)
            have hlN := (Below.refl WV.heap.size WV).alloc (Nat.le_refl _) (.cells #[] 34)
            have hoN := own_empty WV W6.heap.size 34 5 WV.heap.size rfl hg12.size
            have hsE := hide (hg12.size)
            have hvN := hvg12.below hlN
            generalize hWN : WV.alloc (.cells #[] 34) = WE at *
            have hsg120 := hide (show WE.heap.size = WV.heap.size + 1 from by rw [← hWN]; simp)
            clear hWN hlN
            refine hK.out _ _ (SHp.out _ hbN) (fun hH2 => ?_)
            clear hK hH2
            have hg120 := hbN; clear hbN
            have hog120 := hoN; clear hoN
            have hvg120 := hvN; clear hvN
            have hqg120 := hide (show ¬ W7.heap.size = WV.heap.size from by have := hsg12.out; have := hsg120.out; omega)
            refine wpAnyH_ready (rs := [2]) (by kernel_rfl) (by simp) ?_
            refine AllReadyH.cons rfl (fun K hK => ?_) AllReadyH.nil
            obtain ⟨r0, r1, r2, r3, r4, r5⟩ := six_at ((hg120.block _ hx6).trans KX6.out)
            simp only [List.getElem_toArray, List.getElem_cons_succ, List.getElem_cons_zero]
            go_simp
            refine hK.out _ _ (SHp.out _ hg120) (fun hH2 => ?_)
            clear hK hH2 r0 r1 r2 r3 r4 r5
            refine wpAnyH_ready (rs := [3]) (by kernel_rfl) (by simp) ?_
            refine AllReadyH.cons rfl (fun K hK => ?_) AllReadyH.nil
            refine step_append_wide (by rfl) (.tmp 149) (.tmp 151) 22 (by rfl) W6.heap.size 34 i0 (.agg #[.int .i64 0, .bool false, .int .i64 0, .int .i64 0, .slice none 0 0]) 5 56 Try.underlying22 hi hz0 hz1 hz2 rfl (by omega) _ 0 [] (by rfl) hog120 y.P y.X.length y.pc (y.X.flatMap PAt.cells) (by rfl) (RP7.out _ hg120) (flat_length PAt.cells_length y.X) (pats_one y.X) (by unfold maxLen; omega) (by omega) hg120.size ?_
            intro A8 c8 w8 n8 g8 t8
            have hbN := hg120.grown g8 hg120.size (fun g hg => (hog120.lt g hg).1)
            simp only [Nat.zero_add, List.nil_append] at n8 ⊢
            have hvN := Reads.grown hvg120 g8 (fun b off he h' => by injection he with he; injection he with he1 _; have h2 : some b = some WV.heap.size := h'; injection h2 with h2; rw [← he1] at h2; exact absurd h2 (hqg120.out))
            refine hK.out _ _ (SHp.out _ hbN) (fun hH2 => ?_)
            clear hK hH2 g8 t8
            try simp only [Act.put, List.getElem_toArray, List.getElem_cons_succ, List.getElem_cons_zero, List.setIfInBounds_toArray, List.set_cons_zero, List.set_cons_succ]
            have hg12023 := hbN; clear hbN
            have hog12023 := n8; clear n8
            have hvg12023 := hvN; clear hvN
            refine wpAnyH_ready (rs := [13]) (by kernel_rfl) (by simp) ?_
            refine AllReadyH.cons rfl (fun K hK => ?_) AllReadyH.nil
            refine step_append_wide (by rfl) (.tmp 152) (.tmp 161) 22 (by rfl) W6.heap.size 34 i0 (.agg #[.int .i64 0, .bool false, .int .i64 0, .int .i64 0, .slice none 0 0]) 5 56 Try.underlying22 hi hz0 hz1 hz2 rfl (by omega) _ y.X.length (y.X.flatMap PAt.cells) (by rfl) hog12023 (some ⟨W7.heap.size, 0, none⟩) 1 1 (PAt.cells ⟨told a h.s, h.at_, h.cap⟩) (by rfl) hvg12023 rfl (pat_one _) (by unfold maxLen; omega) (by omega) hg12023.size ?_
            intro A9 c9 w9 n9 g9 t9
            have hbN := hg12023.grown g9 hg12023.size (fun g hg => (hog12023.lt g hg).1)
            have hf9 : ∀ a, A9 = some a → W6.heap.size ≤ a.block := fun a ha => (n9.lt a.block (by rw [ha]; rfl)).1
            refine hK.out _ _ (SHp.out _ hbN) (fun hH2 => ?_)
            clear hK hH2 g9 t9
            try simp only [Act.put, List.getElem_toArray, List.getElem_cons_succ, List.getElem_cons_zero, List.setIfInBounds_toArray, List.set_cons_zero, List.set_cons_succ]
            refine wpAnyH_take (i := 14) (v := ?vg1202314) rfl (by kernel_rfl) (by kernel_rfl) (by kernel_rfl) (fun _ _ _ h => h) (Or.inl ⟨by rfl, ?yg1202314⟩) (SHp.out _ hbN) ?rg1202314
            case yg1202314 => (intro W hSw; (try dsimp only at hSw); (try simp only [List.getElem_toArray, List.getElem_cons_succ, List.getElem_cons_zero]); go_simp; first | done | with_reducible rfl)
            try simp only [Act.put, List.getElem_toArray, List.getElem_cons_succ, List.getElem_cons_zero, List.setIfInBounds_toArray, List.set_cons_zero, List.set_cons_succ]
            have KXw := (hbN.block _ hx6).trans KX6.out
            obtain ⟨r0, r1, r2, r3, r4, r5⟩ := six_at KXw
            obtain ⟨rf0, rf1, rf2, rf3, rf4, rf5⟩ := six_live KXw
            refine wpAnyH_ready (rs := [15]) (by kernel_rfl) (by simp) ?_
            refine AllReadyH.cons rfl (fun K hK => ?_) AllReadyH.nil
            simp only [List.getElem_toArray, List.getElem_cons_succ, List.getElem_cons_zero]
            go_simp
            have KHw : (w9.setCell ⟨w2.heap.size, 2, none⟩ (.slice A9 (y.X.length + 1) c9)).heap[W3.heap.size]? = some (.cells #[.int .i64 h.s.pr, .int .i64 h.s.ps, .bool h.s.some, .int .i64 h.s.ar, .int .i64 h.s.as_, .slice h.at_ h.s.val.length h.cap] 51) := far ((hbN.block _ hh6).trans KH6.out) hXne _ _
            refine hK.out _ _ (HNE.out _ KHw) (fun hH2 => ?_)
            clear hK hH2
            refine wpAnyH_done (by kernel_rfl) ?_ _
            have HREL := hide (And.intro (six_put2 KXw (.slice A9 (y.X.length + 1) c9)) (And.intro ((reads_own n9).keepset w2.heap.size 2 (.slice A9 (y.X.length + 1) c9) (fun a ha => by have := hf9 a ha; omega)) hf9))
            go_wp2
            go_meet
            case rel => exact ⟨rfl, A9, c9, HREL.out.1, HREL.out.2.1, HREL.out.2.2, w9, _, rfl, hbN⟩
          · obtain ⟨r0, r1, r2, r3, r4, r5⟩ := six_at ((hg12.block _ hx6).trans KX6.out)
            simp only [List.getElem_toArray, List.getElem_cons_succ, List.getElem_cons_zero]
            go_simp
            refine hK.out _ _ (SHp.out _ hg12) (fun hH2 => ?_)
            clear hK hH2 r0 r1 r2 r3 r4 r5
            refine wpAnyH_ready (rs := [0]) (by kernel_rfl) (by simp) ?_
            refine AllReadyH.cons rfl (fun K hK => ?_) AllReadyH.nil
            simp only [List.getElem_toArray, List.getElem_cons_zero]
            go_simp
            have hbN := hg12.alloc hg12.size (.cells #[] 34)
            have hlN := (Below.refl WV.heap.size WV).alloc (Nat.le_refl _) (.cells #[] 34)
            have hoN := own_empty WV W6.heap.size 34 5 WV.heap.size rfl hg12.size
            have hsE := hide (hg12.size)
            have hvN := hvg12.below hlN
            generalize hWN : WV.alloc (.cells #[] 34) = WE at *
            have hsg1220 := hide (show WE.heap.size = WV.heap.size + 1 from by rw [← hWN]; simp)
            clear hWN hlN
            refine hK.out _ _ (SHp.out _ hbN) (fun hH2 => ?_)
            clear hK hH2
            have hg1220 := hbN; clear hbN
            have hog1220 := hoN; clear hoN
            have hvg1220 := hvN; clear hvN
            have hqg1220 := hide (show ¬ W7.heap.size = WV.heap.size from by have := hsg12.out; have := hsg1220.out; omega)
            refine wpAnyH_ready (rs := [3]) (by kernel_rfl) (by simp) ?_
            refine AllReadyH.cons rfl (fun K hK => ?_) AllReadyH.nil
            refine step_append_wide (by rfl) (.tmp 149) (.tmp 151) 22 (by rfl) W6.heap.size 34 i0 (.agg #[.int .i64 0, .bool false, .int .i64 0, .int .i64 0, .slice none 0 0]) 5 56 Try.underlying22 hi hz0 hz1 hz2 rfl (by omega) _ 0 [] (by rfl) hog1220 y.P y.X.length y.pc (y.X.flatMap PAt.cells) (by rfl) (RP7.out _ hg1220) (flat_length PAt.cells_length y.X) (pats_one y.X) (by unfold maxLen; omega) (by omega) hg1220.size ?_
            intro A8 c8 w8 n8 g8 t8
            have hbN := hg1220.grown g8 hg1220.size (fun g hg => (hog1220.lt g hg).1)
            simp only [Nat.zero_add, List.nil_append] at n8 ⊢
            have hvN := Reads.grown hvg1220 g8 (fun b off he h' => by injection he with he; injection he with he1 _; have h2 : some b = some WV.heap.size := h'; injection h2 with h2; rw [← he1] at h2; exact absurd h2 (hqg1220.out))
            refine hK.out _ _ (SHp.out _ hbN) (fun hH2 => ?_)
            clear hK hH2 g8 t8
            try simp only [Act.put, List.getElem_toArray, List.getElem_cons_succ, List.getElem_cons_zero, List.setIfInBounds_toArray, List.set_cons_zero, List.set_cons_succ]
            have hg12203 := hbN; clear hbN
            have hog12203 := n8; clear n8
            have hvg12203 := hvN; clear hvN
            refine wpAnyH_ready (rs := [13]) (by kernel_rfl) (by simp) ?_
            refine AllReadyH.cons rfl (fun K hK => ?_) AllReadyH.nil
            refine step_append_wide (by rfl) (.tmp 152) (.tmp 161) 22 (by rfl) W6.heap.size 34 i0 (.agg #[.int .i64 0, .bool false, .int .i64 0, .int .i64 0, .slice none 0 0]) 5 56 Try.underlying22 hi hz0 hz1 hz2 rfl (by omega) _ y.X.length (y.X.flatMap PAt.cells) (by rfl) hog12203 (some ⟨W7.heap.size, 0, none⟩) 1 1 (PAt.cells ⟨told a h.s, h.at_, h.cap⟩) (by rfl) hvg12203 rfl (pat_one _) (by unfold maxLen; omega) (by omega) hg12203.size ?_
            intro A9 c9 w9 n9 g9 t9
            have hbN := hg12203.grown g9 hg12203.size (fun g hg => (hog12203.lt g hg).1)
            have hf9 : ∀ a, A9 = some a → W6.heap.size ≤ a.block := fun a ha => (n9.lt a.block (by rw [ha]; rfl)).1
            refine hK.out _ _ (SHp.out _ hbN) (fun hH2 => ?_)
            clear hK hH2 g9 t9
            try simp only [Act.put, List.getElem_toArray, List.getElem_cons_succ, List.getElem_cons_zero, List.setIfInBounds_toArray, List.set_cons_zero, List.set_cons_succ]
            refine wpAnyH_take (i := 14) (v := ?vg1220314) rfl (by kernel_rfl) (by kernel_rfl) (by kernel_rfl) (fun _ _ _ h => h) (Or.inl ⟨by rfl, ?yg1220314⟩) (SHp.out _ hbN) ?rg1220314
            case yg1220314 => (intro W hSw; (try dsimp only at hSw); (try simp only [List.getElem_toArray, List.getElem_cons_succ, List.getElem_cons_zero]); go_simp; first | done | with_reducible rfl)
            try simp only [Act.put, List.getElem_toArray, List.getElem_cons_succ, List.getElem_cons_zero, List.setIfInBounds_toArray, List.set_cons_zero, List.set_cons_succ]
            have KXw := (hbN.block _ hx6).trans KX6.out
            obtain ⟨r0, r1, r2, r3, r4, r5⟩ := six_at KXw
            obtain ⟨rf0, rf1, rf2, rf3, rf4, rf5⟩ := six_live KXw
            refine wpAnyH_ready (rs := [15]) (by kernel_rfl) (by simp) ?_
            refine AllReadyH.cons rfl (fun K hK => ?_) AllReadyH.nil
            simp only [List.getElem_toArray, List.getElem_cons_succ, List.getElem_cons_zero]
            go_simp
            have KHw : (w9.setCell ⟨w2.heap.size, 2, none⟩ (.slice A9 (y.X.length + 1) c9)).heap[W3.heap.size]? = some (.cells #[.int .i64 h.s.pr, .int .i64 h.s.ps, .bool h.s.some, .int .i64 h.s.ar, .int .i64 h.s.as_, .slice h.at_ h.s.val.length h.cap] 51) := far ((hbN.block _ hh6).trans KH6.out) hXne _ _
            refine hK.out _ _ (HNE.out _ KHw) (fun hH2 => ?_)
            clear hK hH2
            refine wpAnyH_done (by kernel_rfl) ?_ _
            have HREL := hide (And.intro (six_put2 KXw (.slice A9 (y.X.length + 1) c9)) (And.intro ((reads_own n9).keepset w2.heap.size 2 (.slice A9 (y.X.length + 1) c9) (fun a ha => by have := hf9 a ha; omega)) hf9))
            go_wp2
            go_meet
            case rel => exact ⟨rfl, A9, c9, HREL.out.1, HREL.out.2.1, HREL.out.2.2, w9, _, rfl, hbN⟩
      obtain ⟨rfl, P9, p9, KX9, R9, F9, w9, v9, hw9, hb9⟩ := hcut
      have hHB0 : b0 ≤ W6.heap.size := Nat.le_trans HM.out.base (by omega)
      have hXB3 : w2.heap.size ≠ B := by omega
      have hXg3 : w2.heap.size ≠ g := by omega
      have HBX : b0 ≤ w2.heap.size := by have := HM.out.base; omega
      have HB19 := hide (behind19 HD6.out HR6.out hw9 hb9 hHB0 hXB3 hXg3 HBX hXB (fun a ha => by have := HP5.out a ha; omega))
      clear hw9 hb9
      have HD9 := hide HB19.out.1
      have HR9 := hide HB19.out.2.1
      have KXW := hide KX9
      have HR9' := hide R9; have HF9 := hide F9
      have hs9 : W6.heap.size ≤ wc.heap.size := HB19.out.2.2
      have HAL7 : (all.set a ⟨t, A5, c5⟩).length = 7 := by simp [HAL.out]
      clear HB19 KX9 R9 F9 HD6 HR6 KX6 KH6 KE6 x0 x1 x2 x3 x4 HFIN
      go_upto_region 20 with fail
      have hXg : ¬ w2.heap.size = g := by omega
      have hBg : ¬ B = g := HM.out.apart
      have HSW := hide (fun (W : World) (h1 : W.heap[w2.heap.size]? = some (.cells #[.int .i64 y.r, .int .i64 y.t, .slice P9 (y.X.length + 1) p9, .bool y.has, .slice y.V y.val.length y.vc, .slice y.W y.vs.length y.wc] 62)) (h2 : W.cell? ⟨B, 43, none⟩ = some (.slice (some ⟨g, 0, none⟩) rs.length rc)) => (show W.cell? ⟨w2.heap.size, 0, none⟩ = some (.int .i64 y.r) ∧ W.cell? ⟨w2.heap.size, 1, none⟩ = some (.int .i64 y.t) ∧ W.cell? ⟨w2.heap.size, 2, none⟩ = some (.slice P9 (y.X.length + 1) p9) ∧ W.cell? ⟨w2.heap.size, 3, none⟩ = some (.bool y.has) ∧ W.cell? ⟨w2.heap.size, 4, none⟩ = some (.slice y.V y.val.length y.vc) ∧ W.cell? ⟨w2.heap.size, 5, none⟩ = some (.slice y.W y.vs.length y.wc) ∧ W.cell? ⟨B, 43, none⟩ = some (.slice (some ⟨g, 0, none⟩) rs.length rc) from ⟨(six_at h1).1, (six_at h1).2.1, (six_at h1).2.2.1, (six_at h1).2.2.2.1, (six_at h1).2.2.2.2.1, (six_at h1).2.2.2.2.2, h2⟩))
      have c43 := (mid_slot HD9.out HAL7).2
      obtain ⟨z0, z1, z2, z3, z4, z5⟩ := mid_rnd HD9.out hkl
      have fg := fun j => HD9.out.own.frozenAt j
      have g0 := fg (k * 6); have g1 := fg (k * 6 + 1); have g2 := fg (k * 6 + 2); have g3 := fg (k * 6 + 3); have g4 := fg (k * 6 + 4); have g5 := fg (k * 6 + 5)
      clear fg
      have hS0 := HSW.out wc.drew (drew_at KXW.out) (drew_cell c43)
      refine wp_region_held_drew (S := fun W => W.cell? ⟨w2.heap.size, 0, none⟩ = some (.int .i64 y.r) ∧ W.cell? ⟨w2.heap.size, 1, none⟩ = some (.int .i64 y.t) ∧ W.cell? ⟨w2.heap.size, 2, none⟩ = some (.slice P9 (y.X.length + 1) p9) ∧ W.cell? ⟨w2.heap.size, 3, none⟩ = some (.bool y.has) ∧ W.cell? ⟨w2.heap.size, 4, none⟩ = some (.slice y.V y.val.length y.vc) ∧ W.cell? ⟨w2.heap.size, 5, none⟩ = some (.slice y.W y.vs.length y.wc) ∧ W.cell? ⟨B, 43, none⟩ = some (.slice (some ⟨g, 0, none⟩) rs.length rc)) (by kernel_rfl) hS0 (fun hH => ?_)
      refine wpAnyH_take (i := 0) (v := ?vw0) rfl (by kernel_rfl) (by kernel_rfl) (by kernel_rfl) (fun _ _ _ h => h) (Or.inl ⟨by rfl, ?yw0⟩) hS0 ?rw0
      case yw0 => (intro W hSw; (try dsimp only at hSw); (try simp only [List.getElem_toArray, List.getElem_cons_zero]); obtain ⟨s0, s1, s2, s3, s4, s5, s6⟩ := hSw; go_simp; first | done | with_reducible rfl)
      try simp only [Act.put, List.getElem_toArray, List.getElem_cons_zero, List.setIfInBounds_toArray, List.set_cons_zero, List.set_cons_succ]
      refine wpAnyH_take (i := 1) (v := ?vw1) rfl (by kernel_rfl) (by kernel_rfl) (by kernel_rfl) (fun _ _ _ h => h) (Or.inl ⟨by rfl, ?yw1⟩) hS0 ?rw1
      case yw1 => (intro W hSw; (try dsimp only at hSw); (try simp only [List.getElem_toArray, List.getElem_cons_succ, List.getElem_cons_zero]); obtain ⟨s0, s1, s2, s3, s4, s5, s6⟩ := hSw; go_simp; first | done | with_reducible rfl)
      try simp only [Act.put, List.getElem_toArray, List.getElem_cons_succ, List.getElem_cons_zero, List.setIfInBounds_toArray, List.set_cons_zero, List.set_cons_succ]
      refine wpAnyH_take (i := 2) (v := ?vw2) rfl (by kernel_rfl) (by kernel_rfl) (by kernel_rfl) (fun _ _ _ h => h) (Or.inl ⟨by rfl, ?yw2⟩) hS0 ?rw2
      case yw2 => (intro W hSw; (try dsimp only at hSw); (try simp only [List.getElem_toArray, List.getElem_cons_succ, List.getElem_cons_zero]); obtain ⟨s0, s1, s2, s3, s4, s5, s6⟩ := hSw; go_simp; first | done | with_reducible rfl)
      try simp only [Act.put, List.getElem_toArray, List.getElem_cons_succ, List.getElem_cons_zero, List.setIfInBounds_toArray, List.set_cons_zero, List.set_cons_succ]
      refine wpAnyH_take (i := 3) (v := ?vw3) rfl (by kernel_rfl) (by kernel_rfl) (by kernel_rfl) (fun _ _ _ h => h) (Or.inl ⟨by rfl, ?yw3⟩) hS0 ?rw3
      case yw3 => (intro W hSw; (try dsimp only at hSw); (try simp only [List.getElem_toArray, List.getElem_cons_succ, List.getElem_cons_zero]); obtain ⟨s0, s1, s2, s3, s4, s5, s6⟩ := hSw; go_simp; first | done | with_reducible rfl)
      try simp only [Act.put, List.getElem_toArray, List.getElem_cons_succ, List.getElem_cons_zero, List.setIfInBounds_toArray, List.set_cons_zero, List.set_cons_succ]
      refine wpAnyH_take (i := 4) (v := ?vw4) rfl (by kernel_rfl) (by kernel_rfl) (by kernel_rfl) (fun _ _ _ h => h) (Or.inl ⟨by rfl, ?yw4⟩) hS0 ?rw4
      case yw4 => (intro W hSw; (try dsimp only at hSw); (try simp only [List.getElem_toArray, List.getElem_cons_succ, List.getElem_cons_zero]); obtain ⟨s0, s1, s2, s3, s4, s5, s6⟩ := hSw; go_simp; first | done | with_reducible rfl)
      try simp only [Act.put, List.getElem_toArray, List.getElem_cons_succ, List.getElem_cons_zero, List.setIfInBounds_toArray, List.set_cons_zero, List.set_cons_succ]
      refine wpAnyH_take (i := 5) (v := ?vw5) rfl (by kernel_rfl) (by kernel_rfl) (by kernel_rfl) (fun _ _ _ h => h) (Or.inl ⟨by rfl, ?yw5⟩) hS0 ?rw5
      case yw5 => (intro W hSw; (try dsimp only at hSw); (try simp only [List.getElem_toArray, List.getElem_cons_succ, List.getElem_cons_zero]); obtain ⟨s0, s1, s2, s3, s4, s5, s6⟩ := hSw; go_simp; first | done | with_reducible rfl)
      try simp only [Act.put, List.getElem_toArray, List.getElem_cons_succ, List.getElem_cons_zero, List.setIfInBounds_toArray, List.set_cons_zero, List.set_cons_succ]
      refine wpAnyH_take (i := 6) (v := ?vw6) rfl (by kernel_rfl) (by kernel_rfl) (by kernel_rfl) (fun _ _ _ h => h) (Or.inl ⟨by rfl, ?yw6⟩) hS0 ?rw6
      case yw6 => (intro W hSw; (try dsimp only at hSw); (try simp only [List.getElem_toArray, List.getElem_cons_succ, List.getElem_cons_zero]); obtain ⟨s0, s1, s2, s3, s4, s5, s6⟩ := hSw; go_simp; first | done | with_reducible rfl)
      try simp only [Act.put, List.getElem_toArray, List.getElem_cons_succ, List.getElem_cons_zero, List.setIfInBounds_toArray, List.set_cons_zero, List.set_cons_succ]
      refine wpAnyH_ready (rs := [7]) (by kernel_rfl) (by simp) ?_
      refine AllReadyH.cons rfl (fun K hK => ?_) AllReadyH.nil
      simp only [List.getElem_toArray, List.getElem_cons_succ, List.getElem_cons_zero]
      go_simp
      have KXF' : ((((((wc.setCell ⟨g, k * 6, none⟩ (.int .i64 y.r)).setCell ⟨g, k * 6 + 1, none⟩ (.int .i64 y.t)).setCell ⟨g, k * 6 + 2, none⟩ (.slice P9 (y.X.length + 1) p9)).setCell ⟨g, k * 6 + 3, none⟩ (.bool y.has)).setCell ⟨g, k * 6 + 4, none⟩ (.slice y.V y.val.length y.vc)).setCell ⟨g, k * 6 + 5, none⟩ (.slice y.W y.vs.length y.wc)).heap[w2.heap.size]? = some (.cells #[.int .i64 y.r, .int .i64 y.t, .slice P9 (y.X.length + 1) p9, .bool y.has, .slice y.V y.val.length y.vc, .slice y.W y.vs.length y.wc] 62) := six_far KXW.out hXg
      have c43F : ((((((wc.setCell ⟨g, k * 6, none⟩ (.int .i64 y.r)).setCell ⟨g, k * 6 + 1, none⟩ (.int .i64 y.t)).setCell ⟨g, k * 6 + 2, none⟩ (.slice P9 (y.X.length + 1) p9)).setCell ⟨g, k * 6 + 3, none⟩ (.bool y.has)).setCell ⟨g, k * 6 + 4, none⟩ (.slice y.V y.val.length y.vc)).setCell ⟨g, k * 6 + 5, none⟩ (.slice y.W y.vs.length y.wc)).cell? ⟨B, 43, none⟩ = some (.slice (some ⟨g, 0, none⟩) rs.length rc) := (cell_of_heap (six_far_eq hBg) 43).trans c43
      refine hK.out _ _ (HSW.out ((((((wc.setCell ⟨g, k * 6, none⟩ (.int .i64 y.r)).setCell ⟨g, k * 6 + 1, none⟩ (.int .i64 y.t)).setCell ⟨g, k * 6 + 2, none⟩ (.slice P9 (y.X.length + 1) p9)).setCell ⟨g, k * 6 + 3, none⟩ (.bool y.has)).setCell ⟨g, k * 6 + 4, none⟩ (.slice y.V y.val.length y.vc)).setCell ⟨g, k * 6 + 5, none⟩ (.slice y.W y.vs.length y.wc)).drew (drew_at KXF') (drew_cell c43F)) (fun hH2 => ?_)
      clear hK hH2
      refine wpAnyH_done (by kernel_rfl) ?_ _
      have HDF := hide ((HD9.out.setRnd hBg hkl (y := { y with P := P9, pc := p9, X := y.X ++ [⟨told a h.s, h.at_, h.cap⟩] }) (show _ = [.int .i64 y.r, .int .i64 y.t, .slice P9 (y.X.length + 1) p9, .bool y.has, .slice y.V y.val.length y.vc, .slice y.W y.vs.length y.wc] from by simp [RnA.cells])).drew)
      have hsF : ((((((wc.setCell ⟨g, k * 6, none⟩ (.int .i64 y.r)).setCell ⟨g, k * 6 + 1, none⟩ (.int .i64 y.t)).setCell ⟨g, k * 6 + 2, none⟩ (.slice P9 (y.X.length + 1) p9)).setCell ⟨g, k * 6 + 3, none⟩ (.bool y.has)).setCell ⟨g, k * 6 + 4, none⟩ (.slice y.V y.val.length y.vc)).setCell ⟨g, k * 6 + 5, none⟩ (.slice y.W y.vs.length y.wc)).drew.heap.size = wc.heap.size := by simp [World.setCell]
      have U := fun (A : Option Addr) (xs : List Value) (hr : Reads wc A xs) (hA : ∀ a, A = some a → a.block ≠ g) => (six_reads (j0 := k * 6) (j1 := k * 6 + 1) (j2 := k * 6 + 2) (j3 := k * 6 + 3) (j4 := k * 6 + 4) (j5 := k * 6 + 5) (u0 := .int .i64 y.r) (u1 := .int .i64 y.t) (u2 := .slice P9 (y.X.length + 1) p9) (u3 := .bool y.has) (u4 := .slice y.V y.val.length y.vc) (u5 := .slice y.W y.vs.length y.wc) (b := g) hr hA).drew
      have RA := U _ _ HR9.out (fun a ha => by have := HP5.out a ha; omega)
      have RP := U _ _ HR9'.out (fun a ha => by have := HF9.out a ha; omega)
      obtain ⟨o1, o2, o3, o4⟩ := HM.out.rr y HYM.out
      have FIN : Hid (Played w b0 B N (opAsk (abs all rs) (lst ek rs.length).toNat (lst ea N).toNat false) (.returned (.tuple #[])) ((((((wc.setCell ⟨g, k * 6, none⟩ (.int .i64 y.r)).setCell ⟨g, k * 6 + 1, none⟩ (.int .i64 y.t)).setCell ⟨g, k * 6 + 2, none⟩ (.slice P9 (y.X.length + 1) p9)).setCell ⟨g, k * 6 + 3, none⟩ (.bool y.has)).setCell ⟨g, k * 6 + 4, none⟩ (.slice y.V y.val.length y.vc)).setCell ⟨g, k * 6 + 5, none⟩ (.slice y.W y.vs.length y.wc)).drew) := hide (by
        rw [HK.out, HA.out, Int.toNat_natCast, Int.toNat_natCast, ← ask_yes (P := P9) (pc := p9) (q := ⟨t, A5, c5⟩) (m := ⟨told a h.s, h.at_, h.cap⟩) HH.out HY.out HT.out HOK.out rfl]
        refine ⟨rfl, g, _, _, rc, HDF.out.done HM.out HAL7 (fun x hx => ?_) (fun z hz => ?_), rfl, HDF.out.bel⟩
        · rcases List.mem_or_eq_of_mem_set hx with h1 | h1
          · exact .inl h1
          · subst h1
            exact .inr (Aw.of RA (fun a ha => by have := HP5.out a ha; omega))
        · rcases List.mem_or_eq_of_mem_set hz with h1 | h1
          · exact .inl h1
          · subst h1
            refine .inr ⟨Aw.of (by rw [List.flatMap_append]; simpa using RP) (fun a ha => by have := HF9.out a ha; omega), fun x hx => ?_, o3.keep HDF.out.keep, o4.keep HDF.out.keep⟩
            rcases List.mem_append.1 hx with h2 | h2
            · exact (o2 x h2).keep HDF.out.keep
            · simp only [List.mem_cons, List.not_mem_nil, or_false] at h2
              subst h2
              exact (HM.out.ra h HHM.out).keep HDF.out.keep)
      go_wp2
      refine bodyPost_end (v := .tuple #[]) (by simp [results, Try.results20, go_sem]) rfl ?_
      exact FIN.out
    · have F := hide (HFIN.out rfl)
      go_wp2
      refine bodyPost_end (v := .tuple #[]) (by simp [results, Try.results20, go_sem]) rfl ?_
      exact F.out

end Go.Proofs.Ytodlabpgjgbbpah
