/-
  What play does: the last arm (a value comes to an acceptor).
-/
import Derived.Test.YtodlabpgjgbbpahPaxMid
namespace Go.Proofs.Ytodlabpgjgbbpah
open Go.RowKit Go.Agio Go.Prp Go.Pax

theorem infoVo : (Try.prog.info? 44).map (fun i => (i.zero, i.size, i.bytes)) = some (some (.agg #[.int .i64 0, .int .i64 0, .int .i64 0]), 3, 24) := by kernel_rfl
theorem votes_one (X : List Vt) : ∀ u ∈ X.flatMap Vt.cells, u.oneCell' = true := fun u hu => by
  obtain ⟨x, _, h⟩ := List.mem_flatMap.1 hu
  exact vt_one x u h
theorem two_of_six {W : World} {b : Nat} {v0 v1 v2 v3 v4 v5 : Value} {t : TypeId} {fr : Nat × Nat} (h : W.heap[b]? = some (.cells #[v0, v1, v2, v3, v4, v5] t fr)) : W.cell? ⟨b, 0, none⟩ = some v0 ∧ W.cell? ⟨b, 1, none⟩ = some v1 := ⟨(six_at h).1, (six_at h).2.1⟩
theorem behind9 {w W6 wx w9 : World} {b0 B g : Nat} {n : Int} {all : List StA} {rs : List RnA} {rc : Nat} {A5 : Option Addr} {xs : List Value} {xb j : Nat} {v : Value} (hD : Mid w W6 b0 B g n all rs rc) (hR : Reads W6 A5 xs) (hw : wx = w9.setCell ⟨xb, j, none⟩ v) (hb : Below W6.heap.size W6 w9) (h0 : b0 ≤ W6.heap.size) (hB : xb ≠ B) (hg : xb ≠ g) (hx0 : b0 ≤ xb) (hw0 : w.heap.size ≤ xb) (hA : ∀ a, A5 = some a → a.block ≠ xb) :
    Mid w wx b0 B g n all rs rc ∧ Reads wx A5 xs ∧ W6.heap.size ≤ wx.heap.size := by
  subst hw
  exact ⟨(hD.below hb h0).other hw0 hB hg hx0 j v, (hR.below hb).keepset xb j v hA, by simpa [World.setCell] using hb.size⟩
theorem put_not {all : List StA} {rs : List RnA} {k a : Nat} {y : RnA} (hy : y = rs.getD k ra0) (hn : y.has = false) : abs all rs = opPut (abs all rs) k a := by
  unfold opPut
  rw [abs_rd, ← hy]
  show _ = (if y.has = true then _ else _)
  rw [if_neg (by rw [hn]; decide)]
theorem put_no {all : List StA} {rs : List RnA} {k a : Nat} {q h : StA} {y : RnA} (hh : h = all.getD a sa0) (hy : y = rs.getD k ra0) (hhas : y.has = true) (hq : q.s = Acc.accept h.s y.r y.t y.val) (hok : false = Acc.acceptOk h.s y.r y.t) :
    abs (all.set a q) rs = opPut (abs all rs) k a := by
  unfold opPut
  rw [abs_set, abs_rd, abs_ac, ← hh, ← hy, hq]
  show _ = (if y.has = true then (⟨_, if Acc.acceptOk h.s y.r y.t = true then _ else _⟩ : Sl) else _)
  rw [if_pos hhas, ← hok, if_neg (by decide)]
  rfl
theorem put_yes {all : List StA} {rs : List RnA} {k a : Nat} {q h : StA} {y : RnA} {W : Option Addr} {wc : Nat} (hh : h = all.getD a sa0) (hy : y = rs.getD k ra0) (hhas : y.has = true) (hq : q.s = Acc.accept h.s y.r y.t y.val) (hok : true = Acc.acceptOk h.s y.r y.t) :
    abs (all.set a q) (rs.set k { y with W := W, wc := wc, vs := y.vs ++ [⟨a, y.r, y.t⟩] }) = opPut (abs all rs) k a := by
  unfold opPut
  rw [abs_put, abs_set, abs_rd, abs_ac, ← hh, ← hy, hq]
  show _ = (if y.has = true then (⟨_, if Acc.acceptOk h.s y.r y.t = true then _ else _⟩ : Sl) else _)
  rw [if_pos hhas, ← hok, if_pos rfl]
  rfl

set_option maxRecDepth 100000 in
set_option maxHeartbeats 8000000 in
theorem play3 (w : World) (b0 B g : Nat) (N : Nat) (all : List StA) (rs : List RnA) (rc : Nat) (kind ep ek ea : Int) (lost : Bool) (hM : Mem w b0 B g N all rs rc) (hN : 0 < N ∧ N ≤ 7) (hl : 0 < rs.length ∧ rs.length ≤ 1000)
    (_he1 : -9223372036854775808 ≤ ep ∧ ep ≤ 9223372036854775807) (he2 : -9223372036854775808 ≤ ek ∧ ek ≤ 9223372036854775807) (he3 : -9223372036854775808 ≤ ea ∧ ea ≤ 9223372036854775807) (hk0 : kind ≠ 0) (hk1 : kind ≠ 1) (hk2 : kind ≠ 2) (hv : ∀ x ∈ all, x.s.val.length ≤ 140737488351232) (hx : ∀ y ∈ rs, y.vs.length ≤ 1000000 ∧ y.val.length ≤ 140737488351232) :
    Calls Try.prog 20 #[.pointer (some ⟨B, 0, none⟩), .agg #[.int .i64 kind, .int .i64 ep, .int .i64 ek, .int .i64 ea, .bool lost]] w (Played w b0 B N (opPut (abs all rs) (lst ek rs.length).toNat (lst ea N).toNat)) := by
  have HV := hide hv; have HXL := hide hx
  clear hv hx
  have hk0' : (kind == 0) = false := by simpa using hk0
  have hk1' : (kind == 1) = false := by simpa using hk1
  have hk2' : (kind == 2) = false := by simpa using hk2
  clear hk0 hk1 hk2
  have HM := hide hM
  obtain ⟨hN1, hN7⟩ := hN
  obtain ⟨hl1, hl2⟩ := hl
  have hal : all.length = 7 := hM.seven
  have HAL := hide hal
  clear hM hal
  go_enter Try.func20, Try.ntmps20
  go_wp2_with fail
  have hN := one_new w (.cells #[.int .i64 kind, .int .i64 ep, .int .i64 ek, .int .i64 ea, .bool lost] 59)
  generalize w.alloc (.cells #[.int .i64 kind, .int .i64 ep, .int .i64 ek, .int .i64 ea, .bool lost] 59) = W0 at *
  obtain ⟨KE, hs0, hb0⟩ := hN
  have HM0 := hide (HM.out.below hb0)
  have HB0 := hide hb0
  have KE := hide KE
  have CE := hide (five_hold KE.out)
  have CB := hide (slot_hold HM0.out)
  clear hb0
  obtain ⟨k, hk⟩ : ∃ k : Nat, lst ek rs.length = (k : Int) := ⟨(lst ek rs.length).toNat, by have := lst_range (n := ek) (m := rs.length) (by omega); omega⟩
  have hkl : k < rs.length := by have := lst_range (n := ek) (m := rs.length) (by omega); omega
  obtain ⟨a, ha⟩ : ∃ a : Nat, lst ea N = (a : Int) := ⟨(lst ea N).toNat, by have := lst_range (n := ea) (m := N) (by omega); omega⟩
  have haN : a < N := by have := lst_range (n := ea) (m := N) (by omega); omega
  have CK := hide (fun (W : World) (hW : Below W0.heap.size W0 W) => (least_any ek rs.length W (by omega) he2 (by omega)).mono (fun e w' h => (show e = .returned (.int .i64 k) ∧ Below W0.heap.size W0 w' from ⟨by rw [h.1, hk], h.2 ▸ hW⟩)))
  have CA := hide (fun (W : World) (hW : Below W0.heap.size W0 W) => (least_any ea N W (by omega) he3 (by omega)).mono (fun e w' h => (show e = .returned (.int .i64 a) ∧ Below W0.heap.size W0 w' from ⟨by rw [h.1, ha], h.2 ▸ hW⟩)))
  have HK := hide hk; have HA := hide ha
  clear hk ha
  have hd0 := (Below.refl W0.heap.size W0).drew
  refine wp_region_held_drew (S := fun W => Below W0.heap.size W0 W) (by kernel_rfl) hd0 (fun hH => ?_)
  refine wpAnyH_take (i := 0) (v := ?va0) rfl (by kernel_rfl) (by kernel_rfl) (by kernel_rfl) (fun _ _ _ h => h) (Or.inl ⟨by rfl, ?ya0⟩) hH ?ra0
  case ya0 => (intro W hSw; (try dsimp only at hSw); (try simp only [List.getElem_toArray, List.getElem_cons_zero]); obtain ⟨x0, x1, x2, x3, x4⟩ := CE.out W hSw; go_simp; first | done | with_reducible rfl)
  try simp only [Act.put, List.getElem_toArray, List.getElem_cons_zero, List.setIfInBounds_toArray, List.set_cons_zero, List.set_cons_succ]
  refine wpAnyH_take (i := 1) (v := ?va1) rfl (by kernel_rfl) (by kernel_rfl) (by kernel_rfl) (fun _ _ _ h => h) (Or.inl ⟨by rfl, ?ya1⟩) hH ?ra1
  case ya1 => (intro W hSw; (try dsimp only at hSw); (try simp only [List.getElem_toArray, List.getElem_cons_succ, List.getElem_cons_zero]); obtain ⟨x0, x1, x2, x3, x4⟩ := CE.out W hSw; go_simp; first | done | with_reducible rfl)
  try simp only [Act.put, List.getElem_toArray, List.getElem_cons_succ, List.getElem_cons_zero, List.setIfInBounds_toArray, List.set_cons_zero, List.set_cons_succ]
  refine wpAnyH_take (i := 2) (v := ?va2) rfl (by kernel_rfl) (by kernel_rfl) (by kernel_rfl) (fun _ _ _ h => h) (Or.inl ⟨by rfl, ?ya2⟩) hH ?ra2
  case ya2 => (intro W hSw; (try dsimp only at hSw); (try simp only [List.getElem_toArray, List.getElem_cons_succ, List.getElem_cons_zero]); obtain ⟨y0, y1⟩ := CB.out W hSw; go_simp; first | done | with_reducible rfl)
  try simp only [Act.put, List.getElem_toArray, List.getElem_cons_succ, List.getElem_cons_zero, List.setIfInBounds_toArray, List.set_cons_zero, List.set_cons_succ]
  refine wpAnyH_take (i := 3) (v := ?va3) rfl (by kernel_rfl) (by kernel_rfl) (by kernel_rfl) (fun _ _ _ h => h) (Or.inl ⟨by rfl, ?ya3⟩) hH ?ra3
  case ya3 => (intro W hSw; (try dsimp only at hSw); (try simp only [List.getElem_toArray, List.getElem_cons_succ, List.getElem_cons_zero]); obtain ⟨y0, y1⟩ := CB.out W hSw; go_simp; first | done | with_reducible rfl)
  try simp only [Act.put, List.getElem_toArray, List.getElem_cons_succ, List.getElem_cons_zero, List.setIfInBounds_toArray, List.set_cons_zero, List.set_cons_succ]
  refine wpAnyH_take (i := 4) (v := ?va4) rfl (by kernel_rfl) (by kernel_rfl) (by kernel_rfl) (fun _ _ _ h => h) (Or.inl ⟨by rfl, ?ya4⟩) hH ?ra4
  case ya4 => (intro W hSw; (try dsimp only at hSw); (try simp only [List.getElem_toArray, List.getElem_cons_succ, List.getElem_cons_zero]); obtain ⟨y0, y1⟩ := CB.out W hSw; go_simp; first | done | with_reducible rfl)
  try simp only [Act.put, List.getElem_toArray, List.getElem_cons_succ, List.getElem_cons_zero, List.setIfInBounds_toArray, List.set_cons_zero, List.set_cons_succ]
  refine wpAnyH_take (i := 5) (v := ?va5) rfl (by kernel_rfl) (by kernel_rfl) (by kernel_rfl) (fun _ _ _ h => h) (Or.inl ⟨by rfl, ?ya5⟩) hH ?ra5
  case ya5 => (intro W hSw; (try dsimp only at hSw); (try simp only [List.getElem_toArray, List.getElem_cons_succ, List.getElem_cons_zero]); obtain ⟨y0, y1⟩ := CB.out W hSw; go_simp; first | done | with_reducible rfl)
  try simp only [Act.put, List.getElem_toArray, List.getElem_cons_succ, List.getElem_cons_zero, List.setIfInBounds_toArray, List.set_cons_zero, List.set_cons_succ]
  refine wpAnyH_take (i := 6) (v := ?va6) rfl (by kernel_rfl) (by kernel_rfl) (by kernel_rfl) (fun _ _ _ h => h) (Or.inl ⟨by rfl, ?ya6⟩) hH ?ra6
  case ya6 => (intro W hSw; (try dsimp only at hSw); (try simp only [List.getElem_toArray, List.getElem_cons_succ, List.getElem_cons_zero]); obtain ⟨y0, y1⟩ := CB.out W hSw; go_simp; first | done | with_reducible rfl)
  try simp only [Act.put, List.getElem_toArray, List.getElem_cons_succ, List.getElem_cons_zero, List.setIfInBounds_toArray, List.set_cons_zero, List.set_cons_succ]
  refine wpAnyH_ready (rs := [7]) (by kernel_rfl) (by simp) ?_
  refine AllReadyH.cons rfl (fun K hK => ?_) AllReadyH.nil
  simp only [List.getElem_toArray, List.getElem_cons_succ, List.getElem_cons_zero]
  go_simp
  refine (CK.out _ hd0).mono ?_
  rintro e w1 ⟨rfl, hb1⟩
  refine hK.out _ _ hb1 (fun hH2 => ?_)
  clear hK hH2
  refine wpAnyH_take (i := 8) (v := ?va8) rfl (by kernel_rfl) (by kernel_rfl) (by kernel_rfl) (fun _ _ _ h => h) (Or.inl ⟨by rfl, ?ya8⟩) hb1 ?ra8
  case ya8 => (intro W hSw; (try dsimp only at hSw); (try simp only [List.getElem_toArray, List.getElem_cons_succ, List.getElem_cons_zero]); go_simp; first | done | with_reducible rfl)
  try simp only [Act.put, List.getElem_toArray, List.getElem_cons_succ, List.getElem_cons_zero, List.setIfInBounds_toArray, List.set_cons_zero, List.set_cons_succ]
  refine wpAnyH_done (by kernel_rfl) ?_ _
  go_wp2_with fail
  have hd1 := hb1.drew
  refine wp_region_held_drew (S := fun W => Below W0.heap.size W0 W) (by kernel_rfl) hd1 (fun hH => ?_)
  refine wpAnyH_take (i := 0) (v := ?vb0) rfl (by kernel_rfl) (by kernel_rfl) (by kernel_rfl) (fun _ _ _ h => h) (Or.inl ⟨by rfl, ?yb0⟩) hH ?rb0
  case yb0 => (intro W hSw; (try dsimp only at hSw); (try simp only [List.getElem_toArray, List.getElem_cons_zero]); obtain ⟨x0, x1, x2, x3, x4⟩ := CE.out W hSw; go_simp; first | done | with_reducible rfl)
  try simp only [Act.put, List.getElem_toArray, List.getElem_cons_zero, List.setIfInBounds_toArray, List.set_cons_zero, List.set_cons_succ]
  refine wpAnyH_take (i := 1) (v := ?vb1) rfl (by kernel_rfl) (by kernel_rfl) (by kernel_rfl) (fun _ _ _ h => h) (Or.inl ⟨by rfl, ?yb1⟩) hH ?rb1
  case yb1 => (intro W hSw; (try dsimp only at hSw); (try simp only [List.getElem_toArray, List.getElem_cons_succ, List.getElem_cons_zero]); obtain ⟨x0, x1, x2, x3, x4⟩ := CE.out W hSw; go_simp; first | done | with_reducible rfl)
  try simp only [Act.put, List.getElem_toArray, List.getElem_cons_succ, List.getElem_cons_zero, List.setIfInBounds_toArray, List.set_cons_zero, List.set_cons_succ]
  refine wpAnyH_take (i := 2) (v := ?vb2) rfl (by kernel_rfl) (by kernel_rfl) (by kernel_rfl) (fun _ _ _ h => h) (Or.inl ⟨by rfl, ?yb2⟩) hH ?rb2
  case yb2 => (intro W hSw; (try dsimp only at hSw); (try simp only [List.getElem_toArray, List.getElem_cons_succ, List.getElem_cons_zero]); obtain ⟨y0, y1⟩ := CB.out W hSw; go_simp; first | done | with_reducible rfl)
  try simp only [Act.put, List.getElem_toArray, List.getElem_cons_succ, List.getElem_cons_zero, List.setIfInBounds_toArray, List.set_cons_zero, List.set_cons_succ]
  refine wpAnyH_take (i := 3) (v := ?vb3) rfl (by kernel_rfl) (by kernel_rfl) (by kernel_rfl) (fun _ _ _ h => h) (Or.inl ⟨by rfl, ?yb3⟩) hH ?rb3
  case yb3 => (intro W hSw; (try dsimp only at hSw); (try simp only [List.getElem_toArray, List.getElem_cons_succ, List.getElem_cons_zero]); obtain ⟨y0, y1⟩ := CB.out W hSw; go_simp; first | done | with_reducible rfl)
  try simp only [Act.put, List.getElem_toArray, List.getElem_cons_succ, List.getElem_cons_zero, List.setIfInBounds_toArray, List.set_cons_zero, List.set_cons_succ]
  refine wpAnyH_take (i := 4) (v := ?vb4) rfl (by kernel_rfl) (by kernel_rfl) (by kernel_rfl) (fun _ _ _ h => h) (Or.inl ⟨by rfl, ?yb4⟩) hH ?rb4
  case yb4 => (intro W hSw; (try dsimp only at hSw); (try simp only [List.getElem_toArray, List.getElem_cons_succ, List.getElem_cons_zero]); obtain ⟨y0, y1⟩ := CB.out W hSw; go_simp; first | done | with_reducible rfl)
  try simp only [Act.put, List.getElem_toArray, List.getElem_cons_succ, List.getElem_cons_zero, List.setIfInBounds_toArray, List.set_cons_zero, List.set_cons_succ]
  refine wpAnyH_take (i := 5) (v := ?vb5) rfl (by kernel_rfl) (by kernel_rfl) (by kernel_rfl) (fun _ _ _ h => h) (Or.inl ⟨by rfl, ?yb5⟩) hH ?rb5
  case yb5 => (intro W hSw; (try dsimp only at hSw); (try simp only [List.getElem_toArray, List.getElem_cons_succ, List.getElem_cons_zero]); obtain ⟨y0, y1⟩ := CB.out W hSw; go_simp; first | done | with_reducible rfl)
  try simp only [Act.put, List.getElem_toArray, List.getElem_cons_succ, List.getElem_cons_zero, List.setIfInBounds_toArray, List.set_cons_zero, List.set_cons_succ]
  refine wpAnyH_ready (rs := [6]) (by kernel_rfl) (by simp) ?_
  refine AllReadyH.cons rfl (fun K hK => ?_) AllReadyH.nil
  simp only [List.getElem_toArray, List.getElem_cons_succ, List.getElem_cons_zero]
  go_simp
  refine (CA.out _ hd1).mono ?_
  rintro e w2 ⟨rfl, hb2⟩
  refine hK.out _ _ hb2 (fun hH2 => ?_)
  clear hK hH2
  refine wpAnyH_take (i := 7) (v := ?vb7) rfl (by kernel_rfl) (by kernel_rfl) (by kernel_rfl) (fun _ _ _ h => h) (Or.inl ⟨by rfl, ?yb7⟩) hb2 ?rb7
  case yb7 => (intro W hSw; (try dsimp only at hSw); (try simp only [List.getElem_toArray, List.getElem_cons_succ, List.getElem_cons_zero]); go_simp; first | done | with_reducible rfl)
  try simp only [Act.put, List.getElem_toArray, List.getElem_cons_succ, List.getElem_cons_zero, List.setIfInBounds_toArray, List.set_cons_zero, List.set_cons_succ]
  refine wpAnyH_done (by kernel_rfl) ?_ _
  obtain ⟨y0, y1⟩ := CB.out w2 hb2
  obtain ⟨x0, x1, x2, x3, x4⟩ := CE.out w2 hb2
  have HM2 := hide (HM0.out.below hb2)
  obtain ⟨z0, z1, z2, z3, z4, z5⟩ := rnd_hold HM2.out hkl
  obtain ⟨y, hy⟩ : ∃ y, y = rs.getD k ra0 := ⟨_, rfl⟩
  rw [← hy] at z0 z1 z2 z3 z4 z5
  have HY := hide hy
  have HYM := hide (show y ∈ rs from by rw [hy]; exact getD_mem hkl)
  have HB2 := hide (below_next HB0.out hb2)
  have KE2 := hide ((hb2.block _ (blk_lt KE.out)).trans KE.out)
  have hki : (k : Int) < (rs.length : Int) := by omega
  clear hd0 hd1 hb1 hb2 CK CA CE CB HM0 HB0 KE hy
  go_upto_region 4 with fail
  have hgw := HM.out.glt.2
  have hBw := HM.out.blt
  have hN := one_new w2 (.cells #[.int .i64 y.r, .int .i64 y.t, .slice y.P y.X.length y.pc, .bool y.has, .slice y.V y.val.length y.vc, .slice y.W y.vs.length y.wc] 62)
  generalize w2.alloc (.cells #[.int .i64 y.r, .int .i64 y.t, .slice y.P y.X.length y.pc, .bool y.has, .slice y.V y.val.length y.vc, .slice y.W y.vs.length y.wc] 62) = W3 at *
  obtain ⟨KX, hs3, hb3⟩ := hN
  have HM3 := hide (HM2.out.below hb3)
  have KE3 := hide ((hb3.block _ (blk_lt KE2.out)).trans KE2.out)
  have HB3 := hide (below_next HB2.out hb3)
  have hXB := HB2.out.size
  have KX3 := hide KX
  clear x0 x1 x2 x3 x4 y0 y1 z0 z1 z2 z3 z4 z5 hb3 HM2 KE2 HB2 KX hs3
  obtain ⟨x0, x1, x2, x3, x4⟩ := five_at KE3.out
  have hal7 : a < all.length := by rw [HAL.out]; omega
  obtain ⟨h, hh⟩ : ∃ h, h = all.getD a sa0 := ⟨_, rfl⟩
  have HH := hide hh
  have HHM := hide (show h ∈ all from by rw [hh]; exact getD_mem hal7)
  clear hh
  cases hhas : y.has
  · have F : Hid (Played w b0 B N (opPut (abs all rs) (lst ek rs.length).toNat (lst ea N).toNat) (.returned (.tuple #[])) W3) := hide ⟨rfl, g, all, rs, rc, HM.out.below HB3.out, put_not (by rw [HK.out, Int.toNat_natCast]; exact HY.out) hhas, HB3.out.mono (Nat.le_trans HM.out.base (Nat.le_of_lt hBw))⟩
    obtain ⟨r0, r1, r2, r3, r4, r5⟩ := six_at KX3.out
    rw [hhas] at r3
    clear hhas
    go_wp2
    refine bodyPost_end (v := .tuple #[]) (by simp [results, Try.results20, go_sem]) rfl ?_
    exact F.out
  · obtain ⟨r0, r1, r2, r3, r4, r5⟩ := six_at KX3.out
    rw [hhas] at r3
    have HHAS := hide hhas
    clear hhas
    have hai : (a : Int) < 7 := by omega
    go_upto_region 6 with fail
    have hx3 := blk_lt KX3.out
    clear x0 x1 x2 x3 x4 r0 r1 r2 r3 r4 r5
    obtain ⟨t, ht⟩ : ∃ t, t = Acc.accept h.s y.r y.t y.val := ⟨_, rfl⟩
    obtain ⟨ok, hok⟩ : ∃ ok, ok = Acc.acceptOk h.s y.r y.t := ⟨_, rfl⟩
    have HT := hide ht; have HOK := hide hok
    clear ht hok
    have CA := hide (fun (W : World) (hW : Below W3.heap.size W3 W) => (show W.cell? ⟨B, 1 + a * 6, none⟩ = some (.int .i64 h.s.pr) ∧ W.cell? ⟨B, 1 + a * 6 + 1, none⟩ = some (.int .i64 h.s.ps) ∧ W.cell? ⟨B, 1 + a * 6 + 2, none⟩ = some (.bool h.s.some) ∧ W.cell? ⟨B, 1 + a * 6 + 3, none⟩ = some (.int .i64 h.s.ar) ∧ W.cell? ⟨B, 1 + a * 6 + 4, none⟩ = some (.int .i64 h.s.as_) ∧ W.cell? ⟨B, 1 + a * 6 + 5, none⟩ = some (.slice h.at_ h.s.val.length h.cap) from by rw [HH.out]; exact acc_at (HM3.out.below hW) hal7))
    have CX := hide (six_hold KX3.out)
    have CP := hide (fun (W : World) (hW : Below W3.heap.size W3 W) => accept_any h.s h.at_ h.cap y.r y.t y.V y.vc y.val W (((HM3.out.ra h HHM.out).reads).below hW) (by have := HV.out h HHM.out; omega) ((((HM3.out.rr y HYM.out).2.2.1).reads).below hW) (by have := (HXL.out y HYM.out).2; omega))
    unfold stv at CP
    rw [← HT.out, ← HOK.out] at CP
    go_cut [13, 14] (fun ut uo wx => ∃ tb A5 c5, ut = .pointer (some ⟨tb, 0, none⟩) ∧ uo = .bool ok ∧ wx.heap[tb]? = some (.cells (stc t.pr t.ps t.some t.ar t.as_ (.slice A5 t.val.length c5)) 51) ∧ W3.heap.size ≤ tb ∧ Reads wx A5 (bys t.val) ∧ (∀ a, A5 = some a → W3.heap.size ≤ a.block) ∧ Below W3.heap.size W3 wx)
    case first =>
      have hd0 := (Below.refl W3.heap.size W3).drew
      refine wp_region_held_drew (S := fun W => Below W3.heap.size W3 W) (by kernel_rfl) hd0 (fun hH => ?_)
      refine wpAnyH_take (i := 0) (v := ?vc0) rfl (by kernel_rfl) (by kernel_rfl) (by kernel_rfl) (fun _ _ _ h => h) (Or.inl ⟨by rfl, ?yc0⟩) hd0 ?rc0
      case yc0 => (intro W hSw; (try dsimp only at hSw); (try simp only [List.getElem_toArray, List.getElem_cons_zero]); obtain ⟨a0, a1, a2, a3, a4, a5⟩ := CA.out W hSw; obtain ⟨r0, r1, r2, r3, r4, r5⟩ := CX.out W hSw; go_simp; first | done | with_reducible rfl)
      try simp only [Act.put, List.getElem_toArray, List.getElem_cons_zero, List.setIfInBounds_toArray, List.set_cons_zero, List.set_cons_succ]
      refine wpAnyH_take (i := 1) (v := ?vc1) rfl (by kernel_rfl) (by kernel_rfl) (by kernel_rfl) (fun _ _ _ h => h) (Or.inl ⟨by rfl, ?yc1⟩) hd0 ?rc1
      case yc1 => (intro W hSw; (try dsimp only at hSw); (try simp only [List.getElem_toArray, List.getElem_cons_succ, List.getElem_cons_zero]); obtain ⟨a0, a1, a2, a3, a4, a5⟩ := CA.out W hSw; obtain ⟨r0, r1, r2, r3, r4, r5⟩ := CX.out W hSw; go_simp; first | done | with_reducible rfl)
      try simp only [Act.put, List.getElem_toArray, List.getElem_cons_succ, List.getElem_cons_zero, List.setIfInBounds_toArray, List.set_cons_zero, List.set_cons_succ]
      refine wpAnyH_take (i := 2) (v := ?vc2) rfl (by kernel_rfl) (by kernel_rfl) (by kernel_rfl) (fun _ _ _ h => h) (Or.inl ⟨by rfl, ?yc2⟩) hd0 ?rc2
      case yc2 => (intro W hSw; (try dsimp only at hSw); (try simp only [List.getElem_toArray, List.getElem_cons_succ, List.getElem_cons_zero]); obtain ⟨a0, a1, a2, a3, a4, a5⟩ := CA.out W hSw; obtain ⟨r0, r1, r2, r3, r4, r5⟩ := CX.out W hSw; go_simp; first | done | with_reducible rfl)
      try simp only [Act.put, List.getElem_toArray, List.getElem_cons_succ, List.getElem_cons_zero, List.setIfInBounds_toArray, List.set_cons_zero, List.set_cons_succ]
      refine wpAnyH_take (i := 3) (v := ?vc3) rfl (by kernel_rfl) (by kernel_rfl) (by kernel_rfl) (fun _ _ _ h => h) (Or.inl ⟨by rfl, ?yc3⟩) hd0 ?rc3
      case yc3 => (intro W hSw; (try dsimp only at hSw); (try simp only [List.getElem_toArray, List.getElem_cons_succ, List.getElem_cons_zero]); obtain ⟨a0, a1, a2, a3, a4, a5⟩ := CA.out W hSw; obtain ⟨r0, r1, r2, r3, r4, r5⟩ := CX.out W hSw; go_simp; first | done | with_reducible rfl)
      try simp only [Act.put, List.getElem_toArray, List.getElem_cons_succ, List.getElem_cons_zero, List.setIfInBounds_toArray, List.set_cons_zero, List.set_cons_succ]
      refine wpAnyH_take (i := 4) (v := ?vc4) rfl (by kernel_rfl) (by kernel_rfl) (by kernel_rfl) (fun _ _ _ h => h) (Or.inl ⟨by rfl, ?yc4⟩) hd0 ?rc4
      case yc4 => (intro W hSw; (try dsimp only at hSw); (try simp only [List.getElem_toArray, List.getElem_cons_succ, List.getElem_cons_zero]); obtain ⟨a0, a1, a2, a3, a4, a5⟩ := CA.out W hSw; obtain ⟨r0, r1, r2, r3, r4, r5⟩ := CX.out W hSw; go_simp; first | done | with_reducible rfl)
      try simp only [Act.put, List.getElem_toArray, List.getElem_cons_succ, List.getElem_cons_zero, List.setIfInBounds_toArray, List.set_cons_zero, List.set_cons_succ]
      refine wpAnyH_take (i := 5) (v := ?vc5) rfl (by kernel_rfl) (by kernel_rfl) (by kernel_rfl) (fun _ _ _ h => h) (Or.inl ⟨by rfl, ?yc5⟩) hd0 ?rc5
      case yc5 => (intro W hSw; (try dsimp only at hSw); (try simp only [List.getElem_toArray, List.getElem_cons_succ, List.getElem_cons_zero]); obtain ⟨a0, a1, a2, a3, a4, a5⟩ := CA.out W hSw; obtain ⟨r0, r1, r2, r3, r4, r5⟩ := CX.out W hSw; go_simp; first | done | with_reducible rfl)
      try simp only [Act.put, List.getElem_toArray, List.getElem_cons_succ, List.getElem_cons_zero, List.setIfInBounds_toArray, List.set_cons_zero, List.set_cons_succ]
      refine wpAnyH_take (i := 6) (v := ?vc6) rfl (by kernel_rfl) (by kernel_rfl) (by kernel_rfl) (fun _ _ _ h => h) (Or.inl ⟨by rfl, ?yc6⟩) hd0 ?rc6
      case yc6 => (intro W hSw; (try dsimp only at hSw); (try simp only [List.getElem_toArray, List.getElem_cons_succ, List.getElem_cons_zero]); obtain ⟨a0, a1, a2, a3, a4, a5⟩ := CA.out W hSw; obtain ⟨r0, r1, r2, r3, r4, r5⟩ := CX.out W hSw; go_simp; first | done | with_reducible rfl)
      try simp only [Act.put, List.getElem_toArray, List.getElem_cons_succ, List.getElem_cons_zero, List.setIfInBounds_toArray, List.set_cons_zero, List.set_cons_succ]
      refine wpAnyH_take (i := 7) (v := ?vc7) rfl (by kernel_rfl) (by kernel_rfl) (by kernel_rfl) (fun _ _ _ h => h) (Or.inl ⟨by rfl, ?yc7⟩) hd0 ?rc7
      case yc7 => (intro W hSw; (try dsimp only at hSw); (try simp only [List.getElem_toArray, List.getElem_cons_succ, List.getElem_cons_zero]); obtain ⟨a0, a1, a2, a3, a4, a5⟩ := CA.out W hSw; obtain ⟨r0, r1, r2, r3, r4, r5⟩ := CX.out W hSw; go_simp; first | done | with_reducible rfl)
      try simp only [Act.put, List.getElem_toArray, List.getElem_cons_succ, List.getElem_cons_zero, List.setIfInBounds_toArray, List.set_cons_zero, List.set_cons_succ]
      refine wpAnyH_take (i := 8) (v := ?vc8) rfl (by kernel_rfl) (by kernel_rfl) (by kernel_rfl) (fun _ _ _ h => h) (Or.inl ⟨by rfl, ?yc8⟩) hd0 ?rc8
      case yc8 => (intro W hSw; (try dsimp only at hSw); (try simp only [List.getElem_toArray, List.getElem_cons_succ, List.getElem_cons_zero]); obtain ⟨a0, a1, a2, a3, a4, a5⟩ := CA.out W hSw; obtain ⟨r0, r1, r2, r3, r4, r5⟩ := CX.out W hSw; go_simp; first | done | with_reducible rfl)
      try simp only [Act.put, List.getElem_toArray, List.getElem_cons_succ, List.getElem_cons_zero, List.setIfInBounds_toArray, List.set_cons_zero, List.set_cons_succ]
      refine wpAnyH_take (i := 9) (v := ?vc9) rfl (by kernel_rfl) (by kernel_rfl) (by kernel_rfl) (fun _ _ _ h => h) (Or.inl ⟨by rfl, ?yc9⟩) hd0 ?rc9
      case yc9 => (intro W hSw; (try dsimp only at hSw); (try simp only [List.getElem_toArray, List.getElem_cons_succ, List.getElem_cons_zero]); obtain ⟨a0, a1, a2, a3, a4, a5⟩ := CA.out W hSw; obtain ⟨r0, r1, r2, r3, r4, r5⟩ := CX.out W hSw; go_simp; first | done | with_reducible rfl)
      try simp only [Act.put, List.getElem_toArray, List.getElem_cons_succ, List.getElem_cons_zero, List.setIfInBounds_toArray, List.set_cons_zero, List.set_cons_succ]
      refine wpAnyH_ready (rs := [10, 14]) (by kernel_rfl) (by simp) ?_
      refine AllReadyH.cons rfl (fun K hK => ?_) (AllReadyH.cons rfl (fun K hK => ?_) AllReadyH.nil)
      · simp only [List.getElem_toArray, List.getElem_cons_succ, List.getElem_cons_zero]
        go_simp
        refine (CP.out _ hd0).mono ?_
        rintro e w5 ⟨A5, c5, rfl, R5, P5, hb5'⟩
        have hb5 := below_next hd0 hb5'

        refine hK.out _ _ hb5 (fun hH2 => ?_)
        clear hK hH2
        refine wpAnyH_take (i := 11) (v := ?vcA11) rfl (by kernel_rfl) (by kernel_rfl) (by kernel_rfl) (fun _ _ _ h => h) (Or.inl ⟨by rfl, ?ycA11⟩) hb5 ?rcA11
        case ycA11 => (intro W hSw; (try dsimp only at hSw); (try simp only [List.getElem_toArray, List.getElem_cons_succ, List.getElem_cons_zero]); go_simp; first | done | with_reducible rfl)
        try simp only [Act.put, List.getElem_toArray, List.getElem_cons_succ, List.getElem_cons_zero, List.setIfInBounds_toArray, List.set_cons_zero, List.set_cons_succ]
        refine wpAnyH_take (i := 12) (v := ?vcA12) rfl (by kernel_rfl) (by kernel_rfl) (by kernel_rfl) (fun _ _ _ h => h) (Or.inl ⟨by rfl, ?ycA12⟩) hb5 ?rcA12
        case ycA12 => (intro W hSw; (try dsimp only at hSw); (try simp only [List.getElem_toArray, List.getElem_cons_succ, List.getElem_cons_zero]); go_simp; first | done | with_reducible rfl)
        try simp only [Act.put, List.getElem_toArray, List.getElem_cons_succ, List.getElem_cons_zero, List.setIfInBounds_toArray, List.set_cons_zero, List.set_cons_succ]
        refine wpAnyH_take (i := 13) (v := ?vcA13) rfl (by kernel_rfl) (by kernel_rfl) (by kernel_rfl) (fun _ _ _ h => h) (Or.inl ⟨by rfl, ?ycA13⟩) hb5 ?rcA13
        case ycA13 => (intro W hSw; (try dsimp only at hSw); (try simp only [List.getElem_toArray, List.getElem_cons_succ, List.getElem_cons_zero]); go_simp; first | done | with_reducible rfl)
        try simp only [Act.put, List.getElem_toArray, List.getElem_cons_succ, List.getElem_cons_zero, List.setIfInBounds_toArray, List.set_cons_zero, List.set_cons_succ]
        refine wpAnyH_ready (rs := [14]) (by kernel_rfl) (by simp) ?_
        refine AllReadyH.cons rfl (fun K hK => ?_) AllReadyH.nil
        simp only [List.getElem_toArray, List.getElem_cons_succ, List.getElem_cons_zero]
        go_simp
        refine hK.out _ _ (hb5.alloc hb5.size (.cells #[.int .i64 0, .int .i64 0, .bool false, .int .i64 0, .int .i64 0, .slice none 0 0] 51)) (fun hH2 => ?_)
        clear hK hH2
        have K9 := heap_new w5 (.cells #[.int .i64 0, .int .i64 0, .bool false, .int .i64 0, .int .i64 0, .slice none 0 0] 51)
        obtain ⟨q0, q1, q2, q3, q4, q5⟩ := six_at K9
        obtain ⟨qf0, qf1, qf2, qf3, qf4, qf5⟩ := six_live K9
        refine wpAnyH_ready (rs := [15]) (by kernel_rfl) (by simp) ?_
        refine AllReadyH.cons rfl (fun K hK => ?_) AllReadyH.nil
        simp only [List.getElem_toArray, List.getElem_cons_succ, List.getElem_cons_zero]
        go_simp
        refine hK.out _ _ (hb5.alloc hb5.size (.cells (stc t.pr t.ps t.some t.ar t.as_ (.slice A5 t.val.length c5)) 51)) (fun hH2 => ?_)
        clear hK hH2
        refine wpAnyH_take (i := 16) (v := ?vcA16) rfl (by kernel_rfl) (by kernel_rfl) (by kernel_rfl) (fun _ _ _ h => h) (Or.inl ⟨by rfl, ?ycA16⟩) (hb5.alloc hb5.size (.cells (stc t.pr t.ps t.some t.ar t.as_ (.slice A5 t.val.length c5)) 51)) ?rcA16
        case ycA16 => (intro W hSw; (try dsimp only at hSw); (try simp only [List.getElem_toArray, List.getElem_cons_succ, List.getElem_cons_zero]); go_simp; first | done | with_reducible rfl)
        try simp only [Act.put, List.getElem_toArray, List.getElem_cons_succ, List.getElem_cons_zero, List.setIfInBounds_toArray, List.set_cons_zero, List.set_cons_succ]
        refine wpAnyH_done (by kernel_rfl) ?_ _
        go_wp2
        go_meet
        case rel => exact ⟨_, A5, c5, rfl, rfl, heap_new _ _, hb5.size, R5.alloc _, (fun a ha => P5 a ha), hb5.alloc hb5.size _⟩
      · simp only [List.getElem_toArray, List.getElem_cons_succ, List.getElem_cons_zero]
        go_simp
        refine hK.out _ _ (hd0.alloc (Nat.le_refl _) (.cells #[.int .i64 0, .int .i64 0, .bool false, .int .i64 0, .int .i64 0, .slice none 0 0] 51)) (fun hH2 => ?_)
        clear hK hH2
        refine wpAnyH_ready (rs := [10]) (by kernel_rfl) (by simp) ?_
        refine AllReadyH.cons rfl (fun K hK => ?_) AllReadyH.nil
        simp only [List.getElem_toArray, List.getElem_cons_succ, List.getElem_cons_zero]
        go_simp
        refine (CP.out _ (hd0.alloc (Nat.le_refl _) (.cells #[.int .i64 0, .int .i64 0, .bool false, .int .i64 0, .int .i64 0, .slice none 0 0] 51))).mono ?_
        rintro e w5 ⟨A5, c5, rfl, R5, P5, hb5'⟩
        have hb5 := below_next (hd0.alloc (Nat.le_refl _) (.cells #[.int .i64 0, .int .i64 0, .bool false, .int .i64 0, .int .i64 0, .slice none 0 0] 51)) hb5'
        have K9 := (hb5'.block W3.heap.size (by simp)).trans (heap_new W3.drew (.cells #[.int .i64 0, .int .i64 0, .bool false, .int .i64 0, .int .i64 0, .slice none 0 0] 51))
        refine hK.out _ _ hb5 (fun hH2 => ?_)
        clear hK hH2
        refine wpAnyH_take (i := 11) (v := ?vcB11) rfl (by kernel_rfl) (by kernel_rfl) (by kernel_rfl) (fun _ _ _ h => h) (Or.inl ⟨by rfl, ?ycB11⟩) hb5 ?rcB11
        case ycB11 => (intro W hSw; (try dsimp only at hSw); (try simp only [List.getElem_toArray, List.getElem_cons_succ, List.getElem_cons_zero]); go_simp; first | done | with_reducible rfl)
        try simp only [Act.put, List.getElem_toArray, List.getElem_cons_succ, List.getElem_cons_zero, List.setIfInBounds_toArray, List.set_cons_zero, List.set_cons_succ]
        refine wpAnyH_take (i := 12) (v := ?vcB12) rfl (by kernel_rfl) (by kernel_rfl) (by kernel_rfl) (fun _ _ _ h => h) (Or.inl ⟨by rfl, ?ycB12⟩) hb5 ?rcB12
        case ycB12 => (intro W hSw; (try dsimp only at hSw); (try simp only [List.getElem_toArray, List.getElem_cons_succ, List.getElem_cons_zero]); go_simp; first | done | with_reducible rfl)
        try simp only [Act.put, List.getElem_toArray, List.getElem_cons_succ, List.getElem_cons_zero, List.setIfInBounds_toArray, List.set_cons_zero, List.set_cons_succ]
        refine wpAnyH_take (i := 13) (v := ?vcB13) rfl (by kernel_rfl) (by kernel_rfl) (by kernel_rfl) (fun _ _ _ h => h) (Or.inl ⟨by rfl, ?ycB13⟩) hb5 ?rcB13
        case ycB13 => (intro W hSw; (try dsimp only at hSw); (try simp only [List.getElem_toArray, List.getElem_cons_succ, List.getElem_cons_zero]); go_simp; first | done | with_reducible rfl)
        try simp only [Act.put, List.getElem_toArray, List.getElem_cons_succ, List.getElem_cons_zero, List.setIfInBounds_toArray, List.set_cons_zero, List.set_cons_succ]
        obtain ⟨q0, q1, q2, q3, q4, q5⟩ := six_at K9
        obtain ⟨qf0, qf1, qf2, qf3, qf4, qf5⟩ := six_live K9
        have PS := put_six K9 hb5 (Nat.le_refl _) (.int .i64 t.pr) (.int .i64 t.ps) (.bool t.some) (.int .i64 t.ar) (.int .i64 t.as_) (.slice A5 t.val.length c5)
        refine wpAnyH_ready (rs := [15]) (by kernel_rfl) (by simp) ?_
        refine AllReadyH.cons rfl (fun K hK => ?_) AllReadyH.nil
        simp only [List.getElem_toArray, List.getElem_cons_succ, List.getElem_cons_zero]
        go_simp
        refine hK.out _ _ PS.2 (fun hH2 => ?_)
        clear hK hH2
        refine wpAnyH_take (i := 16) (v := ?vcB16) rfl (by kernel_rfl) (by kernel_rfl) (by kernel_rfl) (fun _ _ _ h => h) (Or.inl ⟨by rfl, ?ycB16⟩) PS.2 ?rcB16
        case ycB16 => (intro W hSw; (try dsimp only at hSw); (try simp only [List.getElem_toArray, List.getElem_cons_succ, List.getElem_cons_zero]); go_simp; first | done | with_reducible rfl)
        try simp only [Act.put, List.getElem_toArray, List.getElem_cons_succ, List.getElem_cons_zero, List.setIfInBounds_toArray, List.set_cons_zero, List.set_cons_succ]
        refine wpAnyH_done (by kernel_rfl) ?_ _
        go_wp2
        go_meet
        case rel => exact ⟨_, A5, c5, rfl, rfl, PS.1, Nat.le_refl _, six_reads R5 (fun a ha => by have := P5 a ha; simp at this; omega), (fun a ha => by have := P5 a ha; simp at this; omega), PS.2⟩
    obtain ⟨tb, A5, c5, rfl, rfl, KT, htb, R5, P5, hb5⟩ := hcut
    have HB5 := hide (below_next HB3.out hb5)
    have HD5 := hide (HM.out.mid HB5.out)
    have KE5 := hide ((hb5.block _ (blk_lt KE3.out)).trans KE3.out)
    have KX5 := hide ((hb5.block _ (blk_lt KX3.out)).trans KX3.out)

    have HR5 := hide R5; have HP5 := hide P5
    have hw45 := hb5.size
    have htl := blk_lt KT
    have HKT := hide KT
    clear HM3 KE3 KX3 CA CX CP hb5 R5 P5 KT
    go_upto_region 7 with fail
    obtain ⟨a0, a1, a2, a3, a4, a5⟩ := mid_acc HD5.out hal7
    have fl := fun j => live HD5.out.blk j
    have f0 := fl (1 + a * 6); have f1 := fl (1 + a * 6 + 1); have f2 := fl (1 + a * 6 + 2); have f3 := fl (1 + a * 6 + 3); have f4 := fl (1 + a * 6 + 4); have f5 := fl (1 + a * 6 + 5)
    clear fl
    have hw04 := HB3.out.size
    have hBtb : ¬ B = tb := by omega
    have hBtb' : ¬ tb = B := by omega
    have hd5 := (Below.refl wc.heap.size wc).drew
    refine wp_region_held_drew (S := fun W => W.cell? ⟨tb, 0, none⟩ = some (.int .i64 t.pr) ∧ W.cell? ⟨tb, 1, none⟩ = some (.int .i64 t.ps) ∧ W.cell? ⟨tb, 2, none⟩ = some (.bool t.some) ∧ W.cell? ⟨tb, 3, none⟩ = some (.int .i64 t.ar) ∧ W.cell? ⟨tb, 4, none⟩ = some (.int .i64 t.as_) ∧ W.cell? ⟨tb, 5, none⟩ = some (.slice A5 t.val.length c5)) (by kernel_rfl) (six_hold HKT.out _ hd5) (fun hH => ?_)
    refine wpAnyH_take (i := 0) (v := ?vt0) rfl (by kernel_rfl) (by kernel_rfl) (by kernel_rfl) (fun _ _ _ h => h) (Or.inl ⟨by rfl, ?yt0⟩) (six_hold HKT.out _ hd5) ?rt0
    case yt0 => (intro W hSw; (try dsimp only at hSw); (try simp only [List.getElem_toArray, List.getElem_cons_zero]); obtain ⟨q0, q1, q2, q3, q4, q5⟩ := hSw; go_simp; first | done | with_reducible rfl)
    try simp only [Act.put, List.getElem_toArray, List.getElem_cons_zero, List.setIfInBounds_toArray, List.set_cons_zero, List.set_cons_succ]
    refine wpAnyH_take (i := 1) (v := ?vt1) rfl (by kernel_rfl) (by kernel_rfl) (by kernel_rfl) (fun _ _ _ h => h) (Or.inl ⟨by rfl, ?yt1⟩) (six_hold HKT.out _ hd5) ?rt1
    case yt1 => (intro W hSw; (try dsimp only at hSw); (try simp only [List.getElem_toArray, List.getElem_cons_succ, List.getElem_cons_zero]); obtain ⟨q0, q1, q2, q3, q4, q5⟩ := hSw; go_simp; first | done | with_reducible rfl)
    try simp only [Act.put, List.getElem_toArray, List.getElem_cons_succ, List.getElem_cons_zero, List.setIfInBounds_toArray, List.set_cons_zero, List.set_cons_succ]
    refine wpAnyH_take (i := 2) (v := ?vt2) rfl (by kernel_rfl) (by kernel_rfl) (by kernel_rfl) (fun _ _ _ h => h) (Or.inl ⟨by rfl, ?yt2⟩) (six_hold HKT.out _ hd5) ?rt2
    case yt2 => (intro W hSw; (try dsimp only at hSw); (try simp only [List.getElem_toArray, List.getElem_cons_succ, List.getElem_cons_zero]); obtain ⟨q0, q1, q2, q3, q4, q5⟩ := hSw; go_simp; first | done | with_reducible rfl)
    try simp only [Act.put, List.getElem_toArray, List.getElem_cons_succ, List.getElem_cons_zero, List.setIfInBounds_toArray, List.set_cons_zero, List.set_cons_succ]
    refine wpAnyH_take (i := 3) (v := ?vt3) rfl (by kernel_rfl) (by kernel_rfl) (by kernel_rfl) (fun _ _ _ h => h) (Or.inl ⟨by rfl, ?yt3⟩) (six_hold HKT.out _ hd5) ?rt3
    case yt3 => (intro W hSw; (try dsimp only at hSw); (try simp only [List.getElem_toArray, List.getElem_cons_succ, List.getElem_cons_zero]); obtain ⟨q0, q1, q2, q3, q4, q5⟩ := hSw; go_simp; first | done | with_reducible rfl)
    try simp only [Act.put, List.getElem_toArray, List.getElem_cons_succ, List.getElem_cons_zero, List.setIfInBounds_toArray, List.set_cons_zero, List.set_cons_succ]
    refine wpAnyH_take (i := 4) (v := ?vt4) rfl (by kernel_rfl) (by kernel_rfl) (by kernel_rfl) (fun _ _ _ h => h) (Or.inl ⟨by rfl, ?yt4⟩) (six_hold HKT.out _ hd5) ?rt4
    case yt4 => (intro W hSw; (try dsimp only at hSw); (try simp only [List.getElem_toArray, List.getElem_cons_succ, List.getElem_cons_zero]); obtain ⟨q0, q1, q2, q3, q4, q5⟩ := hSw; go_simp; first | done | with_reducible rfl)
    try simp only [Act.put, List.getElem_toArray, List.getElem_cons_succ, List.getElem_cons_zero, List.setIfInBounds_toArray, List.set_cons_zero, List.set_cons_succ]
    refine wpAnyH_take (i := 5) (v := ?vt5) rfl (by kernel_rfl) (by kernel_rfl) (by kernel_rfl) (fun _ _ _ h => h) (Or.inl ⟨by rfl, ?yt5⟩) (six_hold HKT.out _ hd5) ?rt5
    case yt5 => (intro W hSw; (try dsimp only at hSw); (try simp only [List.getElem_toArray, List.getElem_cons_succ, List.getElem_cons_zero]); obtain ⟨q0, q1, q2, q3, q4, q5⟩ := hSw; go_simp; first | done | with_reducible rfl)
    try simp only [Act.put, List.getElem_toArray, List.getElem_cons_succ, List.getElem_cons_zero, List.setIfInBounds_toArray, List.set_cons_zero, List.set_cons_succ]
    refine wpAnyH_ready (rs := [6]) (by kernel_rfl) (by simp) ?_
    refine AllReadyH.cons rfl (fun K hK => ?_) AllReadyH.nil
    simp only [List.getElem_toArray, List.getElem_cons_succ, List.getElem_cons_zero]
    go_simp
    have KT6' : ((((((wc.setCell ⟨B, 1 + a * 6, none⟩ (.int .i64 t.pr)).setCell ⟨B, 1 + a * 6 + 1, none⟩ (.int .i64 t.ps)).setCell ⟨B, 1 + a * 6 + 2, none⟩ (.bool t.some)).setCell ⟨B, 1 + a * 6 + 3, none⟩ (.int .i64 t.ar)).setCell ⟨B, 1 + a * 6 + 4, none⟩ (.int .i64 t.as_)).setCell ⟨B, 1 + a * 6 + 5, none⟩ (.slice A5 t.val.length c5)).heap[tb]? = some (.cells (stc t.pr t.ps t.some t.ar t.as_ (.slice A5 t.val.length c5)) 51) := six_far HKT.out hBtb'
    have KT6 : ((((((wc.setCell ⟨B, 1 + a * 6, none⟩ (.int .i64 t.pr)).setCell ⟨B, 1 + a * 6 + 1, none⟩ (.int .i64 t.ps)).setCell ⟨B, 1 + a * 6 + 2, none⟩ (.bool t.some)).setCell ⟨B, 1 + a * 6 + 3, none⟩ (.int .i64 t.ar)).setCell ⟨B, 1 + a * 6 + 4, none⟩ (.int .i64 t.as_)).setCell ⟨B, 1 + a * 6 + 5, none⟩ (.slice A5 t.val.length c5)).drew.heap[tb]? = some (.cells (stc t.pr t.ps t.some t.ar t.as_ (.slice A5 t.val.length c5)) 51) := drew_at KT6'
    clear KT6'
    refine hK.out _ _ (six_at KT6) (fun hH2 => ?_)
    clear hK hH2
    refine wpAnyH_done (by kernel_rfl) ?_ _
    have HD6 := hide ((HD5.out.setAcc HM.out.base HM.out.apart hal7 (q := ⟨t, A5, c5⟩) rfl).drew)
    have hs6 : ((((((wc.setCell ⟨B, 1 + a * 6, none⟩ (.int .i64 t.pr)).setCell ⟨B, 1 + a * 6 + 1, none⟩ (.int .i64 t.ps)).setCell ⟨B, 1 + a * 6 + 2, none⟩ (.bool t.some)).setCell ⟨B, 1 + a * 6 + 3, none⟩ (.int .i64 t.ar)).setCell ⟨B, 1 + a * 6 + 4, none⟩ (.int .i64 t.as_)).setCell ⟨B, 1 + a * 6 + 5, none⟩ (.slice A5 t.val.length c5)).drew.heap.size = wc.heap.size := by simp [World.setCell]
    have hne : ∀ p, w.heap.size ≤ p → p ≠ B := fun p hp => by omega
    have KE6 := hide (drew_at (six_far (j0 := 1 + a * 6) (j1 := 1 + a * 6 + 1) (j2 := 1 + a * 6 + 2) (j3 := 1 + a * 6 + 3) (j4 := 1 + a * 6 + 4) (j5 := 1 + a * 6 + 5) (u0 := .int .i64 t.pr) (u1 := .int .i64 t.ps) (u2 := .bool t.some) (u3 := .int .i64 t.ar) (u4 := .int .i64 t.as_) (u5 := .slice A5 t.val.length c5) KE5.out (hne _ (by omega))))
    have KX6 := hide (drew_at (six_far (j0 := 1 + a * 6) (j1 := 1 + a * 6 + 1) (j2 := 1 + a * 6 + 2) (j3 := 1 + a * 6 + 3) (j4 := 1 + a * 6 + 4) (j5 := 1 + a * 6 + 5) (u0 := .int .i64 t.pr) (u1 := .int .i64 t.ps) (u2 := .bool t.some) (u3 := .int .i64 t.ar) (u4 := .int .i64 t.as_) (u5 := .slice A5 t.val.length c5) KX5.out (hne _ (by omega))))
    have HR6 := hide (Reads.drew (six_reads (j0 := 1 + a * 6) (j1 := 1 + a * 6 + 1) (j2 := 1 + a * 6 + 2) (j3 := 1 + a * 6 + 3) (j4 := 1 + a * 6 + 4) (j5 := 1 + a * 6 + 5) (u0 := .int .i64 t.pr) (u1 := .int .i64 t.ps) (u2 := .bool t.some) (u3 := .int .i64 t.ar) (u4 := .int .i64 t.as_) (u5 := .slice A5 t.val.length c5) (b := B) HR5.out (fun a ha => hne _ (Nat.le_trans (by omega) (HP5.out a ha)))))
    have hwc0 := HB5.out.size
    clear a0 a1 a2 a3 a4 a5 f0 f1 f2 f3 f4 f5 KT6 hd5 HD5 KE5 KX5 HR5 HKT
    generalize ((((((wc.setCell ⟨B, 1 + a * 6, none⟩ (.int .i64 t.pr)).setCell ⟨B, 1 + a * 6 + 1, none⟩ (.int .i64 t.ps)).setCell ⟨B, 1 + a * 6 + 2, none⟩ (.bool t.some)).setCell ⟨B, 1 + a * 6 + 3, none⟩ (.int .i64 t.ar)).setCell ⟨B, 1 + a * 6 + 4, none⟩ (.int .i64 t.as_)).setCell ⟨B, 1 + a * 6 + 5, none⟩ (.slice A5 t.val.length c5)).drew = W6 at *
    have HBW : Hid (b0 ≤ w.heap.size) := hide (Nat.le_trans HM.out.base (Nat.le_of_lt hBw))
    have HA5 := hide (fun x (hx : x ∈ all.set a ⟨t, A5, c5⟩) => (show x ∈ all ∨ Aw W6 B g x.at_ (bys x.s.val) from by
      rcases List.mem_or_eq_of_mem_set hx with h1 | h1
      · exact .inl h1
      · subst h1
        exact .inr (Aw.of HR6.out (fun a ha => by have := HP5.out a ha; omega))))
    have hfin : ∀ (hn : ok = false), Played w b0 B N (opPut (abs all rs) (lst ek rs.length).toNat (lst ea N).toNat) (.returned (.tuple #[])) W6 := fun hn => by
      rw [HK.out, HA.out, Int.toNat_natCast, Int.toNat_natCast]
      exact ⟨rfl, g, all.set a ⟨t, A5, c5⟩, rs, rc, HD6.out.done HM.out (by simp [HAL.out]) HA5.out (fun y hy => .inl hy), put_no HH.out HY.out HHAS.out HT.out (by rw [← HOK.out, hn]), HD6.out.bel⟩
    have HFIN := hide hfin
    clear hfin
    cases ok
    · have F := hide (HFIN.out rfl)
      go_wp2
      refine bodyPost_end (v := .tuple #[]) (by simp [results, Try.results20, go_sem]) rfl ?_
      exact F.out
    · go_upto_region 9 with fail
      obtain ⟨i0, hi, hz0, hz1, hz2⟩ := info_parts infoVo
      go_cut [14] (fun u wx => u = .bool true ∧ ∃ P9 p9, wx.heap[w2.heap.size]? = some (.cells #[.int .i64 y.r, .int .i64 y.t, .slice y.P y.X.length y.pc, .bool y.has, .slice y.V y.val.length y.vc, .slice P9 (y.vs.length + 1) p9] 62) ∧ Reads wx P9 (y.vs.flatMap Vt.cells ++ Vt.cells ⟨a, y.r, y.t⟩) ∧ (∀ a, P9 = some a → W6.heap.size ≤ a.block) ∧ ∃ w9 v, wx = w9.setCell ⟨w2.heap.size, 5, none⟩ v ∧ Below W6.heap.size W6 w9)
      case first =>
        try clear HFIN
        try clear HA5
        try clear hki
        try clear HT
        try clear HOK
        try clear HR6
        try clear r0
        try clear r1
        try clear r2
        try clear r3
        try clear r4
        try clear r5
        have KHd := drew_at KX6.out
        have hd0 := (Below.refl W6.heap.size W6).drew
        have hsz := hide (show W6.drew.heap.size = W6.heap.size from rfl)
        have hx6 := blk_lt KX6.out
        have hXL := (HXL.out y HYM.out).1
        have hXW : w2.heap.size < W6.heap.size := hx6
        try clear he2
        try clear he3
        try clear _he1
        try clear hN1
        try clear hN7
        try clear hl1
        try clear hl2
        try clear haN
        try clear hkl
        try clear hal7
        try clear hw34
        try clear hw45
        try clear hwc0
        try clear hw04
        try clear htb
        try clear htl
        try clear hs6
        try clear hB5
        try clear hx3
        try clear hXB
        try clear hBtb
        try clear hBtb'
        try clear hgw
        try clear hBw
        try clear hne
        try clear hB3
        have hne2 : ∀ (W : World) (v2 v3 v4 v5 : Value), (W.heap[w2.heap.size]? = some (.cells #[.int .i64 y.r, .int .i64 y.t, v2, v3, v4, v5] 62)) → (W.cell? ⟨w2.heap.size, 0, none⟩ = some (.int .i64 y.r) ∧ W.cell? ⟨w2.heap.size, 1, none⟩ = some (.int .i64 y.t)) := fun W v2 v3 v4 v5 hW => two_of_six hW
        have HNE := hide hne2
        clear hne2
        refine wp_region_held_drew (S := fun W => W.cell? ⟨w2.heap.size, 0, none⟩ = some (.int .i64 y.r) ∧ W.cell? ⟨w2.heap.size, 1, none⟩ = some (.int .i64 y.t)) (by kernel_rfl) (HNE.out _ _ _ _ _ KHd) (fun hH => ?_)
        have SHp := hide (fun (W : World) (hW : Below W6.heap.size W6 W) => HNE.out W _ _ _ _ ((hW.block _ hx6).trans KX6.out))
        have SHd := SHp.out _ hd0
        have RP7 := hide (fun (W : World) (hW : Below W6.heap.size W6 W) => (show Reads W y.W (y.vs.flatMap Vt.cells) from ((((HM.out.rr y HYM.out).2.2.2).keep HD6.out.keep).reads.below hW)))
        generalize W6.drew = W7 at *
        refine wpAnyH_take (i := 1) (v := ?vg1) rfl (by kernel_rfl) (by kernel_rfl) (by kernel_rfl) (fun _ _ _ h => h) (Or.inl ⟨by rfl, ?yg1⟩) SHd ?rg1
        case yg1 => (intro W hSw; (try dsimp only at hSw); (try simp only [List.getElem_toArray, List.getElem_cons_succ, List.getElem_cons_zero]); obtain ⟨q0, q1⟩ := hSw; go_simp; first | done | with_reducible rfl)
        try simp only [Act.put, List.getElem_toArray, List.getElem_cons_succ, List.getElem_cons_zero, List.setIfInBounds_toArray, List.set_cons_zero, List.set_cons_succ]
        refine wpAnyH_take (i := 4) (v := ?vg4) rfl (by kernel_rfl) (by kernel_rfl) (by kernel_rfl) (fun _ _ _ h => h) (Or.inl ⟨by rfl, ?yg4⟩) SHd ?rg4
        case yg4 => (intro W hSw; (try dsimp only at hSw); (try simp only [List.getElem_toArray, List.getElem_cons_succ, List.getElem_cons_zero]); obtain ⟨q0, q1⟩ := hSw; go_simp; first | done | with_reducible rfl)
        try simp only [Act.put, List.getElem_toArray, List.getElem_cons_succ, List.getElem_cons_zero, List.setIfInBounds_toArray, List.set_cons_zero, List.set_cons_succ]
        refine wpAnyH_take (i := 5) (v := ?vg5) rfl (by kernel_rfl) (by kernel_rfl) (by kernel_rfl) (fun _ _ _ h => h) (Or.inl ⟨by rfl, ?yg5⟩) SHd ?rg5
        case yg5 => (intro W hSw; (try dsimp only at hSw); (try simp only [List.getElem_toArray, List.getElem_cons_succ, List.getElem_cons_zero]); obtain ⟨q0, q1⟩ := hSw; go_simp; first | done | with_reducible rfl)
        try simp only [Act.put, List.getElem_toArray, List.getElem_cons_succ, List.getElem_cons_zero, List.setIfInBounds_toArray, List.set_cons_zero, List.set_cons_succ]
        refine wpAnyH_take (i := 6) (v := ?vg6) rfl (by kernel_rfl) (by kernel_rfl) (by kernel_rfl) (fun _ _ _ h => h) (Or.inl ⟨by rfl, ?yg6⟩) SHd ?rg6
        case yg6 => (intro W hSw; (try dsimp only at hSw); (try simp only [List.getElem_toArray, List.getElem_cons_succ, List.getElem_cons_zero]); obtain ⟨q0, q1⟩ := hSw; go_simp; first | done | with_reducible rfl)
        try simp only [Act.put, List.getElem_toArray, List.getElem_cons_succ, List.getElem_cons_zero, List.setIfInBounds_toArray, List.set_cons_zero, List.set_cons_succ]
        refine wpAnyH_take (i := 7) (v := ?vg7) rfl (by kernel_rfl) (by kernel_rfl) (by kernel_rfl) (fun _ _ _ h => h) (Or.inl ⟨by rfl, ?yg7⟩) SHd ?rg7
        case yg7 => (intro W hSw; (try dsimp only at hSw); (try simp only [List.getElem_toArray, List.getElem_cons_succ, List.getElem_cons_zero]); obtain ⟨q0, q1⟩ := hSw; go_simp; first | done | with_reducible rfl)
        try simp only [Act.put, List.getElem_toArray, List.getElem_cons_succ, List.getElem_cons_zero, List.setIfInBounds_toArray, List.set_cons_zero, List.set_cons_succ]
        refine wpAnyH_ready (rs := [0, 2, 8]) (by kernel_rfl) (by simp) ?_
        refine AllReadyH.cons rfl (fun K hK => ?_) (AllReadyH.cons rfl (fun K hK => ?_) (AllReadyH.cons rfl (fun K hK => ?_) AllReadyH.nil))
        · simp only [List.getElem_toArray, List.getElem_cons_zero]
          go_simp
          have hbN := hd0.alloc hd0.size (.cells #[] 44)
          have hlN := (Below.refl W7.heap.size W7).alloc (Nat.le_refl _) (.cells #[] 44)
          have hoN := own_empty W7 W6.heap.size 44 3 W7.heap.size rfl hd0.size
          have hsE := hide (hd0.size)
          generalize hWN : W7.alloc (.cells #[] 44) = WE at *
          have hsg0 := hide (show WE.heap.size = W7.heap.size + 1 from by rw [← hWN]; simp)
          clear hWN hlN
          refine hK.out _ _ (SHp.out _ hbN) (fun hH2 => ?_)
          clear hK hH2
          have hg0 := hbN; clear hbN
          have hog0 := hoN; clear hoN
          refine wpAnyH_ready (rs := [2, 8]) (by kernel_rfl) (by simp) ?_
          refine AllReadyH.cons rfl (fun K hK => ?_) (AllReadyH.cons rfl (fun K hK => ?_) AllReadyH.nil)
          · obtain ⟨r0, r1, r2, r3, r4, r5⟩ := six_at ((hg0.block _ hx6).trans KX6.out)
            simp only [List.getElem_toArray, List.getElem_cons_succ, List.getElem_cons_zero]
            go_simp
            refine hK.out _ _ (SHp.out _ hg0) (fun hH2 => ?_)
            clear hK hH2 r0 r1 r2 r3 r4 r5
            refine wpAnyH_ready (rs := [3, 8]) (by kernel_rfl) (by simp) ?_
            refine AllReadyH.cons rfl (fun K hK => ?_) (AllReadyH.cons rfl (fun K hK => ?_) AllReadyH.nil)
            · refine step_append_wide (by rfl) (.tmp 63) (.tmp 65) 35 (by rfl) W6.heap.size 44 i0 (.agg #[.int .i64 0, .int .i64 0, .int .i64 0]) 3 24 Try.underlying35 hi hz0 hz1 hz2 rfl (by omega) _ 0 [] (by rfl) hog0 y.W y.vs.length y.wc (y.vs.flatMap Vt.cells) (by rfl) (RP7.out _ hg0) (flat_length Vt.cells_length y.vs) (votes_one y.vs) (by unfold maxLen; omega) (by omega) hg0.size ?_
              intro A8 c8 w8 n8 g8 t8
              have hbN := hg0.grown g8 hg0.size (fun g hg => (hog0.lt g hg).1)
              simp only [Nat.zero_add, List.nil_append] at n8 ⊢
              refine hK.out _ _ (SHp.out _ hbN) (fun hH2 => ?_)
              clear hK hH2 g8 t8
              try simp only [Act.put, List.getElem_toArray, List.getElem_cons_succ, List.getElem_cons_zero, List.setIfInBounds_toArray, List.set_cons_zero, List.set_cons_succ]
              have hg023 := hbN; clear hbN
              have hog023 := n8; clear n8
              refine wpAnyH_ready (rs := [8]) (by kernel_rfl) (by simp) ?_
              refine AllReadyH.cons rfl (fun K hK => ?_) AllReadyH.nil
              simp only [List.getElem_toArray, List.getElem_cons_succ, List.getElem_cons_zero]
              go_simp
              have hbN := hg023.alloc hg023.size (.cells #[.int .i64 (a : Int), .int .i64 y.r, .int .i64 y.t] 44)
              have hlN := (Below.refl w8.heap.size w8).alloc (Nat.le_refl _) (.cells #[.int .i64 (a : Int), .int .i64 y.r, .int .i64 y.t] 44)
              have hvN : Reads (w8.alloc (.cells #[.int .i64 (a : Int), .int .i64 y.r, .int .i64 y.t] 44)) (some ⟨w8.heap.size, 0, none⟩) (Vt.cells ⟨a, y.r, y.t⟩) := Reads.new w8 (Vt.cells ⟨a, y.r, y.t⟩) _ _
              have hoN := own_below hog023 hlN
              generalize hWN : w8.alloc (.cells #[.int .i64 (a : Int), .int .i64 y.r, .int .i64 y.t] 44) = WV at *
              have hsg0238 := hide (show WV.heap.size = w8.heap.size + 1 from by rw [← hWN]; simp)
              clear hWN hlN
              refine hK.out _ _ (SHp.out _ hbN) (fun hH2 => ?_)
              clear hK hH2
              have hg0238 := hbN; clear hbN
              have hog0238 := hoN; clear hoN
              have hvg0238 := hvN; clear hvN
              refine wpAnyH_ready (rs := [9]) (by kernel_rfl) (by simp) ?_
              refine AllReadyH.cons rfl (fun K hK => ?_) AllReadyH.nil
              refine step_append_wide (by rfl) (.tmp 66) (.tmp 71) 35 (by rfl) W6.heap.size 44 i0 (.agg #[.int .i64 0, .int .i64 0, .int .i64 0]) 3 24 Try.underlying35 hi hz0 hz1 hz2 rfl (by omega) _ y.vs.length (y.vs.flatMap Vt.cells) (by rfl) hog0238 (some ⟨w8.heap.size, 0, none⟩) 1 1 (Vt.cells ⟨a, y.r, y.t⟩) (by rfl) hvg0238 rfl (vt_one _) (by unfold maxLen; omega) (by omega) hg0238.size ?_
              intro A9 c9 w9 n9 g9 t9
              have hbN := hg0238.grown g9 hg0238.size (fun g hg => (hog0238.lt g hg).1)
              have hf9 : ∀ a, A9 = some a → W6.heap.size ≤ a.block := fun a ha => (n9.lt a.block (by rw [ha]; rfl)).1
              refine hK.out _ _ (SHp.out _ hbN) (fun hH2 => ?_)
              clear hK hH2 g9 t9
              try simp only [Act.put, List.getElem_toArray, List.getElem_cons_succ, List.getElem_cons_zero, List.setIfInBounds_toArray, List.set_cons_zero, List.set_cons_succ]
              refine wpAnyH_take (i := 10) (v := ?vg023810) rfl (by kernel_rfl) (by kernel_rfl) (by kernel_rfl) (fun _ _ _ h => h) (Or.inl ⟨by rfl, ?yg023810⟩) (SHp.out _ hbN) ?rg023810
              case yg023810 => (intro W hSw; (try dsimp only at hSw); (try simp only [List.getElem_toArray, List.getElem_cons_succ, List.getElem_cons_zero]); go_simp; first | done | with_reducible rfl)
              try simp only [Act.put, List.getElem_toArray, List.getElem_cons_succ, List.getElem_cons_zero, List.setIfInBounds_toArray, List.set_cons_zero, List.set_cons_succ]
              have KXw := (hbN.block _ hx6).trans KX6.out
              obtain ⟨r0, r1, r2, r3, r4, r5⟩ := six_at KXw
              obtain ⟨rf0, rf1, rf2, rf3, rf4, rf5⟩ := six_live KXw
              refine wpAnyH_ready (rs := [11]) (by kernel_rfl) (by simp) ?_
              refine AllReadyH.cons rfl (fun K hK => ?_) AllReadyH.nil
              simp only [List.getElem_toArray, List.getElem_cons_succ, List.getElem_cons_zero]
              go_simp
              have KHw := six_put5 KXw (.slice A9 (y.vs.length + 1) c9)
              refine hK.out _ _ (HNE.out _ _ _ _ _ KHw) (fun hH2 => ?_)
              clear hK hH2
              refine wpAnyH_done (by kernel_rfl) ?_ _
              have HREL := hide (And.intro KHw (And.intro ((reads_own n9).keepset w2.heap.size 5 (.slice A9 (y.vs.length + 1) c9) (fun a ha => by have := hf9 a ha; omega)) hf9))
              go_wp2
              go_meet
              case rel => exact ⟨rfl, A9, c9, HREL.out.1, HREL.out.2.1, HREL.out.2.2, w9, _, rfl, hbN⟩
            · simp only [List.getElem_toArray, List.getElem_cons_succ, List.getElem_cons_zero]
              go_simp
              have hbN := hg0.alloc hg0.size (.cells #[.int .i64 (a : Int), .int .i64 y.r, .int .i64 y.t] 44)
              have hlN := (Below.refl WE.heap.size WE).alloc (Nat.le_refl _) (.cells #[.int .i64 (a : Int), .int .i64 y.r, .int .i64 y.t] 44)
              have hvN : Reads (WE.alloc (.cells #[.int .i64 (a : Int), .int .i64 y.r, .int .i64 y.t] 44)) (some ⟨WE.heap.size, 0, none⟩) (Vt.cells ⟨a, y.r, y.t⟩) := Reads.new WE (Vt.cells ⟨a, y.r, y.t⟩) _ _
              have hoN := own_below hog0 hlN
              generalize hWN : WE.alloc (.cells #[.int .i64 (a : Int), .int .i64 y.r, .int .i64 y.t] 44) = WV at *
              have hsg028 := hide (show WV.heap.size = WE.heap.size + 1 from by rw [← hWN]; simp)
              clear hWN hlN
              refine hK.out _ _ (SHp.out _ hbN) (fun hH2 => ?_)
              clear hK hH2
              have hg028 := hbN; clear hbN
              have hog028 := hoN; clear hoN
              have hvg028 := hvN; clear hvN
              have hqg028 := hide (show ¬ WE.heap.size = W7.heap.size from by have := hsg0.out; have := hsg028.out; omega)
              refine wpAnyH_ready (rs := [3]) (by kernel_rfl) (by simp) ?_
              refine AllReadyH.cons rfl (fun K hK => ?_) AllReadyH.nil
              refine step_append_wide (by rfl) (.tmp 63) (.tmp 65) 35 (by rfl) W6.heap.size 44 i0 (.agg #[.int .i64 0, .int .i64 0, .int .i64 0]) 3 24 Try.underlying35 hi hz0 hz1 hz2 rfl (by omega) _ 0 [] (by rfl) hog028 y.W y.vs.length y.wc (y.vs.flatMap Vt.cells) (by rfl) (RP7.out _ hg028) (flat_length Vt.cells_length y.vs) (votes_one y.vs) (by unfold maxLen; omega) (by omega) hg028.size ?_
              intro A8 c8 w8 n8 g8 t8
              have hbN := hg028.grown g8 hg028.size (fun g hg => (hog028.lt g hg).1)
              simp only [Nat.zero_add, List.nil_append] at n8 ⊢
              have hvN := Reads.grown hvg028 g8 (fun b off he h' => by injection he with he; injection he with he1 _; have h2 : some b = some W7.heap.size := h'; injection h2 with h2; rw [← he1] at h2; exact absurd h2 (hqg028.out))
              refine hK.out _ _ (SHp.out _ hbN) (fun hH2 => ?_)
              clear hK hH2 g8 t8
              try simp only [Act.put, List.getElem_toArray, List.getElem_cons_succ, List.getElem_cons_zero, List.setIfInBounds_toArray, List.set_cons_zero, List.set_cons_succ]
              have hg0283 := hbN; clear hbN
              have hog0283 := n8; clear n8
              have hvg0283 := hvN; clear hvN
              refine wpAnyH_ready (rs := [9]) (by kernel_rfl) (by simp) ?_
              refine AllReadyH.cons rfl (fun K hK => ?_) AllReadyH.nil
              refine step_append_wide (by rfl) (.tmp 66) (.tmp 71) 35 (by rfl) W6.heap.size 44 i0 (.agg #[.int .i64 0, .int .i64 0, .int .i64 0]) 3 24 Try.underlying35 hi hz0 hz1 hz2 rfl (by omega) _ y.vs.length (y.vs.flatMap Vt.cells) (by rfl) hog0283 (some ⟨WE.heap.size, 0, none⟩) 1 1 (Vt.cells ⟨a, y.r, y.t⟩) (by rfl) hvg0283 rfl (vt_one _) (by unfold maxLen; omega) (by omega) hg0283.size ?_
              intro A9 c9 w9 n9 g9 t9
              have hbN := hg0283.grown g9 hg0283.size (fun g hg => (hog0283.lt g hg).1)
              have hf9 : ∀ a, A9 = some a → W6.heap.size ≤ a.block := fun a ha => (n9.lt a.block (by rw [ha]; rfl)).1
              refine hK.out _ _ (SHp.out _ hbN) (fun hH2 => ?_)
              clear hK hH2 g9 t9
              try simp only [Act.put, List.getElem_toArray, List.getElem_cons_succ, List.getElem_cons_zero, List.setIfInBounds_toArray, List.set_cons_zero, List.set_cons_succ]
              refine wpAnyH_take (i := 10) (v := ?vg028310) rfl (by kernel_rfl) (by kernel_rfl) (by kernel_rfl) (fun _ _ _ h => h) (Or.inl ⟨by rfl, ?yg028310⟩) (SHp.out _ hbN) ?rg028310
              case yg028310 => (intro W hSw; (try dsimp only at hSw); (try simp only [List.getElem_toArray, List.getElem_cons_succ, List.getElem_cons_zero]); go_simp; first | done | with_reducible rfl)
              try simp only [Act.put, List.getElem_toArray, List.getElem_cons_succ, List.getElem_cons_zero, List.setIfInBounds_toArray, List.set_cons_zero, List.set_cons_succ]
              have KXw := (hbN.block _ hx6).trans KX6.out
              obtain ⟨r0, r1, r2, r3, r4, r5⟩ := six_at KXw
              obtain ⟨rf0, rf1, rf2, rf3, rf4, rf5⟩ := six_live KXw
              refine wpAnyH_ready (rs := [11]) (by kernel_rfl) (by simp) ?_
              refine AllReadyH.cons rfl (fun K hK => ?_) AllReadyH.nil
              simp only [List.getElem_toArray, List.getElem_cons_succ, List.getElem_cons_zero]
              go_simp
              have KHw := six_put5 KXw (.slice A9 (y.vs.length + 1) c9)
              refine hK.out _ _ (HNE.out _ _ _ _ _ KHw) (fun hH2 => ?_)
              clear hK hH2
              refine wpAnyH_done (by kernel_rfl) ?_ _
              have HREL := hide (And.intro KHw (And.intro ((reads_own n9).keepset w2.heap.size 5 (.slice A9 (y.vs.length + 1) c9) (fun a ha => by have := hf9 a ha; omega)) hf9))
              go_wp2
              go_meet
              case rel => exact ⟨rfl, A9, c9, HREL.out.1, HREL.out.2.1, HREL.out.2.2, w9, _, rfl, hbN⟩
          · simp only [List.getElem_toArray, List.getElem_cons_succ, List.getElem_cons_zero]
            go_simp
            have hbN := hg0.alloc hg0.size (.cells #[.int .i64 (a : Int), .int .i64 y.r, .int .i64 y.t] 44)
            have hlN := (Below.refl WE.heap.size WE).alloc (Nat.le_refl _) (.cells #[.int .i64 (a : Int), .int .i64 y.r, .int .i64 y.t] 44)
            have hvN : Reads (WE.alloc (.cells #[.int .i64 (a : Int), .int .i64 y.r, .int .i64 y.t] 44)) (some ⟨WE.heap.size, 0, none⟩) (Vt.cells ⟨a, y.r, y.t⟩) := Reads.new WE (Vt.cells ⟨a, y.r, y.t⟩) _ _
            have hoN := own_below hog0 hlN
            generalize hWN : WE.alloc (.cells #[.int .i64 (a : Int), .int .i64 y.r, .int .i64 y.t] 44) = WV at *
            have hsg08 := hide (show WV.heap.size = WE.heap.size + 1 from by rw [← hWN]; simp)
            clear hWN hlN
            refine hK.out _ _ (SHp.out _ hbN) (fun hH2 => ?_)
            clear hK hH2
            have hg08 := hbN; clear hbN
            have hog08 := hoN; clear hoN
            have hvg08 := hvN; clear hvN
            have hqg08 := hide (show ¬ WE.heap.size = W7.heap.size from by have := hsg0.out; have := hsg08.out; omega)
            refine wpAnyH_ready (rs := [2]) (by kernel_rfl) (by simp) ?_
            refine AllReadyH.cons rfl (fun K hK => ?_) AllReadyH.nil
            obtain ⟨r0, r1, r2, r3, r4, r5⟩ := six_at ((hg08.block _ hx6).trans KX6.out)
            simp only [List.getElem_toArray, List.getElem_cons_succ, List.getElem_cons_zero]
            go_simp
            refine hK.out _ _ (SHp.out _ hg08) (fun hH2 => ?_)
            clear hK hH2 r0 r1 r2 r3 r4 r5
            refine wpAnyH_ready (rs := [3]) (by kernel_rfl) (by simp) ?_
            refine AllReadyH.cons rfl (fun K hK => ?_) AllReadyH.nil
            refine step_append_wide (by rfl) (.tmp 63) (.tmp 65) 35 (by rfl) W6.heap.size 44 i0 (.agg #[.int .i64 0, .int .i64 0, .int .i64 0]) 3 24 Try.underlying35 hi hz0 hz1 hz2 rfl (by omega) _ 0 [] (by rfl) hog08 y.W y.vs.length y.wc (y.vs.flatMap Vt.cells) (by rfl) (RP7.out _ hg08) (flat_length Vt.cells_length y.vs) (votes_one y.vs) (by unfold maxLen; omega) (by omega) hg08.size ?_
            intro A8 c8 w8 n8 g8 t8
            have hbN := hg08.grown g8 hg08.size (fun g hg => (hog08.lt g hg).1)
            simp only [Nat.zero_add, List.nil_append] at n8 ⊢
            have hvN := Reads.grown hvg08 g8 (fun b off he h' => by injection he with he; injection he with he1 _; have h2 : some b = some W7.heap.size := h'; injection h2 with h2; rw [← he1] at h2; exact absurd h2 (hqg08.out))
            refine hK.out _ _ (SHp.out _ hbN) (fun hH2 => ?_)
            clear hK hH2 g8 t8
            try simp only [Act.put, List.getElem_toArray, List.getElem_cons_succ, List.getElem_cons_zero, List.setIfInBounds_toArray, List.set_cons_zero, List.set_cons_succ]
            have hg0823 := hbN; clear hbN
            have hog0823 := n8; clear n8
            have hvg0823 := hvN; clear hvN
            refine wpAnyH_ready (rs := [9]) (by kernel_rfl) (by simp) ?_
            refine AllReadyH.cons rfl (fun K hK => ?_) AllReadyH.nil
            refine step_append_wide (by rfl) (.tmp 66) (.tmp 71) 35 (by rfl) W6.heap.size 44 i0 (.agg #[.int .i64 0, .int .i64 0, .int .i64 0]) 3 24 Try.underlying35 hi hz0 hz1 hz2 rfl (by omega) _ y.vs.length (y.vs.flatMap Vt.cells) (by rfl) hog0823 (some ⟨WE.heap.size, 0, none⟩) 1 1 (Vt.cells ⟨a, y.r, y.t⟩) (by rfl) hvg0823 rfl (vt_one _) (by unfold maxLen; omega) (by omega) hg0823.size ?_
            intro A9 c9 w9 n9 g9 t9
            have hbN := hg0823.grown g9 hg0823.size (fun g hg => (hog0823.lt g hg).1)
            have hf9 : ∀ a, A9 = some a → W6.heap.size ≤ a.block := fun a ha => (n9.lt a.block (by rw [ha]; rfl)).1
            refine hK.out _ _ (SHp.out _ hbN) (fun hH2 => ?_)
            clear hK hH2 g9 t9
            try simp only [Act.put, List.getElem_toArray, List.getElem_cons_succ, List.getElem_cons_zero, List.setIfInBounds_toArray, List.set_cons_zero, List.set_cons_succ]
            refine wpAnyH_take (i := 10) (v := ?vg082310) rfl (by kernel_rfl) (by kernel_rfl) (by kernel_rfl) (fun _ _ _ h => h) (Or.inl ⟨by rfl, ?yg082310⟩) (SHp.out _ hbN) ?rg082310
            case yg082310 => (intro W hSw; (try dsimp only at hSw); (try simp only [List.getElem_toArray, List.getElem_cons_succ, List.getElem_cons_zero]); go_simp; first | done | with_reducible rfl)
            try simp only [Act.put, List.getElem_toArray, List.getElem_cons_succ, List.getElem_cons_zero, List.setIfInBounds_toArray, List.set_cons_zero, List.set_cons_succ]
            have KXw := (hbN.block _ hx6).trans KX6.out
            obtain ⟨r0, r1, r2, r3, r4, r5⟩ := six_at KXw
            obtain ⟨rf0, rf1, rf2, rf3, rf4, rf5⟩ := six_live KXw
            refine wpAnyH_ready (rs := [11]) (by kernel_rfl) (by simp) ?_
            refine AllReadyH.cons rfl (fun K hK => ?_) AllReadyH.nil
            simp only [List.getElem_toArray, List.getElem_cons_succ, List.getElem_cons_zero]
            go_simp
            have KHw := six_put5 KXw (.slice A9 (y.vs.length + 1) c9)
            refine hK.out _ _ (HNE.out _ _ _ _ _ KHw) (fun hH2 => ?_)
            clear hK hH2
            refine wpAnyH_done (by kernel_rfl) ?_ _
            have HREL := hide (And.intro KHw (And.intro ((reads_own n9).keepset w2.heap.size 5 (.slice A9 (y.vs.length + 1) c9) (fun a ha => by have := hf9 a ha; omega)) hf9))
            go_wp2
            go_meet
            case rel => exact ⟨rfl, A9, c9, HREL.out.1, HREL.out.2.1, HREL.out.2.2, w9, _, rfl, hbN⟩
        · obtain ⟨r0, r1, r2, r3, r4, r5⟩ := six_at ((hd0.block _ hx6).trans KX6.out)
          simp only [List.getElem_toArray, List.getElem_cons_succ, List.getElem_cons_zero]
          go_simp
          refine hK.out _ _ (SHp.out _ hd0) (fun hH2 => ?_)
          clear hK hH2 r0 r1 r2 r3 r4 r5
          refine wpAnyH_ready (rs := [0, 8]) (by kernel_rfl) (by simp) ?_
          refine AllReadyH.cons rfl (fun K hK => ?_) (AllReadyH.cons rfl (fun K hK => ?_) AllReadyH.nil)
          · simp only [List.getElem_toArray, List.getElem_cons_zero]
            go_simp
            have hbN := hd0.alloc hd0.size (.cells #[] 44)
            have hlN := (Below.refl W7.heap.size W7).alloc (Nat.le_refl _) (.cells #[] 44)
            have hoN := own_empty W7 W6.heap.size 44 3 W7.heap.size rfl hd0.size
            have hsE := hide (hd0.size)
            generalize hWN : W7.alloc (.cells #[] 44) = WE at *
            have hsg20 := hide (show WE.heap.size = W7.heap.size + 1 from by rw [← hWN]; simp)
            clear hWN hlN
            refine hK.out _ _ (SHp.out _ hbN) (fun hH2 => ?_)
            clear hK hH2
            have hg20 := hbN; clear hbN
            have hog20 := hoN; clear hoN
            refine wpAnyH_ready (rs := [3, 8]) (by kernel_rfl) (by simp) ?_
            refine AllReadyH.cons rfl (fun K hK => ?_) (AllReadyH.cons rfl (fun K hK => ?_) AllReadyH.nil)
            · refine step_append_wide (by rfl) (.tmp 63) (.tmp 65) 35 (by rfl) W6.heap.size 44 i0 (.agg #[.int .i64 0, .int .i64 0, .int .i64 0]) 3 24 Try.underlying35 hi hz0 hz1 hz2 rfl (by omega) _ 0 [] (by rfl) hog20 y.W y.vs.length y.wc (y.vs.flatMap Vt.cells) (by rfl) (RP7.out _ hg20) (flat_length Vt.cells_length y.vs) (votes_one y.vs) (by unfold maxLen; omega) (by omega) hg20.size ?_
              intro A8 c8 w8 n8 g8 t8
              have hbN := hg20.grown g8 hg20.size (fun g hg => (hog20.lt g hg).1)
              simp only [Nat.zero_add, List.nil_append] at n8 ⊢
              refine hK.out _ _ (SHp.out _ hbN) (fun hH2 => ?_)
              clear hK hH2 g8 t8
              try simp only [Act.put, List.getElem_toArray, List.getElem_cons_succ, List.getElem_cons_zero, List.setIfInBounds_toArray, List.set_cons_zero, List.set_cons_succ]
              have hg203 := hbN; clear hbN
              have hog203 := n8; clear n8
              refine wpAnyH_ready (rs := [8]) (by kernel_rfl) (by simp) ?_
              refine AllReadyH.cons rfl (fun K hK => ?_) AllReadyH.nil
              simp only [List.getElem_toArray, List.getElem_cons_succ, List.getElem_cons_zero]
              go_simp
              have hbN := hg203.alloc hg203.size (.cells #[.int .i64 (a : Int), .int .i64 y.r, .int .i64 y.t] 44)
              have hlN := (Below.refl w8.heap.size w8).alloc (Nat.le_refl _) (.cells #[.int .i64 (a : Int), .int .i64 y.r, .int .i64 y.t] 44)
              have hvN : Reads (w8.alloc (.cells #[.int .i64 (a : Int), .int .i64 y.r, .int .i64 y.t] 44)) (some ⟨w8.heap.size, 0, none⟩) (Vt.cells ⟨a, y.r, y.t⟩) := Reads.new w8 (Vt.cells ⟨a, y.r, y.t⟩) _ _
              have hoN := own_below hog203 hlN
              generalize hWN : w8.alloc (.cells #[.int .i64 (a : Int), .int .i64 y.r, .int .i64 y.t] 44) = WV at *
              have hsg2038 := hide (show WV.heap.size = w8.heap.size + 1 from by rw [← hWN]; simp)
              clear hWN hlN
              refine hK.out _ _ (SHp.out _ hbN) (fun hH2 => ?_)
              clear hK hH2
              have hg2038 := hbN; clear hbN
              have hog2038 := hoN; clear hoN
              have hvg2038 := hvN; clear hvN
              refine wpAnyH_ready (rs := [9]) (by kernel_rfl) (by simp) ?_
              refine AllReadyH.cons rfl (fun K hK => ?_) AllReadyH.nil
              refine step_append_wide (by rfl) (.tmp 66) (.tmp 71) 35 (by rfl) W6.heap.size 44 i0 (.agg #[.int .i64 0, .int .i64 0, .int .i64 0]) 3 24 Try.underlying35 hi hz0 hz1 hz2 rfl (by omega) _ y.vs.length (y.vs.flatMap Vt.cells) (by rfl) hog2038 (some ⟨w8.heap.size, 0, none⟩) 1 1 (Vt.cells ⟨a, y.r, y.t⟩) (by rfl) hvg2038 rfl (vt_one _) (by unfold maxLen; omega) (by omega) hg2038.size ?_
              intro A9 c9 w9 n9 g9 t9
              have hbN := hg2038.grown g9 hg2038.size (fun g hg => (hog2038.lt g hg).1)
              have hf9 : ∀ a, A9 = some a → W6.heap.size ≤ a.block := fun a ha => (n9.lt a.block (by rw [ha]; rfl)).1
              refine hK.out _ _ (SHp.out _ hbN) (fun hH2 => ?_)
              clear hK hH2 g9 t9
              try simp only [Act.put, List.getElem_toArray, List.getElem_cons_succ, List.getElem_cons_zero, List.setIfInBounds_toArray, List.set_cons_zero, List.set_cons_succ]
              refine wpAnyH_take (i := 10) (v := ?vg203810) rfl (by kernel_rfl) (by kernel_rfl) (by kernel_rfl) (fun _ _ _ h => h) (Or.inl ⟨by rfl, ?yg203810⟩) (SHp.out _ hbN) ?rg203810
              case yg203810 => (intro W hSw; (try dsimp only at hSw); (try simp only [List.getElem_toArray, List.getElem_cons_succ, List.getElem_cons_zero]); go_simp; first | done | with_reducible rfl)
              try simp only [Act.put, List.getElem_toArray, List.getElem_cons_succ, List.getElem_cons_zero, List.setIfInBounds_toArray, List.set_cons_zero, List.set_cons_succ]
              have KXw := (hbN.block _ hx6).trans KX6.out
              obtain ⟨r0, r1, r2, r3, r4, r5⟩ := six_at KXw
              obtain ⟨rf0, rf1, rf2, rf3, rf4, rf5⟩ := six_live KXw
              refine wpAnyH_ready (rs := [11]) (by kernel_rfl) (by simp) ?_
              refine AllReadyH.cons rfl (fun K hK => ?_) AllReadyH.nil
              simp only [List.getElem_toArray, List.getElem_cons_succ, List.getElem_cons_zero]
              go_simp
              have KHw := six_put5 KXw (.slice A9 (y.vs.length + 1) c9)
              refine hK.out _ _ (HNE.out _ _ _ _ _ KHw) (fun hH2 => ?_)
              clear hK hH2
              refine wpAnyH_done (by kernel_rfl) ?_ _
              have HREL := hide (And.intro KHw (And.intro ((reads_own n9).keepset w2.heap.size 5 (.slice A9 (y.vs.length + 1) c9) (fun a ha => by have := hf9 a ha; omega)) hf9))
              go_wp2
              go_meet
              case rel => exact ⟨rfl, A9, c9, HREL.out.1, HREL.out.2.1, HREL.out.2.2, w9, _, rfl, hbN⟩
            · simp only [List.getElem_toArray, List.getElem_cons_succ, List.getElem_cons_zero]
              go_simp
              have hbN := hg20.alloc hg20.size (.cells #[.int .i64 (a : Int), .int .i64 y.r, .int .i64 y.t] 44)
              have hlN := (Below.refl WE.heap.size WE).alloc (Nat.le_refl _) (.cells #[.int .i64 (a : Int), .int .i64 y.r, .int .i64 y.t] 44)
              have hvN : Reads (WE.alloc (.cells #[.int .i64 (a : Int), .int .i64 y.r, .int .i64 y.t] 44)) (some ⟨WE.heap.size, 0, none⟩) (Vt.cells ⟨a, y.r, y.t⟩) := Reads.new WE (Vt.cells ⟨a, y.r, y.t⟩) _ _
              have hoN := own_below hog20 hlN
              generalize hWN : WE.alloc (.cells #[.int .i64 (a : Int), .int .i64 y.r, .int .i64 y.t] 44) = WV at *
              have hsg208 := hide (show WV.heap.size = WE.heap.size + 1 from by rw [← hWN]; simp)
              clear hWN hlN
              refine hK.out _ _ (SHp.out _ hbN) (fun hH2 => ?_)
              clear hK hH2
              have hg208 := hbN; clear hbN
              have hog208 := hoN; clear hoN
              have hvg208 := hvN; clear hvN
              have hqg208 := hide (show ¬ WE.heap.size = W7.heap.size from by have := hsg20.out; have := hsg208.out; omega)
              refine wpAnyH_ready (rs := [3]) (by kernel_rfl) (by simp) ?_
              refine AllReadyH.cons rfl (fun K hK => ?_) AllReadyH.nil
              refine step_append_wide (by rfl) (.tmp 63) (.tmp 65) 35 (by rfl) W6.heap.size 44 i0 (.agg #[.int .i64 0, .int .i64 0, .int .i64 0]) 3 24 Try.underlying35 hi hz0 hz1 hz2 rfl (by omega) _ 0 [] (by rfl) hog208 y.W y.vs.length y.wc (y.vs.flatMap Vt.cells) (by rfl) (RP7.out _ hg208) (flat_length Vt.cells_length y.vs) (votes_one y.vs) (by unfold maxLen; omega) (by omega) hg208.size ?_
              intro A8 c8 w8 n8 g8 t8
              have hbN := hg208.grown g8 hg208.size (fun g hg => (hog208.lt g hg).1)
              simp only [Nat.zero_add, List.nil_append] at n8 ⊢
              have hvN := Reads.grown hvg208 g8 (fun b off he h' => by injection he with he; injection he with he1 _; have h2 : some b = some W7.heap.size := h'; injection h2 with h2; rw [← he1] at h2; exact absurd h2 (hqg208.out))
              refine hK.out _ _ (SHp.out _ hbN) (fun hH2 => ?_)
              clear hK hH2 g8 t8
              try simp only [Act.put, List.getElem_toArray, List.getElem_cons_succ, List.getElem_cons_zero, List.setIfInBounds_toArray, List.set_cons_zero, List.set_cons_succ]
              have hg2083 := hbN; clear hbN
              have hog2083 := n8; clear n8
              have hvg2083 := hvN; clear hvN
              refine wpAnyH_ready (rs := [9]) (by kernel_rfl) (by simp) ?_
              refine AllReadyH.cons rfl (fun K hK => ?_) AllReadyH.nil
              refine step_append_wide (by rfl) (.tmp 66) (.tmp 71) 35 (by rfl) W6.heap.size 44 i0 (.agg #[.int .i64 0, .int .i64 0, .int .i64 0]) 3 24 Try.underlying35 hi hz0 hz1 hz2 rfl (by omega) _ y.vs.length (y.vs.flatMap Vt.cells) (by rfl) hog2083 (some ⟨WE.heap.size, 0, none⟩) 1 1 (Vt.cells ⟨a, y.r, y.t⟩) (by rfl) hvg2083 rfl (vt_one _) (by unfold maxLen; omega) (by omega) hg2083.size ?_
              intro A9 c9 w9 n9 g9 t9
              have hbN := hg2083.grown g9 hg2083.size (fun g hg => (hog2083.lt g hg).1)
              have hf9 : ∀ a, A9 = some a → W6.heap.size ≤ a.block := fun a ha => (n9.lt a.block (by rw [ha]; rfl)).1
              refine hK.out _ _ (SHp.out _ hbN) (fun hH2 => ?_)
              clear hK hH2 g9 t9
              try simp only [Act.put, List.getElem_toArray, List.getElem_cons_succ, List.getElem_cons_zero, List.setIfInBounds_toArray, List.set_cons_zero, List.set_cons_succ]
              refine wpAnyH_take (i := 10) (v := ?vg208310) rfl (by kernel_rfl) (by kernel_rfl) (by kernel_rfl) (fun _ _ _ h => h) (Or.inl ⟨by rfl, ?yg208310⟩) (SHp.out _ hbN) ?rg208310
              case yg208310 => (intro W hSw; (try dsimp only at hSw); (try simp only [List.getElem_toArray, List.getElem_cons_succ, List.getElem_cons_zero]); go_simp; first | done | with_reducible rfl)
              try simp only [Act.put, List.getElem_toArray, List.getElem_cons_succ, List.getElem_cons_zero, List.setIfInBounds_toArray, List.set_cons_zero, List.set_cons_succ]
              have KXw := (hbN.block _ hx6).trans KX6.out
              obtain ⟨r0, r1, r2, r3, r4, r5⟩ := six_at KXw
              obtain ⟨rf0, rf1, rf2, rf3, rf4, rf5⟩ := six_live KXw
              refine wpAnyH_ready (rs := [11]) (by kernel_rfl) (by simp) ?_
              refine AllReadyH.cons rfl (fun K hK => ?_) AllReadyH.nil
              simp only [List.getElem_toArray, List.getElem_cons_succ, List.getElem_cons_zero]
              go_simp
              have KHw := six_put5 KXw (.slice A9 (y.vs.length + 1) c9)
              refine hK.out _ _ (HNE.out _ _ _ _ _ KHw) (fun hH2 => ?_)
              clear hK hH2
              refine wpAnyH_done (by kernel_rfl) ?_ _
              have HREL := hide (And.intro KHw (And.intro ((reads_own n9).keepset w2.heap.size 5 (.slice A9 (y.vs.length + 1) c9) (fun a ha => by have := hf9 a ha; omega)) hf9))
              go_wp2
              go_meet
              case rel => exact ⟨rfl, A9, c9, HREL.out.1, HREL.out.2.1, HREL.out.2.2, w9, _, rfl, hbN⟩
          · simp only [List.getElem_toArray, List.getElem_cons_succ, List.getElem_cons_zero]
            go_simp
            have hbN := hd0.alloc hd0.size (.cells #[.int .i64 (a : Int), .int .i64 y.r, .int .i64 y.t] 44)
            have hlN := (Below.refl W7.heap.size W7).alloc (Nat.le_refl _) (.cells #[.int .i64 (a : Int), .int .i64 y.r, .int .i64 y.t] 44)
            have hvN : Reads (W7.alloc (.cells #[.int .i64 (a : Int), .int .i64 y.r, .int .i64 y.t] 44)) (some ⟨W7.heap.size, 0, none⟩) (Vt.cells ⟨a, y.r, y.t⟩) := Reads.new W7 (Vt.cells ⟨a, y.r, y.t⟩) _ _
            generalize hWN : W7.alloc (.cells #[.int .i64 (a : Int), .int .i64 y.r, .int .i64 y.t] 44) = WV at *
            have hsg28 := hide (show WV.heap.size = W7.heap.size + 1 from by rw [← hWN]; simp)
            clear hWN hlN
            refine hK.out _ _ (SHp.out _ hbN) (fun hH2 => ?_)
            clear hK hH2
            have hg28 := hbN; clear hbN
            have hvg28 := hvN; clear hvN
            refine wpAnyH_ready (rs := [0]) (by kernel_rfl) (by simp) ?_
            refine AllReadyH.cons rfl (fun K hK => ?_) AllReadyH.nil
            simp only [List.getElem_toArray, List.getElem_cons_zero]
            go_simp
            have hbN := hg28.alloc hg28.size (.cells #[] 44)
            have hlN := (Below.refl WV.heap.size WV).alloc (Nat.le_refl _) (.cells #[] 44)
            have hoN := own_empty WV W6.heap.size 44 3 WV.heap.size rfl hg28.size
            have hsE := hide (hg28.size)
            have hvN := hvg28.below hlN
            generalize hWN : WV.alloc (.cells #[] 44) = WE at *
            have hsg280 := hide (show WE.heap.size = WV.heap.size + 1 from by rw [← hWN]; simp)
            clear hWN hlN
            refine hK.out _ _ (SHp.out _ hbN) (fun hH2 => ?_)
            clear hK hH2
            have hg280 := hbN; clear hbN
            have hog280 := hoN; clear hoN
            have hvg280 := hvN; clear hvN
            have hqg280 := hide (show ¬ W7.heap.size = WV.heap.size from by have := hsg28.out; have := hsg280.out; omega)
            refine wpAnyH_ready (rs := [3]) (by kernel_rfl) (by simp) ?_
            refine AllReadyH.cons rfl (fun K hK => ?_) AllReadyH.nil
            refine step_append_wide (by rfl) (.tmp 63) (.tmp 65) 35 (by rfl) W6.heap.size 44 i0 (.agg #[.int .i64 0, .int .i64 0, .int .i64 0]) 3 24 Try.underlying35 hi hz0 hz1 hz2 rfl (by omega) _ 0 [] (by rfl) hog280 y.W y.vs.length y.wc (y.vs.flatMap Vt.cells) (by rfl) (RP7.out _ hg280) (flat_length Vt.cells_length y.vs) (votes_one y.vs) (by unfold maxLen; omega) (by omega) hg280.size ?_
            intro A8 c8 w8 n8 g8 t8
            have hbN := hg280.grown g8 hg280.size (fun g hg => (hog280.lt g hg).1)
            simp only [Nat.zero_add, List.nil_append] at n8 ⊢
            have hvN := Reads.grown hvg280 g8 (fun b off he h' => by injection he with he; injection he with he1 _; have h2 : some b = some WV.heap.size := h'; injection h2 with h2; rw [← he1] at h2; exact absurd h2 (hqg280.out))
            refine hK.out _ _ (SHp.out _ hbN) (fun hH2 => ?_)
            clear hK hH2 g8 t8
            try simp only [Act.put, List.getElem_toArray, List.getElem_cons_succ, List.getElem_cons_zero, List.setIfInBounds_toArray, List.set_cons_zero, List.set_cons_succ]
            have hg2803 := hbN; clear hbN
            have hog2803 := n8; clear n8
            have hvg2803 := hvN; clear hvN
            refine wpAnyH_ready (rs := [9]) (by kernel_rfl) (by simp) ?_
            refine AllReadyH.cons rfl (fun K hK => ?_) AllReadyH.nil
            refine step_append_wide (by rfl) (.tmp 66) (.tmp 71) 35 (by rfl) W6.heap.size 44 i0 (.agg #[.int .i64 0, .int .i64 0, .int .i64 0]) 3 24 Try.underlying35 hi hz0 hz1 hz2 rfl (by omega) _ y.vs.length (y.vs.flatMap Vt.cells) (by rfl) hog2803 (some ⟨W7.heap.size, 0, none⟩) 1 1 (Vt.cells ⟨a, y.r, y.t⟩) (by rfl) hvg2803 rfl (vt_one _) (by unfold maxLen; omega) (by omega) hg2803.size ?_
            intro A9 c9 w9 n9 g9 t9
            have hbN := hg2803.grown g9 hg2803.size (fun g hg => (hog2803.lt g hg).1)
            have hf9 : ∀ a, A9 = some a → W6.heap.size ≤ a.block := fun a ha => (n9.lt a.block (by rw [ha]; rfl)).1
            refine hK.out _ _ (SHp.out _ hbN) (fun hH2 => ?_)
            clear hK hH2 g9 t9
            try simp only [Act.put, List.getElem_toArray, List.getElem_cons_succ, List.getElem_cons_zero, List.setIfInBounds_toArray, List.set_cons_zero, List.set_cons_succ]
            refine wpAnyH_take (i := 10) (v := ?vg280310) rfl (by kernel_rfl) (by kernel_rfl) (by kernel_rfl) (fun _ _ _ h => h) (Or.inl ⟨by rfl, ?yg280310⟩) (SHp.out _ hbN) ?rg280310
            case yg280310 => (intro W hSw; (try dsimp only at hSw); (try simp only [List.getElem_toArray, List.getElem_cons_succ, List.getElem_cons_zero]); go_simp; first | done | with_reducible rfl)
            try simp only [Act.put, List.getElem_toArray, List.getElem_cons_succ, List.getElem_cons_zero, List.setIfInBounds_toArray, List.set_cons_zero, List.set_cons_succ]
            have KXw := (hbN.block _ hx6).trans KX6.out
            obtain ⟨r0, r1, r2, r3, r4, r5⟩ := six_at KXw
            obtain ⟨rf0, rf1, rf2, rf3, rf4, rf5⟩ := six_live KXw
            refine wpAnyH_ready (rs := [11]) (by kernel_rfl) (by simp) ?_
            refine AllReadyH.cons rfl (fun K hK => ?_) AllReadyH.nil
            simp only [List.getElem_toArray, List.getElem_cons_succ, List.getElem_cons_zero]
            go_simp
            have KHw := six_put5 KXw (.slice A9 (y.vs.length + 1) c9)
            refine hK.out _ _ (HNE.out _ _ _ _ _ KHw) (fun hH2 => ?_)
            clear hK hH2
            refine wpAnyH_done (by kernel_rfl) ?_ _
            have HREL := hide (And.intro KHw (And.intro ((reads_own n9).keepset w2.heap.size 5 (.slice A9 (y.vs.length + 1) c9) (fun a ha => by have := hf9 a ha; omega)) hf9))
            go_wp2
            go_meet
            case rel => exact ⟨rfl, A9, c9, HREL.out.1, HREL.out.2.1, HREL.out.2.2, w9, _, rfl, hbN⟩
        · simp only [List.getElem_toArray, List.getElem_cons_succ, List.getElem_cons_zero]
          go_simp
          have hbN := hd0.alloc hd0.size (.cells #[.int .i64 (a : Int), .int .i64 y.r, .int .i64 y.t] 44)
          have hlN := (Below.refl W7.heap.size W7).alloc (Nat.le_refl _) (.cells #[.int .i64 (a : Int), .int .i64 y.r, .int .i64 y.t] 44)
          have hvN : Reads (W7.alloc (.cells #[.int .i64 (a : Int), .int .i64 y.r, .int .i64 y.t] 44)) (some ⟨W7.heap.size, 0, none⟩) (Vt.cells ⟨a, y.r, y.t⟩) := Reads.new W7 (Vt.cells ⟨a, y.r, y.t⟩) _ _
          generalize hWN : W7.alloc (.cells #[.int .i64 (a : Int), .int .i64 y.r, .int .i64 y.t] 44) = WV at *
          have hsg8 := hide (show WV.heap.size = W7.heap.size + 1 from by rw [← hWN]; simp)
          clear hWN hlN
          refine hK.out _ _ (SHp.out _ hbN) (fun hH2 => ?_)
          clear hK hH2
          have hg8 := hbN; clear hbN
          have hvg8 := hvN; clear hvN
          refine wpAnyH_ready (rs := [0, 2]) (by kernel_rfl) (by simp) ?_
          refine AllReadyH.cons rfl (fun K hK => ?_) (AllReadyH.cons rfl (fun K hK => ?_) AllReadyH.nil)
          · simp only [List.getElem_toArray, List.getElem_cons_zero]
            go_simp
            have hbN := hg8.alloc hg8.size (.cells #[] 44)
            have hlN := (Below.refl WV.heap.size WV).alloc (Nat.le_refl _) (.cells #[] 44)
            have hoN := own_empty WV W6.heap.size 44 3 WV.heap.size rfl hg8.size
            have hsE := hide (hg8.size)
            have hvN := hvg8.below hlN
            generalize hWN : WV.alloc (.cells #[] 44) = WE at *
            have hsg80 := hide (show WE.heap.size = WV.heap.size + 1 from by rw [← hWN]; simp)
            clear hWN hlN
            refine hK.out _ _ (SHp.out _ hbN) (fun hH2 => ?_)
            clear hK hH2
            have hg80 := hbN; clear hbN
            have hog80 := hoN; clear hoN
            have hvg80 := hvN; clear hvN
            have hqg80 := hide (show ¬ W7.heap.size = WV.heap.size from by have := hsg8.out; have := hsg80.out; omega)
            refine wpAnyH_ready (rs := [2]) (by kernel_rfl) (by simp) ?_
            refine AllReadyH.cons rfl (fun K hK => ?_) AllReadyH.nil
            obtain ⟨r0, r1, r2, r3, r4, r5⟩ := six_at ((hg80.block _ hx6).trans KX6.out)
            simp only [List.getElem_toArray, List.getElem_cons_succ, List.getElem_cons_zero]
            go_simp
            refine hK.out _ _ (SHp.out _ hg80) (fun hH2 => ?_)
            clear hK hH2 r0 r1 r2 r3 r4 r5
            refine wpAnyH_ready (rs := [3]) (by kernel_rfl) (by simp) ?_
            refine AllReadyH.cons rfl (fun K hK => ?_) AllReadyH.nil
            refine step_append_wide (by rfl) (.tmp 63) (.tmp 65) 35 (by rfl) W6.heap.size 44 i0 (.agg #[.int .i64 0, .int .i64 0, .int .i64 0]) 3 24 Try.underlying35 hi hz0 hz1 hz2 rfl (by omega) _ 0 [] (by rfl) hog80 y.W y.vs.length y.wc (y.vs.flatMap Vt.cells) (by rfl) (RP7.out _ hg80) (flat_length Vt.cells_length y.vs) (votes_one y.vs) (by unfold maxLen; omega) (by omega) hg80.size ?_
            intro A8 c8 w8 n8 g8 t8
            have hbN := hg80.grown g8 hg80.size (fun g hg => (hog80.lt g hg).1)
            simp only [Nat.zero_add, List.nil_append] at n8 ⊢
            have hvN := Reads.grown hvg80 g8 (fun b off he h' => by injection he with he; injection he with he1 _; have h2 : some b = some WV.heap.size := h'; injection h2 with h2; rw [← he1] at h2; exact absurd h2 (hqg80.out))
            refine hK.out _ _ (SHp.out _ hbN) (fun hH2 => ?_)
            clear hK hH2 g8 t8
            try simp only [Act.put, List.getElem_toArray, List.getElem_cons_succ, List.getElem_cons_zero, List.setIfInBounds_toArray, List.set_cons_zero, List.set_cons_succ]
            have hg8023 := hbN; clear hbN
            have hog8023 := n8; clear n8
            have hvg8023 := hvN; clear hvN
            refine wpAnyH_ready (rs := [9]) (by kernel_rfl) (by simp) ?_
            refine AllReadyH.cons rfl (fun K hK => ?_) AllReadyH.nil
            refine step_append_wide (by rfl) (.tmp 66) (.tmp 71) 35 (by rfl) W6.heap.size 44 i0 (.agg #[.int .i64 0, .int .i64 0, .int .i64 0]) 3 24 Try.underlying35 hi hz0 hz1 hz2 rfl (by omega) _ y.vs.length (y.vs.flatMap Vt.cells) (by rfl) hog8023 (some ⟨W7.heap.size, 0, none⟩) 1 1 (Vt.cells ⟨a, y.r, y.t⟩) (by rfl) hvg8023 rfl (vt_one _) (by unfold maxLen; omega) (by omega) hg8023.size ?_
            intro A9 c9 w9 n9 g9 t9
            have hbN := hg8023.grown g9 hg8023.size (fun g hg => (hog8023.lt g hg).1)
            have hf9 : ∀ a, A9 = some a → W6.heap.size ≤ a.block := fun a ha => (n9.lt a.block (by rw [ha]; rfl)).1
            refine hK.out _ _ (SHp.out _ hbN) (fun hH2 => ?_)
            clear hK hH2 g9 t9
            try simp only [Act.put, List.getElem_toArray, List.getElem_cons_succ, List.getElem_cons_zero, List.setIfInBounds_toArray, List.set_cons_zero, List.set_cons_succ]
            refine wpAnyH_take (i := 10) (v := ?vg802310) rfl (by kernel_rfl) (by kernel_rfl) (by kernel_rfl) (fun _ _ _ h => h) (Or.inl ⟨by rfl, ?yg802310⟩) (SHp.out _ hbN) ?rg802310
            case yg802310 => (intro W hSw; (try dsimp only at hSw); (try simp only [List.getElem_toArray, List.getElem_cons_succ, List.getElem_cons_zero]); go_simp; first | done | with_reducible rfl)
            try simp only [Act.put, List.getElem_toArray, List.getElem_cons_succ, List.getElem_cons_zero, List.setIfInBounds_toArray, List.set_cons_zero, List.set_cons_succ]
            have KXw := (hbN.block _ hx6).trans KX6.out
            obtain ⟨r0, r1, r2, r3, r4, r5⟩ := six_at KXw
            obtain ⟨rf0, rf1, rf2, rf3, rf4, rf5⟩ := six_live KXw
            refine wpAnyH_ready (rs := [11]) (by kernel_rfl) (by simp) ?_
            refine AllReadyH.cons rfl (fun K hK => ?_) AllReadyH.nil
            simp only [List.getElem_toArray, List.getElem_cons_succ, List.getElem_cons_zero]
            go_simp
            have KHw := six_put5 KXw (.slice A9 (y.vs.length + 1) c9)
            refine hK.out _ _ (HNE.out _ _ _ _ _ KHw) (fun hH2 => ?_)
            clear hK hH2
            refine wpAnyH_done (by kernel_rfl) ?_ _
            have HREL := hide (And.intro KHw (And.intro ((reads_own n9).keepset w2.heap.size 5 (.slice A9 (y.vs.length + 1) c9) (fun a ha => by have := hf9 a ha; omega)) hf9))
            go_wp2
            go_meet
            case rel => exact ⟨rfl, A9, c9, HREL.out.1, HREL.out.2.1, HREL.out.2.2, w9, _, rfl, hbN⟩
          · obtain ⟨r0, r1, r2, r3, r4, r5⟩ := six_at ((hg8.block _ hx6).trans KX6.out)
            simp only [List.getElem_toArray, List.getElem_cons_succ, List.getElem_cons_zero]
            go_simp
            refine hK.out _ _ (SHp.out _ hg8) (fun hH2 => ?_)
            clear hK hH2 r0 r1 r2 r3 r4 r5
            refine wpAnyH_ready (rs := [0]) (by kernel_rfl) (by simp) ?_
            refine AllReadyH.cons rfl (fun K hK => ?_) AllReadyH.nil
            simp only [List.getElem_toArray, List.getElem_cons_zero]
            go_simp
            have hbN := hg8.alloc hg8.size (.cells #[] 44)
            have hlN := (Below.refl WV.heap.size WV).alloc (Nat.le_refl _) (.cells #[] 44)
            have hoN := own_empty WV W6.heap.size 44 3 WV.heap.size rfl hg8.size
            have hsE := hide (hg8.size)
            have hvN := hvg8.below hlN
            generalize hWN : WV.alloc (.cells #[] 44) = WE at *
            have hsg820 := hide (show WE.heap.size = WV.heap.size + 1 from by rw [← hWN]; simp)
            clear hWN hlN
            refine hK.out _ _ (SHp.out _ hbN) (fun hH2 => ?_)
            clear hK hH2
            have hg820 := hbN; clear hbN
            have hog820 := hoN; clear hoN
            have hvg820 := hvN; clear hvN
            have hqg820 := hide (show ¬ W7.heap.size = WV.heap.size from by have := hsg8.out; have := hsg820.out; omega)
            refine wpAnyH_ready (rs := [3]) (by kernel_rfl) (by simp) ?_
            refine AllReadyH.cons rfl (fun K hK => ?_) AllReadyH.nil
            refine step_append_wide (by rfl) (.tmp 63) (.tmp 65) 35 (by rfl) W6.heap.size 44 i0 (.agg #[.int .i64 0, .int .i64 0, .int .i64 0]) 3 24 Try.underlying35 hi hz0 hz1 hz2 rfl (by omega) _ 0 [] (by rfl) hog820 y.W y.vs.length y.wc (y.vs.flatMap Vt.cells) (by rfl) (RP7.out _ hg820) (flat_length Vt.cells_length y.vs) (votes_one y.vs) (by unfold maxLen; omega) (by omega) hg820.size ?_
            intro A8 c8 w8 n8 g8 t8
            have hbN := hg820.grown g8 hg820.size (fun g hg => (hog820.lt g hg).1)
            simp only [Nat.zero_add, List.nil_append] at n8 ⊢
            have hvN := Reads.grown hvg820 g8 (fun b off he h' => by injection he with he; injection he with he1 _; have h2 : some b = some WV.heap.size := h'; injection h2 with h2; rw [← he1] at h2; exact absurd h2 (hqg820.out))
            refine hK.out _ _ (SHp.out _ hbN) (fun hH2 => ?_)
            clear hK hH2 g8 t8
            try simp only [Act.put, List.getElem_toArray, List.getElem_cons_succ, List.getElem_cons_zero, List.setIfInBounds_toArray, List.set_cons_zero, List.set_cons_succ]
            have hg8203 := hbN; clear hbN
            have hog8203 := n8; clear n8
            have hvg8203 := hvN; clear hvN
            refine wpAnyH_ready (rs := [9]) (by kernel_rfl) (by simp) ?_
            refine AllReadyH.cons rfl (fun K hK => ?_) AllReadyH.nil
            refine step_append_wide (by rfl) (.tmp 66) (.tmp 71) 35 (by rfl) W6.heap.size 44 i0 (.agg #[.int .i64 0, .int .i64 0, .int .i64 0]) 3 24 Try.underlying35 hi hz0 hz1 hz2 rfl (by omega) _ y.vs.length (y.vs.flatMap Vt.cells) (by rfl) hog8203 (some ⟨W7.heap.size, 0, none⟩) 1 1 (Vt.cells ⟨a, y.r, y.t⟩) (by rfl) hvg8203 rfl (vt_one _) (by unfold maxLen; omega) (by omega) hg8203.size ?_
            intro A9 c9 w9 n9 g9 t9
            have hbN := hg8203.grown g9 hg8203.size (fun g hg => (hog8203.lt g hg).1)
            have hf9 : ∀ a, A9 = some a → W6.heap.size ≤ a.block := fun a ha => (n9.lt a.block (by rw [ha]; rfl)).1
            refine hK.out _ _ (SHp.out _ hbN) (fun hH2 => ?_)
            clear hK hH2 g9 t9
            try simp only [Act.put, List.getElem_toArray, List.getElem_cons_succ, List.getElem_cons_zero, List.setIfInBounds_toArray, List.set_cons_zero, List.set_cons_succ]
            refine wpAnyH_take (i := 10) (v := ?vg820310) rfl (by kernel_rfl) (by kernel_rfl) (by kernel_rfl) (fun _ _ _ h => h) (Or.inl ⟨by rfl, ?yg820310⟩) (SHp.out _ hbN) ?rg820310
            case yg820310 => (intro W hSw; (try dsimp only at hSw); (try simp only [List.getElem_toArray, List.getElem_cons_succ, List.getElem_cons_zero]); go_simp; first | done | with_reducible rfl)
            try simp only [Act.put, List.getElem_toArray, List.getElem_cons_succ, List.getElem_cons_zero, List.setIfInBounds_toArray, List.set_cons_zero, List.set_cons_succ]
            have KXw := (hbN.block _ hx6).trans KX6.out
            obtain ⟨r0, r1, r2, r3, r4, r5⟩ := six_at KXw
            obtain ⟨rf0, rf1, rf2, rf3, rf4, rf5⟩ := six_live KXw
            refine wpAnyH_ready (rs := [11]) (by kernel_rfl) (by simp) ?_
            refine AllReadyH.cons rfl (fun K hK => ?_) AllReadyH.nil
            simp only [List.getElem_toArray, List.getElem_cons_succ, List.getElem_cons_zero]
            go_simp
            have KHw := six_put5 KXw (.slice A9 (y.vs.length + 1) c9)
            refine hK.out _ _ (HNE.out _ _ _ _ _ KHw) (fun hH2 => ?_)
            clear hK hH2
            refine wpAnyH_done (by kernel_rfl) ?_ _
            have HREL := hide (And.intro KHw (And.intro ((reads_own n9).keepset w2.heap.size 5 (.slice A9 (y.vs.length + 1) c9) (fun a ha => by have := hf9 a ha; omega)) hf9))
            go_wp2
            go_meet
            case rel => exact ⟨rfl, A9, c9, HREL.out.1, HREL.out.2.1, HREL.out.2.2, w9, _, rfl, hbN⟩
      obtain ⟨rfl, P9, p9, KX9, R9, F9, w9, v9, hw9, hb9⟩ := hcut
      have hHB0 : b0 ≤ W6.heap.size := Nat.le_trans HM.out.base (by omega)
      have hXB3 : w2.heap.size ≠ B := by omega
      have hXg3 : w2.heap.size ≠ g := by omega
      have HBX : b0 ≤ w2.heap.size := by have := HM.out.base; omega
      have HB19 := hide (behind9 HD6.out HR6.out hw9 hb9 hHB0 hXB3 hXg3 HBX hXB (fun a ha => by have := HP5.out a ha; omega))
      clear hw9 hb9
      have HD9 := hide HB19.out.1
      have HR9 := hide HB19.out.2.1
      have KXW := hide KX9
      have HR9' := hide R9; have HF9 := hide F9
      have hs9 : W6.heap.size ≤ wc.heap.size := HB19.out.2.2
      have HAL7 : (all.set a ⟨t, A5, c5⟩).length = 7 := by simp [HAL.out]
      clear HB19 KX9 R9 F9 HD6 HR6 KX6 KE6 HFIN
      go_upto_region 10 with fail
      have hXg : ¬ w2.heap.size = g := by omega
      have hBg : ¬ B = g := HM.out.apart
      have HSW := hide (fun (W : World) (h1 : W.heap[w2.heap.size]? = some (.cells #[.int .i64 y.r, .int .i64 y.t, .slice y.P y.X.length y.pc, .bool y.has, .slice y.V y.val.length y.vc, .slice P9 (y.vs.length + 1) p9] 62)) (h2 : W.cell? ⟨B, 43, none⟩ = some (.slice (some ⟨g, 0, none⟩) rs.length rc)) => (show W.cell? ⟨w2.heap.size, 0, none⟩ = some (.int .i64 y.r) ∧ W.cell? ⟨w2.heap.size, 1, none⟩ = some (.int .i64 y.t) ∧ W.cell? ⟨w2.heap.size, 2, none⟩ = some (.slice y.P y.X.length y.pc) ∧ W.cell? ⟨w2.heap.size, 3, none⟩ = some (.bool y.has) ∧ W.cell? ⟨w2.heap.size, 4, none⟩ = some (.slice y.V y.val.length y.vc) ∧ W.cell? ⟨w2.heap.size, 5, none⟩ = some (.slice P9 (y.vs.length + 1) p9) ∧ W.cell? ⟨B, 43, none⟩ = some (.slice (some ⟨g, 0, none⟩) rs.length rc) from ⟨(six_at h1).1, (six_at h1).2.1, (six_at h1).2.2.1, (six_at h1).2.2.2.1, (six_at h1).2.2.2.2.1, (six_at h1).2.2.2.2.2, h2⟩))
      have c43 := (mid_slot HD9.out HAL7).2
      obtain ⟨z0, z1, z2, z3, z4, z5⟩ := mid_rnd HD9.out hkl
      have fg := fun j => HD9.out.own.frozenAt j
      have g0 := fg (k * 6); have g1 := fg (k * 6 + 1); have g2 := fg (k * 6 + 2); have g3 := fg (k * 6 + 3); have g4 := fg (k * 6 + 4); have g5 := fg (k * 6 + 5)
      clear fg
      have hS0 := HSW.out wc.drew (drew_at KXW.out) (drew_cell c43)
      refine wp_region_held_drew (S := fun W => W.cell? ⟨w2.heap.size, 0, none⟩ = some (.int .i64 y.r) ∧ W.cell? ⟨w2.heap.size, 1, none⟩ = some (.int .i64 y.t) ∧ W.cell? ⟨w2.heap.size, 2, none⟩ = some (.slice y.P y.X.length y.pc) ∧ W.cell? ⟨w2.heap.size, 3, none⟩ = some (.bool y.has) ∧ W.cell? ⟨w2.heap.size, 4, none⟩ = some (.slice y.V y.val.length y.vc) ∧ W.cell? ⟨w2.heap.size, 5, none⟩ = some (.slice P9 (y.vs.length + 1) p9) ∧ W.cell? ⟨B, 43, none⟩ = some (.slice (some ⟨g, 0, none⟩) rs.length rc)) (by kernel_rfl) hS0 (fun hH => ?_)
      refine wpAnyH_take (i := 0) (v := ?vw0) rfl (by kernel_rfl) (by kernel_rfl) (by kernel_rfl) (fun _ _ _ h => h) (Or.inl ⟨by rfl, ?yw0⟩) hS0 ?rw0
      case yw0 => (intro W hSw; (try dsimp only at hSw); (try simp only [List.getElem_toArray, List.getElem_cons_zero]); obtain ⟨s0, s1, s2, s3, s4, s5, s6⟩ := hSw; go_simp; first | done | with_reducible rfl)
      try simp only [Act.put, List.getElem_toArray, List.getElem_cons_zero, List.setIfInBounds_toArray, List.set_cons_zero, List.set_cons_succ]
      refine wpAnyH_take (i := 1) (v := ?vw1) rfl (by kernel_rfl) (by kernel_rfl) (by kernel_rfl) (fun _ _ _ h => h) (Or.inl ⟨by rfl, ?yw1⟩) hS0 ?rw1
      case yw1 => (intro W hSw; (try dsimp only at hSw); (try simp only [List.getElem_toArray, List.getElem_cons_succ, List.getElem_cons_zero]); obtain ⟨s0, s1, s2, s3, s4, s5, s6⟩ := hSw; go_simp; first | done | with_reducible rfl)
      try simp only [Act.put, List.getElem_toArray, List.getElem_cons_succ, List.getElem_cons_zero, List.setIfInBounds_toArray, List.set_cons_zero, List.set_cons_succ]
      refine wpAnyH_take (i := 2) (v := ?vw2) rfl (by kernel_rfl) (by kernel_rfl) (by kernel_rfl) (fun _ _ _ h => h) (Or.inl ⟨by rfl, ?yw2⟩) hS0 ?rw2
      case yw2 => (intro W hSw; (try dsimp only at hSw); (try simp only [List.getElem_toArray, List.getElem_cons_succ, List.getElem_cons_zero]); obtain ⟨s0, s1, s2, s3, s4, s5, s6⟩ := hSw; go_simp; first | done | with_reducible rfl)
      try simp only [Act.put, List.getElem_toArray, List.getElem_cons_succ, List.getElem_cons_zero, List.setIfInBounds_toArray, List.set_cons_zero, List.set_cons_succ]
      refine wpAnyH_take (i := 3) (v := ?vw3) rfl (by kernel_rfl) (by kernel_rfl) (by kernel_rfl) (fun _ _ _ h => h) (Or.inl ⟨by rfl, ?yw3⟩) hS0 ?rw3
      case yw3 => (intro W hSw; (try dsimp only at hSw); (try simp only [List.getElem_toArray, List.getElem_cons_succ, List.getElem_cons_zero]); obtain ⟨s0, s1, s2, s3, s4, s5, s6⟩ := hSw; go_simp; first | done | with_reducible rfl)
      try simp only [Act.put, List.getElem_toArray, List.getElem_cons_succ, List.getElem_cons_zero, List.setIfInBounds_toArray, List.set_cons_zero, List.set_cons_succ]
      refine wpAnyH_take (i := 4) (v := ?vw4) rfl (by kernel_rfl) (by kernel_rfl) (by kernel_rfl) (fun _ _ _ h => h) (Or.inl ⟨by rfl, ?yw4⟩) hS0 ?rw4
      case yw4 => (intro W hSw; (try dsimp only at hSw); (try simp only [List.getElem_toArray, List.getElem_cons_succ, List.getElem_cons_zero]); obtain ⟨s0, s1, s2, s3, s4, s5, s6⟩ := hSw; go_simp; first | done | with_reducible rfl)
      try simp only [Act.put, List.getElem_toArray, List.getElem_cons_succ, List.getElem_cons_zero, List.setIfInBounds_toArray, List.set_cons_zero, List.set_cons_succ]
      refine wpAnyH_take (i := 5) (v := ?vw5) rfl (by kernel_rfl) (by kernel_rfl) (by kernel_rfl) (fun _ _ _ h => h) (Or.inl ⟨by rfl, ?yw5⟩) hS0 ?rw5
      case yw5 => (intro W hSw; (try dsimp only at hSw); (try simp only [List.getElem_toArray, List.getElem_cons_succ, List.getElem_cons_zero]); obtain ⟨s0, s1, s2, s3, s4, s5, s6⟩ := hSw; go_simp; first | done | with_reducible rfl)
      try simp only [Act.put, List.getElem_toArray, List.getElem_cons_succ, List.getElem_cons_zero, List.setIfInBounds_toArray, List.set_cons_zero, List.set_cons_succ]
      refine wpAnyH_take (i := 6) (v := ?vw6) rfl (by kernel_rfl) (by kernel_rfl) (by kernel_rfl) (fun _ _ _ h => h) (Or.inl ⟨by rfl, ?yw6⟩) hS0 ?rw6
      case yw6 => (intro W hSw; (try dsimp only at hSw); (try simp only [List.getElem_toArray, List.getElem_cons_succ, List.getElem_cons_zero]); obtain ⟨s0, s1, s2, s3, s4, s5, s6⟩ := hSw; go_simp; first | done | with_reducible rfl)
      try simp only [Act.put, List.getElem_toArray, List.getElem_cons_succ, List.getElem_cons_zero, List.setIfInBounds_toArray, List.set_cons_zero, List.set_cons_succ]
      refine wpAnyH_ready (rs := [7]) (by kernel_rfl) (by simp) ?_
      refine AllReadyH.cons rfl (fun K hK => ?_) AllReadyH.nil
      simp only [List.getElem_toArray, List.getElem_cons_succ, List.getElem_cons_zero]
      go_simp
      have KXF' : ((((((wc.setCell ⟨g, k * 6, none⟩ (.int .i64 y.r)).setCell ⟨g, k * 6 + 1, none⟩ (.int .i64 y.t)).setCell ⟨g, k * 6 + 2, none⟩ (.slice y.P y.X.length y.pc)).setCell ⟨g, k * 6 + 3, none⟩ (.bool y.has)).setCell ⟨g, k * 6 + 4, none⟩ (.slice y.V y.val.length y.vc)).setCell ⟨g, k * 6 + 5, none⟩ (.slice P9 (y.vs.length + 1) p9)).heap[w2.heap.size]? = some (.cells #[.int .i64 y.r, .int .i64 y.t, .slice y.P y.X.length y.pc, .bool y.has, .slice y.V y.val.length y.vc, .slice P9 (y.vs.length + 1) p9] 62) := six_far KXW.out hXg
      have c43F : ((((((wc.setCell ⟨g, k * 6, none⟩ (.int .i64 y.r)).setCell ⟨g, k * 6 + 1, none⟩ (.int .i64 y.t)).setCell ⟨g, k * 6 + 2, none⟩ (.slice y.P y.X.length y.pc)).setCell ⟨g, k * 6 + 3, none⟩ (.bool y.has)).setCell ⟨g, k * 6 + 4, none⟩ (.slice y.V y.val.length y.vc)).setCell ⟨g, k * 6 + 5, none⟩ (.slice P9 (y.vs.length + 1) p9)).cell? ⟨B, 43, none⟩ = some (.slice (some ⟨g, 0, none⟩) rs.length rc) := (cell_of_heap (six_far_eq hBg) 43).trans c43
      refine hK.out _ _ (HSW.out ((((((wc.setCell ⟨g, k * 6, none⟩ (.int .i64 y.r)).setCell ⟨g, k * 6 + 1, none⟩ (.int .i64 y.t)).setCell ⟨g, k * 6 + 2, none⟩ (.slice y.P y.X.length y.pc)).setCell ⟨g, k * 6 + 3, none⟩ (.bool y.has)).setCell ⟨g, k * 6 + 4, none⟩ (.slice y.V y.val.length y.vc)).setCell ⟨g, k * 6 + 5, none⟩ (.slice P9 (y.vs.length + 1) p9)).drew (drew_at KXF') (drew_cell c43F)) (fun hH2 => ?_)
      clear hK hH2
      refine wpAnyH_done (by kernel_rfl) ?_ _
      have HDF := hide ((HD9.out.setRnd hBg hkl (y := { y with W := P9, wc := p9, vs := y.vs ++ [⟨a, y.r, y.t⟩] }) (show _ = [.int .i64 y.r, .int .i64 y.t, .slice y.P y.X.length y.pc, .bool y.has, .slice y.V y.val.length y.vc, .slice P9 (y.vs.length + 1) p9] from by simp [RnA.cells])).drew)
      have hsF : ((((((wc.setCell ⟨g, k * 6, none⟩ (.int .i64 y.r)).setCell ⟨g, k * 6 + 1, none⟩ (.int .i64 y.t)).setCell ⟨g, k * 6 + 2, none⟩ (.slice y.P y.X.length y.pc)).setCell ⟨g, k * 6 + 3, none⟩ (.bool y.has)).setCell ⟨g, k * 6 + 4, none⟩ (.slice y.V y.val.length y.vc)).setCell ⟨g, k * 6 + 5, none⟩ (.slice P9 (y.vs.length + 1) p9)).drew.heap.size = wc.heap.size := by simp [World.setCell]
      have U := fun (A : Option Addr) (xs : List Value) (hr : Reads wc A xs) (hA : ∀ a, A = some a → a.block ≠ g) => (six_reads (j0 := k * 6) (j1 := k * 6 + 1) (j2 := k * 6 + 2) (j3 := k * 6 + 3) (j4 := k * 6 + 4) (j5 := k * 6 + 5) (u0 := .int .i64 y.r) (u1 := .int .i64 y.t) (u2 := .slice y.P y.X.length y.pc) (u3 := .bool y.has) (u4 := .slice y.V y.val.length y.vc) (u5 := .slice P9 (y.vs.length + 1) p9) (b := g) hr hA).drew
      have RA := U _ _ HR9.out (fun a ha => by have := HP5.out a ha; omega)
      have RP := U _ _ HR9'.out (fun a ha => by have := HF9.out a ha; omega)
      obtain ⟨o1, o2, o3, o4⟩ := HM.out.rr y HYM.out
      have FIN : Hid (Played w b0 B N (opPut (abs all rs) (lst ek rs.length).toNat (lst ea N).toNat) (.returned (.tuple #[])) ((((((wc.setCell ⟨g, k * 6, none⟩ (.int .i64 y.r)).setCell ⟨g, k * 6 + 1, none⟩ (.int .i64 y.t)).setCell ⟨g, k * 6 + 2, none⟩ (.slice y.P y.X.length y.pc)).setCell ⟨g, k * 6 + 3, none⟩ (.bool y.has)).setCell ⟨g, k * 6 + 4, none⟩ (.slice y.V y.val.length y.vc)).setCell ⟨g, k * 6 + 5, none⟩ (.slice P9 (y.vs.length + 1) p9)).drew) := hide (by
        rw [HK.out, HA.out, Int.toNat_natCast, Int.toNat_natCast, ← put_yes (W := P9) (wc := p9) (q := ⟨t, A5, c5⟩) HH.out HY.out HHAS.out HT.out HOK.out]
        refine ⟨rfl, g, _, _, rc, HDF.out.done HM.out HAL7 (fun x hx => ?_) (fun z hz => ?_), rfl, HDF.out.bel⟩
        · rcases List.mem_or_eq_of_mem_set hx with h1 | h1
          · exact .inl h1
          · subst h1
            exact .inr (Aw.of RA (fun a ha => by have := HP5.out a ha; omega))
        · rcases List.mem_or_eq_of_mem_set hz with h1 | h1
          · exact .inl h1
          · subst h1
            refine .inr ⟨o1.keep HDF.out.keep, fun x hx => (o2 x hx).keep HDF.out.keep, o3.keep HDF.out.keep, Aw.of (by rw [List.flatMap_append]; simpa using RP) (fun a ha => by have := HF9.out a ha; omega)⟩)
      go_wp2
      refine bodyPost_end (v := .tuple #[]) (by simp [results, Try.results20, go_sem]) rfl ?_
      exact FIN.out

end Go.Proofs.Ytodlabpgjgbbpah
