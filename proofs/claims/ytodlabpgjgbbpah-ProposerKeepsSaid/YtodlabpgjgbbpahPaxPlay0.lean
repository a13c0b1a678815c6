/-
  What play does: arm 0.
-/
import Derived.Test.YtodlabpgjgbbpahPaxHold
import Derived.Deep.DeepCutAuto
import Derived.Deep.CutBlock
namespace Go.Proofs.Ytodlabpgjgbbpah
open Go.RowKit Go.Agio Go.Prp Go.Pax

theorem wrap_id {z : Int} (h0 : -9223372036854775808 ≤ z) (h1 : z ≤ 9223372036854775807) : IntKind.i64.wrap z = z := IntWalk.i64_in _ (by omega)
theorem rn_one (x : RnA) : ∀ u ∈ x.cells, u.oneCell' = true := fun u hu => by
  simp only [RnA.cells, List.mem_cons, List.not_mem_nil, or_false] at hu
  rcases hu with rfl | rfl | rfl | rfl | rfl | rfl <;> rfl
theorem cell_of_heap {w w' : World} {b : Nat} (h : w'.heap[b]? = w.heap[b]?) (o : Nat) : w'.cell? ⟨b, o, none⟩ = w.cell? ⟨b, o, none⟩ := by
  unfold World.cell?
  rw [h]
theorem infoRn : (Try.prog.info? 62).map (fun i => (i.zero, i.size, i.bytes)) = some (some (.agg #[.int .i64 0, .int .i64 0, .slice none 0 0, .bool false, .slice none 0 0, .slice none 0 0]), 6, 96) := by kernel_rfl
/-- What play leaves behind. -/
def Played (w : World) (b0 B : Nat) (N : Nat) (S : Sl) (e : Ending) (w' : World) : Prop := e = .returned (.tuple #[]) ∧ ∃ g all rs rc, Mem w' b0 B g N all rs rc ∧ abs all rs = S ∧ Below b0 w w'

theorem abs_new {all : List StA} {rs : List RnA} {z : RnA} {j q : Int} (hz : z = rs.getD (rs.length - 1) ra0) (hr : z.r = j) : abs all (rs ++ [⟨j + 1, q, none, 0, [], false, none, 0, [], none, 0, []⟩]) = opNew (abs all rs) q := by
  unfold opNew
  have h1 : (abs all rs).rs.length - 1 = rs.length - 1 := by simp [abs]
  rw [h1, abs_rd, ← hz]
  unfold abs
  simp only [List.map_append, List.map_cons, List.map_nil]
  rw [show z.rn.r = z.r from rfl, hr]
  rfl
theorem new_below {w W w' : World} {b0 B g : Nat} (hB : b0 ≤ B) (hg : b0 ≤ g) (hw : b0 ≤ w.heap.size) (hb : Below w.heap.size w W) (hG : W.grownBy w' (some g)) (j : Nat) (v : Value) : Below b0 w (w'.setCell ⟨B, j, none⟩ v) :=
  (((hb.mono hw).grown hG (Nat.le_trans hw hb.size) (fun i hi => by injection hi with hi; omega)).setCell (p := ⟨B, j, none⟩) hB v)

set_option maxRecDepth 100000 in
set_option maxHeartbeats 8000000 in
theorem play0 (w : World) (b0 B g : Nat) (N : Nat) (all : List StA) (rs : List RnA) (rc : Nat) (ep ek ea : Int) (lost : Bool) (hM : Mem w b0 B g N all rs rc) (hN : 0 < N ∧ N ≤ 7) (hl : 0 < rs.length ∧ rs.length ≤ 1000)
    (he1 : -9223372036854775808 ≤ ep ∧ ep ≤ 9223372036854775807) (he2 : -9223372036854775808 ≤ ek ∧ ek ≤ 9223372036854775807) (he3 : -9223372036854775808 ≤ ea ∧ ea ≤ 9223372036854775807) (hI : Inv N (abs all rs)) :
    Calls Try.prog 20 #[.pointer (some ⟨B, 0, none⟩), .agg #[.int .i64 0, .int .i64 ep, .int .i64 ek, .int .i64 ea, .bool lost]] w (Played w b0 B N (opNew (abs all rs) (lst ep N))) := by
  have HI := hide hI
  clear hI
  obtain ⟨i0, hi, hz0, hz1, hz2⟩ := info_parts infoRn
  have HM := hide hM
  obtain ⟨hN1, hN7⟩ := hN
  obtain ⟨hl1, hl2⟩ := hl
  have hal : all.length = 7 := hM.seven
  have HAL := hide hal
  clear hM hal
  go_enter Try.func20, Try.ntmps20
  go_wp2_with fail
  have hN := one_new w (.cells #[.int .i64 0, .int .i64 ep, .int .i64 ek, .int .i64 ea, .bool lost] 59)
  generalize w.alloc (.cells #[.int .i64 0, .int .i64 ep, .int .i64 ek, .int .i64 ea, .bool lost] 59) = W0 at *
  obtain ⟨KE, hs0, hb0⟩ := hN
  have HM0 := hide (HM.out.below hb0)
  have HB0 := hide hb0
  have KE := hide KE
  have CE := hide (five_hold KE.out)
  have CB := hide (slot_hold HM0.out)
  clear hb0
  obtain ⟨k, hk⟩ : ∃ k : Nat, lst ek rs.length = (k : Int) := ⟨(lst ek rs.length).toNat, by have := lst_range (n := ek) (m := rs.length) (by omega); omega⟩
  have hkl : k < rs.length := by have := lst_range (n := ek) (m := rs.length) (by omega); omega
  obtain ⟨a, ha⟩ : ∃ a : Nat, lst ea N = (a : Int) := ⟨(lst ea N).toNat, by have := lst_range (n := ea) (m := N) (by omega); omega⟩
  have haN : a < N := by have := lst_range (n := ea) (m := N) (by omega); omega
  have CK := hide (fun (W : World) (hW : Below W0.heap.size W0 W) => (least_any ek rs.length W (by omega) he2 (by omega)).mono (fun e w' h => (show e = .returned (.int .i64 k) ∧ Below W0.heap.size W0 w' from ⟨by rw [h.1, hk], h.2 ▸ hW⟩)))
  have CA := hide (fun (W : World) (hW : Below W0.heap.size W0 W) => (least_any ea N W (by omega) he3 (by omega)).mono (fun e w' h => (show e = .returned (.int .i64 a) ∧ Below W0.heap.size W0 w' from ⟨by rw [h.1, ha], h.2 ▸ hW⟩)))
  have HK := hide hk; have HA := hide ha
  clear hk ha
  have hd0 := (Below.refl W0.heap.size W0).drew
  refine wp_region_held_drew (S := fun W => Below W0.heap.size W0 W) (by kernel_rfl) hd0 (fun hH => ?_)
  refine wpAnyH_take (i := 0) (v := ?va0) rfl (by kernel_rfl) (by kernel_rfl) (by kernel_rfl) (fun _ _ _ h => h) (Or.inl ⟨by rfl, ?ya0⟩) hH ?ra0
  case ya0 => (intro W hSw; (try dsimp only at hSw); (try simp only [List.getElem_toArray, List.getElem_cons_zero]); obtain ⟨x0, x1, x2, x3, x4⟩ := CE.out W hSw; go_simp; first | done | with_reducible rfl)
  try simp only [Act.put, List.getElem_toArray, List.getElem_cons_zero, List.setIfInBounds_toArray, List.set_cons_zero, List.set_cons_succ]
  refine wpAnyH_take (i := 1) (v := ?va1) rfl (by kernel_rfl) (by kernel_rfl) (by kernel_rfl) (fun _ _ _ h => h) (Or.inl ⟨by rfl, ?ya1⟩) hH ?ra1
  case ya1 => (intro W hSw; (try dsimp only at hSw); (try simp only [List.getElem_toArray, List.getElem_cons_succ, List.getElem_cons_zero]); obtain ⟨x0, x1, x2, x3, x4⟩ := CE.out W hSw; go_simp; first | done | with_reducible rfl)
  try simp only [Act.put, List.getElem_toArray, List.getElem_cons_succ, List.getElem_cons_zero, List.setIfInBounds_toArray, List.set_cons_zero, List.set_cons_succ]
  refine wpAnyH_take (i := 2) (v := ?va2) rfl (by kernel_rfl) (by kernel_rfl) (by kernel_rfl) (fun _ _ _ h => h) (Or.inl ⟨by rfl, ?ya2⟩) hH ?ra2
  case ya2 => (intro W hSw; (try dsimp only at hSw); (try simp only [List.getElem_toArray, List.getElem_cons_succ, List.getElem_cons_zero]); obtain ⟨y0, y1⟩ := CB.out W hSw; go_simp; first | done | with_reducible rfl)
  try simp only [Act.put, List.getElem_toArray, List.getElem_cons_succ, List.getElem_cons_zero, List.setIfInBounds_toArray, List.set_cons_zero, List.set_cons_succ]
  refine wpAnyH_take (i := 3) (v := ?va3) rfl (by kernel_rfl) (by kernel_rfl) (by kernel_rfl) (fun _ _ _ h => h) (Or.inl ⟨by rfl, ?ya3⟩) hH ?ra3
  case ya3 => (intro W hSw; (try dsimp only at hSw); (try simp only [List.getElem_toArray, List.getElem_cons_succ, List.getElem_cons_zero]); obtain ⟨y0, y1⟩ := CB.out W hSw; go_simp; first | done | with_reducible rfl)
  try simp only [Act.put, List.getElem_toArray, List.getElem_cons_succ, List.getElem_cons_zero, List.setIfInBounds_toArray, List.set_cons_zero, List.set_cons_succ]
  refine wpAnyH_take (i := 4) (v := ?va4) rfl (by kernel_rfl) (by kernel_rfl) (by kernel_rfl) (fun _ _ _ h => h) (Or.inl ⟨by rfl, ?ya4⟩) hH ?ra4
  case ya4 => (intro W hSw; (try dsimp only at hSw); (try simp only [List.getElem_toArray, List.getElem_cons_succ, List.getElem_cons_zero]); obtain ⟨y0, y1⟩ := CB.out W hSw; go_simp; first | done | with_reducible rfl)
  try simp only [Act.put, List.getElem_toArray, List.getElem_cons_succ, List.getElem_cons_zero, List.setIfInBounds_toArray, List.set_cons_zero, List.set_cons_succ]
  refine wpAnyH_take (i := 5) (v := ?va5) rfl (by kernel_rfl) (by kernel_rfl) (by kernel_rfl) (fun _ _ _ h => h) (Or.inl ⟨by rfl, ?ya5⟩) hH ?ra5
  case ya5 => (intro W hSw; (try dsimp only at hSw); (try simp only [List.getElem_toArray, List.getElem_cons_succ, List.getElem_cons_zero]); obtain ⟨y0, y1⟩ := CB.out W hSw; go_simp; first | done | with_reducible rfl)
  try simp only [Act.put, List.getElem_toArray, List.getElem_cons_succ, List.getElem_cons_zero, List.setIfInBounds_toArray, List.set_cons_zero, List.set_cons_succ]
  refine wpAnyH_take (i := 6) (v := ?va6) rfl (by kernel_rfl) (by kernel_rfl) (by kernel_rfl) (fun _ _ _ h => h) (Or.inl ⟨by rfl, ?ya6⟩) hH ?ra6
  case ya6 => (intro W hSw; (try dsimp only at hSw); (try simp only [List.getElem_toArray, List.getElem_cons_succ, List.getElem_cons_zero]); obtain ⟨y0, y1⟩ := CB.out W hSw; go_simp; first | done | with_reducible rfl)
  try simp only [Act.put, List.getElem_toArray, List.getElem_cons_succ, List.getElem_cons_zero, List.setIfInBounds_toArray, List.set_cons_zero, List.set_cons_succ]
  refine wpAnyH_ready (rs := [7]) (by kernel_rfl) (by simp) ?_
  refine AllReadyH.cons rfl (fun K hK => ?_) AllReadyH.nil
  simp only [List.getElem_toArray, List.getElem_cons_succ, List.getElem_cons_zero]
  go_simp
  refine (CK.out _ hd0).mono ?_
  rintro e w1 ⟨rfl, hb1⟩
  refine hK.out _ _ hb1 (fun hH2 => ?_)
  clear hK hH2
  refine wpAnyH_take (i := 8) (v := ?va8) rfl (by kernel_rfl) (by kernel_rfl) (by kernel_rfl) (fun _ _ _ h => h) (Or.inl ⟨by rfl, ?ya8⟩) hb1 ?ra8
  case ya8 => (intro W hSw; (try dsimp only at hSw); (try simp only [List.getElem_toArray, List.getElem_cons_succ, List.getElem_cons_zero]); go_simp; first | done | with_reducible rfl)
  try simp only [Act.put, List.getElem_toArray, List.getElem_cons_succ, List.getElem_cons_zero, List.setIfInBounds_toArray, List.set_cons_zero, List.set_cons_succ]
  refine wpAnyH_done (by kernel_rfl) ?_ _
  go_wp2_with fail
  have hd1 := hb1.drew
  refine wp_region_held_drew (S := fun W => Below W0.heap.size W0 W) (by kernel_rfl) hd1 (fun hH => ?_)
  refine wpAnyH_take (i := 0) (v := ?vb0) rfl (by kernel_rfl) (by kernel_rfl) (by kernel_rfl) (fun _ _ _ h => h) (Or.inl ⟨by rfl, ?yb0⟩) hH ?rb0
  case yb0 => (intro W hSw; (try dsimp only at hSw); (try simp only [List.getElem_toArray, List.getElem_cons_zero]); obtain ⟨x0, x1, x2, x3, x4⟩ := CE.out W hSw; go_simp; first | done | with_reducible rfl)
  try simp only [Act.put, List.getElem_toArray, List.getElem_cons_zero, List.setIfInBounds_toArray, List.set_cons_zero, List.set_cons_succ]
  refine wpAnyH_take (i := 1) (v := ?vb1) rfl (by kernel_rfl) (by kernel_rfl) (by kernel_rfl) (fun _ _ _ h => h) (Or.inl ⟨by rfl, ?yb1⟩) hH ?rb1
  case yb1 => (intro W hSw; (try dsimp only at hSw); (try simp only [List.getElem_toArray, List.getElem_cons_succ, List.getElem_cons_zero]); obtain ⟨x0, x1, x2, x3, x4⟩ := CE.out W hSw; go_simp; first | done | with_reducible rfl)
  try simp only [Act.put, List.getElem_toArray, List.getElem_cons_succ, List.getElem_cons_zero, List.setIfInBounds_toArray, List.set_cons_zero, List.set_cons_succ]
  refine wpAnyH_take (i := 2) (v := ?vb2) rfl (by kernel_rfl) (by kernel_rfl) (by kernel_rfl) (fun _ _ _ h => h) (Or.inl ⟨by rfl, ?yb2⟩) hH ?rb2
  case yb2 => (intro W hSw; (try dsimp only at hSw); (try simp only [List.getElem_toArray, List.getElem_cons_succ, List.getElem_cons_zero]); obtain ⟨y0, y1⟩ := CB.out W hSw; go_simp; first | done | with_reducible rfl)
  try simp only [Act.put, List.getElem_toArray, List.getElem_cons_succ, List.getElem_cons_zero, List.setIfInBounds_toArray, List.set_cons_zero, List.set_cons_succ]
  refine wpAnyH_take (i := 3) (v := ?vb3) rfl (by kernel_rfl) (by kernel_rfl) (by kernel_rfl) (fun _ _ _ h => h) (Or.inl ⟨by rfl, ?yb3⟩) hH ?rb3
  case yb3 => (intro W hSw; (try dsimp only at hSw); (try simp only [List.getElem_toArray, List.getElem_cons_succ, List.getElem_cons_zero]); obtain ⟨y0, y1⟩ := CB.out W hSw; go_simp; first | done | with_reducible rfl)
  try simp only [Act.put, List.getElem_toArray, List.getElem_cons_succ, List.getElem_cons_zero, List.setIfInBounds_toArray, List.set_cons_zero, List.set_cons_succ]
  refine wpAnyH_take (i := 4) (v := ?vb4) rfl (by kernel_rfl) (by kernel_rfl) (by kernel_rfl) (fun _ _ _ h => h) (Or.inl ⟨by rfl, ?yb4⟩) hH ?rb4
  case yb4 => (intro W hSw; (try dsimp only at hSw); (try simp only [List.getElem_toArray, List.getElem_cons_succ, List.getElem_cons_zero]); obtain ⟨y0, y1⟩ := CB.out W hSw; go_simp; first | done | with_reducible rfl)
  try simp only [Act.put, List.getElem_toArray, List.getElem_cons_succ, List.getElem_cons_zero, List.setIfInBounds_toArray, List.set_cons_zero, List.set_cons_succ]
  refine wpAnyH_take (i := 5) (v := ?vb5) rfl (by kernel_rfl) (by kernel_rfl) (by kernel_rfl) (fun _ _ _ h => h) (Or.inl ⟨by rfl, ?yb5⟩) hH ?rb5
  case yb5 => (intro W hSw; (try dsimp only at hSw); (try simp only [List.getElem_toArray, List.getElem_cons_succ, List.getElem_cons_zero]); obtain ⟨y0, y1⟩ := CB.out W hSw; go_simp; first | done | with_reducible rfl)
  try simp only [Act.put, List.getElem_toArray, List.getElem_cons_succ, List.getElem_cons_zero, List.setIfInBounds_toArray, List.set_cons_zero, List.set_cons_succ]
  refine wpAnyH_ready (rs := [6]) (by kernel_rfl) (by simp) ?_
  refine AllReadyH.cons rfl (fun K hK => ?_) AllReadyH.nil
  simp only [List.getElem_toArray, List.getElem_cons_succ, List.getElem_cons_zero]
  go_simp
  refine (CA.out _ hd1).mono ?_
  rintro e w2 ⟨rfl, hb2⟩
  refine hK.out _ _ hb2 (fun hH2 => ?_)
  clear hK hH2
  refine wpAnyH_take (i := 7) (v := ?vb7) rfl (by kernel_rfl) (by kernel_rfl) (by kernel_rfl) (fun _ _ _ h => h) (Or.inl ⟨by rfl, ?yb7⟩) hb2 ?rb7
  case yb7 => (intro W hSw; (try dsimp only at hSw); (try simp only [List.getElem_toArray, List.getElem_cons_succ, List.getElem_cons_zero]); go_simp; first | done | with_reducible rfl)
  try simp only [Act.put, List.getElem_toArray, List.getElem_cons_succ, List.getElem_cons_zero, List.setIfInBounds_toArray, List.set_cons_zero, List.set_cons_succ]
  refine wpAnyH_done (by kernel_rfl) ?_ _
  obtain ⟨y0, y1⟩ := CB.out w2 hb2
  obtain ⟨x0, x1, x2, x3, x4⟩ := CE.out w2 hb2
  have HM2 := hide (HM0.out.below hb2)
  obtain ⟨z0, z1, z2, z3, z4, z5⟩ := rnd_hold HM2.out hkl
  obtain ⟨y, hy⟩ : ∃ y, y = rs.getD k ra0 := ⟨_, rfl⟩
  rw [← hy] at z0 z1 z2 z3 z4 z5
  have HY := hide hy
  have HYM := hide (show y ∈ rs from by rw [hy]; exact getD_mem hkl)
  have HB2 := hide (below_next HB0.out hb2)
  have KE2 := hide ((hb2.block _ (blk_lt KE.out)).trans KE.out)
  have hki : (k : Int) < (rs.length : Int) := by omega
  clear hd0 hd1 hb1 hb2 CK CA CE CB HM0 HB0 KE hy
  go_upto_region 4 with fail
  have hgw := HM.out.glt.2
  have hBw := HM.out.blt
  have hN := one_new w2 (.cells #[.int .i64 y.r, .int .i64 y.t, .slice y.P y.X.length y.pc, .bool y.has, .slice y.V y.val.length y.vc, .slice y.W y.vs.length y.wc] 62)
  generalize w2.alloc (.cells #[.int .i64 y.r, .int .i64 y.t, .slice y.P y.X.length y.pc, .bool y.has, .slice y.V y.val.length y.vc, .slice y.W y.vs.length y.wc] 62) = W3 at *
  obtain ⟨KX, hs3, hb3⟩ := hN
  have HM3 := hide (HM2.out.below hb3)
  have KE3 := hide ((hb3.block _ (blk_lt KE2.out)).trans KE2.out)
  have HB3 := hide (below_next HB2.out hb3)
  clear x0 x1 x2 x3 x4 y0 y1 z0 z1 z2 z3 z4 z5 hb3 HM2 KE2 HB2 KX hs3
  obtain ⟨x0, x1, x2, x3, x4⟩ := five_at KE3.out
  have hll : rs.length - 1 < rs.length := by omega
  have CB := hide (slot_hold HM3.out)
  have hglt := HM3.out.glt.2
  have CR := hide (fun (W : World) (hW : Below W3.heap.size W3 W) => rnd_hold (HM3.out.below hW) hll)
  obtain ⟨z, hz⟩ : ∃ z, z = rs.getD (rs.length - 1) ra0 := ⟨_, rfl⟩
  rw [← hz] at CR
  have HZ := hide hz
  clear hz
  obtain ⟨j, hj⟩ : ∃ j : Nat, j = rs.length - 1 := ⟨_, rfl⟩
  rw [← hj] at CR
  have hj1 : (rs.length : Int) - 1 = (j : Int) := by omega
  have hjl : (j : Int) < (rs.length : Int) := by omega
  have hwj : IntKind.i64.wrap (j : Int) = (j : Int) := wrap_id (by omega) (by omega)
  have hwj1 : IntKind.i64.wrap ((j : Int) + 1) = (j : Int) + 1 := wrap_id (by omega) (by omega)
  have HJ := hide hj
  clear hj
  go_wp2_with fail
  have hd0 := (Below.refl W3.heap.size W3).drew
  refine wp_region_held_drew (S := fun W => Below W3.heap.size W3 W) (by kernel_rfl) hd0 (fun hH => ?_)
  refine wpAnyH_take (i := 0) (v := ?vc0) rfl (by kernel_rfl) (by kernel_rfl) (by kernel_rfl) (fun _ _ _ h => h) (Or.inl ⟨by rfl, ?yc0⟩) hH ?rc0
  case yc0 => (intro W hSw; (try dsimp only at hSw); (try simp only [List.getElem_toArray, List.getElem_cons_zero]); obtain ⟨y0, y1⟩ := CB.out W hSw; go_simp; first | done | with_reducible rfl)
  try simp only [Act.put, List.getElem_toArray, List.getElem_cons_zero, List.setIfInBounds_toArray, List.set_cons_zero, List.set_cons_succ]
  refine wpAnyH_take (i := 1) (v := ?vc1) rfl (by kernel_rfl) (by kernel_rfl) (by kernel_rfl) (fun _ _ _ h => h) (Or.inl ⟨by rfl, ?yc1⟩) hH ?rc1
  case yc1 => (intro W hSw; (try dsimp only at hSw); (try simp only [List.getElem_toArray, List.getElem_cons_succ, List.getElem_cons_zero]); obtain ⟨y0, y1⟩ := CB.out W hSw; go_simp; first | done | with_reducible rfl)
  try simp only [Act.put, List.getElem_toArray, List.getElem_cons_succ, List.getElem_cons_zero, List.setIfInBounds_toArray, List.set_cons_zero, List.set_cons_succ]
  refine wpAnyH_take (i := 2) (v := ?vc2) rfl (by kernel_rfl) (by kernel_rfl) (by kernel_rfl) (fun _ _ _ h => h) (Or.inl ⟨by rfl, ?yc2⟩) hH ?rc2
  case yc2 => (intro W hSw; (try dsimp only at hSw); (try simp only [List.getElem_toArray, List.getElem_cons_succ, List.getElem_cons_zero]); obtain ⟨y0, y1⟩ := CB.out W hSw; go_simp; first | done | with_reducible rfl)
  try simp only [Act.put, List.getElem_toArray, List.getElem_cons_succ, List.getElem_cons_zero, List.setIfInBounds_toArray, List.set_cons_zero, List.set_cons_succ]
  refine wpAnyH_take (i := 3) (v := ?vc3) rfl (by kernel_rfl) (by kernel_rfl) (by kernel_rfl) (fun _ _ _ h => h) (Or.inl ⟨by rfl, ?yc3⟩) hH ?rc3
  case yc3 => (intro W hSw; (try dsimp only at hSw); (try simp only [List.getElem_toArray, List.getElem_cons_succ, List.getElem_cons_zero]); obtain ⟨y0, y1⟩ := CB.out W hSw; go_simp; first | done | with_reducible rfl)
  try simp only [Act.put, List.getElem_toArray, List.getElem_cons_succ, List.getElem_cons_zero, List.setIfInBounds_toArray, List.set_cons_zero, List.set_cons_succ]
  refine wpAnyH_take (i := 4) (v := ?vc4) rfl (by kernel_rfl) (by kernel_rfl) (by kernel_rfl) (fun _ _ _ h => h) (Or.inl ⟨by rfl, ?yc4⟩) hH ?rc4
  case yc4 => (intro W hSw; (try dsimp only at hSw); (try simp only [List.getElem_toArray, List.getElem_cons_succ, List.getElem_cons_zero]); obtain ⟨y0, y1⟩ := CB.out W hSw; go_simp; first | done | with_reducible rfl)
  try simp only [Act.put, List.getElem_toArray, List.getElem_cons_succ, List.getElem_cons_zero, List.setIfInBounds_toArray, List.set_cons_zero, List.set_cons_succ]
  refine wpAnyH_take (i := 5) (v := ?vc5) rfl (by kernel_rfl) (by kernel_rfl) (by kernel_rfl) (fun _ _ _ h => h) (Or.inl ⟨by rfl, ?yc5⟩) hH ?rc5
  case yc5 => (intro W hSw; (try dsimp only at hSw); (try simp only [List.getElem_toArray, List.getElem_cons_succ, List.getElem_cons_zero]); obtain ⟨y0, y1⟩ := CB.out W hSw; go_simp; first | done | with_reducible rfl)
  try simp only [Act.put, List.getElem_toArray, List.getElem_cons_succ, List.getElem_cons_zero, List.setIfInBounds_toArray, List.set_cons_zero, List.set_cons_succ]
  refine wpAnyH_take (i := 6) (v := ?vc6) rfl (by kernel_rfl) (by kernel_rfl) (by kernel_rfl) (fun _ _ _ h => h) (Or.inl ⟨by rfl, ?yc6⟩) hH ?rc6
  case yc6 => (intro W hSw; (try dsimp only at hSw); (try simp only [List.getElem_toArray, List.getElem_cons_succ, List.getElem_cons_zero]); obtain ⟨y0, y1⟩ := CB.out W hSw; go_simp; first | done | with_reducible rfl)
  try simp only [Act.put, List.getElem_toArray, List.getElem_cons_succ, List.getElem_cons_zero, List.setIfInBounds_toArray, List.set_cons_zero, List.set_cons_succ]
  refine wpAnyH_take (i := 7) (v := ?vc7) rfl (by kernel_rfl) (by kernel_rfl) (by kernel_rfl) (fun _ _ _ h => h) (Or.inl ⟨by rfl, ?yc7⟩) hH ?rc7
  case yc7 => (intro W hSw; (try dsimp only at hSw); (try simp only [List.getElem_toArray, List.getElem_cons_succ, List.getElem_cons_zero]); obtain ⟨y0, y1⟩ := CB.out W hSw; go_simp; first | done | with_reducible rfl)
  try simp only [Act.put, List.getElem_toArray, List.getElem_cons_succ, List.getElem_cons_zero, List.setIfInBounds_toArray, List.set_cons_zero, List.set_cons_succ]
  refine wpAnyH_take (i := 8) (v := ?vc8) rfl (by kernel_rfl) (by kernel_rfl) (by kernel_rfl) (fun _ _ _ h => h) (Or.inl ⟨by rfl, ?yc8⟩) hH ?rc8
  case yc8 => (intro W hSw; (try dsimp only at hSw); (try simp only [List.getElem_toArray, List.getElem_cons_succ, List.getElem_cons_zero]); obtain ⟨y0, y1⟩ := CB.out W hSw; go_simp; first | done | with_reducible rfl)
  try simp only [Act.put, List.getElem_toArray, List.getElem_cons_succ, List.getElem_cons_zero, List.setIfInBounds_toArray, List.set_cons_zero, List.set_cons_succ]
  refine wpAnyH_take (i := 9) (v := ?vc9) rfl (by kernel_rfl) (by kernel_rfl) (by kernel_rfl) (fun _ _ _ h => h) (Or.inl ⟨by rfl, ?yc9⟩) hH ?rc9
  case yc9 => (intro W hSw; (try dsimp only at hSw); (try simp only [List.getElem_toArray, List.getElem_cons_succ, List.getElem_cons_zero]); go_simp; first | done | with_reducible rfl)
  try simp only [Act.put, List.getElem_toArray, List.getElem_cons_succ, List.getElem_cons_zero, List.setIfInBounds_toArray, List.set_cons_zero, List.set_cons_succ]
  refine wpAnyH_take (i := 10) (v := ?vc10) rfl (by kernel_rfl) (by kernel_rfl) (by kernel_rfl) (fun _ _ _ h => h) (Or.inl ⟨by rfl, ?yc10⟩) hH ?rc10
  case yc10 => (intro W hSw; (try dsimp only at hSw); (try simp only [List.getElem_toArray, List.getElem_cons_succ, List.getElem_cons_zero]); obtain ⟨z0, z1, z2, z3, z4, z5⟩ := CR.out W hSw; go_simp; first | done | with_reducible rfl)
  try simp only [Act.put, List.getElem_toArray, List.getElem_cons_succ, List.getElem_cons_zero, List.setIfInBounds_toArray, List.set_cons_zero, List.set_cons_succ]
  refine wpAnyH_take (i := 11) (v := ?vc11) rfl (by kernel_rfl) (by kernel_rfl) (by kernel_rfl) (fun _ _ _ h => h) (Or.inl ⟨by rfl, ?yc11⟩) hH ?rc11
  case yc11 => (intro W hSw; (try dsimp only at hSw); (try simp only [List.getElem_toArray, List.getElem_cons_succ, List.getElem_cons_zero]); obtain ⟨z0, z1, z2, z3, z4, z5⟩ := CR.out W hSw; go_simp; first | done | with_reducible rfl)
  try simp only [Act.put, List.getElem_toArray, List.getElem_cons_succ, List.getElem_cons_zero, List.setIfInBounds_toArray, List.set_cons_zero, List.set_cons_succ]
  refine wpAnyH_take (i := 12) (v := ?vc12) rfl (by kernel_rfl) (by kernel_rfl) (by kernel_rfl) (fun _ _ _ h => h) (Or.inl ⟨by rfl, ?yc12⟩) hH ?rc12
  case yc12 => (intro W hSw; (try dsimp only at hSw); (try simp only [List.getElem_toArray, List.getElem_cons_succ, List.getElem_cons_zero]); obtain ⟨z0, z1, z2, z3, z4, z5⟩ := CR.out W hSw; go_simp; first | done | with_reducible rfl)
  try simp only [Act.put, List.getElem_toArray, List.getElem_cons_succ, List.getElem_cons_zero, List.setIfInBounds_toArray, List.set_cons_zero, List.set_cons_succ]
  refine wpAnyH_ready (rs := [13]) (by kernel_rfl) (by simp) ?_
  refine AllReadyH.cons rfl (fun K hK => ?_) AllReadyH.nil
  simp only [List.getElem_toArray, List.getElem_cons_succ, List.getElem_cons_zero]
  go_simp
  refine hK.out _ _ (hd0.alloc (Nat.le_refl _) (.cells #[.int .i64 0, .int .i64 0] 32)) (fun hH2 => ?_)
  clear hK hH2
  have K7 := heap_new W3.drew (.cells #[.int .i64 0, .int .i64 0] 32)
  obtain ⟨t0, t1⟩ := two_at K7
  obtain ⟨tf0, tf1⟩ := two_live K7
  refine wpAnyH_ready (rs := [14]) (by kernel_rfl) (by simp) ?_
  refine AllReadyH.cons rfl (fun K hK => ?_) AllReadyH.nil
  simp only [List.getElem_toArray, List.getElem_cons_succ, List.getElem_cons_zero]
  go_simp
  refine hK.out _ _ (((Below.refl W3.heap.size W3).alloc (Nat.le_refl _) (.cells #[.int .i64 z.r, .int .i64 z.t] 32)).drew) (fun hH2 => ?_)
  clear hK hH2
  refine wpAnyH_done (by kernel_rfl) ?_ _
  have hzr : z.r = (j : Int) := by
    have h := (HI.out.bal (rs.length - 1) (by simp [abs]; omega)).1
    rw [abs_rd, ← HZ.out] at h
    have h' : z.r = ((rs.length - 1 : Nat) : Int) := h
    rw [h', ← HJ.out]
  clear t0 t1 tf0 tf1 K7 hd0 CB CR x0 x1 x2 x3 x4
  have hN : (W3.alloc (.cells #[.int .i64 z.r, .int .i64 z.t] 32)).drew.heap[W3.heap.size]? = some (.cells #[.int .i64 z.r, .int .i64 z.t] 32) ∧ Below W3.heap.size W3 (W3.alloc (.cells #[.int .i64 z.r, .int .i64 z.t] 32)).drew := ⟨heap_new _ _, ((Below.refl _ _).alloc (Nat.le_refl _) _).drew⟩
  rw [hzr] at hN ⊢
  have HZR := hide hzr
  clear hzr
  generalize (W3.alloc (.cells #[.int .i64 (j : Int), .int .i64 z.t] 32)).drew = W4 at *
  obtain ⟨KT, hb4⟩ := hN
  have HM4 := hide (HM3.out.below hb4)
  have KE4 := (hb4.block _ (blk_lt KE3.out)).trans KE3.out
  have HB4 := hide (below_next HB3.out hb4)
  have c43 := (slot_at HM4.out).2
  have c0 := (slot_at HM4.out).1
  obtain ⟨x0, x1, x2, x3, x4⟩ := five_at KE4
  obtain ⟨t0, t1⟩ := two_at KT
  have f43 := slot_live HM4.out 43
  have CL := hide (fun (W : World) => least_any ep N W (by omega) he1 (by omega))
  obtain ⟨q, hq⟩ : ∃ q, q = lst ep N := ⟨_, rfl⟩
  rw [← hq] at CL
  have HQ := hide hq
  have hlt4 := HM4.out.glt
  have hBlt := HM4.out.blt
  have hBg : ¬ B = g := HM4.out.apart
  have hbW := HB4.out.size
  have LE := blk_lt KE4
  have LT := blk_lt KT
  have HBB := HM4.out.base
  have hw3 := HB3.out.size
  clear hb4 hq KE4 KT HM3 KE3 HB3
  go_wp2_with fail
  have hS0 : W4.drew.cell? ⟨W3.heap.size, 0, none⟩ = some (.int .i64 (j : Int)) ∧ W4.drew.cell? ⟨w.heap.size, 1, none⟩ = some (.int .i64 ep) ∧ W4.drew.cell? ⟨B, 0, none⟩ = some (.int .i64 (N : Int)) := ⟨t0, x1, c0⟩
  refine wp_region_held_drew (S := fun W => W.cell? ⟨W3.heap.size, 0, none⟩ = some (.int .i64 (j : Int)) ∧ W.cell? ⟨w.heap.size, 1, none⟩ = some (.int .i64 ep) ∧ W.cell? ⟨B, 0, none⟩ = some (.int .i64 (N : Int))) (by kernel_rfl) hS0 (fun hH => ?_)
  refine wpAnyH_take (i := 0) (v := ?vd0) rfl (by kernel_rfl) (by kernel_rfl) (by kernel_rfl) (fun _ _ _ h => h) (Or.inl ⟨by rfl, ?yd0⟩) hS0 ?rd0
  case yd0 => (intro W hSw; (try dsimp only at hSw); (try simp only [List.getElem_toArray, List.getElem_cons_zero]); obtain ⟨s0, s1, s2⟩ := hSw; go_simp; first | done | with_reducible rfl)
  try simp only [Act.put, List.getElem_toArray, List.getElem_cons_zero, List.setIfInBounds_toArray, List.set_cons_zero, List.set_cons_succ]
  refine wpAnyH_take (i := 1) (v := ?vd1) rfl (by kernel_rfl) (by kernel_rfl) (by kernel_rfl) (fun _ _ _ h => h) (Or.inl ⟨by rfl, ?yd1⟩) hS0 ?rd1
  case yd1 => (intro W hSw; (try dsimp only at hSw); (try simp only [List.getElem_toArray, List.getElem_cons_succ, List.getElem_cons_zero]); obtain ⟨s0, s1, s2⟩ := hSw; go_simp; first | done | with_reducible rfl)
  try simp only [Act.put, List.getElem_toArray, List.getElem_cons_succ, List.getElem_cons_zero, List.setIfInBounds_toArray, List.set_cons_zero, List.set_cons_succ]
  refine wpAnyH_take (i := 2) (v := ?vd2) rfl (by kernel_rfl) (by kernel_rfl) (by kernel_rfl) (fun _ _ _ h => h) (Or.inl ⟨by rfl, ?yd2⟩) hS0 ?rd2
  case yd2 => (intro W hSw; (try dsimp only at hSw); (try simp only [List.getElem_toArray, List.getElem_cons_succ, List.getElem_cons_zero]); obtain ⟨s0, s1, s2⟩ := hSw; go_simp; first | done | with_reducible rfl)
  try simp only [Act.put, List.getElem_toArray, List.getElem_cons_succ, List.getElem_cons_zero, List.setIfInBounds_toArray, List.set_cons_zero, List.set_cons_succ]
  refine wpAnyH_take (i := 3) (v := ?vd3) rfl (by kernel_rfl) (by kernel_rfl) (by kernel_rfl) (fun _ _ _ h => h) (Or.inl ⟨by rfl, ?yd3⟩) hS0 ?rd3
  case yd3 => (intro W hSw; (try dsimp only at hSw); (try simp only [List.getElem_toArray, List.getElem_cons_succ, List.getElem_cons_zero]); obtain ⟨s0, s1, s2⟩ := hSw; go_simp; first | done | with_reducible rfl)
  try simp only [Act.put, List.getElem_toArray, List.getElem_cons_succ, List.getElem_cons_zero, List.setIfInBounds_toArray, List.set_cons_zero, List.set_cons_succ]
  refine wpAnyH_take (i := 5) (v := ?vd5) rfl (by kernel_rfl) (by kernel_rfl) (by kernel_rfl) (fun _ _ _ h => h) (Or.inl ⟨by rfl, ?yd5⟩) hS0 ?rd5
  case yd5 => (intro W hSw; (try dsimp only at hSw); (try simp only [List.getElem_toArray, List.getElem_cons_succ, List.getElem_cons_zero]); obtain ⟨s0, s1, s2⟩ := hSw; go_simp; first | done | with_reducible rfl)
  try simp only [Act.put, List.getElem_toArray, List.getElem_cons_succ, List.getElem_cons_zero, List.setIfInBounds_toArray, List.set_cons_zero, List.set_cons_succ]
  refine wpAnyH_take (i := 6) (v := ?vd6) rfl (by kernel_rfl) (by kernel_rfl) (by kernel_rfl) (fun _ _ _ h => h) (Or.inl ⟨by rfl, ?yd6⟩) hS0 ?rd6
  case yd6 => (intro W hSw; (try dsimp only at hSw); (try simp only [List.getElem_toArray, List.getElem_cons_succ, List.getElem_cons_zero]); obtain ⟨s0, s1, s2⟩ := hSw; go_simp; first | done | with_reducible rfl)
  try simp only [Act.put, List.getElem_toArray, List.getElem_cons_succ, List.getElem_cons_zero, List.setIfInBounds_toArray, List.set_cons_zero, List.set_cons_succ]
  refine wpAnyH_take (i := 7) (v := ?vd7) rfl (by kernel_rfl) (by kernel_rfl) (by kernel_rfl) (fun _ _ _ h => h) (Or.inl ⟨by rfl, ?yd7⟩) hS0 ?rd7
  case yd7 => (intro W hSw; (try dsimp only at hSw); (try simp only [List.getElem_toArray, List.getElem_cons_succ, List.getElem_cons_zero]); obtain ⟨s0, s1, s2⟩ := hSw; go_simp; first | done | with_reducible rfl)
  try simp only [Act.put, List.getElem_toArray, List.getElem_cons_succ, List.getElem_cons_zero, List.setIfInBounds_toArray, List.set_cons_zero, List.set_cons_succ]
  refine wpAnyH_take (i := 8) (v := ?vd8) rfl (by kernel_rfl) (by kernel_rfl) (by kernel_rfl) (fun _ _ _ h => h) (Or.inl ⟨by rfl, ?yd8⟩) hS0 ?rd8
  case yd8 => (intro W hSw; (try dsimp only at hSw); (try simp only [List.getElem_toArray, List.getElem_cons_succ, List.getElem_cons_zero]); obtain ⟨s0, s1, s2⟩ := hSw; go_simp; first | done | with_reducible rfl)
  try simp only [Act.put, List.getElem_toArray, List.getElem_cons_succ, List.getElem_cons_zero, List.setIfInBounds_toArray, List.set_cons_zero, List.set_cons_succ]
  refine wpAnyH_take (i := 9) (v := ?vd9) rfl (by kernel_rfl) (by kernel_rfl) (by kernel_rfl) (fun _ _ _ h => h) (Or.inl ⟨by rfl, ?yd9⟩) hS0 ?rd9
  case yd9 => (intro W hSw; (try dsimp only at hSw); (try simp only [List.getElem_toArray, List.getElem_cons_succ, List.getElem_cons_zero]); obtain ⟨s0, s1, s2⟩ := hSw; go_simp; first | done | with_reducible rfl)
  try simp only [Act.put, List.getElem_toArray, List.getElem_cons_succ, List.getElem_cons_zero, List.setIfInBounds_toArray, List.set_cons_zero, List.set_cons_succ]
  refine wpAnyH_take (i := 10) (v := ?vd10) rfl (by kernel_rfl) (by kernel_rfl) (by kernel_rfl) (fun _ _ _ h => h) (Or.inl ⟨by rfl, ?yd10⟩) hS0 ?rd10
  case yd10 => (intro W hSw; (try dsimp only at hSw); (try simp only [List.getElem_toArray, List.getElem_cons_succ, List.getElem_cons_zero]); obtain ⟨s0, s1, s2⟩ := hSw; go_simp; first | done | with_reducible rfl)
  try simp only [Act.put, List.getElem_toArray, List.getElem_cons_succ, List.getElem_cons_zero, List.setIfInBounds_toArray, List.set_cons_zero, List.set_cons_succ]
  refine wpAnyH_take (i := 11) (v := ?vd11) rfl (by kernel_rfl) (by kernel_rfl) (by kernel_rfl) (fun _ _ _ h => h) (Or.inl ⟨by rfl, ?yd11⟩) hS0 ?rd11
  case yd11 => (intro W hSw; (try dsimp only at hSw); (try simp only [List.getElem_toArray, List.getElem_cons_succ, List.getElem_cons_zero]); obtain ⟨s0, s1, s2⟩ := hSw; go_simp; first | done | with_reducible rfl)
  try simp only [Act.put, List.getElem_toArray, List.getElem_cons_succ, List.getElem_cons_zero, List.setIfInBounds_toArray, List.set_cons_zero, List.set_cons_succ]
  refine wpAnyH_take (i := 12) (v := ?vd12) rfl (by kernel_rfl) (by kernel_rfl) (by kernel_rfl) (fun _ _ _ h => h) (Or.inl ⟨by rfl, ?yd12⟩) hS0 ?rd12
  case yd12 => (intro W hSw; (try dsimp only at hSw); (try simp only [List.getElem_toArray, List.getElem_cons_succ, List.getElem_cons_zero]); obtain ⟨s0, s1, s2⟩ := hSw; go_simp; first | done | with_reducible rfl)
  try simp only [Act.put, List.getElem_toArray, List.getElem_cons_succ, List.getElem_cons_zero, List.setIfInBounds_toArray, List.set_cons_zero, List.set_cons_succ]
  refine wpAnyH_take (i := 13) (v := ?vd13) rfl (by kernel_rfl) (by kernel_rfl) (by kernel_rfl) (fun _ _ _ h => h) (Or.inl ⟨by rfl, ?yd13⟩) hS0 ?rd13
  case yd13 => (intro W hSw; (try dsimp only at hSw); (try simp only [List.getElem_toArray, List.getElem_cons_succ, List.getElem_cons_zero]); obtain ⟨s0, s1, s2⟩ := hSw; go_simp; first | done | with_reducible rfl)
  try simp only [Act.put, List.getElem_toArray, List.getElem_cons_succ, List.getElem_cons_zero, List.setIfInBounds_toArray, List.set_cons_zero, List.set_cons_succ]
  have hbA : Below W4.heap.size W4 (W4.alloc (.cells #[.int .i64 ((j : Int) + 1), .int .i64 q, .slice none 0 0, .bool false, .slice none 0 0, .slice none 0 0] 62)).drew := ((Below.refl _ _).alloc (Nat.le_refl _) _).drew
  have hS1 : (W4.alloc (.cells #[.int .i64 ((j : Int) + 1), .int .i64 q, .slice none 0 0, .bool false, .slice none 0 0, .slice none 0 0] 62)).drew.cell? ⟨W3.heap.size, 0, none⟩ = some (.int .i64 (j : Int)) ∧ (W4.alloc (.cells #[.int .i64 ((j : Int) + 1), .int .i64 q, .slice none 0 0, .bool false, .slice none 0 0, .slice none 0 0] 62)).drew.cell? ⟨w.heap.size, 1, none⟩ = some (.int .i64 ep) ∧ (W4.alloc (.cells #[.int .i64 ((j : Int) + 1), .int .i64 q, .slice none 0 0, .bool false, .slice none 0 0, .slice none 0 0] 62)).drew.cell? ⟨B, 0, none⟩ = some (.int .i64 (N : Int)) := ⟨(hbA.cell (p := ⟨W3.heap.size, 0, none⟩) LT).trans t0, (hbA.cell (p := ⟨w.heap.size, 1, none⟩) LE).trans x1, (hbA.cell (p := ⟨B, 0, none⟩) hBlt).trans c0⟩
  refine wpAnyH_ready (rs := [4, 14]) (by kernel_rfl) (by simp) ?_
  refine AllReadyH.cons rfl (fun K hK => ?_) (AllReadyH.cons rfl (fun K hK => ?_) AllReadyH.nil)
  · simp only [List.getElem_toArray, List.getElem_cons_succ, List.getElem_cons_zero]
    go_simp
    refine hK.out _ _ hS0 (fun hH2 => ?_)
    clear hK hH2
    refine wpAnyH_ready (rs := [14]) (by kernel_rfl) (by simp) ?_
    refine AllReadyH.cons rfl (fun K hK => ?_) AllReadyH.nil
    simp only [List.getElem_toArray, List.getElem_cons_succ, List.getElem_cons_zero]
    go_simp
    refine (CL.out _).mono ?_
    rintro e w5 ⟨rfl, rfl⟩
    refine hK.out _ _ hS0 (fun hH2 => ?_)
    clear hK hH2
    refine wpAnyH_take (i := 15) (v := ?ve15) rfl (by kernel_rfl) (by kernel_rfl) (by kernel_rfl) (fun _ _ _ h => h) (Or.inl ⟨by rfl, ?ye15⟩) hS0 ?re15
    case ye15 => (intro W hSw; (try dsimp only at hSw); (try simp only [List.getElem_toArray, List.getElem_cons_succ, List.getElem_cons_zero]); go_simp; first | done | with_reducible rfl)
    try simp only [Act.put, List.getElem_toArray, List.getElem_cons_succ, List.getElem_cons_zero, List.setIfInBounds_toArray, List.set_cons_zero, List.set_cons_succ]
    refine wpAnyH_take (i := 16) (v := ?ve16) rfl (by kernel_rfl) (by kernel_rfl) (by kernel_rfl) (fun _ _ _ h => h) (Or.inl ⟨by rfl, ?ye16⟩) hS0 ?re16
    case ye16 => (intro W hSw; (try dsimp only at hSw); (try simp only [List.getElem_toArray, List.getElem_cons_succ, List.getElem_cons_zero]); go_simp; first | done | with_reducible rfl)
    try simp only [Act.put, List.getElem_toArray, List.getElem_cons_succ, List.getElem_cons_zero, List.setIfInBounds_toArray, List.set_cons_zero, List.set_cons_succ]
    refine wpAnyH_ready (rs := [17]) (by kernel_rfl) (by simp) ?_
    refine AllReadyH.cons rfl (fun K hK => ?_) AllReadyH.nil
    simp only [List.getElem_toArray, List.getElem_cons_succ, List.getElem_cons_zero]
    go_simp
    refine hK.out _ _ hS1 (fun hH2 => ?_)
    clear hK hH2
    refine wpAnyH_ready (rs := [18]) (by kernel_rfl) (by simp) ?_
    refine AllReadyH.cons rfl (fun K hK => ?_) AllReadyH.nil
    refine step_append_wide (by rfl) (.tmp 100) (.tmp 113) 53 (by rfl) b0 62 i0 (.agg #[.int .i64 0, .int .i64 0, .slice none 0 0, .bool false, .slice none 0 0, .slice none 0 0]) 6 96 Try.underlying53 hi hz0 hz1 hz2 rfl (by omega) _ rs.length (rs.flatMap RnA.cells) (by rfl) (own_below HM4.out.own hbA) (some ⟨W4.heap.size, 0, none⟩) 1 1 (RnA.cells ⟨(j : Int) + 1, q, none, 0, [], false, none, 0, [], none, 0, []⟩) (by rfl) (Reads.new_at W4 (RnA.cells ⟨(j : Int) + 1, q, none, 0, [], false, none, 0, [], none, 0, []⟩) _ _ _ rfl) rfl (rn_one _) (by unfold maxLen; omega) (by omega) (by simp; omega) ?_
    intro A6 c6 w6 n6 g6 t6
    obtain ⟨g', rfl⟩ : ∃ g', A6 = some ⟨g', 0, none⟩ := by
      rcases n6.2 with ⟨_, h⟩ | ⟨g1, cg, _, h, _⟩
      · omega
      · injection h with h; exact ⟨g1, h⟩
    have hs1 : (W4.alloc (.cells #[.int .i64 ((j : Int) + 1), .int .i64 q, .slice none 0 0, .bool false, .slice none 0 0, .slice none 0 0] 62)).drew.heap.size = W4.heap.size + 1 := by simp
    have hg' : g' = g ∨ (W4.alloc (.cells #[.int .i64 ((j : Int) + 1), .int .i64 q, .slice none 0 0, .bool false, .slice none 0 0, .slice none 0 0] 62)).drew.heap.size ≤ g' := by
      rcases t6 with h | h
      · left; have h' : some g' = some g := h; injection h'
      · right; have h' : some g' = some (W4.alloc (.cells #[.int .i64 ((j : Int) + 1), .int .i64 q, .slice none 0 0, .bool false, .slice none 0 0, .slice none 0 0] 62)).drew.heap.size := h; injection h' with h'; rw [h']; exact Nat.le_refl _
    have e1 : w6.heap[B]? = (W4.alloc (.cells #[.int .i64 ((j : Int) + 1), .int .i64 q, .slice none 0 0, .bool false, .slice none 0 0, .slice none 0 0] 62)).drew.heap[B]? := g6.block B (by rw [hs1]; omega) (fun e => hBg (by injection e))
    have hMB := (HM4.out.below hbA)
    have c43' : w6.cell? ⟨B, 43, none⟩ = some (.slice (some ⟨g, 0, none⟩) rs.length rc) := by rw [show w6.cell? ⟨B, 43, none⟩ = (W4.alloc (.cells #[.int .i64 ((j : Int) + 1), .int .i64 q, .slice none 0 0, .bool false, .slice none 0 0, .slice none 0 0] 62)).drew.cell? ⟨B, 43, none⟩ by unfold World.cell?; rw [e1]]; exact (slot_at hMB).2
    have f43' : w6.frozen? ⟨B, 43, none⟩ = false := by
      have hb := e1.trans hMB.blk
      exact live hb 43
    have hS6 : w6.cell? ⟨W3.heap.size, 0, none⟩ = some (.int .i64 (j : Int)) ∧ w6.cell? ⟨w.heap.size, 1, none⟩ = some (.int .i64 ep) ∧ w6.cell? ⟨B, 0, none⟩ = some (.int .i64 (N : Int)) := by
      have k : ∀ (b o : Nat), b < W4.heap.size → b ≠ g → w6.cell? ⟨b, o, none⟩ = W4.cell? ⟨b, o, none⟩ := fun b o h1 h2 => cell_of_heap ((g6.block b (by rw [hs1]; omega) (fun e => h2 (by injection e))).trans (hbA.block b h1)) o
      exact ⟨(k _ _ LT (by omega)).trans t0, (k _ _ LE (by omega)).trans x1, (k _ _ hBlt hBg).trans c0⟩
    have HG6 := hide g6; have HN6 := hide n6
    clear t6 e1 n6
    refine hK.out _ _ hS6 (fun hH2 => ?_)
    clear hK hH2
    try simp only [Act.put, List.getElem_toArray, List.getElem_cons_succ, List.getElem_cons_zero, List.setIfInBounds_toArray, List.set_cons_zero, List.set_cons_succ]
    refine wpAnyH_take (i := 19) (v := ?ve19) rfl (by kernel_rfl) (by kernel_rfl) (by kernel_rfl) (fun _ _ _ h => h) (Or.inl ⟨by rfl, ?ye19⟩) hS6 ?re19
    case ye19 => (intro W hSw; (try dsimp only at hSw); (try simp only [List.getElem_toArray, List.getElem_cons_succ, List.getElem_cons_zero]); go_simp; first | done | with_reducible rfl)
    try simp only [Act.put, List.getElem_toArray, List.getElem_cons_succ, List.getElem_cons_zero, List.setIfInBounds_toArray, List.set_cons_zero, List.set_cons_succ]
    refine wpAnyH_take (i := 20) (v := ?ve20) rfl (by kernel_rfl) (by kernel_rfl) (by kernel_rfl) (fun _ _ _ h => h) (Or.inl ⟨by rfl, ?ye20⟩) hS6 ?re20
    case ye20 => (intro W hSw; (try dsimp only at hSw); (try simp only [List.getElem_toArray, List.getElem_cons_succ, List.getElem_cons_zero]); go_simp; first | done | with_reducible rfl)
    try simp only [Act.put, List.getElem_toArray, List.getElem_cons_succ, List.getElem_cons_zero, List.setIfInBounds_toArray, List.set_cons_zero, List.set_cons_succ]
    refine wpAnyH_ready (rs := [21]) (by kernel_rfl) (by simp) ?_
    refine AllReadyH.cons rfl (fun K hK => ?_) AllReadyH.nil
    simp only [List.getElem_toArray, List.getElem_cons_succ, List.getElem_cons_zero]
    go_simp
    have hS7 : (w6.setCell ⟨B, 43, none⟩ (.slice (some ⟨g', 0, none⟩) (rs.length + 1) c6)).cell? ⟨W3.heap.size, 0, none⟩ = some (.int .i64 (j : Int)) ∧ (w6.setCell ⟨B, 43, none⟩ (.slice (some ⟨g', 0, none⟩) (rs.length + 1) c6)).cell? ⟨w.heap.size, 1, none⟩ = some (.int .i64 ep) ∧ (w6.setCell ⟨B, 43, none⟩ (.slice (some ⟨g', 0, none⟩) (rs.length + 1) c6)).cell? ⟨B, 0, none⟩ = some (.int .i64 (N : Int)) :=
      ⟨(World.cell?_setCell_other _ _ _ _ (by intro e; injection e with e; omega)).trans hS6.1, (World.cell?_setCell_other _ _ _ _ (by intro e; injection e with e; omega)).trans hS6.2.1, (World.cell?_setCell_other _ _ _ _ (by intro e; injection e with _ e; omega)).trans hS6.2.2⟩
    refine hK.out _ _ hS7 (fun hH2 => ?_)
    clear hK hH2
    refine wpAnyH_done (by kernel_rfl) ?_ _
    have FIN : Hid (Played w b0 B N (opNew (abs all rs) q) (.returned (.tuple #[])) (w6.setCell ⟨B, 43, none⟩ (.slice (some ⟨g', 0, none⟩) (rs.length + 1) c6))) := hide ⟨rfl, g', all, rs ++ [⟨(j : Int) + 1, q, none, 0, [], false, none, 0, [], none, 0, []⟩], c6, (hMB.more ⟨rfl, rfl, rfl, rfl, rfl, rfl⟩ HN6.out HG6.out hg'), abs_new HZ.out HZR.out, new_below HBB hlt4.1 (Nat.le_trans HBB (Nat.le_of_lt hBw)) (below_next HB4.out hbA) HG6.out _ _⟩
    go_wp2
    refine bodyPost_end (v := .tuple #[]) (by simp [results, Try.results20, go_sem]) rfl ?_
    rw [← HQ.out]
    exact FIN.out
  · simp only [List.getElem_toArray, List.getElem_cons_succ, List.getElem_cons_zero]
    go_simp
    refine (CL.out _).mono ?_
    rintro e w5 ⟨rfl, rfl⟩
    refine hK.out _ _ hS0 (fun hH2 => ?_)
    clear hK hH2
    refine wpAnyH_take (i := 15) (v := ?vf15) rfl (by kernel_rfl) (by kernel_rfl) (by kernel_rfl) (fun _ _ _ h => h) (Or.inl ⟨by rfl, ?yf15⟩) hS0 ?rf15
    case yf15 => (intro W hSw; (try dsimp only at hSw); (try simp only [List.getElem_toArray, List.getElem_cons_succ, List.getElem_cons_zero]); go_simp; first | done | with_reducible rfl)
    try simp only [Act.put, List.getElem_toArray, List.getElem_cons_succ, List.getElem_cons_zero, List.setIfInBounds_toArray, List.set_cons_zero, List.set_cons_succ]
    refine wpAnyH_take (i := 16) (v := ?vf16) rfl (by kernel_rfl) (by kernel_rfl) (by kernel_rfl) (fun _ _ _ h => h) (Or.inl ⟨by rfl, ?yf16⟩) hS0 ?rf16
    case yf16 => (intro W hSw; (try dsimp only at hSw); (try simp only [List.getElem_toArray, List.getElem_cons_succ, List.getElem_cons_zero]); go_simp; first | done | with_reducible rfl)
    try simp only [Act.put, List.getElem_toArray, List.getElem_cons_succ, List.getElem_cons_zero, List.setIfInBounds_toArray, List.set_cons_zero, List.set_cons_succ]
    refine wpAnyH_ready (rs := [4, 17]) (by kernel_rfl) (by simp) ?_
    refine AllReadyH.cons rfl (fun K hK => ?_) (AllReadyH.cons rfl (fun K hK => ?_) AllReadyH.nil)
    · simp only [List.getElem_toArray, List.getElem_cons_succ, List.getElem_cons_zero]
      go_simp
      refine hK.out _ _ hS0 (fun hH2 => ?_)
      clear hK hH2
      refine wpAnyH_ready (rs := [17]) (by kernel_rfl) (by simp) ?_
      refine AllReadyH.cons rfl (fun K hK => ?_) AllReadyH.nil
      simp only [List.getElem_toArray, List.getElem_cons_succ, List.getElem_cons_zero]
      go_simp
      refine hK.out _ _ hS1 (fun hH2 => ?_)
      clear hK hH2
      refine wpAnyH_ready (rs := [18]) (by kernel_rfl) (by simp) ?_
      refine AllReadyH.cons rfl (fun K hK => ?_) AllReadyH.nil
      refine step_append_wide (by rfl) (.tmp 100) (.tmp 113) 53 (by rfl) b0 62 i0 (.agg #[.int .i64 0, .int .i64 0, .slice none 0 0, .bool false, .slice none 0 0, .slice none 0 0]) 6 96 Try.underlying53 hi hz0 hz1 hz2 rfl (by omega) _ rs.length (rs.flatMap RnA.cells) (by rfl) (own_below HM4.out.own hbA) (some ⟨W4.heap.size, 0, none⟩) 1 1 (RnA.cells ⟨(j : Int) + 1, q, none, 0, [], false, none, 0, [], none, 0, []⟩) (by rfl) (Reads.new_at W4 (RnA.cells ⟨(j : Int) + 1, q, none, 0, [], false, none, 0, [], none, 0, []⟩) _ _ _ rfl) rfl (rn_one _) (by unfold maxLen; omega) (by omega) (by simp; omega) ?_
      intro A6 c6 w6 n6 g6 t6
      obtain ⟨g', rfl⟩ : ∃ g', A6 = some ⟨g', 0, none⟩ := by
        rcases n6.2 with ⟨_, h⟩ | ⟨g1, cg, _, h, _⟩
        · omega
        · injection h with h; exact ⟨g1, h⟩
      have hs1 : (W4.alloc (.cells #[.int .i64 ((j : Int) + 1), .int .i64 q, .slice none 0 0, .bool false, .slice none 0 0, .slice none 0 0] 62)).drew.heap.size = W4.heap.size + 1 := by simp
      have hg' : g' = g ∨ (W4.alloc (.cells #[.int .i64 ((j : Int) + 1), .int .i64 q, .slice none 0 0, .bool false, .slice none 0 0, .slice none 0 0] 62)).drew.heap.size ≤ g' := by
        rcases t6 with h | h
        · left; have h' : some g' = some g := h; injection h'
        · right; have h' : some g' = some (W4.alloc (.cells #[.int .i64 ((j : Int) + 1), .int .i64 q, .slice none 0 0, .bool false, .slice none 0 0, .slice none 0 0] 62)).drew.heap.size := h; injection h' with h'; rw [h']; exact Nat.le_refl _
      have e1 : w6.heap[B]? = (W4.alloc (.cells #[.int .i64 ((j : Int) + 1), .int .i64 q, .slice none 0 0, .bool false, .slice none 0 0, .slice none 0 0] 62)).drew.heap[B]? := g6.block B (by rw [hs1]; omega) (fun e => hBg (by injection e))
      have hMB := (HM4.out.below hbA)
      have c43' : w6.cell? ⟨B, 43, none⟩ = some (.slice (some ⟨g, 0, none⟩) rs.length rc) := by rw [show w6.cell? ⟨B, 43, none⟩ = (W4.alloc (.cells #[.int .i64 ((j : Int) + 1), .int .i64 q, .slice none 0 0, .bool false, .slice none 0 0, .slice none 0 0] 62)).drew.cell? ⟨B, 43, none⟩ by unfold World.cell?; rw [e1]]; exact (slot_at hMB).2
      have f43' : w6.frozen? ⟨B, 43, none⟩ = false := by
        have hb := e1.trans hMB.blk
        exact live hb 43
      have hS6 : w6.cell? ⟨W3.heap.size, 0, none⟩ = some (.int .i64 (j : Int)) ∧ w6.cell? ⟨w.heap.size, 1, none⟩ = some (.int .i64 ep) ∧ w6.cell? ⟨B, 0, none⟩ = some (.int .i64 (N : Int)) := by
        have k : ∀ (b o : Nat), b < W4.heap.size → b ≠ g → w6.cell? ⟨b, o, none⟩ = W4.cell? ⟨b, o, none⟩ := fun b o h1 h2 => cell_of_heap ((g6.block b (by rw [hs1]; omega) (fun e => h2 (by injection e))).trans (hbA.block b h1)) o
        exact ⟨(k _ _ LT (by omega)).trans t0, (k _ _ LE (by omega)).trans x1, (k _ _ hBlt hBg).trans c0⟩
      have HG6 := hide g6; have HN6 := hide n6
      clear t6 e1 n6
      refine hK.out _ _ hS6 (fun hH2 => ?_)
      clear hK hH2
      try simp only [Act.put, List.getElem_toArray, List.getElem_cons_succ, List.getElem_cons_zero, List.setIfInBounds_toArray, List.set_cons_zero, List.set_cons_succ]
      refine wpAnyH_take (i := 19) (v := ?vf19) rfl (by kernel_rfl) (by kernel_rfl) (by kernel_rfl) (fun _ _ _ h => h) (Or.inl ⟨by rfl, ?yf19⟩) hS6 ?rf19
      case yf19 => (intro W hSw; (try dsimp only at hSw); (try simp only [List.getElem_toArray, List.getElem_cons_succ, List.getElem_cons_zero]); go_simp; first | done | with_reducible rfl)
      try simp only [Act.put, List.getElem_toArray, List.getElem_cons_succ, List.getElem_cons_zero, List.setIfInBounds_toArray, List.set_cons_zero, List.set_cons_succ]
      refine wpAnyH_take (i := 20) (v := ?vf20) rfl (by kernel_rfl) (by kernel_rfl) (by kernel_rfl) (fun _ _ _ h => h) (Or.inl ⟨by rfl, ?yf20⟩) hS6 ?rf20
      case yf20 => (intro W hSw; (try dsimp only at hSw); (try simp only [List.getElem_toArray, List.getElem_cons_succ, List.getElem_cons_zero]); go_simp; first | done | with_reducible rfl)
      try simp only [Act.put, List.getElem_toArray, List.getElem_cons_succ, List.getElem_cons_zero, List.setIfInBounds_toArray, List.set_cons_zero, List.set_cons_succ]
      refine wpAnyH_ready (rs := [21]) (by kernel_rfl) (by simp) ?_
      refine AllReadyH.cons rfl (fun K hK => ?_) AllReadyH.nil
      simp only [List.getElem_toArray, List.getElem_cons_succ, List.getElem_cons_zero]
      go_simp
      have hS7 : (w6.setCell ⟨B, 43, none⟩ (.slice (some ⟨g', 0, none⟩) (rs.length + 1) c6)).cell? ⟨W3.heap.size, 0, none⟩ = some (.int .i64 (j : Int)) ∧ (w6.setCell ⟨B, 43, none⟩ (.slice (some ⟨g', 0, none⟩) (rs.length + 1) c6)).cell? ⟨w.heap.size, 1, none⟩ = some (.int .i64 ep) ∧ (w6.setCell ⟨B, 43, none⟩ (.slice (some ⟨g', 0, none⟩) (rs.length + 1) c6)).cell? ⟨B, 0, none⟩ = some (.int .i64 (N : Int)) :=
        ⟨(World.cell?_setCell_other _ _ _ _ (by intro e; injection e with e; omega)).trans hS6.1, (World.cell?_setCell_other _ _ _ _ (by intro e; injection e with e; omega)).trans hS6.2.1, (World.cell?_setCell_other _ _ _ _ (by intro e; injection e with _ e; omega)).trans hS6.2.2⟩
      refine hK.out _ _ hS7 (fun hH2 => ?_)
      clear hK hH2
      refine wpAnyH_done (by kernel_rfl) ?_ _
      have FIN : Hid (Played w b0 B N (opNew (abs all rs) q) (.returned (.tuple #[])) (w6.setCell ⟨B, 43, none⟩ (.slice (some ⟨g', 0, none⟩) (rs.length + 1) c6))) := hide ⟨rfl, g', all, rs ++ [⟨(j : Int) + 1, q, none, 0, [], false, none, 0, [], none, 0, []⟩], c6, (hMB.more ⟨rfl, rfl, rfl, rfl, rfl, rfl⟩ HN6.out HG6.out hg'), abs_new HZ.out HZR.out, new_below HBB hlt4.1 (Nat.le_trans HBB (Nat.le_of_lt hBw)) (below_next HB4.out hbA) HG6.out _ _⟩
      go_wp2
      refine bodyPost_end (v := .tuple #[]) (by simp [results, Try.results20, go_sem]) rfl ?_
      rw [← HQ.out]
      exact FIN.out
    · simp only [List.getElem_toArray, List.getElem_cons_succ, List.getElem_cons_zero]
      go_simp
      refine hK.out _ _ hS1 (fun hH2 => ?_)
      clear hK hH2
      refine wpAnyH_ready (rs := [4]) (by kernel_rfl) (by simp) ?_
      refine AllReadyH.cons rfl (fun K hK => ?_) AllReadyH.nil
      simp only [List.getElem_toArray, List.getElem_cons_succ, List.getElem_cons_zero]
      go_simp
      refine hK.out _ _ hS1 (fun hH2 => ?_)
      clear hK hH2
      refine wpAnyH_ready (rs := [18]) (by kernel_rfl) (by simp) ?_
      refine AllReadyH.cons rfl (fun K hK => ?_) AllReadyH.nil
      refine step_append_wide (by rfl) (.tmp 100) (.tmp 113) 53 (by rfl) b0 62 i0 (.agg #[.int .i64 0, .int .i64 0, .slice none 0 0, .bool false, .slice none 0 0, .slice none 0 0]) 6 96 Try.underlying53 hi hz0 hz1 hz2 rfl (by omega) _ rs.length (rs.flatMap RnA.cells) (by rfl) (own_below HM4.out.own hbA) (some ⟨W4.heap.size, 0, none⟩) 1 1 (RnA.cells ⟨(j : Int) + 1, q, none, 0, [], false, none, 0, [], none, 0, []⟩) (by rfl) (Reads.new_at W4 (RnA.cells ⟨(j : Int) + 1, q, none, 0, [], false, none, 0, [], none, 0, []⟩) _ _ _ rfl) rfl (rn_one _) (by unfold maxLen; omega) (by omega) (by simp; omega) ?_
      intro A6 c6 w6 n6 g6 t6
      obtain ⟨g', rfl⟩ : ∃ g', A6 = some ⟨g', 0, none⟩ := by
        rcases n6.2 with ⟨_, h⟩ | ⟨g1, cg, _, h, _⟩
        · omega
        · injection h with h; exact ⟨g1, h⟩
      have hs1 : (W4.alloc (.cells #[.int .i64 ((j : Int) + 1), .int .i64 q, .slice none 0 0, .bool false, .slice none 0 0, .slice none 0 0] 62)).drew.heap.size = W4.heap.size + 1 := by simp
      have hg' : g' = g ∨ (W4.alloc (.cells #[.int .i64 ((j : Int) + 1), .int .i64 q, .slice none 0 0, .bool false, .slice none 0 0, .slice none 0 0] 62)).drew.heap.size ≤ g' := by
        rcases t6 with h | h
        · left; have h' : some g' = some g := h; injection h'
        · right; have h' : some g' = some (W4.alloc (.cells #[.int .i64 ((j : Int) + 1), .int .i64 q, .slice none 0 0, .bool false, .slice none 0 0, .slice none 0 0] 62)).drew.heap.size := h; injection h' with h'; rw [h']; exact Nat.le_refl _
      have e1 : w6.heap[B]? = (W4.alloc (.cells #[.int .i64 ((j : Int) + 1), .int .i64 q, .slice none 0 0, .bool false, .slice none 0 0, .slice none 0 0] 62)).drew.heap[B]? := g6.block B (by rw [hs1]; omega) (fun e => hBg (by injection e))
      have hMB := (HM4.out.below hbA)
      have c43' : w6.cell? ⟨B, 43, none⟩ = some (.slice (some ⟨g, 0, none⟩) rs.length rc) := by rw [show w6.cell? ⟨B, 43, none⟩ = (W4.alloc (.cells #[.int .i64 ((j : Int) + 1), .int .i64 q, .slice none 0 0, .bool false, .slice none 0 0, .slice none 0 0] 62)).drew.cell? ⟨B, 43, none⟩ by unfold World.cell?; rw [e1]]; exact (slot_at hMB).2
      have f43' : w6.frozen? ⟨B, 43, none⟩ = false := by
        have hb := e1.trans hMB.blk
        exact live hb 43
      have hS6 : w6.cell? ⟨W3.heap.size, 0, none⟩ = some (.int .i64 (j : Int)) ∧ w6.cell? ⟨w.heap.size, 1, none⟩ = some (.int .i64 ep) ∧ w6.cell? ⟨B, 0, none⟩ = some (.int .i64 (N : Int)) := by
        have k : ∀ (b o : Nat), b < W4.heap.size → b ≠ g → w6.cell? ⟨b, o, none⟩ = W4.cell? ⟨b, o, none⟩ := fun b o h1 h2 => cell_of_heap ((g6.block b (by rw [hs1]; omega) (fun e => h2 (by injection e))).trans (hbA.block b h1)) o
        exact ⟨(k _ _ LT (by omega)).trans t0, (k _ _ LE (by omega)).trans x1, (k _ _ hBlt hBg).trans c0⟩
      have HG6 := hide g6; have HN6 := hide n6
      clear t6 e1 n6
      refine hK.out _ _ hS6 (fun hH2 => ?_)
      clear hK hH2
      try simp only [Act.put, List.getElem_toArray, List.getElem_cons_succ, List.getElem_cons_zero, List.setIfInBounds_toArray, List.set_cons_zero, List.set_cons_succ]
      refine wpAnyH_take (i := 19) (v := ?vg19) rfl (by kernel_rfl) (by kernel_rfl) (by kernel_rfl) (fun _ _ _ h => h) (Or.inl ⟨by rfl, ?yg19⟩) hS6 ?rg19
      case yg19 => (intro W hSw; (try dsimp only at hSw); (try simp only [List.getElem_toArray, List.getElem_cons_succ, List.getElem_cons_zero]); go_simp; first | done | with_reducible rfl)
      try simp only [Act.put, List.getElem_toArray, List.getElem_cons_succ, List.getElem_cons_zero, List.setIfInBounds_toArray, List.set_cons_zero, List.set_cons_succ]
      refine wpAnyH_take (i := 20) (v := ?vg20) rfl (by kernel_rfl) (by kernel_rfl) (by kernel_rfl) (fun _ _ _ h => h) (Or.inl ⟨by rfl, ?yg20⟩) hS6 ?rg20
      case yg20 => (intro W hSw; (try dsimp only at hSw); (try simp only [List.getElem_toArray, List.getElem_cons_succ, List.getElem_cons_zero]); go_simp; first | done | with_reducible rfl)
      try simp only [Act.put, List.getElem_toArray, List.getElem_cons_succ, List.getElem_cons_zero, List.setIfInBounds_toArray, List.set_cons_zero, List.set_cons_succ]
      refine wpAnyH_ready (rs := [21]) (by kernel_rfl) (by simp) ?_
      refine AllReadyH.cons rfl (fun K hK => ?_) AllReadyH.nil
      simp only [List.getElem_toArray, List.getElem_cons_succ, List.getElem_cons_zero]
      go_simp
      have hS7 : (w6.setCell ⟨B, 43, none⟩ (.slice (some ⟨g', 0, none⟩) (rs.length + 1) c6)).cell? ⟨W3.heap.size, 0, none⟩ = some (.int .i64 (j : Int)) ∧ (w6.setCell ⟨B, 43, none⟩ (.slice (some ⟨g', 0, none⟩) (rs.length + 1) c6)).cell? ⟨w.heap.size, 1, none⟩ = some (.int .i64 ep) ∧ (w6.setCell ⟨B, 43, none⟩ (.slice (some ⟨g', 0, none⟩) (rs.length + 1) c6)).cell? ⟨B, 0, none⟩ = some (.int .i64 (N : Int)) :=
        ⟨(World.cell?_setCell_other _ _ _ _ (by intro e; injection e with e; omega)).trans hS6.1, (World.cell?_setCell_other _ _ _ _ (by intro e; injection e with e; omega)).trans hS6.2.1, (World.cell?_setCell_other _ _ _ _ (by intro e; injection e with _ e; omega)).trans hS6.2.2⟩
      refine hK.out _ _ hS7 (fun hH2 => ?_)
      clear hK hH2
      refine wpAnyH_done (by kernel_rfl) ?_ _
      have FIN : Hid (Played w b0 B N (opNew (abs all rs) q) (.returned (.tuple #[])) (w6.setCell ⟨B, 43, none⟩ (.slice (some ⟨g', 0, none⟩) (rs.length + 1) c6))) := hide ⟨rfl, g', all, rs ++ [⟨(j : Int) + 1, q, none, 0, [], false, none, 0, [], none, 0, []⟩], c6, (hMB.more ⟨rfl, rfl, rfl, rfl, rfl, rfl⟩ HN6.out HG6.out hg'), abs_new HZ.out HZR.out, new_below HBB hlt4.1 (Nat.le_trans HBB (Nat.le_of_lt hBw)) (below_next HB4.out hbA) HG6.out _ _⟩
      go_wp2
      refine bodyPost_end (v := .tuple #[]) (by simp [results, Try.results20, go_sem]) rfl ?_
      rw [← HQ.out]
      exact FIN.out

end Go.Proofs.Ytodlabpgjgbbpah
