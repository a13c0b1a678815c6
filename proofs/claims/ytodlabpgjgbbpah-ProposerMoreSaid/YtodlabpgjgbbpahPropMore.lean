/-
  ProposerMore: more votes don't undo what is decided; votes of one site alone decide nothing among three or more; the greatest ballot is no less than each. No conditions.
-/
import Derived.Test.YtodlabpgjgbbpahPropArgs
import Derived.Test.YtodlabpgjgbbpahPropRef
import Derived.Test.YtodlabpgjgbbpahRows
namespace Go.Proofs.Ytodlabpgjgbbpah
open Go.RowKit Go.Agio Go.Prp Go.ChangeShapes Go.WideShapes Go.ChangeAt

theorem infoV : (Try.prog.info? 44).map (fun i => (i.zero, i.size, i.bytes)) = some (some (.agg #[.int .i64 0, .int .i64 0, .int .i64 0]), 3, 24) := by kernel_rfl
theorem own_later {w w' : World} {base n size : Nat} {e : TypeId} {v : Value} {xs : List Value} (h : w.ownsRow base e size v n xs) (hb : Below w.heap.size w w') : w'.ownsRow base e size v n xs := own_below h hb
theorem vts_one (X : List Vt) : ∀ u ∈ X.flatMap Vt.cells, u.oneCell' = true := fun u hu => by
  obtain ⟨x, _, h⟩ := List.mem_flatMap.1 hu
  exact vt_one x u h
theorem vts_read {w : World} {base : Nat} {e : TypeId} {A : Option Addr} {c : Nat} {X : List Vt} {v : Vt} (h : w.ownsRow base e 3 (.slice A (X.length + 1) c) (X.length + 1) (X.flatMap Vt.cells ++ v.cells)) : VsRd w A (X ++ [v]) := by
  have := reads_own h
  unfold VsRd
  rw [List.flatMap_append]
  simpa using this
theorem three_hold {w : World} {b : Nat} {v0 v1 v2 : Value} {t : TypeId} {fr : Nat × Nat} (h : w.heap[b]? = some (.cells #[v0, v1, v2] t fr)) : ∀ W, Below w.heap.size w W → W.cell? ⟨b, 0, none⟩ = some v0 ∧ W.cell? ⟨b, 1, none⟩ = some v1 ∧ W.cell? ⟨b, 2, none⟩ = some v2 :=
  fun _ hb => three_at ((hb.block _ (blk_lt h)).trans h)

theorem agg_list {cs : Array Value} {l : Array Value} (h : cs.toList = l.toList) : cs = l := by
  cases cs; cases l; simpa using h

set_option maxRecDepth 100000 in
set_option maxHeartbeats 8000000 in
theorem proposerMore_walk (A : Option Addr) (c : Nat) (X : List Vt) (v : Vt) (r t : Int) (w : World) (hR : VsRd w A X) (hX : fineV X) (hv : (Lit.int .i64 v.frm).wf = true) :
    Calls Try.prog 6 #[.slice A X.length c, .agg #[.int .i64 v.frm, .int .i64 v.r, .int .i64 v.t], .agg #[.int .i64 r, .int .i64 t]] w fun e w' => e = .returned (.bool true) ∧ Below w.heap.size w w' := by
  obtain ⟨i0, hi, hz0, hz1, hz2⟩ := info_parts infoV
  have HR := hide hR; have HX := hide hX; have HV := hide hv
  clear hR hX hv
  go_enter Try.func6, Try.ntmps6
  go_wp2_with fail
  have hN := two_new w (.cells #[.int .i64 v.frm, .int .i64 v.r, .int .i64 v.t] 44) (.cells #[.int .i64 r, .int .i64 t] 32)
  generalize (w.alloc (.cells #[.int .i64 v.frm, .int .i64 v.r, .int .i64 v.t] 44)).alloc (.cells #[.int .i64 r, .int .i64 t] 32) = W0 at *
  obtain ⟨K0, K1, hs0, hb0⟩ := hN
  refine (awake_any W0).mono ?_
  rintro e W1 ⟨rfl, hb1⟩
  have KV1 := hide ((hb1.block _ (blk_lt K0)).trans K0)
  have KB1 := hide ((hb1.block _ (blk_lt K1)).trans K1)
  have HB1 := hide (below_next hb0 hb1)
  clear hb0 hb1 K0 K1 hs0
  by_cases hlen : 100 < X.length
  · have h1 : (100 : Int) < (X.length : Int) := by omega
    go_wp2
    go_ret
    exact ⟨rfl, HB1.out⟩
  · have h1 : ¬ (100 : Int) < (X.length : Int) := by omega
    have h2 : (X.length : Int) ≤ 100 := by omega
    have hlX : X.length ≤ 100 := by omega
    have HR1 := hide (show Reads W1 A (X.flatMap Vt.cells) from HR.out.below HB1.out)
    have CV := hide (three_hold KV1.out)
    go_wp2_with fail
    obtain ⟨k, hk⟩ : ∃ k : Int, k = 3 + (X.length : Int) % 5 := ⟨_, rfl⟩
    rw [← hk]
    have hk3 : 3 ≤ k := by omega
    have hk8 : k ≤ 8 := by omega
    clear hk
    go_cut [9] (fun u wx => ∃ A' c', u = .slice A' (X.length + 1) c' ∧ VsRd wx A' (X ++ [v]) ∧ Below W1.heap.size W1 wx)
    case first =>
      have hd0 := (Below.refl W1.heap.size W1).drew
      refine wp_region_held_drew (S := fun W => Below W1.heap.size W1 W) (by kernel_rfl) hd0 (fun hH => ?_)
      refine wpAnyH_take (i := 1) (v := ?va1) rfl (by kernel_rfl) (by kernel_rfl) (by kernel_rfl) (fun _ _ _ h => h) (Or.inl ⟨by rfl, ?ya1⟩) hH ?ra1
      case ya1 => (intro W hSw; (try dsimp only at hSw); (try simp only [List.getElem_toArray, List.getElem_cons_succ, List.getElem_cons_zero]); go_simp; first | done | with_reducible rfl)
      try simp only [Act.put, List.getElem_toArray, List.getElem_cons_succ, List.getElem_cons_zero, List.setIfInBounds_toArray, List.set_cons_zero, List.set_cons_succ]
      refine wpAnyH_take (i := 3) (v := ?va3) rfl (by kernel_rfl) (by kernel_rfl) (by kernel_rfl) (fun _ _ _ h => h) (Or.inl ⟨by rfl, ?ya3⟩) hH ?ra3
      case ya3 => (intro W hSw; (try dsimp only at hSw); (try simp only [List.getElem_toArray, List.getElem_cons_succ, List.getElem_cons_zero]); obtain ⟨x0, x1, x2⟩ := CV.out W hSw; go_simp; first | done | with_reducible rfl)
      try simp only [Act.put, List.getElem_toArray, List.getElem_cons_succ, List.getElem_cons_zero, List.setIfInBounds_toArray, List.set_cons_zero, List.set_cons_succ]
      refine wpAnyH_ready (rs := [0, 4]) (by kernel_rfl) (by simp) ?_
      refine AllReadyH.cons rfl (fun K hK => ?_) (AllReadyH.cons rfl (fun K hK => ?_) AllReadyH.nil)
      · simp only [List.getElem_toArray, List.getElem_cons_zero]
        go_simp
        refine hK.out _ _ ((Below.refl W1.heap.size W1).drew.alloc (Nat.le_refl _) (.cells #[] 44)) (fun hH2 => ?_)
        clear hK hH2
        refine wpAnyH_ready (rs := [2, 4]) (by kernel_rfl) (by simp) ?_
        refine AllReadyH.cons rfl (fun K hK => ?_) (AllReadyH.cons rfl (fun K hK => ?_) AllReadyH.nil)
        · refine step_append_wide (by rfl) (.tmp 22) (.tmp 23) 35 (by rfl) W1.heap.size 44 i0 (.agg #[.int .i64 0, .int .i64 0, .int .i64 0]) 3 24 Try.underlying35 hi hz0 hz1 hz2 rfl (by omega) _ 0 [] (by rfl) (own_empty W1.drew W1.heap.size _ 3 W1.heap.size rfl (Nat.le_refl _)) A X.length c (X.flatMap Vt.cells) (by rfl) (HR1.out.below ((Below.refl W1.heap.size W1).drew.alloc (Nat.le_refl _) (.cells #[] 44))) (flat_length Vt.cells_length X) (vts_one X) (by unfold maxLen; omega) (by omega) (by have := ((Below.refl W1.heap.size W1).drew.alloc (Nat.le_refl _) (.cells #[] 44)).size; first | exact this | omega) ?_
          intro A3 c3 w3 n3 g3 t3
          have HB3 := hide (((Below.refl W1.heap.size W1).drew.alloc (Nat.le_refl _) (.cells #[] 44)).grown g3 (by simp; try omega) (fun g hg => by have h : some (W1.heap.size) = some g := hg; injection h with h; omega))
          simp only [Nat.zero_add, List.nil_append] at n3 ⊢
          have N3 := hide n3
          skip
          clear n3 g3 t3
          refine hK.out _ _ HB3.out (fun hH2 => ?_)
          clear hK hH2
          try simp only [Act.put, List.getElem_toArray, List.getElem_cons_succ, List.getElem_cons_zero, List.setIfInBounds_toArray, List.set_cons_zero, List.set_cons_succ]
          refine wpAnyH_ready (rs := [4]) (by kernel_rfl) (by simp) ?_
          refine AllReadyH.cons rfl (fun K hK => ?_) AllReadyH.nil
          simp only [List.getElem_toArray, List.getElem_cons_succ, List.getElem_cons_zero]
          go_simp
          refine hK.out _ _ (HB3.out.alloc HB3.out.size (.cells #[.int .i64 v.frm, .int .i64 v.r, .int .i64 v.t] 44)) (fun hH2 => ?_)
          clear hK hH2
          refine wpAnyH_ready (rs := [5]) (by kernel_rfl) (by simp) ?_
          refine AllReadyH.cons rfl (fun K hK => ?_) AllReadyH.nil
          refine step_append_wide (by rfl) (.tmp 24) (.tmp 26) 35 (by rfl) W1.heap.size 44 i0 (.agg #[.int .i64 0, .int .i64 0, .int .i64 0]) 3 24 Try.underlying35 hi hz0 hz1 hz2 rfl (by omega) _ X.length (X.flatMap Vt.cells) (by rfl) (own_later N3.out ((Below.refl _ _).alloc (Nat.le_refl _) _)) (some ⟨w3.heap.size, 0, none⟩) 1 1 v.cells (by rfl) (Reads.new_at w3 v.cells _ _ _ rfl) rfl (vt_one v) (by unfold maxLen; omega) (by omega) (by have := (HB3.out.alloc HB3.out.size (.cells #[.int .i64 v.frm, .int .i64 v.r, .int .i64 v.t] 44)).size; first | exact this | omega) ?_
          intro A5 c5 w5 n5 g5 t5
          have HB5 := hide ((HB3.out.alloc HB3.out.size (.cells #[.int .i64 v.frm, .int .i64 v.r, .int .i64 v.t] 44)).grown g5 (by have := (HB3.out.alloc HB3.out.size (.cells #[.int .i64 v.frm, .int .i64 v.r, .int .i64 v.t] 44)).size; simp at this ⊢; try omega) (fun g hg => (N3.out.lt g hg).1))
          have N5 := hide n5
          clear n5 g5 t5
          refine hK.out _ _ HB5.out (fun hH2 => ?_)
          clear hK hH2
          try simp only [Act.put, List.getElem_toArray, List.getElem_cons_succ, List.getElem_cons_zero, List.setIfInBounds_toArray, List.set_cons_zero, List.set_cons_succ]
          refine wpAnyH_take (i := 6) (v := ?vb6) rfl (by kernel_rfl) (by kernel_rfl) (by kernel_rfl) (fun _ _ _ h => h) (Or.inl ⟨by rfl, ?yb6⟩) HB5.out ?rb6
          case yb6 => (intro W hSw; (try dsimp only at hSw); (try simp only [List.getElem_toArray, List.getElem_cons_succ, List.getElem_cons_zero]); go_simp; first | done | with_reducible rfl)
          try simp only [Act.put, List.getElem_toArray, List.getElem_cons_succ, List.getElem_cons_zero, List.setIfInBounds_toArray, List.set_cons_zero, List.set_cons_succ]
          refine wpAnyH_done (by kernel_rfl) ?_ _
          go_wp2
          go_meet
          case rel => exact ⟨A5, c5, rfl, vts_read N5.out, HB5.out⟩
        · simp only [List.getElem_toArray, List.getElem_cons_succ, List.getElem_cons_zero]
          go_simp
          refine hK.out _ _ (((Below.refl W1.heap.size W1).drew.alloc (Nat.le_refl _) (.cells #[] 44)).alloc (by simp) (.cells #[.int .i64 v.frm, .int .i64 v.r, .int .i64 v.t] 44)) (fun hH2 => ?_)
          clear hK hH2
          refine wpAnyH_ready (rs := [2]) (by kernel_rfl) (by simp) ?_
          refine AllReadyH.cons rfl (fun K hK => ?_) AllReadyH.nil
          refine step_append_wide (by rfl) (.tmp 22) (.tmp 23) 35 (by rfl) W1.heap.size 44 i0 (.agg #[.int .i64 0, .int .i64 0, .int .i64 0]) 3 24 Try.underlying35 hi hz0 hz1 hz2 rfl (by omega) _ 0 [] (by rfl) (own_later (own_empty W1.drew W1.heap.size _ 3 W1.heap.size rfl (Nat.le_refl _)) ((Below.refl _ _).alloc (Nat.le_refl _) _)) A X.length c (X.flatMap Vt.cells) (by rfl) (HR1.out.below (((Below.refl W1.heap.size W1).drew.alloc (Nat.le_refl _) (.cells #[] 44)).alloc (by simp) (.cells #[.int .i64 v.frm, .int .i64 v.r, .int .i64 v.t] 44))) (flat_length Vt.cells_length X) (vts_one X) (by unfold maxLen; omega) (by omega) (by have := (((Below.refl W1.heap.size W1).drew.alloc (Nat.le_refl _) (.cells #[] 44)).alloc (by simp) (.cells #[.int .i64 v.frm, .int .i64 v.r, .int .i64 v.t] 44)).size; first | exact this | omega) ?_
          intro A3 c3 w3 n3 g3 t3
          have HB3 := hide ((((Below.refl W1.heap.size W1).drew.alloc (Nat.le_refl _) (.cells #[] 44)).alloc (by simp) (.cells #[.int .i64 v.frm, .int .i64 v.r, .int .i64 v.t] 44)).grown g3 (by simp; try omega) (fun g hg => by have h : some (W1.heap.size) = some g := hg; injection h with h; omega))
          simp only [Nat.zero_add, List.nil_append] at n3 ⊢
          have N3 := hide n3
          have KV : Hid (Reads w3 (some ⟨W1.heap.size + 1, 0, none⟩) v.cells) := hide (Reads.grown (Reads.new_at (W1.drew.alloc (.cells #[] 44)) v.cells _ _ (W1.heap.size + 1) (by simp)) g3 (fun b off he h => by injection he with he; injection he with he1 _; have h' : some b = some (W1.heap.size) := h; injection h' with h'; omega))
          clear n3 g3 t3
          refine hK.out _ _ HB3.out (fun hH2 => ?_)
          clear hK hH2
          try simp only [Act.put, List.getElem_toArray, List.getElem_cons_succ, List.getElem_cons_zero, List.setIfInBounds_toArray, List.set_cons_zero, List.set_cons_succ]
          refine wpAnyH_ready (rs := [5]) (by kernel_rfl) (by simp) ?_
          refine AllReadyH.cons rfl (fun K hK => ?_) AllReadyH.nil
          refine step_append_wide (by rfl) (.tmp 24) (.tmp 26) 35 (by rfl) W1.heap.size 44 i0 (.agg #[.int .i64 0, .int .i64 0, .int .i64 0]) 3 24 Try.underlying35 hi hz0 hz1 hz2 rfl (by omega) _ X.length (X.flatMap Vt.cells) (by rfl) N3.out (some ⟨W1.heap.size + 1, 0, none⟩) 1 1 v.cells (by rfl) KV.out rfl (vt_one v) (by unfold maxLen; omega) (by omega) (by have := HB3.out.size; first | exact this | omega) ?_
          intro A5 c5 w5 n5 g5 t5
          have HB5 := hide (HB3.out.grown g5 (by have := HB3.out.size; simp at this ⊢; try omega) (fun g hg => (N3.out.lt g hg).1))
          have N5 := hide n5
          clear n5 g5 t5
          refine hK.out _ _ HB5.out (fun hH2 => ?_)
          clear hK hH2
          try simp only [Act.put, List.getElem_toArray, List.getElem_cons_succ, List.getElem_cons_zero, List.setIfInBounds_toArray, List.set_cons_zero, List.set_cons_succ]
          refine wpAnyH_take (i := 6) (v := ?vc6) rfl (by kernel_rfl) (by kernel_rfl) (by kernel_rfl) (fun _ _ _ h => h) (Or.inl ⟨by rfl, ?yc6⟩) HB5.out ?rc6
          case yc6 => (intro W hSw; (try dsimp only at hSw); (try simp only [List.getElem_toArray, List.getElem_cons_succ, List.getElem_cons_zero]); go_simp; first | done | with_reducible rfl)
          try simp only [Act.put, List.getElem_toArray, List.getElem_cons_succ, List.getElem_cons_zero, List.setIfInBounds_toArray, List.set_cons_zero, List.set_cons_succ]
          refine wpAnyH_done (by kernel_rfl) ?_ _
          go_wp2
          go_meet
          case rel => exact ⟨A5, c5, rfl, vts_read N5.out, HB5.out⟩
      · simp only [List.getElem_toArray, List.getElem_cons_succ, List.getElem_cons_zero]
        go_simp
        refine hK.out _ _ ((Below.refl W1.heap.size W1).drew.alloc (Nat.le_refl _) (.cells #[.int .i64 v.frm, .int .i64 v.r, .int .i64 v.t] 44)) (fun hH2 => ?_)
        clear hK hH2
        refine wpAnyH_ready (rs := [0]) (by kernel_rfl) (by simp) ?_
        refine AllReadyH.cons rfl (fun K hK => ?_) AllReadyH.nil
        simp only [List.getElem_toArray, List.getElem_cons_zero]
        go_simp
        refine hK.out _ _ (((Below.refl W1.heap.size W1).drew.alloc (Nat.le_refl _) (.cells #[.int .i64 v.frm, .int .i64 v.r, .int .i64 v.t] 44)).alloc (by simp) (.cells #[] 44)) (fun hH2 => ?_)
        clear hK hH2
        refine wpAnyH_ready (rs := [2]) (by kernel_rfl) (by simp) ?_
        refine AllReadyH.cons rfl (fun K hK => ?_) AllReadyH.nil
        refine step_append_wide (by rfl) (.tmp 22) (.tmp 23) 35 (by rfl) W1.heap.size 44 i0 (.agg #[.int .i64 0, .int .i64 0, .int .i64 0]) 3 24 Try.underlying35 hi hz0 hz1 hz2 rfl (by omega) _ 0 [] (by rfl) (own_empty (W1.drew.alloc (.cells #[.int .i64 v.frm, .int .i64 v.r, .int .i64 v.t] 44)) W1.heap.size _ 3 (W1.heap.size + 1) (by simp) (by omega)) A X.length c (X.flatMap Vt.cells) (by rfl) (HR1.out.below (((Below.refl W1.heap.size W1).drew.alloc (Nat.le_refl _) (.cells #[.int .i64 v.frm, .int .i64 v.r, .int .i64 v.t] 44)).alloc (by simp) (.cells #[] 44))) (flat_length Vt.cells_length X) (vts_one X) (by unfold maxLen; omega) (by omega) (by have := (((Below.refl W1.heap.size W1).drew.alloc (Nat.le_refl _) (.cells #[.int .i64 v.frm, .int .i64 v.r, .int .i64 v.t] 44)).alloc (by simp) (.cells #[] 44)).size; first | exact this | omega) ?_
        intro A3 c3 w3 n3 g3 t3
        have HB3 := hide ((((Below.refl W1.heap.size W1).drew.alloc (Nat.le_refl _) (.cells #[.int .i64 v.frm, .int .i64 v.r, .int .i64 v.t] 44)).alloc (by simp) (.cells #[] 44)).grown g3 (by simp; try omega) (fun g hg => by have h : some (W1.heap.size + 1) = some g := hg; injection h with h; omega))
        simp only [Nat.zero_add, List.nil_append] at n3 ⊢
        have N3 := hide n3
        have KV : Hid (Reads w3 (some ⟨W1.heap.size, 0, none⟩) v.cells) := hide (Reads.grown ((Reads.new W1.drew v.cells _ _).alloc (.cells #[] 44)) g3 (fun b off he h => by injection he with he; injection he with he1 _; have h' : some b = some (W1.heap.size + 1) := h; injection h' with h'; omega))
        clear n3 g3 t3
        refine hK.out _ _ HB3.out (fun hH2 => ?_)
        clear hK hH2
        try simp only [Act.put, List.getElem_toArray, List.getElem_cons_succ, List.getElem_cons_zero, List.setIfInBounds_toArray, List.set_cons_zero, List.set_cons_succ]
        refine wpAnyH_ready (rs := [5]) (by kernel_rfl) (by simp) ?_
        refine AllReadyH.cons rfl (fun K hK => ?_) AllReadyH.nil
        refine step_append_wide (by rfl) (.tmp 24) (.tmp 26) 35 (by rfl) W1.heap.size 44 i0 (.agg #[.int .i64 0, .int .i64 0, .int .i64 0]) 3 24 Try.underlying35 hi hz0 hz1 hz2 rfl (by omega) _ X.length (X.flatMap Vt.cells) (by rfl) N3.out (some ⟨W1.heap.size, 0, none⟩) 1 1 v.cells (by rfl) KV.out rfl (vt_one v) (by unfold maxLen; omega) (by omega) (by have := HB3.out.size; first | exact this | omega) ?_
        intro A5 c5 w5 n5 g5 t5
        have HB5 := hide (HB3.out.grown g5 (by have := HB3.out.size; simp at this ⊢; try omega) (fun g hg => (N3.out.lt g hg).1))
        have N5 := hide n5
        clear n5 g5 t5
        refine hK.out _ _ HB5.out (fun hH2 => ?_)
        clear hK hH2
        try simp only [Act.put, List.getElem_toArray, List.getElem_cons_succ, List.getElem_cons_zero, List.setIfInBounds_toArray, List.set_cons_zero, List.set_cons_succ]
        refine wpAnyH_take (i := 6) (v := ?vd6) rfl (by kernel_rfl) (by kernel_rfl) (by kernel_rfl) (fun _ _ _ h => h) (Or.inl ⟨by rfl, ?yd6⟩) HB5.out ?rd6
        case yd6 => (intro W hSw; (try dsimp only at hSw); (try simp only [List.getElem_toArray, List.getElem_cons_succ, List.getElem_cons_zero]); go_simp; first | done | with_reducible rfl)
        try simp only [Act.put, List.getElem_toArray, List.getElem_cons_succ, List.getElem_cons_zero, List.setIfInBounds_toArray, List.set_cons_zero, List.set_cons_succ]
        refine wpAnyH_done (by kernel_rfl) ?_ _
        go_wp2
        go_meet
        case rel => exact ⟨A5, c5, rfl, vts_read N5.out, HB5.out⟩
    obtain ⟨A5, c5, rfl, hR5, hb5⟩ := hcut
    have lenM : (X ++ [v]).length = X.length + 1 := by simp
    have HXV : Hid (fineV (X ++ [v])) := hide (fun x hx => by
      rcases List.mem_append.1 hx with h | h
      · exact HX.out x h
      · simp at h; subst h; exact HV.out)
    have KV5 := hide ((hb5.block _ (blk_lt KV1.out)).trans KV1.out)
    have KB5 := hide ((hb5.block _ (blk_lt KB1.out)).trans KB1.out)
    have HB5 := hide (below_next HB1.out hb5)
    have HR5 := hide hR5
    have HGL := hide (great_least (l := X ++ [v]) (v := v) (by simp))
    have CG := great_any A5 c5 (X ++ [v]) wc HR5.out (by omega)
    have HMO := hide (fun (d : decided r t k X = true) => decided_more (m := X ++ [v]) (fun x hx => by simp [hx]) d)
    rw [show anyV (X ++ [v]) = true by simp [anyV]] at CG
    obtain ⟨g1, hg1⟩ : ∃ g, g = (great (X ++ [v])).1 := ⟨_, rfl⟩
    obtain ⟨g2, hg2⟩ : ∃ g, g = (great (X ++ [v])).2 := ⟨_, rfl⟩
    rw [lenM, ← hg1, ← hg2] at CG
    rw [← hg1, ← hg2] at HGL
    have CG := hide CG
    have HLM := hide lenM
    clear hg1 hg2 hR5 hb5 lenM HR1 CV KV1 KB1
    go_wp2_with fail
    refine CG.out.mono ?_
    rintro e w6 ⟨rfl, hb6⟩
    go_upto_region 7 with fail
    have hN := one_new w6 (.cells #[.int .i64 g1, .int .i64 g2] 32)
    generalize w6.alloc (.cells #[.int .i64 g1, .int .i64 g2] 32) = W6 at *
    obtain ⟨KX, hs6, hbx⟩ := hN
    have hbW := below_next hb6 hbx
    have KV6 := hide ((hbW.block _ (blk_lt KV5.out)).trans KV5.out)
    have KB6 := hide ((hbW.block _ (blk_lt KB5.out)).trans KB5.out)
    have HB6 := hide (below_next HB5.out hbW)
    have HR6 := hide (HR5.out.below hbW)
    have KX6 := hide KX
    clear hb6 hbx hbW hs6 KX CG HR5 HB5 KV5 KB5
    obtain ⟨x0, x1, x2⟩ := three_at KV6.out
    have hlt6 : w.heap.size < W6.heap.size := blk_lt KV6.out
    go_wp2_with fail
    have CD := decided_any (some ⟨W6.heap.size, 0, none⟩) 4 [v, v, v, v] v.r v.t k (W6.alloc (.cells (List.flatMap Vt.cells [v, v, v, v]).toArray 44)) (Reads.new W6 _ _ _) (fun x hx => by
      simp only [List.mem_cons, List.not_mem_nil, or_false, or_self] at hx
      subst hx
      exact HV.out) (by simp) (by omega)
    rw [alone_not (f := v.frm) hk3 (fun x hx => by
      simp only [List.mem_cons, List.not_mem_nil, or_false, or_self] at hx
      rw [hx])] at CD
    refine CD.mono ?_
    rintro e w7 ⟨rfl, hb7⟩
    have hbW := below_next ((Below.refl W6.heap.size W6).alloc (Nat.le_refl _) (.cells (List.flatMap Vt.cells [v, v, v, v]).toArray 44)) hb7
    have KV7 := hide ((hbW.block _ (blk_lt KV6.out)).trans KV6.out)
    have KB7 := hide ((hbW.block _ (blk_lt KB6.out)).trans KB6.out)
    have KX7 := hide ((hbW.block _ (blk_lt KX6.out)).trans KX6.out)
    have HB7 := hide (below_next HB6.out hbW)
    have HR7 := hide (HR6.out.below hbW)
    clear CD hb7 hbW HB6 HR6 KV6 KB6 KX6 x0 x1 x2
    obtain ⟨x0, x1, x2⟩ := three_at KV7.out
    obtain ⟨y0, y1⟩ := two_at KX7.out
    have CC := hide (fun (W : World) => rcompare_any g1 g2 v.r v.t W)
    generalize Bal.compare g1 g2 v.r v.t = z at *
    have hz : ¬ z < 0 := by have := HGL.out; omega
    have tz : decide (z < 0) = false := by simpa using hz
    go_wp2_with fail
    refine (CC.out _).mono ?_
    rintro e w8 ⟨rfl, hb8⟩
    have KB8 := hide ((hb8.block _ (blk_lt KB7.out)).trans KB7.out)
    have HB8 := hide (below_next HB7.out hb8)
    have HR8 := hide (HR7.out.below hb8)
    clear hb8 HB7 HR7 KV7 KB7 KX7 CC x0 x1 x2 y0 y1
    obtain ⟨y0, y1⟩ := two_at KB8.out
    have CD := hide (decided_any A c X r t k w8 (HR.out.below HB8.out) HX.out (by omega) (by omega))
    have CE := hide (fun (W : World) (hW : Below w8.heap.size w8 W) => decided_any A5 c5 (X ++ [v]) r t k W (HR8.out.below hW) HXV.out (by have := HLM.out; omega) (by omega))
    rw [HLM.out] at CE
    cases hd : decided r t k X
    · rw [hd] at CD
      clear hd
      go_wp2_with fail
      refine CD.out.mono ?_
      rintro e w9 ⟨rfl, hb9⟩
      have HB9 := hide (below_next HB8.out hb9)
      clear y0 y1 hb9
      go_wp2
      go_ret
      exact ⟨rfl, HB9.out⟩
    · have hd2 := HMO.out hd
      rw [hd] at CD
      rw [hd2] at CE
      clear hd hd2 HMO
      go_wp2_with fail
      refine CD.out.mono ?_
      rintro e w9 ⟨rfl, hb9⟩
      have KB9 := hide ((hb9.block _ (blk_lt KB8.out)).trans KB8.out)
      clear y0 y1
      obtain ⟨y0, y1⟩ := two_at KB9.out
      have HB9 := hide hb9
      clear hb9
      go_wp2_with fail
      refine (CE.out _ HB9.out).mono ?_
      rintro e w10 ⟨rfl, hb10⟩
      have HB10 := hide (below_next (below_next HB8.out HB9.out) hb10)
      clear y0 y1 hb10
      go_wp2
      go_ret
      exact ⟨rfl, HB10.out⟩

set_option maxRecDepth 100000 in
theorem proposerMore_lifted (os : Os) (started : os.Started) (H : Type) (enc : TypeId × Value → H) :
    ReturnsInHanded {} Try.checked os 6 .any (Rows.proposerMoreSpec.pre6 enc Try.prog Try.f6 Rows.proposerMoreRow.domain false) (Rows.proposerMoreSpec.post enc Try.prog Try.f6 false true false false) := by
  refine returnsInHanded_of_change_sized (C := Try.checked) (by kernel_rfl) started (by kernel_rfl) Try.func6
    (ChangeSpec.witness6 (enc := enc) (C := Try.checked) false ⟨#[], #[.slice none 0 0, .agg #[.int .i64 0, .int .i64 0, .int .i64 0], .agg #[.int .i64 0, .int .i64 0]], []⟩ 8 (by kernel_rfl) (by kernel_rfl) (by kernel_rfl) (by kernel_rfl)) ?_
  intro W base args ds gs before hval0 hW _ hsz0 _
  have hval : ∀ (j : Nat) t v, Try.f6.params[j]? = some t → args[j]? = some v → Value.okWide Try.prog W .any base t v := hval0
  have hW' := hW
  obtain ⟨p, q, hA0, hV, rfl, _, _⟩ := hW
  have hA : DataW.TrodAll enc Try.prog W 0 (fun _ => true) true Try.f6.params.toList args.toList ds p := hA0
  have _hsz : (DataW.weightsEach Try.prog (Try.f6.params.toList ++ Rows.proposerMoreSpec.plain.varTypes Try.prog) (ds ++ gs)).all (· ≤ reachBytes) = true := hsz0
  rw [Try.params6] at hA hval
  obtain ⟨v0, v1, v2, d0, d1, d2, p0, p1, p2, rfl, rfl, rfl, h0, h1, h2⟩ := trodAll_three hA
  obtain ⟨u2_0, u2_1, y2_0, y2_1, n2, rfl, rfl, rfl, hy2_0, hy2_1⟩ := Joins.open_agg2 Try.underlying32 (by kernel_rfl) (by kernel_rfl) (hval 2 32 v2 rfl rfl) h2
  obtain ⟨x2_0, e2_0, rfl, wf2_0⟩ := DataW.trod_int Try.underlying3 hy2_0
  have bd2_0 := bounds_i64 wf2_0
  simp only [List.cons.injEq, and_true] at e2_0
  subst e2_0
  obtain ⟨x2_1, e2_1, rfl, wf2_1⟩ := DataW.trod_int Try.underlying3 hy2_1
  have bd2_1 := bounds_i64 wf2_1
  simp only [List.cons.injEq, and_true] at e2_1
  subst e2_1
  obtain ⟨A0, cap0, n0, V, fuel, D, rfl, _, _, hR0, hel, hn0⟩ := open_rows Try.underlying35 (C := 3) (by kernel_rfl) (by omega) (hval 0 35 v0 rfl rfl) h0
  obtain ⟨X, rfl, hX1, hX2⟩ := rows_votes hR0 (fun i hi => vote_cells (hel i hi).1 (hel i hi).2.choose_spec)
  obtain ⟨cs1, rfl, hz1⟩ := okWide_struct Try.underlying44 (hval 1 44 v1 rfl rfl)
  obtain ⟨fuel1, hf1⟩ := h1
  obtain ⟨y1, hc1, hy1⟩ := vote_cells (by simpa [Value.cells] using hz1.trans (show Try.prog.cellsOf 44 = 3 by kernel_rfl)) hf1
  obtain rfl := agg_list (l := y1.cells.toArray) (by simpa using hc1)
  refine (proposerMore_walk A0 cap0 X y1 x2_0 x2_1 W hX1 (fineV_of hX2) hy1.1).mono fun e W' ⟨he, hb⟩ => ?_
  subst he
  exact ⟨_, rfl, post_law (by kernel_rfl) (by kernel_rfl) rfl hW' (by rintro _ rfl; rfl) rfl Try.underlying4 hb⟩

theorem proposerMore_holds : Rows.ProposerMoreSaid :=
  OpenClaim.holds_of_wide 6 Try.f6 rfl rfl rfl rfl rfl rfl rfl ⟨rfl, rfl, rfl, rfl, rfl⟩ rfl rfl rfl rfl rfl (by kernel_rfl) Try.func6 (by kernel_rfl)
    (of_decide_eq_true (by kernel_rfl)) (by unfold Func.isWrapper; first | (rw [if_pos (by decide +kernel)]; kernel_rfl) | (rw [if_neg (by decide +kernel)]; exact ⟨rfl, rfl⟩))
    (fun os started H enc _ => proposerMore_lifted os started H enc)

end Go.Proofs.Ytodlabpgjgbbpah
