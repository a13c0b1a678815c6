/-
  Whether two lists of bytes are alike.
-/
import Derived.Test.YtodlabpgjgbbpafFrmWhole
import Derived.Deep.RegionHeld3
namespace Go.Proofs.Ytodlabpgjgbbpaf
open Go.RowKit Go.Agio

/-- The slice at A reads as a list of lists of bytes. -/
def RowsRd (w : World) (A : Option Addr) (l : List (List Int)) : Prop :=
  ∃ vals, Reads w A vals ∧ vals.length = l.length ∧ ∀ i, i < l.length → ∃ B c, vals.getD i undef = .slice B (l.getD i []).length c ∧ Reads w B (bys (l.getD i []))
theorem RowsRd.below {w w' : World} {A : Option Addr} {l : List (List Int)} (h : RowsRd w A l) (hb : Below w.heap.size w w') : RowsRd w' A l := by
  obtain ⟨vals, h1, h2, h3⟩ := h
  exact ⟨vals, h1.below hb, h2, fun i hi => by obtain ⟨B, c, g1, g2⟩ := h3 i hi; exact ⟨B, c, g1, g2.below hb⟩⟩
theorem RowsRd.at_ {w : World} {A : Option Addr} {l : List (List Int)} (h : RowsRd w A l) {k : Nat} (hk : k < l.length) :
    ∃ b off B c, A = some ⟨b, off, none⟩ ∧ b < w.heap.size ∧ w.cell? ⟨b, off + k, none⟩ = some (.slice B (l.getD k []).length c) ∧ Reads w B (bys (l.getD k [])) := by
  obtain ⟨vals, h1, h2, h3⟩ := h
  obtain ⟨b, off, rfl, hb, hc⟩ := h1.at_ (k := k) (by omega)
  obtain ⟨B, c, g1, g2⟩ := h3 k hk
  exact ⟨b, off, B, c, rfl, hb, by rw [hc k (by omega), g1], g2⟩
theorem rows_eq {xs ys : List (List Int)} (hl : xs.length = ys.length) (h : ∀ i, i < xs.length → xs.getD i [] = ys.getD i []) : xs = ys := by
  apply List.ext_getElem hl
  intro i h1 h2
  have := h i h1
  simpa [List.getD_eq_getElem?_getD, List.getElem?_eq_getElem h1, List.getElem?_eq_getElem h2] using this

set_option maxRecDepth 100000 in
set_option maxHeartbeats 4000000 in
theorem rsame_any (A B : Option Addr) (c d : Nat) (xs ys : List (List Int)) (w : World) (hA : RowsRd w A xs) (hB : RowsRd w B ys) (hx : ∀ x ∈ xs, ∀ z ∈ x, 0 ≤ z ∧ z ≤ 255) (hy : ∀ x ∈ ys, ∀ z ∈ x, 0 ≤ z ∧ z ≤ 255) (hm : xs.length ≤ 4611686018427387904) (_hm' : ys.length ≤ 4611686018427387904) :
    Calls Try.prog 15 #[.slice A xs.length c, .slice B ys.length d] w fun e w' => e = .returned (.bool (decide (xs = ys))) ∧ Below w.heap.size w w' := by
  have HA := hide hA
  have HB := hide hB
  have HX := hide hx
  have HY := hide hy
  clear hA hB hx hy
  by_cases hl : xs.length = ys.length
  · obtain ⟨n, hn⟩ : ∃ n, n = xs.length := ⟨_, rfl⟩
    rw [← hl, ← hn]
    rw [← hn] at hm
    have hyn : ys.length = n := by omega
    have HN := hide hn
    have HYN := hide hyn
    clear hl hn hyn
    go_enter Try.func15, Try.ntmps15
    go_wp2
    go_loopw [5] (fun i wr => ∃ k : Nat, k ≤ n ∧ i = .int .i64 k ∧ (∀ i, i < k → xs.getD i [] = ys.getD i []) ∧ Below w.heap.size w wr) (fun i _ => n - (intOf i).toNat)
    case atStart => exact ⟨0, Nat.zero_le _, rfl, fun i hi => absurd hi (Nat.not_lt_zero _), Below.refl _ _⟩
    case round =>
      obtain ⟨k, hk, rfl, hall, hBw⟩ := hrel
      have HALL := hide hall
      have HW := hide hBw
      clear hall hBw
      by_cases h1 : k < n
      · obtain ⟨b, off, A1, c1, rfl, hb, hc, hr⟩ := (HA.out.below HW.out).at_ (k := k) (by rw [← HN.out]; exact h1)
        obtain ⟨b', off', A2, c2, rfl, hb', hc', hr'⟩ := (HB.out.below HW.out).at_ (k := k) (by rw [HYN.out]; exact h1)
        have HF := hide (str_beq (HX.out (xs.getD k []) (by have := HN.out; simp [List.getD_eq_getElem?_getD, show k < xs.length by omega])) (HY.out (ys.getD k []) (by have := HYN.out; simp [List.getD_eq_getElem?_getD, show k < ys.length by omega])))
        have HE := hide (show xs.getD k [] = ys.getD k [] → ∀ i, i < k + 1 → xs.getD i [] = ys.getD i [] from fun h i hi => by
          rcases Nat.lt_or_ge i k with h' | h'
          · exact HALL.out i h'
          · obtain rfl : i = k := by omega
            exact h)
        have HNE := hide (show ¬ xs.getD k [] = ys.getD k [] → xs ≠ ys from fun h h' => h (by rw [h']))
        generalize xs.getD k [] = u at *
        generalize ys.getD k [] = v at *
        have q1 := str_reads _ A1 u.length c1 u hr rfl
        have q2 := str_reads _ A2 v.length c2 v hr' rfl
        have HS := hide (show _ ∧ _ ∧ _ ∧ _ from ⟨hc, hc', str_reads _ A1 u.length c1 u hr.drew rfl, str_reads _ A2 v.length c2 v hr'.drew rfl⟩)
        clear hr hr' q1 q2
        by_cases h2 : u = v
        · subst h2
          have e1 : ((strOfNums u).toList == (strOfNums u).toList) = true := by simp
          go_wp2
          refine wp_region_held_drew (S := fun W => W.cell? ⟨b, off + k, none⟩ = some (.slice A1 u.length c1) ∧ W.cell? ⟨b', off' + k, none⟩ = some (.slice A2 u.length c2) ∧ (convert 22 9 (.slice A1 u.length c1)).run Try.prog W = .ok (.string (strOfNums u)) W ∧ (convert 22 9 (.slice A2 u.length c2)).run Try.prog W = .ok (.string (strOfNums u)) W) (by kernel_rfl) HS.out (fun hH => ?_)
          refine wpAnyH_take (i := 0) (v := ?v0) rfl (by kernel_rfl) (by kernel_rfl) (by kernel_rfl) (fun _ _ _ h => h) (Or.inl ⟨by rfl, ?y0⟩) hH ?r0
          case y0 => (intro W hSw; (try dsimp only at hSw); (try simp only [List.getElem_toArray, List.getElem_cons_zero]); go_simp; first | done | with_reducible rfl)
          try simp only [Act.put, List.getElem_toArray, List.getElem_cons_zero, List.setIfInBounds_toArray, List.set_cons_zero, List.set_cons_succ]
          refine wpAnyH_take (i := 1) (v := ?v1) rfl (by kernel_rfl) (by kernel_rfl) (by kernel_rfl) (fun _ _ _ h => h) (Or.inl ⟨by rfl, ?y1⟩) hH ?r1
          case y1 => (intro W hSw; (try dsimp only at hSw); (try simp only [List.getElem_toArray, List.getElem_cons_succ, List.getElem_cons_zero]); go_simp; first | done | with_reducible rfl)
          try simp only [Act.put, List.getElem_toArray, List.getElem_cons_succ, List.getElem_cons_zero, List.setIfInBounds_toArray, List.set_cons_zero, List.set_cons_succ]
          refine wpAnyH_take (i := 2) (v := ?v2) rfl (by kernel_rfl) (by kernel_rfl) (by kernel_rfl) (fun _ _ _ h => h) (Or.inl ⟨by rfl, ?y2⟩) hH ?r2
          case y2 => (intro W hSw; (try dsimp only at hSw); (try simp only [List.getElem_toArray, List.getElem_cons_succ, List.getElem_cons_zero]); go_simp; first | done | with_reducible rfl)
          try simp only [Act.put, List.getElem_toArray, List.getElem_cons_succ, List.getElem_cons_zero, List.setIfInBounds_toArray, List.set_cons_zero, List.set_cons_succ]
          refine wpAnyH_take (i := 3) (v := ?v3) rfl (by kernel_rfl) (by kernel_rfl) (by kernel_rfl) (fun _ _ _ h => h) (Or.inl ⟨by rfl, ?y3⟩) hH ?r3
          case y3 => (intro W hSw; (try dsimp only at hSw); (try simp only [List.getElem_toArray, List.getElem_cons_succ, List.getElem_cons_zero]); go_simp; first | done | with_reducible rfl)
          try simp only [Act.put, List.getElem_toArray, List.getElem_cons_succ, List.getElem_cons_zero, List.setIfInBounds_toArray, List.set_cons_zero, List.set_cons_succ]
          refine wpAnyH_take (i := 4) (v := ?v4) rfl (by kernel_rfl) (by kernel_rfl) (by kernel_rfl) (fun _ _ _ h => h) (Or.inl ⟨by rfl, ?y4⟩) hH ?r4
          case y4 => (intro W hSw; (try dsimp only at hSw); (try simp only [List.getElem_toArray, List.getElem_cons_succ, List.getElem_cons_zero]); go_simp; first | done | with_reducible rfl)
          try simp only [Act.put, List.getElem_toArray, List.getElem_cons_succ, List.getElem_cons_zero, List.setIfInBounds_toArray, List.set_cons_zero, List.set_cons_succ]
          refine wpAnyH_take (i := 5) (v := ?v5) rfl (by kernel_rfl) (by kernel_rfl) (by kernel_rfl) (fun _ _ _ h => h) (Or.inl ⟨by rfl, ?y5⟩) hH ?r5
          case y5 => (intro W hSw; (try dsimp only at hSw); (try simp only [List.getElem_toArray, List.getElem_cons_succ, List.getElem_cons_zero]); go_simp; first | done | with_reducible rfl)
          try simp only [Act.put, List.getElem_toArray, List.getElem_cons_succ, List.getElem_cons_zero, List.setIfInBounds_toArray, List.set_cons_zero, List.set_cons_succ]
          refine wpAnyH_take (i := 6) (v := ?v6) rfl (by kernel_rfl) (by kernel_rfl) (by kernel_rfl) (fun _ _ _ h => h) (Or.inl ⟨by rfl, ?y6⟩) hH ?r6
          case y6 => (intro W hSw; (try dsimp only at hSw); (try simp only [List.getElem_toArray, List.getElem_cons_succ, List.getElem_cons_zero]); go_simp; first | done | with_reducible rfl)
          try simp only [Act.put, List.getElem_toArray, List.getElem_cons_succ, List.getElem_cons_zero, List.setIfInBounds_toArray, List.set_cons_zero, List.set_cons_succ]
          refine wpAnyH_take (i := 7) (v := ?v7) rfl (by kernel_rfl) (by kernel_rfl) (by kernel_rfl) (fun _ _ _ h => h) (Or.inl ⟨by rfl, ?y7⟩) hH ?r7
          case y7 => (intro W hSw; (try dsimp only at hSw); (try simp only [List.getElem_toArray, List.getElem_cons_succ, List.getElem_cons_zero]); go_simp; first | done | with_reducible rfl)
          try simp only [Act.put, List.getElem_toArray, List.getElem_cons_succ, List.getElem_cons_zero, List.setIfInBounds_toArray, List.set_cons_zero, List.set_cons_succ]
          refine wpAnyH_take (i := 8) (v := ?v8) rfl (by kernel_rfl) (by kernel_rfl) (by kernel_rfl) (fun _ _ _ h => h) (Or.inl ⟨by rfl, ?y8⟩) hH ?r8
          case y8 => (intro W hSw; (try dsimp only at hSw); (try simp only [List.getElem_toArray, List.getElem_cons_succ, List.getElem_cons_zero]); go_simp; first | done | with_reducible rfl)
          try simp only [Act.put, List.getElem_toArray, List.getElem_cons_succ, List.getElem_cons_zero, List.setIfInBounds_toArray, List.set_cons_zero, List.set_cons_succ]
          refine wpAnyH_take (i := 9) (v := ?v9) rfl (by kernel_rfl) (by kernel_rfl) (by kernel_rfl) (fun _ _ _ h => h) (Or.inl ⟨by rfl, ?y9⟩) hH ?r9
          case y9 => (intro W hSw; (try dsimp only at hSw); (try simp only [List.getElem_toArray, List.getElem_cons_succ, List.getElem_cons_zero]); go_simp; first | done | with_reducible rfl)
          try simp only [Act.put, List.getElem_toArray, List.getElem_cons_succ, List.getElem_cons_zero, List.setIfInBounds_toArray, List.set_cons_zero, List.set_cons_succ]
          refine wpAnyH_take (i := 10) (v := ?v10) rfl (by kernel_rfl) (by kernel_rfl) (by kernel_rfl) (fun _ _ _ h => h) (Or.inl ⟨by rfl, ?y10⟩) hH ?r10
          case y10 => (intro W hSw; (try dsimp only at hSw); (try simp only [List.getElem_toArray, List.getElem_cons_succ, List.getElem_cons_zero]); go_simp; first | done | with_reducible rfl)
          try simp only [Act.put, List.getElem_toArray, List.getElem_cons_succ, List.getElem_cons_zero, List.setIfInBounds_toArray, List.set_cons_zero, List.set_cons_succ]
          refine wpAnyH_done (by kernel_rfl) ?_ _
          go_wp2
          go_roundw
          case rel => exact ⟨k + 1, by omega, by go_num, HE.out trivial, HW.out.drew⟩
          case measure => simp [intOf]; omega
        · have e1 : ((strOfNums u).toList == (strOfNums v).toList) = false := by rw [HF.out]; simp [h2]
          go_wp2
          refine wp_region_held_drew (S := fun W => W.cell? ⟨b, off + k, none⟩ = some (.slice A1 u.length c1) ∧ W.cell? ⟨b', off' + k, none⟩ = some (.slice A2 v.length c2) ∧ (convert 22 9 (.slice A1 u.length c1)).run Try.prog W = .ok (.string (strOfNums u)) W ∧ (convert 22 9 (.slice A2 v.length c2)).run Try.prog W = .ok (.string (strOfNums v)) W) (by kernel_rfl) HS.out (fun hH => ?_)
          refine wpAnyH_take (i := 0) (v := ?vf0) rfl (by kernel_rfl) (by kernel_rfl) (by kernel_rfl) (fun _ _ _ h => h) (Or.inl ⟨by rfl, ?yf0⟩) hH ?rf0
          case yf0 => (intro W hSw; (try dsimp only at hSw); (try simp only [List.getElem_toArray, List.getElem_cons_zero]); go_simp; first | done | with_reducible rfl)
          try simp only [Act.put, List.getElem_toArray, List.getElem_cons_zero, List.setIfInBounds_toArray, List.set_cons_zero, List.set_cons_succ]
          refine wpAnyH_take (i := 1) (v := ?vf1) rfl (by kernel_rfl) (by kernel_rfl) (by kernel_rfl) (fun _ _ _ h => h) (Or.inl ⟨by rfl, ?yf1⟩) hH ?rf1
          case yf1 => (intro W hSw; (try dsimp only at hSw); (try simp only [List.getElem_toArray, List.getElem_cons_succ, List.getElem_cons_zero]); go_simp; first | done | with_reducible rfl)
          try simp only [Act.put, List.getElem_toArray, List.getElem_cons_succ, List.getElem_cons_zero, List.setIfInBounds_toArray, List.set_cons_zero, List.set_cons_succ]
          refine wpAnyH_take (i := 2) (v := ?vf2) rfl (by kernel_rfl) (by kernel_rfl) (by kernel_rfl) (fun _ _ _ h => h) (Or.inl ⟨by rfl, ?yf2⟩) hH ?rf2
          case yf2 => (intro W hSw; (try dsimp only at hSw); (try simp only [List.getElem_toArray, List.getElem_cons_succ, List.getElem_cons_zero]); go_simp; first | done | with_reducible rfl)
          try simp only [Act.put, List.getElem_toArray, List.getElem_cons_succ, List.getElem_cons_zero, List.setIfInBounds_toArray, List.set_cons_zero, List.set_cons_succ]
          refine wpAnyH_take (i := 3) (v := ?vf3) rfl (by kernel_rfl) (by kernel_rfl) (by kernel_rfl) (fun _ _ _ h => h) (Or.inl ⟨by rfl, ?yf3⟩) hH ?rf3
          case yf3 => (intro W hSw; (try dsimp only at hSw); (try simp only [List.getElem_toArray, List.getElem_cons_succ, List.getElem_cons_zero]); go_simp; first | done | with_reducible rfl)
          try simp only [Act.put, List.getElem_toArray, List.getElem_cons_succ, List.getElem_cons_zero, List.setIfInBounds_toArray, List.set_cons_zero, List.set_cons_succ]
          refine wpAnyH_take (i := 4) (v := ?vf4) rfl (by kernel_rfl) (by kernel_rfl) (by kernel_rfl) (fun _ _ _ h => h) (Or.inl ⟨by rfl, ?yf4⟩) hH ?rf4
          case yf4 => (intro W hSw; (try dsimp only at hSw); (try simp only [List.getElem_toArray, List.getElem_cons_succ, List.getElem_cons_zero]); go_simp; first | done | with_reducible rfl)
          try simp only [Act.put, List.getElem_toArray, List.getElem_cons_succ, List.getElem_cons_zero, List.setIfInBounds_toArray, List.set_cons_zero, List.set_cons_succ]
          refine wpAnyH_take (i := 5) (v := ?vf5) rfl (by kernel_rfl) (by kernel_rfl) (by kernel_rfl) (fun _ _ _ h => h) (Or.inl ⟨by rfl, ?yf5⟩) hH ?rf5
          case yf5 => (intro W hSw; (try dsimp only at hSw); (try simp only [List.getElem_toArray, List.getElem_cons_succ, List.getElem_cons_zero]); go_simp; first | done | with_reducible rfl)
          try simp only [Act.put, List.getElem_toArray, List.getElem_cons_succ, List.getElem_cons_zero, List.setIfInBounds_toArray, List.set_cons_zero, List.set_cons_succ]
          refine wpAnyH_take (i := 6) (v := ?vf6) rfl (by kernel_rfl) (by kernel_rfl) (by kernel_rfl) (fun _ _ _ h => h) (Or.inl ⟨by rfl, ?yf6⟩) hH ?rf6
          case yf6 => (intro W hSw; (try dsimp only at hSw); (try simp only [List.getElem_toArray, List.getElem_cons_succ, List.getElem_cons_zero]); go_simp; first | done | with_reducible rfl)
          try simp only [Act.put, List.getElem_toArray, List.getElem_cons_succ, List.getElem_cons_zero, List.setIfInBounds_toArray, List.set_cons_zero, List.set_cons_succ]
          refine wpAnyH_take (i := 7) (v := ?vf7) rfl (by kernel_rfl) (by kernel_rfl) (by kernel_rfl) (fun _ _ _ h => h) (Or.inl ⟨by rfl, ?yf7⟩) hH ?rf7
          case yf7 => (intro W hSw; (try dsimp only at hSw); (try simp only [List.getElem_toArray, List.getElem_cons_succ, List.getElem_cons_zero]); go_simp; first | done | with_reducible rfl)
          try simp only [Act.put, List.getElem_toArray, List.getElem_cons_succ, List.getElem_cons_zero, List.setIfInBounds_toArray, List.set_cons_zero, List.set_cons_succ]
          refine wpAnyH_take (i := 8) (v := ?vf8) rfl (by kernel_rfl) (by kernel_rfl) (by kernel_rfl) (fun _ _ _ h => h) (Or.inl ⟨by rfl, ?yf8⟩) hH ?rf8
          case yf8 => (intro W hSw; (try dsimp only at hSw); (try simp only [List.getElem_toArray, List.getElem_cons_succ, List.getElem_cons_zero]); go_simp; first | done | with_reducible rfl)
          try simp only [Act.put, List.getElem_toArray, List.getElem_cons_succ, List.getElem_cons_zero, List.setIfInBounds_toArray, List.set_cons_zero, List.set_cons_succ]
          refine wpAnyH_take (i := 9) (v := ?vf9) rfl (by kernel_rfl) (by kernel_rfl) (by kernel_rfl) (fun _ _ _ h => h) (Or.inl ⟨by rfl, ?yf9⟩) hH ?rf9
          case yf9 => (intro W hSw; (try dsimp only at hSw); (try simp only [List.getElem_toArray, List.getElem_cons_succ, List.getElem_cons_zero]); go_simp; first | done | with_reducible rfl)
          try simp only [Act.put, List.getElem_toArray, List.getElem_cons_succ, List.getElem_cons_zero, List.setIfInBounds_toArray, List.set_cons_zero, List.set_cons_succ]
          refine wpAnyH_take (i := 10) (v := ?vf10) rfl (by kernel_rfl) (by kernel_rfl) (by kernel_rfl) (fun _ _ _ h => h) (Or.inl ⟨by rfl, ?yf10⟩) hH ?rf10
          case yf10 => (intro W hSw; (try dsimp only at hSw); (try simp only [List.getElem_toArray, List.getElem_cons_succ, List.getElem_cons_zero]); go_simp; first | done | with_reducible rfl)
          try simp only [Act.put, List.getElem_toArray, List.getElem_cons_succ, List.getElem_cons_zero, List.setIfInBounds_toArray, List.set_cons_zero, List.set_cons_succ]
          refine wpAnyH_done (by kernel_rfl) ?_ _
          go_wp2
          go_ret
          exact ⟨by rw [decide_eq_false (HNE.out h2)]; rfl, HW.out.drew⟩
      · obtain rfl : k = n := by omega
        go_wp2
        go_ret
        exact ⟨by rw [decide_eq_true (rows_eq (by rw [← HN.out, HYN.out]) (fun i hi => HALL.out i (by rw [HN.out]; exact hi)))]; rfl, HW.out⟩
  · have hne : decide (xs = ys) = false := decide_eq_false (fun h => hl (by rw [h]))
    have HNE := hide hne
    clear hne
    go_enter Try.func15, Try.ntmps15
    go_wp2
    go_ret
    exact ⟨by rw [HNE.out]; rfl, Below.refl _ _⟩

end Go.Proofs.Ytodlabpgjgbbpaf
