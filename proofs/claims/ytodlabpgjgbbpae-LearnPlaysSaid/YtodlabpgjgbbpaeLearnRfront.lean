/-
  What the document's Frontier and Top do.
-/
import Derived.Test.YtodlabpgjgbbpaeLearnRput
import Derived.Test.YtodlabpgjgbbpaeLearnMiss
namespace Go.Proofs.Ytodlabpgjgbbpae
open Go.RowKit Go.Agio

set_option maxRecDepth 100000 in
set_option maxHeartbeats 2000000 in
theorem rfront_any (b0 lim : Nat) (A : Option Addr) (c : Nat) (X : List (Int × List Int)) (w : World) (hX : Prs w b0 lim A c X) (hm : X.length ≤ 100000) :
    Calls Try.prog 20 #[.slice A X.length c] w fun e w' => e = .returned (.int .i64 (Lrn.front (Lrn.get X) : Int)) ∧ w = w' := by
  have CG := hide (fun k => rget_any b0 lim A c X k w hX hm)
  generalize Lrn.get X = M at *
  clear hX
  go_enter Try.func20, Try.ntmps20
  go_wp2_with fail
  go_loop [3] (fun s => ∃ p : Nat, s = .int .i64 p ∧ p ≤ 4096 ∧ Hid (∀ j : Nat, j < p → (M j).isSome = true)) (fun s => 4096 - (intOf s).toNat)
  case atStart => exact ⟨0, rfl, Nat.zero_le _, hide (fun j hj => absurd hj (Nat.not_lt_zero _))⟩
  case round =>
    obtain ⟨p, rfl, hp, HP⟩ := hrel
    by_cases hlt : p < 4096
    · have hlt' : (p : Int) < 4096 := by omega
      go_wp2_with fail
      refine (CG.out _).mono ?_
      rintro e w' ⟨B1, q1, rfl, r1, o1, l1, b1, rfl⟩
      clear r1 o1 l1 b1
      obtain ⟨y, hy⟩ : ∃ y, y = (M p).isSome := ⟨_, rfl⟩
      rw [← hy]
      have HY := hide hy
      clear hy
      cases y with
      | true =>
        go_wp2
        go_round
        case rel => exact ⟨p + 1, by go_num, by omega, hide (fun j hj => by
          by_cases e : j = p
          · subst e; exact HY.out.symm
          · exact HP.out j (by omega))⟩
        case measure => simp [intOf]; omega
      | false =>
        have HF := hide (Lrn.front_is hp HP.out (fun _ => HY.out.symm))
        go_wp2
        go_ret
        exact ⟨by rw [HF.out]; rfl, rfl⟩
    · obtain rfl : p = 4096 := by omega
      have HF := hide (Lrn.front_is hp HP.out (fun h => by omega))
      go_wp2
      go_ret
      exact ⟨by rw [HF.out]; rfl, rfl⟩

/-- Whatever is known is one of the pairs. -/
theorem get_mem {X : List (Int × List Int)} {k : Int} (h : (Lrn.get X k).isSome = true) : ∃ j, j < X.length ∧ (X.getD j (0, [])).1 = k := by
  rcases Classical.em (∃ j, j < X.length ∧ (X.getD j (0, [])).1 = k) with h' | h'
  · exact h'
  · rw [get_none fun j hj he => h' ⟨j, hj, he⟩] at h
    cases h
theorem get_is {X : List (Int × List Int)} {j : Nat} (hj : j < X.length) : (Lrn.get X (X.getD j (0, [])).1).isSome = true := by
  cases hg : Lrn.get X (X.getD j (0, [])).1 with
  | some v => rfl
  | none =>
    exfalso
    unfold Lrn.get at hg
    have : X.find? (fun p => p.1 == (X.getD j (0, [])).1) = none := by simpa using hg
    rw [List.find?_eq_none] at this
    have := this (X.getD j (0, [])) (by rw [List.getD_eq_getElem?_getD, List.getElem?_eq_getElem hj]; exact List.getElem_mem hj)
    simp at this

/-- What of the pairs ahead is so. -/
def TopAt (X : List (Int × List Int)) (i r : Nat) : Prop := (∀ j, j < i → (X.getD j (0, [])).1 < r) ∧ (0 < r → (Lrn.get X ((r : Int) - 1)).isSome = true)
theorem TopAt.zero (X : List (Int × List Int)) : TopAt X 0 0 := ⟨fun _ hj => absurd hj (Nat.not_lt_zero _), fun h => absurd h (Nat.lt_irrefl _)⟩
theorem TopAt.low {X : List (Int × List Int)} {i r : Nat} (h : TopAt X i r) (hk : (X.getD i (0, [])).1 < r) : TopAt X (i + 1) r := ⟨fun j hj => by
  rcases Nat.lt_or_ge j i with h' | h'
  · exact h.1 j h'
  · obtain rfl : j = i := by omega
    exact hk, h.2⟩
theorem TopAt.high {X : List (Int × List Int)} {i r k : Nat} (h : TopAt X i r) (hi : i < X.length) (hk : (X.getD i (0, [])).1 = (k : Int)) (hr : r ≤ k) : TopAt X (i + 1) (k + 1) := ⟨fun j _ => by
  rcases Nat.lt_or_ge j i with h' | h'
  · have := h.1 j h'; omega
  · obtain rfl : j = i := by omega
    rw [hk]; omega, fun _ => by rw [show ((k + 1 : Nat) : Int) - 1 = (k : Int) by omega, ← hk]; exact get_is hi⟩
theorem TopAt.top {X : List (Int × List Int)} {r : Nat} (hF : Lrn.Fine (Lrn.get X)) (h : TopAt X X.length r) : Lrn.top (Lrn.get X) = r :=
  Lrn.top_is hF (fun k hk => by obtain ⟨j, hj, rfl⟩ := get_mem hk; exact h.1 j hj) h.2

set_option maxRecDepth 100000 in
set_option maxHeartbeats 2000000 in
theorem rtop_any (b0 lim : Nat) (A : Option Addr) (c : Nat) (X : List (Int × List Int)) (w : World) (hX : Prs w b0 lim A c X) (hm : X.length ≤ 100000) (hF : Lrn.Fine (Lrn.get X)) :
    Calls Try.prog 26 #[.slice A X.length c] w fun e w' => e = .returned (.int .i64 (Lrn.top (Lrn.get X) : Int)) ∧ w = w' := by
  have HX := hide hX
  have HF := hide hF
  clear hX hF
  go_enter Try.func26, Try.ntmps26
  go_wp2_with fail
  go_loop [3, 4] (fun r s => ∃ i n : Nat, s = .int .i64 i ∧ r = .int .i64 n ∧ i ≤ X.length ∧ n ≤ 4096 ∧ Hid (TopAt X i n)) (fun _ s => X.length - (intOf s).toNat)
  case atStart => exact ⟨0, 0, rfl, rfl, Nat.zero_le _, Nat.zero_le _, hide (TopAt.zero X)⟩
  case round =>
    obtain ⟨i, n, rfl, rfl, hi, hn, HT⟩ := hrel
    by_cases hlt : i < X.length
    · obtain ⟨b, off, B, q, rfl, hb, hc1, hc2, hr, ho, hl, hbl⟩ := HX.out.at_ hlt
      obtain ⟨k, hk⟩ : ∃ k : Nat, (X.getD i (0, [])).1 = (k : Int) := ⟨(X.getD i (0, [])).1.toNat, by have := (HF.out _ (get_is hlt)).1; omega⟩
      have hk5 : k ≤ 4095 := by have := (HF.out _ (get_is hlt)).2; omega
      rw [hk] at hc1
      have HK := hide hk
      clear hc2 hr ho hl hbl hk
      by_cases h : n ≤ k
      · have h' : (n : Int) ≤ (k : Int) := by omega
        go_wp2
        go_round
        case rel => exact ⟨i + 1, k + 1, by go_num, by go_num, by omega, by omega, hide (HT.out.high hlt HK.out h)⟩
        case measure => simp [intOf]; omega
      · have h' : (k : Int) < (n : Int) := by omega
        go_wp2
        go_round
        case rel => exact ⟨i + 1, n, by go_num, rfl, by omega, by omega, hide (HT.out.low (by rw [HK.out]; omega))⟩
        case measure => simp [intOf]; omega
    · have HG := hide (show Lrn.top (Lrn.get X) = n from by
        have e : i = X.length := by omega
        have h := HT.out
        rw [e] at h
        exact h.top HF.out)
      have hge : (X.length : Int) ≤ (i : Int) := by omega
      clear hlt
      go_wp2
      go_ret
      exact ⟨by rw [HG.out]; rfl, rfl⟩

end Go.Proofs.Ytodlabpgjgbbpae
