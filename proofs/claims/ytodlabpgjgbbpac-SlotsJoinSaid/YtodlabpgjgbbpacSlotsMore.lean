/-
  Slots of one site, one behind the other; what is no slot, what is no site.
-/
import Derived.Test.YtodlabpgjgbbpacSlotsPlain
namespace Go.Slt

theorem apart_law {k s f : Int} (hk : 1 ≤ k ∧ k ≤ 64) (h0 : 0 ≤ s) (h1 : s < k) (hf0 : 0 ≤ f) (hf1 : f ≤ 4095) :
    (next s f k = -1 ∧ 4096 < f + k) ∨
      (0 ≤ next s f k ∧ next s f k ≤ 4095 ∧ f ≤ next s f k ∧ next s f k < f + k ∧ owner (next s f k) k = s ∧ (own s (next s f k + 1) (next s f k + k) k) = [] ∧
        (next s (next s f k + 1) k = next s f k + k ∨ (next s (next s f k + 1) k = -1 ∧ 4095 < next s f k + k))) := by
  obtain ⟨c, hc1, hc2, hc3⟩ := there (f := f) hk.1 h0 h1
  rcases next_cases hk h0 f with ⟨e, h⟩ | ⟨a0, a1, a2, a3, a4⟩
  · left
    refine ⟨e, ?_⟩
    by_cases hc : c ≤ 4095
    · exact absurd hc3 (h c (by omega) hc1 hc)
    · omega
  · right
    generalize next s f k = A at *
    refine ⟨a0, a1, a2, ?_, by rw [owner_of ⟨a0, a1⟩ hk, a3], ?_, ?_⟩
    · by_cases hc : c < A
      · exact absurd hc3 (a4 c (by omega) hc1 hc)
      · omega
    · refine up_nil fun j hj => ?_
      by_cases hl : A + 1 ≤ (j : Int)
      · exact mine_off (.inr (.inr (.inr (.inr (.inr (apart a3 (by omega) (by omega)))))))
      · exact mine_off (.inl (by omega))
    · rcases next_cases hk h0 (A + 1) with ⟨e, h⟩ | ⟨b0, b1, b2, b3, b4⟩
      · right
        refine ⟨e, ?_⟩
        by_cases hc : A + k ≤ 4095
        · exact absurd (by rw [Int.add_emod_right]; exact a3) (h (A + k) (by omega) (by omega) hc)
        · omega
      · left
        generalize next s (A + 1) k = B at *
        by_cases hlt : B < A + k
        · exact absurd b3 (apart a3 (by omega) hlt)
        · by_cases he : A + k < B
          · exact absurd (by rw [Int.add_emod_right]; exact a3) (b4 (A + k) (by omega) (by omega) he)
          · omega
theorem owner_sign (s n : Int) : (0 ≤ s ∧ s ≤ 4095 ∧ 1 ≤ n ∧ n ≤ 64 ∧ 0 ≤ owner s n) ∨ (owner s n < 0 ∧ (s < 0 ∨ 4095 < s ∨ n < 1 ∨ 64 < n)) := by
  by_cases h : 0 ≤ s ∧ s ≤ 4095 ∧ 1 ≤ n ∧ n ≤ 64
  · left
    refine ⟨h.1, h.2.1, h.2.2.1, h.2.2.2, ?_⟩
    rw [owner_of ⟨h.1, h.2.1⟩ h.2.2]
    exact Int.emod_nonneg _ (by omega)
  · right
    refine ⟨by unfold owner; rw [if_neg h]; omega, by omega⟩
theorem site_sign (s n : Int) : (0 ≤ s ∧ s < n ∧ 1 ≤ n ∧ n ≤ 64 ∧ 0 < ((own s 0 4096 n).length : Int) ∧ 0 ≤ next s 0 n) ∨ ((own s 0 4096 n).length = 0 ∧ next s 0 n < 0 ∧ (s < 0 ∨ n ≤ s ∨ n < 1 ∨ 64 < n)) := by
  by_cases h : n < 1 ∨ 64 < n ∨ s < 0 ∨ n ≤ s
  · right
    exact ⟨by rw [own_none h]; rfl, by rw [next_none h]; omega, by omega⟩
  · left
    obtain ⟨h1, h2⟩ := own_pos (site := s) (n := n) (by omega) (by omega) (by omega)
    refine ⟨by omega, by omega, by omega, by omega, ?_, h2⟩
    have := List.length_pos_iff.2 h1
    omega
theorem owner_off {s n : Int} (h : ¬ (0 ≤ s ∧ s ≤ 4095 ∧ 1 ≤ n ∧ n ≤ 64)) : owner s n = -1 := by unfold owner; rw [if_neg h]
theorem next_eq (site lo n : Int) : next site lo n = (own site lo 4096 n).headD (-1) := rfl
theorem part_len {site lo hi n : Int} {k : Nat} : (part site lo hi n k).length ≤ k := len_up
theorem part_yes {site lo hi n : Int} {k : Nat} (h1 : lo ≤ (k : Int)) (h2 : (k : Int) < hi) (h3 : 0 ≤ site) (h4 : owner k n = site) : part site lo hi n (k + 1) = part site lo hi n k ++ [(k : Int)] :=
  up_yes (by rw [mine_iff.2 ⟨h1, h3, h4⟩, decide_eq_true h2]; rfl)
theorem part_no {site lo hi n : Int} {k : Nat} (h : ¬ (lo ≤ (k : Int) ∧ (k : Int) < hi ∧ 0 ≤ site ∧ owner k n = site)) : part site lo hi n (k + 1) = part site lo hi n k := by
  refine up_no ?_
  cases hm : mine site lo n k with
  | false => rfl
  | true =>
    obtain ⟨h1, h2, h3⟩ := mine_iff.1 hm
    rw [decide_eq_false (fun h4 => h ⟨h1, h4, h2, h3⟩)]
    rfl
theorem own_rises {site lo hi n : Int} : (own site lo hi n).Pairwise (· < ·) := up_rises
end Go.Slt
