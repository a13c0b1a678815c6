/-
  A set of numbers as a map's keys: how many there are.
-/
import Derived.Test.YtodlabpgjgbbpahBallotPlain
import Derived.Maps.OwnSet
namespace Go.Bal
open Go.Maps

/-- Is a number one of n sites? -/
def inr (n x : Int) : Bool := decide (0 ≤ x) && decide (x < n)
/-- The keys that a list leaves in the map. -/
def keys (n : Int) (l : List Int) : List Lit := (l.filter (inr n)).map (Lit.int .i64)
/-- The map behind a list. -/
def seen {H : Type} (n : Int) (l : List Int) : DataW H := setOf (.agg []) (keys n l)

theorem inr_iff {n x : Int} : inr n x = true ↔ 0 ≤ x ∧ x < n := by simp [inr]

theorem sites_filter (n : Int) : ∀ (l acc : List Int), l.foldl (fun acc x => if 0 ≤ x ∧ x < n then put acc x else acc) acc = (l.filter (inr n)).foldl put acc
  | [], _ => rfl
  | x :: l, acc => by
    simp only [List.foldl_cons]
    by_cases hx : 0 ≤ x ∧ x < n
    · rw [if_pos hx, List.filter_cons_of_pos (inr_iff.2 hx), List.foldl_cons]
      exact sites_filter n l _
    · rw [if_neg hx, List.filter_cons_of_neg (fun h => hx (inr_iff.1 h))]
      exact sites_filter n l _

theorem any_lit (x : Int) : ∀ l : List Int, (l.map (Lit.int .i64)).any (fun y => y.sameKey (.int .i64 x)) = l.contains x
  | [] => rfl
  | a :: r => by
    rw [List.map_cons, List.any_cons, List.contains_cons, any_lit x r]
    congr 1
    show decide (IntKind.i64 = IntKind.i64 ∧ a = x) = (x == a)
    by_cases e : a = x
    · subst e; simp
    · have e' : ¬ x = a := fun h => e h.symm
      simp [e, e']

theorem fold_lit : ∀ (l acc : List Int), (l.map (Lit.int .i64)).foldl addKey (acc.map (Lit.int .i64)) = (l.foldl put acc).map (Lit.int .i64)
  | [], _ => rfl
  | x :: l, acc => by
    simp only [List.map_cons, List.foldl_cons]
    have h : addKey (acc.map (Lit.int .i64)) (.int .i64 x) = (put acc x).map (Lit.int .i64) := by
      unfold addKey put
      rw [any_lit]
      split
      · rfl
      · simp
    rw [h]
    exact fold_lit l _

/-- HOW MANY KEYS: as many as there are unlike sites in the list. -/
theorem size_seen {H : Type} (n : Int) (l : List Int) : Maps.size (seen (H := H) n l) = (sites n l).length := by
  unfold seen keys
  rw [size_setOf _ _ (fun x hx => by obtain ⟨_, _, rfl⟩ := List.mem_map.1 hx; trivial)]
  have := fold_lit (l.filter (inr n)) []
  rw [List.map_nil] at this
  rw [this, List.length_map, sites, sites_filter]

theorem seen_nil {H : Type} (n : Int) : seen (H := H) n [] = .map [] := by simp [seen, keys, setOf]
theorem seen_in {H : Type} {n x : Int} (l : List Int) (h : inr n x = true) : seen (H := H) n (l ++ [x]) = (seen n l).put (.int .i64 x) (.agg []) := by
  unfold seen keys
  rw [List.filter_append, List.filter_cons_of_pos h, List.filter_nil, List.map_append, List.map_singleton, setOf_snoc]
theorem seen_out {H : Type} {n x : Int} (l : List Int) (h : inr n x = false) : seen (H := H) n (l ++ [x]) = seen n l := by
  unfold seen keys
  rw [List.filter_append, List.filter_cons_of_neg (by rw [h]; decide), List.filter_nil, List.append_nil]

/-- The first of two numbers that is not 0. -/
def orr (x y : Int) : Int := if x = 0 then y else x
/-- The order, by the first number that parts. -/
theorem compare_eq (r s r' s' : Int) : compare r s r' s' = orr (cmp r r') (cmp s s') := by
  unfold compare orr
  by_cases h : r < r'
  · have : cmp r r' = -1 := by simp [cmp, h]
    rw [this]; simp [h]
  · by_cases h2 : r = r'
    · have : cmp r r' = 0 := by simp [cmp, h2]
      rw [this]; simp [h2]
    · have : cmp r r' = 1 := by simp [cmp, h, h2]
      rw [this]; simp [h, h2]
/-- Whether a ballot may be, of n sites. -/
def may (r s n : Int) : Bool := decide (0 ≤ r) && decide (r ≤ 1099511627776) && inr n s
theorem next_neg {r : Int} (h : r < 0) : nextRound r = 1 := by unfold nextRound; rw [if_pos h]
theorem next_mid {r : Int} (h0 : ¬ r < 0) (h : r < 1099511627776) : nextRound r = r + 1 := by unfold nextRound; rw [if_neg h0, if_pos h]
theorem next_top {r : Int} (h0 : ¬ r < 0) (h : ¬ r < 1099511627776) : nextRound r = 1099511627776 := by unfold nextRound; rw [if_neg h0, if_neg h]
theorem next_bd (r : Int) : 1 ≤ nextRound r ∧ nextRound r ≤ 1099511627776 := by unfold nextRound; split <;> (try split) <;> omega
theorem cmp_bd (a b : Int) : -1 ≤ cmp a b ∧ cmp a b ≤ 1 := by unfold cmp; split <;> (try split) <;> omega
theorem compare_bd (r s r' s' : Int) : -1 ≤ compare r s r' s' ∧ compare r s r' s' ≤ 1 := by
  rw [compare_eq, orr]; split
  · exact cmp_bd _ _
  · exact cmp_bd _ _

theorem compare_swap (r s r' s' : Int) : compare r' s' r s = - compare r s r' s' := by
  unfold compare cmp
  by_cases h1 : r < r'
  · have h2 : ¬ r' < r := by omega
    have h3 : ¬ r' = r := by omega
    simp [h1, h2, h3]
  · by_cases h2 : r = r'
    · subst h2
      by_cases h3 : s < s'
      · have h4 : ¬ s' < s := by omega
        have h5 : ¬ s' = s := by omega
        simp [h3, h4, h5]
      · by_cases h4 : s = s'
        · subst h4; simp
        · have h5 : s' < s := by omega
          have h6 : ¬ s' = s := by omega
          simp [h3, h4, h5]
    · have h3 : r' < r := by omega
      have h4 : ¬ r' = r := by omega
      simp [h1, h2, h3]
theorem compare_zero {r s r' s' : Int} : compare r s r' s' = 0 ↔ r = r' ∧ s = s' := by
  unfold compare cmp
  by_cases h1 : r < r'
  · simp [h1]; omega
  · by_cases h2 : r = r'
    · subst h2
      by_cases h3 : s < s'
      · simp [h3]; omega
      · by_cases h4 : s = s'
        · subst h4; simp
        · simp [h3, h4]
    · simp [h1, h2]
theorem compare_lt {r s r' s' : Int} : compare r s r' s' < 0 ↔ r < r' ∨ (r = r' ∧ s < s') := by
  unfold compare cmp
  by_cases h1 : r < r'
  · simp [h1]
  · by_cases h2 : r = r'
    · subst h2
      by_cases h3 : s < s'
      · simp [h3]
      · by_cases h4 : s = s'
        · subst h4; simp
        · simp [h3, h4]
    · simp [h1, h2]
theorem compare_gt {r s r' s' : Int} : 0 < compare r s r' s' ↔ r' < r ∨ (r = r' ∧ s' < s) := by
  have h := compare_lt (r := r') (s := s') (r' := r) (s' := s)
  rw [compare_swap] at h
  constructor
  · intro h0
    rcases h.1 (by omega) with h1 | ⟨h1, h2⟩
    · exact .inl h1
    · exact .inr ⟨h1.symm, h2⟩
  · intro h0
    have : -compare r s r' s' < 0 := h.2 (h0.imp id (fun ⟨a, b⟩ => ⟨a.symm, b⟩))
    omega
/-- Ballots are in one order. -/
theorem compare_trans (r s r' s' r'' s'' : Int) : (0 < compare r s r' s' ∨ 0 < compare r' s' r'' s'' ∨ compare r s r'' s'' ≤ 0) ∧ (0 ≤ compare r s r' s' ∨ 0 ≤ compare r' s' r'' s'' ∨ compare r s r'' s'' < 0) := by
  have g1 := compare_gt (r := r) (s := s) (r' := r') (s' := s')
  have g2 := compare_gt (r := r') (s := s') (r' := r'') (s' := s'')
  have g3 := compare_gt (r := r) (s := s) (r' := r'') (s' := s'')
  have l1 := compare_lt (r := r) (s := s) (r' := r') (s' := s')
  have l2 := compare_lt (r := r') (s := s') (r' := r'') (s' := s'')
  have l3 := compare_lt (r := r) (s := s) (r' := r'') (s' := s'')
  omega
theorem next_gt {r s t : Int} (h : r < 1099511627776) : 0 < compare (nextRound r) t r s := by
  rw [compare_gt]
  left
  by_cases h0 : r < 0
  · rw [next_neg h0]; omega
  · rw [next_mid h0 h]; omega

end Go.Bal
