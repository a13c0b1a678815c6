/-
  The plain mathematics of ballots and of most of the sites: lists of numbers, no program in sight.
-/
namespace Go.Bal

/-- A number that is new goes to the list's end. -/
def put (acc : List Int) (x : Int) : List Int := if acc.contains x then acc else acc ++ [x]
/-- The unlike ones of a list that are numbers of n sites. -/
def sites (n : Int) (l : List Int) : List Int := l.foldl (fun acc x => if 0 ≤ x ∧ x < n then put acc x else acc) []
/-- One more than half of n. -/
def major (n : Int) : Int := if n < 1 then 0 else n / 2 + 1
/-- Are those in a list most of n sites? -/
def most (l : List Int) (n : Int) : Bool := decide (1 ≤ n) && decide (major n ≤ (sites n l).length)

theorem sites_snoc (n : Int) (l : List Int) (x : Int) : sites n (l ++ [x]) = if 0 ≤ x ∧ x < n then put (sites n l) x else sites n l := by
  simp [sites, List.foldl_append]

theorem nodup_put {acc : List Int} (h : acc.Nodup) (x : Int) : (put acc x).Nodup := by
  unfold put
  split
  · exact h
  · rename_i hx
    rw [List.nodup_append]
    refine ⟨h, by simp, ?_⟩
    intro a ha b hb
    simp at hb; subst hb
    intro e; subst e
    simp at hx
    exact hx ha

theorem mem_put {acc : List Int} {x y : Int} : y ∈ put acc x ↔ y ∈ acc ∨ y = x := by
  unfold put
  split
  · rename_i hx
    simp at hx
    constructor
    · exact .inl
    · rintro (h | rfl)
      · exact h
      · exact hx
  · simp

theorem sites_inv (n : Int) : ∀ (l acc : List Int), acc.Nodup →
    (l.foldl (fun acc x => if 0 ≤ x ∧ x < n then put acc x else acc) acc).Nodup ∧
      ∀ y, y ∈ l.foldl (fun acc x => if 0 ≤ x ∧ x < n then put acc x else acc) acc ↔ y ∈ acc ∨ (y ∈ l ∧ 0 ≤ y ∧ y < n)
  | [], acc, h => ⟨h, by simp⟩
  | x :: l, acc, h => by
    simp only [List.foldl_cons]
    split
    · rename_i hx
      obtain ⟨h1, h2⟩ := sites_inv n l (put acc x) (nodup_put h x)
      refine ⟨h1, fun y => ?_⟩
      rw [h2, mem_put, List.mem_cons]
      constructor
      · rintro ((h | rfl) | h)
        · exact .inl h
        · exact .inr ⟨.inl rfl, hx⟩
        · exact .inr ⟨.inr h.1, h.2⟩
      · rintro (h | ⟨rfl | h, h'⟩)
        · exact .inl (.inl h)
        · exact .inl (.inr rfl)
        · exact .inr ⟨h, h'⟩
    · rename_i hx
      obtain ⟨h1, h2⟩ := sites_inv n l acc h
      refine ⟨h1, fun y => ?_⟩
      rw [h2, List.mem_cons]
      constructor
      · rintro (h | h)
        · exact .inl h
        · exact .inr ⟨.inr h.1, h.2⟩
      · rintro (h | ⟨rfl | h, h'⟩)
        · exact .inl h
        · exact absurd h' hx
        · exact .inr ⟨h, h'⟩

theorem nodup_sites (n : Int) (l : List Int) : (sites n l).Nodup := (sites_inv n l [] (by simp)).1
theorem mem_sites {n : Int} {l : List Int} {y : Int} : y ∈ sites n l ↔ y ∈ l ∧ 0 ≤ y ∧ y < n := by
  have := (sites_inv n l [] (by simp)).2 y
  simpa [sites] using this

/-- A list without repeats inside another one is no longer. -/
theorem length_le_of_nodup : ∀ {a b : List Int}, a.Nodup → (∀ x ∈ a, x ∈ b) → a.length ≤ b.length
  | [], b, _, _ => by simp
  | x :: a, b, h, hs => by
    obtain ⟨hx, ha⟩ := List.nodup_cons.1 h
    have hxb : x ∈ b := hs x (by simp)
    have : a.length ≤ (b.erase x).length := length_le_of_nodup ha fun y hy => by
      have hne : y ≠ x := fun e => hx (e ▸ hy)
      exact (List.mem_erase_of_ne hne).2 (hs y (by simp [hy]))
    rw [List.length_erase_of_mem hxb] at this
    have hpos : 0 < b.length := List.length_pos_of_mem hxb
    simp only [List.length_cons]; omega

/-- All numbers from 0 on, below n. -/
def upto (n : Nat) : List Int := (List.range n).map (fun i : Nat => (i : Int))
theorem mem_upto {n : Nat} {y : Int} : y ∈ upto n ↔ 0 ≤ y ∧ y < n := by
  unfold upto
  rw [List.mem_map]
  constructor
  · rintro ⟨i, hi, rfl⟩
    have := List.mem_range.1 hi
    omega
  · rintro ⟨h0, h1⟩
    exact ⟨y.toNat, List.mem_range.2 (by omega), by omega⟩
theorem length_upto (n : Nat) : (upto n).length = n := by simp [upto]
theorem nodup_upto (n : Nat) : (upto n).Nodup := by
  unfold upto
  induction n with
  | zero => simp
  | succ n ih =>
    rw [List.range_succ, List.map_append, List.nodup_append]
    refine ⟨ih, by simp, ?_⟩
    intro a ha b hb
    have ha' := (mem_upto (n := n)).1 ha
    simp at hb
    omega

theorem length_sites_le (n : Int) (l : List Int) : ((sites n l).length : Int) ≤ max n 0 := by
  have := length_le_of_nodup (nodup_sites n l) (b := upto n.toNat) fun x hx => by
    have := mem_sites.1 hx
    exact mem_upto.2 ⟨this.2.1, by omega⟩
  rw [length_upto] at this
  omega

theorem length_sites_le' (n : Int) (l : List Int) : (sites n l).length ≤ l.length :=
  length_le_of_nodup (nodup_sites n l) fun _ hx => (mem_sites.1 hx).1

theorem length_sites_mono {n : Int} {a b : List Int} (h : ∀ x ∈ a, x ∈ b) : (sites n a).length ≤ (sites n b).length :=
  length_le_of_nodup (nodup_sites n a) fun x hx => mem_sites.2 ⟨h x (mem_sites.1 hx).1, (mem_sites.1 hx).2⟩

theorem most_mono {n : Int} {a b : List Int} (h : ∀ x ∈ a, x ∈ b) (ha : most a n = true) : most b n = true := by
  have := length_sites_mono (n := n) h
  simp only [most, Bool.and_eq_true, decide_eq_true_eq] at *
  omega

/-- TWO LISTS THAT ARE MOST OF THE SITES HAVE ONE IN COMMON. -/
theorem meets {n : Int} {a b : List Int} (ha : most a n = true) (hb : most b n = true) : ∃ x, x ∈ a ∧ x ∈ b ∧ 0 ≤ x ∧ x < n := by
  simp only [most, Bool.and_eq_true, decide_eq_true_eq] at ha hb
  have hmaj : major n = n / 2 + 1 := by unfold major; rw [if_neg (by omega)]
  rw [hmaj] at ha hb
  apply Classical.byContradiction
  intro hno
  have hd : ((sites n a) ++ (sites n b)).Nodup := by
    rw [List.nodup_append]
    refine ⟨nodup_sites n a, nodup_sites n b, ?_⟩
    intro x hx y hy e
    subst e
    exact hno ⟨x, (mem_sites.1 hx).1, (mem_sites.1 hy).1, (mem_sites.1 hx).2⟩
  have := length_le_of_nodup hd (b := upto n.toNat) fun x hx => by
    rcases List.mem_append.1 hx with h | h
    · have := mem_sites.1 h; exact mem_upto.2 ⟨this.2.1, by omega⟩
    · have := mem_sites.1 h; exact mem_upto.2 ⟨this.2.1, by omega⟩
  rw [length_upto, List.length_append] at this
  omega

/-- How many of the first ones of a list, from a place on, are new. -/
def fresh (n : Int) (l : List Int) (i : Nat) : Bool := decide (0 ≤ l.getD i 0 ∧ l.getD i 0 < n) && (l.take i).all (fun x => x != l.getD i 0)
def count (n : Int) (l : List Int) : Nat → Nat
  | 0 => 0
  | i + 1 => count n l i + if fresh n l i then 1 else 0

theorem take_snoc (l : List Int) (k : Nat) (h : k < l.length) : l.take (k + 1) = l.take k ++ [l.getD k 0] := by
  rw [List.take_succ_eq_append_getElem h]
  simp [List.getD_eq_getElem?_getD, h]

theorem count_eq (n : Int) (l : List Int) : ∀ k, k ≤ l.length → count n l k = (sites n (l.take k)).length
  | 0, _ => by simp [count, sites]
  | k + 1, h => by
    rw [count, count_eq n l k (by omega), take_snoc l k (by omega), sites_snoc]
    unfold fresh
    by_cases hx : 0 ≤ l.getD k 0 ∧ l.getD k 0 < n
    · rw [if_pos hx]
      unfold put
      by_cases hc : (sites n (l.take k)).contains (l.getD k 0) = true
      · rw [if_pos hc]
        have hm : l.getD k 0 ∈ l.take k := (mem_sites.1 (by simpa using hc)).1
        have : (l.take k).all (fun x => x != l.getD k 0) = false := by
          rw [List.all_eq_false]
          exact ⟨_, hm, by simp⟩
        rw [this]; simp
      · rw [if_neg hc]
        have hm : ¬ l.getD k 0 ∈ l.take k := fun hm => hc (by simpa using mem_sites.2 ⟨hm, hx⟩)
        have : (l.take k).all (fun x => x != l.getD k 0) = true := by
          rw [List.all_eq_true]
          intro x hxm
          simp only [bne_iff_ne, ne_eq]
          rintro rfl; exact hm hxm
        rw [this, decide_eq_true hx]; simp
    · rw [if_neg hx, decide_eq_false hx]; simp

/-- The sites of a list whose numbers are all unlike, and are sites. -/
theorem sites_upto {n : Nat} {k : Nat} (h : k ≤ n) : (sites n (upto k)).length = k := by
  apply Nat.le_antisymm
  · have := length_sites_le' n (upto k); rw [length_upto] at this; exact this
  · have := length_le_of_nodup (nodup_upto k) (b := sites n (upto k)) fun x hx => by
      have := mem_upto.1 hx
      exact mem_sites.2 ⟨hx, this.1, by omega⟩
    rw [length_upto] at this; exact this

/-- Two ballots' order. -/
def cmp (a b : Int) : Int := if a < b then -1 else if a = b then 0 else 1
def compare (r s r' s' : Int) : Int := if r < r' then -1 else if r = r' then cmp s s' else 1
def nextRound (r : Int) : Int := if r < 0 then 1 else if r < 1099511627776 then r + 1 else 1099511627776

end Go.Bal
