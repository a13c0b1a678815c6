/-
  The plain mathematics of slots: whose each is, the next one, all of one site between two; no program in sight.
-/
namespace Go.Slt

def fine (n : Int) : Prop := 1 ≤ n ∧ n ≤ 64
def owner (s n : Int) : Int := if 0 ≤ s ∧ s ≤ 4095 ∧ 1 ≤ n ∧ n ≤ 64 then s % n else -1
/-- Is it one of the site's, from there on? -/
def mine (site lo n : Int) (s : Nat) : Bool := decide (lo ≤ (s : Int) ∧ 0 ≤ site ∧ owner s n = site)
/-- All below k of which p holds. -/
def up (p : Nat → Bool) : Nat → List Int
  | 0 => []
  | k + 1 => up p k ++ if p k then [(k : Int)] else []
def own (site lo hi n : Int) : List Int := up (mine site lo n) (min hi 4096).toNat
def next (site lo n : Int) : Int := (own site lo 4096 n).headD (-1)

theorem up_yes {p : Nat → Bool} {k : Nat} (h : p k = true) : up p (k + 1) = up p k ++ [(k : Int)] := by simp [up, h]
theorem up_no {p : Nat → Bool} {k : Nat} (h : p k = false) : up p (k + 1) = up p k := by simp [up, h]
theorem up_gap {p : Nat → Bool} {a : Nat} : ∀ {b : Nat}, a ≤ b → (∀ j, a ≤ j → j < b → p j = false) → up p b = up p a
  | 0, h, _ => by have : a = 0 := by omega
                  rw [this]
  | b + 1, h, hp => by
    by_cases e : a = b + 1
    · rw [e]
    · rw [up_no (hp b (by omega) (by omega)), up_gap (by omega) (fun j h1 h2 => hp j h1 (by omega))]
theorem up_grows {p : Nat → Bool} {a : Nat} : ∀ {b : Nat}, a ≤ b → ∃ t, up p b = up p a ++ t
  | 0, h => ⟨[], by have : a = 0 := by omega
                    rw [this]; simp⟩
  | b + 1, h => by
    by_cases e : a = b + 1
    · exact ⟨[], by rw [e]; simp⟩
    · obtain ⟨t, ht⟩ := up_grows (p := p) (a := a) (b := b) (by omega)
      exact ⟨t ++ (if p b then [(b : Int)] else []), by simp [up, ht]⟩
theorem mem_up {p : Nat → Bool} {x : Int} : ∀ {k : Nat}, x ∈ up p k ↔ ∃ s : Nat, s < k ∧ p s = true ∧ x = s
  | 0 => by simp [up]
  | k + 1 => by
    simp only [up, List.mem_append, mem_up (k := k)]
    constructor
    · rintro (⟨s, h1, h2, h3⟩ | h)
      · exact ⟨s, by omega, h2, h3⟩
      · split at h
        · simp at h; exact ⟨k, by omega, by assumption, h⟩
        · simp at h
    · rintro ⟨s, h1, h2, h3⟩
      by_cases e : s = k
      · subst e; right; rw [if_pos h2]; simp [h3]
      · exact .inl ⟨s, by omega, h2, h3⟩
theorem up_nil {p : Nat → Bool} {k : Nat} (h : ∀ j, j < k → p j = false) : up p k = [] := by
  have := up_gap (p := p) (a := 0) (b := k) (by omega) (fun j _ h2 => h j h2)
  rw [this]; rfl
theorem up_none {p : Nat → Bool} {k j : Nat} (h : up p k = []) (hj : j < k) : p j = false := by
  cases hp : p j with
  | false => rfl
  | true => exact absurd (mem_up.2 ⟨j, hj, hp, rfl⟩) (by rw [h]; simp)
theorem up_first {p : Nat → Bool} {k m : Nat} (h : up p k = []) (hk : p k = true) (hm : k < m) : (up p m).headD (-1) = k := by
  obtain ⟨t, ht⟩ := up_grows (p := p) (a := k + 1) (b := m) (by omega)
  rw [ht, up_yes hk, h]
  rfl
theorem up_rises {p : Nat → Bool} : ∀ {k : Nat}, (up p k).Pairwise (· < ·)
  | 0 => by simp [up]
  | k + 1 => by
    simp only [up]
    rw [List.pairwise_append]
    refine ⟨up_rises, by split <;> simp, fun a ha b hb => ?_⟩
    obtain ⟨s, h1, _, rfl⟩ := mem_up.1 ha
    split at hb
    · simp at hb; omega
    · simp at hb
theorem up_join {p : Nat → Bool} {a : Nat} : ∀ {b : Nat}, a ≤ b → up p b = up p a ++ up (fun s => decide (a ≤ s) && p s) b
  | 0, h => by have : a = 0 := by omega
               subst this; simp [up]
  | b + 1, h => by
    by_cases e : a = b + 1
    · subst e
      rw [up_nil (p := fun s => decide (b + 1 ≤ s) && p s) (fun j hj => by simp; omega)]
      simp
    · simp only [up]
      rw [up_join (a := a) (b := b) (by omega)]
      have h' : a ≤ b := by omega
      simp [h']
theorem up_congr {p q : Nat → Bool} : ∀ {k : Nat}, (∀ j, j < k → p j = q j) → up p k = up q k
  | 0, _ => rfl
  | k + 1, h => by simp only [up]; rw [up_congr (fun j hj => h j (by omega)), h k (by omega)]
theorem len_up {p : Nat → Bool} : ∀ {k : Nat}, (up p k).length ≤ k
  | 0 => by simp [up]
  | k + 1 => by
    simp only [up, List.length_append]
    have := len_up (p := p) (k := k)
    split <;> simp <;> omega

theorem apart {s j n site : Int} (hs : s % n = site) (h1 : s < j) (h2 : j < s + n) : j % n ≠ site := fun hj => by
  have h0 : (j - s) % n = 0 := by rw [Int.sub_emod, hs, hj]; simp
  rw [Int.emod_eq_of_lt (by omega) (by omega)] at h0
  omega
theorem there {f n site : Int} (hn : 1 ≤ n) (h0 : 0 ≤ site) (h1 : site < n) : ∃ c, f ≤ c ∧ c < f + n ∧ c % n = site := by
  refine ⟨f + (site - f) % n, ?_, ?_, ?_⟩
  · have := Int.emod_nonneg (site - f) (by omega : n ≠ 0); omega
  · have := Int.emod_lt_of_pos (site - f) (by omega : 0 < n); omega
  · rw [Int.add_emod_emod, show f + (site - f) = site by omega, Int.emod_eq_of_lt h0 h1]

theorem owner_of {s n : Int} (h : 0 ≤ s ∧ s ≤ 4095) (hn : 1 ≤ n ∧ n ≤ 64) : owner s n = s % n := by unfold owner; rw [if_pos ⟨h.1, h.2, hn.1, hn.2⟩]
theorem mine_iff {site lo n : Int} {s : Nat} : mine site lo n s = true ↔ lo ≤ (s : Int) ∧ 0 ≤ site ∧ owner s n = site := by unfold mine; simp
theorem mine_of {site lo n : Int} {s : Nat} (h1 : lo ≤ (s : Int)) (h2 : (s : Int) ≤ 4095) (hn : 1 ≤ n ∧ n ≤ 64) (h0 : 0 ≤ site) (hs : (s : Int) % n = site) : mine site lo n s = true :=
  mine_iff.2 ⟨h1, h0, by rw [owner_of ⟨by omega, h2⟩ hn, hs]⟩
theorem mine_off {site lo n : Int} {s : Nat} (h : (s : Int) < lo ∨ site < 0 ∨ 4095 < (s : Int) ∨ n < 1 ∨ 64 < n ∨ (s : Int) % n ≠ site) : mine site lo n s = false := by
  cases h2 : mine site lo n s with
  | false => rfl
  | true =>
    obtain ⟨h3, h4, h5⟩ := mine_iff.1 h2
    unfold owner at h5
    split at h5
    · rename_i h6
      rcases h with h | h | h | h | h | h <;> first | omega | exact absurd h5 h
    · omega
theorem mine_ge {site n : Int} (hs : n < 1 ∨ 64 < n ∨ site < 0 ∨ n ≤ site) (lo : Int) (s : Nat) : mine site lo n s = false := by
  rcases hs with h | h | h | h
  · exact mine_off (.inr (.inr (.inr (.inl h))))
  · exact mine_off (.inr (.inr (.inr (.inr (.inl h)))))
  · exact mine_off (.inr (.inl h))
  · by_cases hn : 1 ≤ n
    · refine mine_off (.inr (.inr (.inr (.inr (.inr ?_)))))
      have := Int.emod_lt_of_pos (s : Int) (by omega : 0 < n)
      omega
    · exact mine_off (.inr (.inr (.inr (.inl (by omega)))))
theorem own_none {site n : Int} (hs : n < 1 ∨ 64 < n ∨ site < 0 ∨ n ≤ site) (lo hi : Int) : own site lo hi n = [] := up_nil fun j _ => mine_ge hs lo j
theorem next_none {site n : Int} (hs : n < 1 ∨ 64 < n ∨ site < 0 ∨ n ≤ site) (lo : Int) : next site lo n = -1 := by
  unfold next; rw [own_none hs]; rfl

/-- What the next one is. -/
theorem next_cases {site n : Int} (hn : 1 ≤ n ∧ n ≤ 64) (h0 : 0 ≤ site) (lo : Int) :
    (next site lo n = -1 ∧ ∀ j : Int, 0 ≤ j → lo ≤ j → j ≤ 4095 → j % n ≠ site) ∨
      (0 ≤ next site lo n ∧ next site lo n ≤ 4095 ∧ lo ≤ next site lo n ∧ next site lo n % n = site ∧ ∀ j : Int, 0 ≤ j → lo ≤ j → j < next site lo n → j % n ≠ site) := by
  have key : ∀ m : Nat, m ≤ 4096 → up (mine site lo n) m = [] ∨ ∃ k : Nat, k < m ∧ up (mine site lo n) k = [] ∧ mine site lo n k = true := by
    intro m
    induction m with
    | zero => intro _; exact .inl rfl
    | succ m ih =>
      intro hm
      rcases ih (by omega) with h | ⟨k, h1, h2, h3⟩
      · cases hp : mine site lo n m with
        | false => left; rw [up_no hp, h]
        | true => right; exact ⟨m, by omega, h, hp⟩
      · right; exact ⟨k, by omega, h2, h3⟩
  rcases key 4096 (by omega) with h | ⟨k, h1, h2, h3⟩
  · left
    refine ⟨by unfold next own; rw [show (min (4096 : Int) 4096).toNat = 4096 from rfl, h]; rfl, fun j hj0 hj1 hj2 e => ?_⟩
    have := up_none h (j := j.toNat) (by omega)
    rw [mine_of (by omega) (by omega) hn h0 (by rw [show ((j.toNat : Nat) : Int) = j by omega]; exact e)] at this
    cases this
  · right
    have e : next site lo n = k := by
      unfold next own
      exact up_first h2 h3 h1
    obtain ⟨h4, h5, h6⟩ := mine_iff.1 h3
    rw [owner_of (by omega) hn] at h6
    rw [e]
    refine ⟨by omega, by omega, h4, h6, fun j hj0 hj1 hj2 e => ?_⟩
    have := up_none h2 (j := j.toNat) (by omega)
    rw [mine_of (by omega) (by omega) hn h0 (by rw [show ((j.toNat : Nat) : Int) = j by omega]; exact e)] at this
    cases this

/-- The walk of the next one: none of the site's up to there. -/
theorem next_here {site n : Int} (hn : 1 ≤ n ∧ n ≤ 64) (h0 : 0 ≤ site) {lo : Int} {k : Nat} (hk : (k : Int) ≤ 4095) (hlo : lo ≤ k) (hs : (k : Int) % n = site) (h : ∀ j : Nat, lo ≤ (j : Int) → j < k → (j : Int) % n ≠ site) : next site lo n = k := by
  unfold next own
  refine up_first (up_nil fun j hj => ?_) (mine_of hlo hk hn h0 hs) (by rw [show (min (4096 : Int) 4096).toNat = 4096 from rfl]; omega)
  by_cases hl : lo ≤ (j : Int)
  · exact mine_off (.inr (.inr (.inr (.inr (.inr (h j hl hj))))))
  · exact mine_off (.inl (by omega))
theorem next_gone {site n lo : Int} (h : ∀ j : Nat, lo ≤ (j : Int) → j < 4096 → (j : Int) % n ≠ site) : next site lo n = -1 := by
  unfold next own
  rw [show (min (4096 : Int) 4096).toNat = 4096 from rfl, up_nil fun j hj => ?_]
  · rfl
  · by_cases hl : lo ≤ (j : Int)
    · exact mine_off (.inr (.inr (.inr (.inr (.inr (h j hl hj))))))
    · exact mine_off (.inl (by omega))

/-- The walk of all: what has come when the site's slot s is at hand. -/
def upto (site lo hi n : Int) (s : Nat) : List Int := up (mine site lo n) (min s (min hi 4096).toNat)
theorem upto_start {site lo hi n : Int} (hn : 1 ≤ n ∧ n ≤ 64) (h0 : 0 ≤ site) {s : Nat} (h : next site lo n = s) : upto site lo hi n s = [] := by
  refine up_nil fun j hj => ?_
  rcases next_cases hn h0 lo with ⟨h1, _⟩ | ⟨_, _, _, _, h5⟩
  · omega
  · by_cases hl : lo ≤ (j : Int)
    · exact mine_off (.inr (.inr (.inr (.inr (.inr (h5 j (by omega) hl (by omega)))))))
    · exact mine_off (.inl (by omega))
theorem upto_step {site lo hi n : Int} (hn : 1 ≤ n ∧ n ≤ 64) (h0 : 0 ≤ site) {s d : Nat} (hd : (d : Int) = n) (hlo : lo ≤ (s : Int)) (hs : (s : Int) % n = site) (hlt : (s : Int) < min hi 4096) :
    upto site lo hi n (s + d) = upto site lo hi n s ++ [(s : Int)] := by
  unfold upto
  rw [show min s (min hi 4096).toNat = s by omega, ← up_yes (mine_of hlo (by omega) hn h0 hs)]
  refine up_gap (by omega) fun j h1 h2 => mine_off (.inr (.inr (.inr (.inr (.inr ?_)))))
  exact apart hs (by omega) (by omega)
theorem upto_end {site lo hi n : Int} {s : Nat} (h : min hi 4096 ≤ (s : Int)) : upto site lo hi n s = own site lo hi n := by
  unfold upto own
  rw [show min s (min hi 4096).toNat = (min hi 4096).toNat by omega]
theorem upto_len {site lo hi n : Int} {s : Nat} : (upto site lo hi n s).length ≤ s := Nat.le_trans len_up (by omega)
theorem own_len {site lo hi n : Int} : (own site lo hi n).length ≤ 4096 := Nat.le_trans len_up (by omega)
theorem own_past {site lo hi n : Int} (h : next site lo n = -1) : own site lo hi n = [] := by
  unfold next own at h
  unfold own
  rw [show (min (4096 : Int) 4096).toNat = 4096 from rfl] at h
  have h4 : up (mine site lo n) 4096 = [] := by
    cases hu : up (mine site lo n) 4096 with
    | nil => rfl
    | cons x t =>
      rw [hu] at h
      have hx : x ∈ up (mine site lo n) 4096 := by rw [hu]; simp
      obtain ⟨s, _, _, rfl⟩ := mem_up.1 hx
      simp at h
  exact up_nil fun j hj => up_none h4 (by omega)

/-- The reference's walk. -/
def part (site lo hi n : Int) (k : Nat) : List Int := up (fun s => mine site lo n s && decide ((s : Int) < hi)) k
theorem part_all {site lo hi n : Int} : part site lo hi n 4096 = own site lo hi n := by
  unfold part own
  rw [up_gap (a := (min hi 4096).toNat) (b := 4096) (by omega) (fun j h1 h2 => by simp; intro _; omega)]
  exact up_congr fun j hj => by rw [decide_eq_true (by omega : (j : Int) < hi)]; simp

theorem own_mem {site lo hi n x : Int} (h : x ∈ own site lo hi n) : owner x n = site ∧ lo ≤ x ∧ x < hi ∧ 0 ≤ x ∧ x ≤ 4095 := by
  obtain ⟨s, h1, h2, rfl⟩ := mem_up.1 h
  obtain ⟨h3, _, h5⟩ := mine_iff.1 h2
  exact ⟨h5, h3, by omega, by omega, by omega⟩
theorem own_head {site lo hi n : Int} (h : own site lo hi n ≠ []) : (own site lo hi n).headD 0 = next site lo n := by
  obtain ⟨t, ht⟩ := up_grows (p := mine site lo n) (a := (min hi 4096).toNat) (b := 4096) (by omega)
  unfold next
  show _ = (up (mine site lo n) 4096).headD (-1)
  rw [ht]
  unfold own at h ⊢
  cases hu : up (mine site lo n) (min hi 4096).toNat with
  | nil => exact absurd hu h
  | cons x t => rfl
theorem own_join {site lo mid hi n : Int} (h1 : lo ≤ mid) (h2 : mid ≤ hi) : own site lo mid n ++ own site mid hi n = own site lo hi n := by
  unfold own
  rw [up_join (p := mine site lo n) (a := (min mid 4096).toNat) (b := (min hi 4096).toNat) (by omega)]
  congr 1
  refine up_congr fun j hj => ?_
  by_cases hm : mid ≤ (j : Int)
  · rw [decide_eq_true (by omega : (min mid 4096).toNat ≤ j)]
    unfold mine
    simp [hm, (by omega : lo ≤ (j : Int))]
  · rw [mine_off (.inl (by omega)), decide_eq_false (by omega : ¬ (min mid 4096).toNat ≤ j)]
    simp
theorem own_back {site lo hi n : Int} (h : hi ≤ lo) : own site lo hi n = [] := up_nil fun j hj => mine_off (.inl (by omega))

/-- All sites' together. -/
def total (a b k : Int) : Nat → Int
  | 0 => 0
  | j + 1 => total a b k j + ((own j a b k).length : Int)
theorem own_more {s a b k : Int} (hk : 1 ≤ k ∧ k ≤ 64) (h0 : 0 ≤ s) (ha : 0 ≤ a) (hab : a ≤ b) (hb : b < 4096) : ((own s a (b + 1) k).length : Int) = ((own s a b k).length : Int) + if b % k = s then 1 else 0 := by
  unfold own
  rw [show (min (b + 1) 4096).toNat = (min b 4096).toNat + 1 by omega]
  have e : (((min b 4096).toNat : Nat) : Int) = b := by omega
  split
  · rename_i h
    rw [up_yes (mine_of (by omega) (by omega) hk h0 (by rw [e]; exact h))]
    simp
  · rename_i h
    rw [up_no (mine_off (.inr (.inr (.inr (.inr (.inr (by rw [e]; exact h)))))))]
    simp
theorem total_more {a b k : Int} (hk : 1 ≤ k ∧ k ≤ 64) (ha : 0 ≤ a) (hab : a ≤ b) (hb : b < 4096) : ∀ j : Nat, total a (b + 1) k j = total a b k j + if b % k < j then 1 else 0
  | 0 => by
    have := Int.emod_nonneg b (by omega : k ≠ 0)
    simp [total]; omega
  | j + 1 => by
    simp only [total]
    rw [total_more hk ha hab hb j, own_more hk (by omega) ha hab hb]
    split <;> split <;> split <;> omega
theorem total_all {a k : Int} (hk : 1 ≤ k ∧ k ≤ 64) (ha : 0 ≤ a) : ∀ d : Nat, a + d ≤ 4096 → total a (a + d) k k.toNat = d
  | 0, _ => by
    have : ∀ j : Nat, total a (a + (0 : Nat)) k j = 0 := by
      intro j
      induction j with
      | zero => rfl
      | succ j ih => simp only [total]; rw [ih, own_back (by omega)]; rfl
    rw [this]; rfl
  | d + 1, h => by
    rw [show a + ((d + 1 : Nat) : Int) = (a + (d : Int)) + 1 by omega, total_more hk ha (by omega) (by omega), total_all hk ha d (by omega), if_pos]
    · omega
    · have := Int.emod_lt_of_pos (a + (d : Int)) (by omega : 0 < k)
      omega
theorem next_self {i k : Int} (hk : 1 ≤ k ∧ k ≤ 64) (h0 : 0 ≤ i) (h1 : i ≤ 4095) : next (i % k) i k = i := by
  have hm := Int.emod_nonneg i (by omega : k ≠ 0)
  have := next_here hk hm (lo := i) (k := i.toNat) (by omega) (by omega) (by rw [show ((i.toNat : Nat) : Int) = i by omega]) (fun j h2 h3 => by omega)
  rw [this]; omega
theorem own_pos {site n : Int} (hn : 1 ≤ n ∧ n ≤ 64) (h0 : 0 ≤ site) (h1 : site < n) : own site 0 4096 n ≠ [] ∧ 0 ≤ next site 0 n := by
  rcases next_cases hn h0 0 with ⟨_, h⟩ | ⟨h, h2, h3, h4, _⟩
  · exact absurd (Int.emod_eq_of_lt h0 h1) (h site h0 h0 (by omega))
  · refine ⟨fun e => ?_, h⟩
    unfold next at h
    rw [e] at h
    simp at h
theorem next_or (site lo n : Int) : next site lo n = -1 ∨ 0 ≤ next site lo n := by
  unfold next
  cases h : own site lo 4096 n with
  | nil => exact .inl rfl
  | cons x t =>
    right
    have : x ∈ own site lo 4096 n := by rw [h]; simp
    exact (own_mem this).2.2.2.1
theorem next_fine {site lo n : Int} (h : 0 ≤ next site lo n) : 1 ≤ n ∧ n ≤ 64 ∧ 0 ≤ site ∧ site < n := by
  by_cases hs : n < 1 ∨ 64 < n ∨ site < 0 ∨ n ≤ site
  · rw [next_none hs] at h; omega
  · omega
theorem next_is {site lo n : Int} (h : 0 ≤ next site lo n) : lo ≤ next site lo n ∧ next site lo n ≤ 4095 ∧ next site lo n % n = site := by
  obtain ⟨h1, h2, h3, h4⟩ := next_fine h
  rcases next_cases ⟨h1, h2⟩ h3 lo with ⟨e, _⟩ | ⟨a, b, c, d, _⟩
  · omega
  · exact ⟨c, b, d⟩
theorem total_bd (a b k : Int) : ∀ j : Nat, 0 ≤ total a b k j ∧ total a b k j ≤ 4096 * j
  | 0 => by simp [total]
  | j + 1 => by
    have h := total_bd a b k j
    have := own_len (site := (j : Int)) (lo := a) (hi := b) (n := k)
    simp only [total]
    omega
theorem total_zero (a b k : Int) : total a b k 0 = 0 := rfl
theorem total_succ (a b k : Int) (j : Nat) : total a b k (j + 1) = total a b k j + ((own j a b k).length : Int) := rfl
end Go.Slt
