/-
  The plain mathematics of what is decided: slots and their values; the first one that isn't, the last one that is, those between; no program in sight.
-/
import Derived.Test.YtodlabpgjgbbpaeSlotsPlain
namespace Go.Lrn

abbrev Row := List Int
abbrev Map := Int → Option Row
def empty : Map := fun _ => none
def put (M : Map) (k : Int) (v : Row) : Map := fun j => if j = k then some v else M j
/-- Only slots are decided. -/
def Fine (M : Map) : Prop := ∀ k, (M k).isSome = true → 0 ≤ k ∧ k ≤ 4095
theorem fine_empty : Fine empty := fun k h => by cases h
theorem fine_put {M : Map} (h : Fine M) {k : Int} (hk : 0 ≤ k ∧ k ≤ 4095) (v : Row) : Fine (put M k v) := fun j hj => by
  unfold put at hj
  split at hj
  · rename_i e; subst e; exact hk
  · exact h j hj

def frontFrom (M : Map) : Nat → Nat → Nat
  | p, 0 => p
  | p, f + 1 => if (M p).isSome then frontFrom M (p + 1) f else p
/-- The first slot that isn't decided. -/
def front (M : Map) : Nat := frontFrom M 0 4096
theorem front_from {M : Map} : ∀ (f p : Nat), p ≤ frontFrom M p f ∧ frontFrom M p f ≤ p + f ∧ (∀ j : Nat, p ≤ j → j < frontFrom M p f → (M j).isSome = true) ∧ (frontFrom M p f < p + f → (M (frontFrom M p f)).isSome = false)
  | 0, p => ⟨Nat.le_refl _, Nat.le_refl _, fun j h1 h2 => by simp only [frontFrom] at h2; omega, fun h => by simp only [frontFrom] at h; omega⟩
  | f + 1, p => by
    simp only [frontFrom]
    by_cases h : (M p).isSome = true
    · rw [if_pos h]
      obtain ⟨h1, h2, h3, h4⟩ := front_from f (p + 1)
      refine ⟨by omega, by omega, fun j a b => ?_, fun a => h4 (by omega)⟩
      by_cases e : j = p
      · subst e; exact h
      · exact h3 j (by omega) b
    · rw [if_neg h]
      exact ⟨by omega, by omega, fun j a b => by omega, fun _ => by simpa using h⟩
theorem front_le (M : Map) : front M ≤ 4096 := by have := (front_from (M := M) 4096 0).2.1; unfold front; omega
theorem front_all (M : Map) {j : Nat} (h : j < front M) : (M j).isSome = true := (front_from (M := M) 4096 0).2.2.1 j (by omega) h
theorem front_none (M : Map) (h : front M < 4096) : (M (front M)).isSome = false := (front_from (M := M) 4096 0).2.2.2 (by have h' := h; unfold front at h'; omega)
theorem front_is {M : Map} {p : Nat} (hp : p ≤ 4096) (h : ∀ j : Nat, j < p → (M j).isSome = true) (h2 : p < 4096 → (M p).isSome = false) : front M = p := by
  rcases Nat.lt_trichotomy (front M) p with hlt | e | hgt
  · have := front_none M (by omega)
    rw [h _ hlt] at this
    cases this
  · exact e
  · have := front_all M hgt
    rw [h2 (by have := front_le M; omega)] at this
    cases this

def topTo (M : Map) : Nat → Nat
  | 0 => 0
  | k + 1 => if (M k).isSome then k + 1 else topTo M k
/-- One more than the last slot that is decided. -/
def top (M : Map) : Nat := topTo M 4096
theorem topTo_le {M : Map} : ∀ k, topTo M k ≤ k
  | 0 => Nat.le_refl _
  | k + 1 => by
    simp only [topTo]
    have := topTo_le (M := M) k
    split <;> omega
theorem topTo_all {M : Map} : ∀ {k j : Nat}, topTo M k ≤ j → j < k → (M j).isSome = false
  | 0, _, _, h => by omega
  | k + 1, j, h1, h2 => by
    simp only [topTo] at h1
    split at h1
    · omega
    · rename_i h
      by_cases e : j = k
      · subst e; simpa using h
      · exact topTo_all h1 (by omega)
theorem topTo_some {M : Map} : ∀ {k : Nat}, 0 < topTo M k → (M ((topTo M k : Nat) - 1 : Int)).isSome = true
  | 0, h => by simp [topTo] at h
  | k + 1, h => by
    by_cases hk : (M k).isSome = true
    · have e : topTo M (k + 1) = k + 1 := by simp only [topTo]; rw [if_pos hk]
      rw [e, show ((k + 1 : Nat) : Int) - 1 = k by omega]
      exact hk
    · have e : topTo M (k + 1) = topTo M k := by simp only [topTo]; rw [if_neg hk]
      rw [e] at h ⊢
      exact topTo_some h
/-- What is so of all that are decided, and of one of them, is the top. -/
theorem top_is {M : Map} (hF : Fine M) {r : Nat} (h : ∀ k : Int, (M k).isSome = true → k < r) (h2 : 0 < r → (M ((r : Int) - 1)).isSome = true) : top M = r := by
  have hr : r ≤ 4096 := by
    by_cases h0 : 0 < r
    · have := (hF _ (h2 h0)).2; omega
    · omega
  unfold top
  rcases Nat.lt_trichotomy (topTo M 4096) r with hlt | e | hgt
  · have h3 := h2 (by omega)
    have := topTo_all (M := M) (k := 4096) (j := r - 1) (by omega) (by omega)
    rw [show ((r - 1 : Nat) : Int) = (r : Int) - 1 by omega, h3] at this
    cases this
  · exact e
  · have := h _ (topTo_some (M := M) (k := 4096) (by omega))
    omega
theorem top_le (M : Map) : top M ≤ 4096 := topTo_le 4096

/-- The slots below hi that aren't decided. -/
def gaps (M : Map) (hi : Int) : List Int := Slt.up (fun s => !(M s).isSome) (min hi 4096).toNat
/-- What of them has come when slot s is at hand. -/
def gapsTo (M : Map) (s : Nat) : List Int := Slt.up (fun s => !(M s).isSome) s
theorem gapsTo_front (M : Map) {p : Nat} (h : ∀ j : Nat, j < p → (M j).isSome = true) : gapsTo M p = [] := Slt.up_nil fun j hj => by rw [h j hj]; rfl
theorem gapsTo_yes {M : Map} {s : Nat} (h : (M s).isSome = false) : gapsTo M (s + 1) = gapsTo M s ++ [(s : Int)] := Slt.up_yes (by rw [h]; rfl)
theorem gapsTo_no {M : Map} {s : Nat} (h : (M s).isSome = true) : gapsTo M (s + 1) = gapsTo M s := Slt.up_no (by rw [h]; rfl)
theorem gapsTo_len {M : Map} {s : Nat} : (gapsTo M s).length ≤ s := Slt.len_up
theorem gaps_end {M : Map} {hi : Int} {s : Nat} (h : (s : Int) = min hi 4096 ∨ ((min hi 4096) ≤ s ∧ ∀ j : Nat, j < s → (M j).isSome = true)) : gapsTo M s = gaps M hi := by
  unfold gapsTo gaps
  rcases h with h | ⟨h1, h2⟩
  · rw [show (min hi 4096).toNat = s by omega]
  · rw [Slt.up_nil fun j hj => by rw [h2 j hj]; rfl, Slt.up_nil fun j hj => by rw [h2 j (by omega)]; rfl]
theorem gaps_len {M : Map} {hi : Int} : (gaps M hi).length ≤ 4096 := Nat.le_trans Slt.len_up (by omega)
theorem gaps_mem {M : Map} {hi x : Int} (h : x ∈ gaps M hi) : 0 ≤ x ∧ x ≤ 4095 ∧ x < hi ∧ (M x).isSome = false := by
  obtain ⟨s, h1, h2, rfl⟩ := Slt.mem_up.1 h
  exact ⟨by omega, by omega, by omega, by simpa using h2⟩
theorem gaps_rise {M : Map} {hi : Int} : (gaps M hi).Pairwise (· < ·) := Slt.up_rises
theorem gaps_all {M : Map} {hi x : Int} (h0 : 0 ≤ x) (h1 : x ≤ 4095) (h2 : x < hi) (h3 : (M x).isSome = false) : x ∈ gaps M hi :=
  Slt.mem_up.2 ⟨x.toNat, by omega, by rw [show ((x.toNat : Nat) : Int) = x by omega, h3]; rfl, by omega⟩

/-- The values of slots from a on, below b. -/
def vals (M : Map) (a : Nat) : Nat → List Row
  | 0 => []
  | b + 1 => if a ≤ b then vals M a b ++ [(M b).getD []] else []
theorem vals_start (M : Map) (a : Nat) : vals M a a = [] := by
  cases a with
  | zero => rfl
  | succ a => simp only [vals]; rw [if_neg (by omega)]
theorem vals_succ {M : Map} {a b : Nat} (h : a ≤ b) : vals M a (b + 1) = vals M a b ++ [(M b).getD []] := by simp only [vals]; rw [if_pos h]
theorem vals_len {M : Map} {a : Nat} : ∀ {b : Nat}, a ≤ b → (vals M a b).length = b - a
  | 0, h => by simp [vals]
  | b + 1, h => by
    by_cases e : a = b + 1
    · subst e; rw [vals_start]; simp
    · rw [vals_succ (by omega), List.length_append, vals_len (by omega)]; simp; omega

/-- The document's pairs. -/
def get (l : List (Int × Row)) : Map := fun k => (l.find? (fun p => p.1 == k)).map (·.2)
theorem get_nil : get [] = empty := rfl
theorem get_snoc {l : List (Int × Row)} {k : Int} (v : Row) (h : get l k = none) : get (l ++ [(k, v)]) = put (get l) k v := by
  funext j
  unfold get at h ⊢
  unfold put
  rw [List.find?_append]
  by_cases e : j = k
  · subst e
    have : l.find? (fun p => p.1 == j) = none := by simpa using h
    simp [this]
  · cases hf : l.find? (fun p => p.1 == j) with
    | none => simp [hf, e, Ne.symm e]
    | some y => simp [hf, e]
end Go.Lrn
