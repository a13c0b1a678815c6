/-
  What is known behind slots that were decided each with its own value; no program in sight.
-/
import Derived.Test.YtodlabpgjgbbpaeLearnPlain
namespace Go.Lrn

/-- A slot's own value. -/
def valueRow (k : Int) : Row := if k % 3 = 2 then [] else [k % 256, k / 256 % 256, 7]
theorem valueRow_len (k : Int) : (valueRow k).length ≤ 3 := by unfold valueRow; split <;> simp
theorem valueRow_ok (k : Int) : ∀ z ∈ valueRow k, 0 ≤ z ∧ z ≤ 255 := by
  intro z hz
  unfold valueRow at hz
  split at hz
  · simp at hz
  · simp only [List.mem_cons, List.not_mem_nil, or_false] at hz
    omega
/-- All slots with their own values. -/
def V : Map := fun k => some (valueRow k)
def know (zs : List Int) : Map := fun k => if k ∈ zs then some (valueRow k) else none
theorem know_nil : know [] = empty := by funext k; simp [know, empty]
theorem know_some {zs : List Int} {k : Int} : (know zs k).isSome = true ↔ k ∈ zs := by
  unfold know; split <;> simp [*]
theorem know_put {zs : List Int} {z : Int} (h : z ∉ zs) : put (know zs) z (valueRow z) = know (zs ++ [z]) := by
  funext k
  unfold put know
  by_cases e : k = z
  · subst e; simp
  · rw [if_neg e]; simp [e]
theorem know_had {zs : List Int} {z : Int} (h : z ∈ zs) : know (zs ++ [z]) = know zs := by
  funext k
  unfold know
  by_cases e : k = z
  · subst e; simp [h]
  · simp [e]
theorem know_at {zs : List Int} {z : Int} (h : z ∈ zs) : know zs z = some (valueRow z) := by simp [know, h]
theorem know_not {zs : List Int} {z : Int} (h : z ∉ zs) : know zs z = none := by simp [know, h]

theorem vals_congr {M M' : Map} {a : Nat} : ∀ {b : Nat}, (∀ j : Nat, a ≤ j → j < b → M j = M' j) → vals M a b = vals M' a b
  | 0, _ => rfl
  | b + 1, h => by
    simp only [vals]
    split
    · rename_i hab
      rw [vals_congr (fun j h1 h2 => h j h1 (by omega)), h b hab (by omega)]
    · rfl
theorem vals_know {zs : List Int} {a b : Nat} (h : ∀ j : Nat, j < b → (know zs j).isSome = true) : vals (know zs) a b = vals V a b :=
  vals_congr fun j _ h2 => by rw [know_at (know_some.1 (h j h2))]; rfl
theorem vals_join {M : Map} {a : Nat} : ∀ {b : Nat}, a ≤ b → vals M 0 b = vals M 0 a ++ vals M a b
  | 0, h => by have : a = 0 := by omega
               subst this; simp [vals]
  | b + 1, h => by
    by_cases e : a = b + 1
    · subst e; rw [vals_start]; simp
    · rw [vals_succ (Nat.zero_le b), vals_succ (show a ≤ b by omega), vals_join (a := a) (b := b) (by omega), List.append_assoc]
theorem vals_len0 {M : Map} {b : Nat} : (vals M 0 b).length = b := by rw [vals_len (Nat.zero_le b)]; omega
theorem vals_at {i : Nat} : ∀ {b : Nat}, i < b → (vals V 0 b).getD i [] = valueRow i
  | 0, h => by omega
  | b + 1, h => by
    rw [vals_succ (Nat.zero_le b), List.getD_eq_getElem?_getD]
    by_cases e : i < b
    · rw [List.getElem?_append_left (by rw [vals_len0]; exact e), ← List.getD_eq_getElem?_getD, vals_at e]
    · have : i = b := by omega
      subst this
      rw [List.getElem?_append_right (by rw [vals_len0]; omega), vals_len0]
      simp [V]
theorem vals_take {a b : Nat} (h : a ≤ b) : (vals V 0 b).take a = vals V 0 a := by
  rw [vals_join h, List.take_append_of_le_length (by rw [vals_len0]; omega), List.take_of_length_le (by rw [vals_len0]; omega)]
/-- The frontier behind some slots. -/
def frontOf (zs : List Int) : Nat := front (know zs)
theorem frontOf_not {zs : List Int} (h : frontOf zs < 4096) : ((frontOf zs : Nat) : Int) ∉ zs := fun hm => by
  have h1 := front_none (know zs) h
  have h2 := know_some.2 hm
  unfold frontOf at h2
  rw [h2] at h1
  cases h1
theorem frontOf_le {zs : List Int} (h : ∀ z ∈ zs, z ≤ 255) : frontOf zs ≤ 256 := by
  rcases Nat.lt_or_ge 256 (frontOf zs) with hlt | hge
  · have := front_all (know zs) hlt
    have := h _ (know_some.1 this)
    omega
  · exact hge
end Go.Lrn
