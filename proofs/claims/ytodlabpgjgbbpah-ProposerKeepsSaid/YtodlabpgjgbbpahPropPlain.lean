/-
  The plain mathematics of what promises leave, and of what votes decide: lists, no program in sight.
-/
import Derived.Test.YtodlabpgjgbbpahBallotWords
namespace Go.Prp
open Go.Bal

/-- A promise: whose, whether something was accepted, at which ballot, and what. -/
structure Pm where
  frm : Int
  some : Bool
  r : Int
  t : Int
  val : List Int
/-- A vote. -/
structure Vt where
  frm : Int
  r : Int
  t : Int
def pm0 : Pm := ⟨0, false, 0, 0, []⟩
def vt0 : Vt := ⟨0, 0, 0⟩

/-- Is a place's ballot greater than what was the greatest? -/
def beats (r t : Nat → Int) (k : Nat) : Option Nat → Bool
  | none => true
  | some p => decide (0 < compare (r k) (t k) (r p) (t p))
/-- The place of the first one of those that count that have the greatest ballot. -/
def best (ok : Nat → Bool) (r t : Nat → Int) : Nat → Option Nat
  | 0 => none
  | k + 1 => if (ok k && beats r t k (best ok r t k)) = true then some k else best ok r t k
theorem best_yes {ok : Nat → Bool} {r t : Nat → Int} {k : Nat} (h : (ok k && beats r t k (best ok r t k)) = true) : best ok r t (k + 1) = some k := by
  rw [best, if_pos h]
theorem best_no {ok : Nat → Bool} {r t : Nat → Int} {k : Nat} (h : (ok k && beats r t k (best ok r t k)) = false) : best ok r t (k + 1) = best ok r t k := by
  rw [best, if_neg (by rw [h]; decide)]

theorem best_none {ok : Nat → Bool} {r t : Nat → Int} : ∀ {k : Nat}, best ok r t k = none → ∀ i, i < k → ok i = false
  | 0, _, i, hi => by omega
  | k + 1, h, i, hi => by
    cases hc : ok k && beats r t k (best ok r t k)
    · rw [best_no hc] at h
      rw [h] at hc
      simp only [beats, Bool.and_true] at hc
      by_cases hik : i = k
      · rw [hik]; exact hc
      · exact best_none h i (by omega)
    · rw [best_yes hc] at h; cases h
theorem best_some {ok : Nat → Bool} {r t : Nat → Int} : ∀ {k p : Nat}, best ok r t k = some p → p < k ∧ ok p = true ∧ ∀ i, i < k → ok i = true → compare (r i) (t i) (r p) (t p) ≤ 0
  | 0, p, h => by cases h
  | k + 1, p, h => by
    cases hc : ok k && beats r t k (best ok r t k)
    · rw [best_no hc] at h
      obtain ⟨h1, h2, h3⟩ := best_some h
      refine ⟨by omega, h2, fun i hi ho => ?_⟩
      by_cases hik : i = k
      · subst hik
        rw [h, ho] at hc
        simp only [beats, Bool.true_and, decide_eq_false_iff_not] at hc
        omega
      · exact h3 i (by omega) ho
    · rw [best_yes hc] at h
      injection h with h
      subst h
      simp only [Bool.and_eq_true] at hc
      refine ⟨by omega, hc.1, fun i hi ho => ?_⟩
      by_cases hik : i = k
      · subst hik; rw [compare_zero.2 ⟨rfl, rfl⟩]; omega
      · cases hb : best ok r t k with
        | none => rw [best_none hb i (by omega)] at ho; cases ho
        | some q =>
          obtain ⟨h1, h2, h3⟩ := best_some hb
          have h4 := h3 i (by omega) ho
          have hc2 := hc.2
          rw [hb] at hc2
          simp only [beats, decide_eq_true_eq] at hc2
          have h5 := compare_swap (r q) (t q) (r k) (t k)
          have h6 := (compare_trans (r i) (t i) (r q) (t q) (r k) (t k)).1
          omega
theorem best_all {r t : Nat → Int} {k : Nat} : ∃ p, best (fun _ => true) r t (k + 1) = some p := by
  cases h : best (fun _ => true) r t (k + 1) with
  | none => have := best_none h 0 (by omega); cases this
  | some p => exact ⟨p, rfl⟩

/-- Does a promise count? -/
def ct (n : Int) (x : Pm) : Bool := x.some && inr n x.frm
def bestP (n : Int) (l : List Pm) (k : Nat) : Option Nat := best (fun i => ct n (l.getD i pm0)) (fun i => (l.getD i pm0).r) (fun i => (l.getD i pm0).t) k
def leftOf (l : List Pm) : Option Nat → List Int
  | none => []
  | some p => (l.getD p pm0).val
/-- Which value promises leave. -/
def left (n : Int) (l : List Pm) : List Int := leftOf l (bestP n l l.length)
def may_ (n : Int) (l : List Pm) : Bool := most (l.map Pm.frm) n
def chosen (n : Int) (l : List Pm) : List Int := if may_ n l then left n l else []

def bestV (l : List Vt) (k : Nat) : Option Nat := best (fun _ => true) (fun i => (l.getD i vt0).r) (fun i => (l.getD i vt0).t) k
/-- Whether most voted at a ballot. -/
def voters (r t : Int) (l : List Vt) : List Int := (l.filter fun v => decide (v.r = r ∧ v.t = t)).map Vt.frm
def decided (r t n : Int) (l : List Vt) : Bool := most (voters r t l) n
def topOf (l : List Vt) : Option Nat → Int × Int
  | none => (0, 0)
  | some p => ((l.getD p vt0).r, (l.getD p vt0).t)
def great (l : List Vt) : Int × Int := topOf l (bestV l l.length)
def anyV (l : List Vt) : Bool := decide (l.length ≠ 0)

theorem getD_mem {α : Type} {l : List α} {i : Nat} {d : α} (h : i < l.length) : l.getD i d ∈ l := by
  rw [List.getD_eq_getElem?_getD, List.getElem?_eq_getElem h]; exact List.getElem_mem h
theorem getD_of_mem {α : Type} {l : List α} {x : α} (d : α) (h : x ∈ l) : ∃ i, i < l.length ∧ l.getD i d = x := by
  obtain ⟨i, hi, rfl⟩ := List.getElem_of_mem h
  exact ⟨i, hi, by rw [List.getD_eq_getElem?_getD, List.getElem?_eq_getElem hi]; rfl⟩

/-- What is left: nothing, where none counts; else what one of those that count had, whose ballot is no less than theirs. -/
theorem left_is (n : Int) (l : List Pm) : ((∀ x ∈ l, ct n x = false) ∧ left n l = []) ∨ ∃ p, p < l.length ∧ ct n (l.getD p pm0) = true ∧ left n l = (l.getD p pm0).val ∧ ∀ x ∈ l, ct n x = true → compare x.r x.t (l.getD p pm0).r (l.getD p pm0).t ≤ 0 := by
  unfold left
  cases h : bestP n l l.length with
  | none =>
    left
    refine ⟨fun x hx => ?_, rfl⟩
    obtain ⟨i, hi, rfl⟩ := getD_of_mem pm0 hx
    exact best_none h i hi
  | some p =>
    right
    obtain ⟨h1, h2, h3⟩ := best_some h
    refine ⟨p, h1, h2, rfl, fun x hx hc => ?_⟩
    obtain ⟨i, hi, rfl⟩ := getD_of_mem pm0 hx
    exact h3 i hi hc

/-- Two of a list with one ballot. -/
def twin (l : List Pm) : Prop := ∃ i k, i < l.length ∧ k < i ∧ (l.getD i pm0).some = true ∧ (l.getD k pm0).some = true ∧ (l.getD i pm0).r = (l.getD k pm0).r ∧ (l.getD i pm0).t = (l.getD k pm0).t

theorem left_order (n : Int) {l m : List Pm} (hm : ∀ x, x ∈ m ↔ x ∈ l) (hl : ¬ twin l) : left n m = left n l := by
  rcases left_is n l with ⟨h1, h2⟩ | ⟨p, hp, h1, h2, h3⟩
  · rcases left_is n m with ⟨_, h4⟩ | ⟨q, hq, h4, _, _⟩
    · rw [h2, h4]
    · have := h1 _ ((hm _).1 (getD_mem (d := pm0) hq))
      rw [h4] at this; cases this
  · rcases left_is n m with ⟨h4, _⟩ | ⟨q, hq, h4, h5, h6⟩
    · have := h4 _ ((hm _).2 (getD_mem (d := pm0) hp))
      rw [h1] at this; cases this
    · obtain ⟨k, hk, hkq⟩ := getD_of_mem pm0 ((hm _).1 (getD_mem (d := pm0) hq))
      rw [h2, h5, ← hkq]
      have a1 := h6 _ ((hm _).2 (getD_mem (d := pm0) hp)) h1
      have a2 := h3 _ ((hm _).1 (getD_mem (d := pm0) hq)) h4
      rw [← hkq] at a1 a2 h4
      have a3 := compare_swap (l.getD p pm0).r (l.getD p pm0).t (l.getD k pm0).r (l.getD k pm0).t
      have a4 := compare_zero.1 (show compare (l.getD p pm0).r (l.getD p pm0).t (l.getD k pm0).r (l.getD k pm0).t = 0 by omega)
      simp only [ct, Bool.and_eq_true] at h1 h4
      rcases Nat.lt_trichotomy p k with h | h | h
      · exact absurd ⟨k, p, hk, h, h4.1, h1.1, a4.1.symm, a4.2.symm⟩ hl
      · rw [h]
      · exact absurd ⟨p, k, hp, h, h1.1, h4.1, a4.1, a4.2⟩ hl

theorem most_same {n : Int} {a b : List Int} (h : ∀ x, x ∈ a ↔ x ∈ b) : most a n = most b n := by
  cases h1 : most a n <;> cases h2 : most b n
  · rfl
  · rw [most_mono (fun x hx => (h x).2 hx) h2] at h1; cases h1
  · rw [most_mono (fun x hx => (h x).1 hx) h1] at h2; cases h2
  · rfl

theorem may_reverse (n : Int) (l : List Pm) : may_ n l.reverse = may_ n l := most_same fun x => by simp
theorem left_reverse (n : Int) {l : List Pm} (hl : ¬ twin l) : left n l.reverse = left n l := left_order n (fun x => by simp) hl
/-- A promise, but for what it accepted. -/
def bare (x : Pm) : Pm := { x with some := false }
theorem may_bare (n : Int) (l : List Pm) : may_ n (l.reverse.map bare) = may_ n l := most_same fun x => by simp [bare]
theorem left_bare (n : Int) (l : List Pm) : left n (l.map bare) = [] := by
  rcases left_is n (l.map bare) with ⟨_, h⟩ | ⟨p, hp, h, _, _⟩
  · exact h
  · have hb : ∀ x ∈ l.map bare, x.some = false := fun x hx => by
      obtain ⟨y, _, rfl⟩ := List.mem_map.1 hx; rfl
    have := hb _ (getD_mem (d := pm0) hp)
    unfold ct at h
    rw [this] at h
    cases h

/-- More votes don't undo what is decided. -/
theorem decided_more {r t n : Int} {l m : List Vt} (h : ∀ x ∈ l, x ∈ m) (hd : decided r t n l = true) : decided r t n m = true := by
  refine most_mono (fun x hx => ?_) hd
  unfold voters at *
  obtain ⟨v, hv, rfl⟩ := List.mem_map.1 hx
  have hv := List.mem_filter.1 hv
  exact List.mem_map.2 ⟨v, List.mem_filter.2 ⟨h v hv.1, hv.2⟩, rfl⟩
/-- Votes of one site alone decide nothing among three or more. -/
theorem alone_not {r t n f : Int} {l : List Vt} (hn : 3 ≤ n) (h : ∀ v ∈ l, v.frm = f) : decided r t n l = false := by
  have h1 : (sites n (voters r t l)).length ≤ 1 := by
    have := length_le_of_nodup (nodup_sites n (voters r t l)) (b := [f]) fun x hx => by
      have hx := (mem_sites.1 hx).1
      unfold voters at hx
      obtain ⟨v, hv, rfl⟩ := List.mem_map.1 hx
      rw [h v (List.mem_filter.1 hv).1]; simp
    simpa using this
  have h2 : major n = n / 2 + 1 := by unfold major; rw [if_neg (by omega)]
  simp only [decided, most, Bool.and_eq_false_iff, decide_eq_false_iff_not]
  right
  omega
/-- The greatest ballot is no less than each. -/
theorem great_least {l : List Vt} {v : Vt} (h : v ∈ l) : 0 ≤ compare (great l).1 (great l).2 v.r v.t := by
  obtain ⟨i, hi, rfl⟩ := getD_of_mem vt0 h
  unfold great
  cases hb : bestV l l.length with
  | none => have := best_none hb i hi; cases this
  | some p =>
    obtain ⟨_, _, h3⟩ := best_some hb
    have := h3 i hi rfl
    rw [compare_swap]
    simp only [topOf]
    omega

/-- The reference's greatest ballot, step by step. -/
theorem great_step {l : List Vt} {k p : Nat} (h : bestV l (k + 1) = some p) : bestV l (k + 2) = if 0 < compare (l.getD (k + 1) vt0).r (l.getD (k + 1) vt0).t (l.getD p vt0).r (l.getD p vt0).t then some (k + 1) else some p := by
  unfold bestV at *
  rw [best, h]
  simp only [beats, Bool.true_and, decide_eq_true_eq]
theorem best_first (l : List Vt) : bestV l 1 = some 0 := by simp [bestV, best, beats]
end Go.Prp
