/-
  The plain mathematics of one acceptor: what it has promised, what it accepted; no program in sight.
-/
import Derived.Test.YtodlabpgjgbbpahBallotWords
namespace Go.Acc
open Go.Bal

/-- What an acceptor knows: its promise, whether it accepted, at which ballot, and what. -/
structure St where
  pr : Int
  ps : Int
  some : Bool
  ar : Int
  as_ : Int
  val : List Int

def zero : St := ⟨0, 0, false, 0, 0, []⟩
/-- Is a ballot below what was promised? -/
def low (s : St) (r t : Int) : Bool := decide (compare r t s.pr s.ps < 0)
def prepareOk (s : St) (r t : Int) : Bool := decide (1 ≤ r) && !low s r t
def prepare (s : St) (r t : Int) : St := if prepareOk s r t then { s with pr := r, ps := t } else s
def acceptOk (s : St) (r t : Int) : Bool := !low s r t
def accept (s : St) (r t : Int) (v : List Int) : St := if acceptOk s r t then ⟨r, t, true, r, t, v⟩ else s
/-- May it be, of n sites? -/
def mayBe (s : St) (n : Int) : Bool :=
  may s.pr s.ps n && (if s.some then may s.ar s.as_ n && decide (compare s.ar s.as_ s.pr s.ps ≤ 0) && decide (s.val.length ≤ 2048) else decide (s.ar = 0 ∧ s.as_ = 0) && decide (s.val.length = 0))
def same (a b : St) : Bool := decide (a.pr = b.pr ∧ a.ps = b.ps) && (a.some == b.some) && decide (a.ar = b.ar ∧ a.as_ = b.as_) && decide (a.val = b.val)

theorem prepare_ok {s : St} {r t : Int} (h : prepareOk s r t = true) : prepare s r t = { s with pr := r, ps := t } := by unfold prepare; rw [if_pos h]
theorem prepare_no {s : St} {r t : Int} (h : prepareOk s r t = false) : prepare s r t = s := by unfold prepare; rw [if_neg (by rw [h]; decide)]
theorem accept_ok {s : St} {r t : Int} {v : List Int} (h : acceptOk s r t = true) : accept s r t v = ⟨r, t, true, r, t, v⟩ := by unfold accept; rw [if_pos h]
theorem accept_no {s : St} {r t : Int} {v : List Int} (h : acceptOk s r t = false) : accept s r t v = s := by unfold accept; rw [if_neg (by rw [h]; decide)]

theorem same_self (s : St) : same s s = true := by simp [same]
theorem same_iff {a b : St} : same a b = true ↔ a = b := by
  constructor
  · intro h
    simp only [same, Bool.and_eq_true, decide_eq_true_eq, beq_iff_eq] at h
    obtain ⟨⟨⟨⟨h1, h2⟩, h3⟩, h4, h5⟩, h6⟩ := h
    cases a; cases b; simp_all
  · rintro rfl; exact same_self a

/-- What comes: a ballot, and, maybe, a value. -/
structure Ask where
  r : Int
  t : Int
  puts : Bool
  val : List Int
def answer (s : St) (a : Ask) : St := if a.puts then accept s a.r a.t a.val else prepare s a.r a.t
def answerOk (s : St) (a : Ask) : Bool := if a.puts then acceptOk s a.r a.t else prepareOk s a.r a.t

theorem answer_no {s : St} {a : Ask} (h : answerOk s a = false) : answer s a = s := by
  unfold answer answerOk at *
  split
  · rename_i hp; rw [if_pos hp] at h; exact accept_no h
  · rename_i hp; rw [if_neg hp] at h; exact prepare_no h

theorem not_low {s : St} {r t : Int} : low s r t = false ↔ 0 ≤ compare r t s.pr s.ps := by simp [low]
theorem compare_self (r t : Int) : compare r t r t = 0 := compare_zero.2 ⟨rfl, rfl⟩
theorem le_trans' {r s r' s' r'' s'' : Int} (h : compare r s r' s' ≤ 0) (k : compare r' s' r'' s'' ≤ 0) : compare r s r'' s'' ≤ 0 := by
  have := (compare_trans r s r' s' r'' s'').1
  omega
theorem ge_of_le {r s r' s' : Int} (h : 0 ≤ compare r s r' s') : compare r' s' r s ≤ 0 := by rw [compare_swap]; omega
theorem le_of_ge {r s r' s' : Int} (h : compare r s r' s' ≤ 0) : 0 ≤ compare r' s' r s := by rw [compare_swap]; omega

theorem answer_ok {s : St} {a : Ask} (h : answerOk s a = true) : 0 ≤ compare a.r a.t s.pr s.ps ∧ (answer s a).pr = a.r ∧ (answer s a).ps = a.t := by
  unfold answer answerOk at *
  cases hp : a.puts <;> rw [hp] at h <;> simp only [Bool.false_eq_true, if_false, if_true] at h ⊢
  · rw [prepare_ok h]
    simp only [prepareOk, Bool.and_eq_true, Bool.not_eq_true'] at h
    exact ⟨not_low.1 h.2, rfl, rfl⟩
  · rw [accept_ok h]
    simp only [acceptOk, Bool.not_eq_true'] at h
    exact ⟨not_low.1 h, rfl, rfl⟩

/-- The promise never gets less. -/
theorem rises (s : St) (a : Ask) : 0 ≤ compare (answer s a).pr (answer s a).ps s.pr s.ps := by
  cases h : answerOk s a
  · rw [answer_no h, compare_self]; omega
  · obtain ⟨h1, h2, h3⟩ := answer_ok h
    rw [h2, h3]; exact h1

/-- What was accepted is at no ballot above the promise. -/
def good (s : St) : Prop := s.some = true → compare s.ar s.as_ s.pr s.ps ≤ 0
theorem good_zero : good zero := fun h => by cases h
theorem good_answer {s : St} (hs : good s) (a : Ask) : good (answer s a) := by
  cases h : answerOk s a
  · rw [answer_no h]; exact hs
  · obtain ⟨h1, h2, h3⟩ := answer_ok h
    unfold answer answerOk at *
    cases hp : a.puts <;> rw [hp] at h h2 h3 <;> simp only [Bool.false_eq_true, if_false, if_true] at h h2 h3 ⊢
    · rw [prepare_ok h]
      intro hsm
      exact le_trans' (hs hsm) (ge_of_le h1)
    · rw [accept_ok h]
      intro _
      show compare a.r a.t a.r a.t ≤ 0
      rw [compare_self]; omega
theorem some_answer {s : St} (a : Ask) (h : s.some = true) : (answer s a).some = true := by
  cases hk : answerOk s a
  · rw [answer_no hk]; exact h
  · unfold answer answerOk at *
    cases hp : a.puts <;> rw [hp] at hk <;> simp only [Bool.false_eq_true, if_false, if_true] at hk ⊢
    · rw [prepare_ok hk]; exact h
    · rw [accept_ok hk]
theorem at_answer {s : St} (hs : good s) (a : Ask) (h : s.some = true) : 0 ≤ compare (answer s a).ar (answer s a).as_ s.ar s.as_ := by
  cases hk : answerOk s a
  · rw [answer_no hk, compare_self]; omega
  · obtain ⟨h1, h2, h3⟩ := answer_ok hk
    unfold answer answerOk at *
    cases hp : a.puts <;> rw [hp] at hk h2 h3 <;> simp only [Bool.false_eq_true, if_false, if_true] at hk h2 h3 ⊢
    · rw [prepare_ok hk]; show 0 ≤ compare s.ar s.as_ s.ar s.as_; rw [compare_self]; omega
    · rw [accept_ok hk]
      exact le_of_ge (le_trans' (hs h) (ge_of_le h1))

/-- What comes once more is answered as it was, and changes nothing more. -/
theorem twice (s : St) (a : Ask) : answerOk (answer s a) a = answerOk s a ∧ answer (answer s a) a = answer s a := by
  cases hk : answerOk s a
  · rw [answer_no hk]; exact ⟨hk, answer_no hk⟩
  · unfold answer answerOk at *
    cases hp : a.puts <;> rw [hp] at hk <;> simp only [Bool.false_eq_true, if_false, if_true] at hk ⊢
    · rw [prepare_ok hk]
      have h1 : prepareOk { s with pr := a.r, ps := a.t } a.r a.t = true := by
        simp only [prepareOk, Bool.and_eq_true, Bool.not_eq_true'] at hk ⊢
        exact ⟨hk.1, not_low.2 (by show 0 ≤ compare a.r a.t a.r a.t; rw [compare_self]; omega)⟩
      exact ⟨h1, by rw [prepare_ok h1]⟩
    · rw [accept_ok hk]
      have h1 : acceptOk ⟨a.r, a.t, true, a.r, a.t, a.val⟩ a.r a.t = true := by
        simp only [acceptOk, Bool.not_eq_true']
        exact not_low.2 (by show 0 ≤ compare a.r a.t a.r a.t; rw [compare_self]; omega)
      exact ⟨h1, by rw [accept_ok h1]⟩

/-- Behind a promise nothing below it is answered. -/
theorem keeps_answer {s : St} {r t : Int} (h : 0 ≤ compare s.pr s.ps r t) (a : Ask) : 0 ≤ compare (answer s a).pr (answer s a).ps r t :=
  le_of_ge (le_trans' (ge_of_le h) (ge_of_le (rises s a)))
theorem low_of_keeps {s : St} {r t r' t' : Int} (h : 0 ≤ compare s.pr s.ps r t) (hl : compare r' t' r t < 0) : low s r' t' = true := by
  have h1 := (compare_trans r' t' s.pr s.ps r t).2
  have h2 := (compare_trans s.pr s.ps r' t' r t).2
  have h3 := compare_swap r' t' s.pr s.ps
  have h4 : compare s.pr s.ps r t ≥ 0 := h
  by_cases hx : compare r' t' s.pr s.ps < 0
  · simp [low, hx]
  · exfalso
    have h5 : compare r' t' r t ≥ 0 := le_of_ge (le_trans' (ge_of_le h4) (ge_of_le (by omega : 0 ≤ compare r' t' s.pr s.ps)))
    omega
theorem refused_prepare {s : St} {r t : Int} (h : low s r t = true) : prepareOk s r t = false := by simp [prepareOk, h]
theorem refused_accept {s : St} {r t : Int} (h : low s r t = true) : acceptOk s r t = false := by simp [acceptOk, h]

theorem prepare_zero {r t : Int} (h : prepareOk zero r t = false) : r < 1 := by
  simp only [prepareOk, Bool.and_eq_false_iff, decide_eq_false_iff_not, Bool.not_eq_false'] at h
  rcases h with h | h
  · omega
  · simp only [low, decide_eq_true_eq] at h
    rcases compare_lt.1 h with h1 | ⟨h1, _⟩
    · exact Int.lt_trans h1 (by decide)
    · rw [h1]; decide

/-- A state that may be stays one that may be. -/
theorem mayBe_zero {n : Int} (h : 1 ≤ n) : mayBe zero n = true := by
  have : may 0 0 n = true := by simp [may, inr]; omega
  simp [mayBe, zero, this]
theorem mayBe_answer {s : St} {n : Int} (a : Ask) (h : mayBe s n = true) (hm : may a.r a.t n = true) (hv : a.val.length ≤ 2048) : mayBe (answer s a) n = true := by
  cases hk : answerOk s a
  · rw [answer_no hk]; exact h
  · obtain ⟨h1, h2, h3⟩ := answer_ok hk
    unfold answer answerOk at *
    cases hp : a.puts <;> rw [hp] at hk h2 h3 <;> simp only [Bool.false_eq_true, if_false, if_true] at hk h2 h3 ⊢
    · rw [prepare_ok hk]
      unfold mayBe at *
      simp only [Bool.and_eq_true] at h ⊢
      refine ⟨hm, ?_⟩
      cases hs : s.some
      · rw [hs] at h; exact h.2
      · rw [hs] at h
        simp only [if_true, Bool.and_eq_true, decide_eq_true_eq] at h ⊢
        exact ⟨⟨h.2.1.1, le_trans' h.2.1.2 (ge_of_le h1)⟩, h.2.2⟩
    · rw [accept_ok hk]
      unfold mayBe
      simp only [if_true, Bool.and_eq_true, decide_eq_true_eq]
      exact ⟨hm, ⟨hm, by rw [compare_self]; omega⟩, hv⟩

end Go.Acc
