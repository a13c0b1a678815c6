/-
  How long values and lists grow: beside the invariant; and what an event does to a slot.
-/
import Derived.Test.YtodlabpgjgbbpahPaxPlain
namespace Go.Pax
open Go.Bal Go.Prp

/-- After m events: so many rounds, promises, votes; no value is longer than the owner's may be. -/
structure Small (m : Nat) (s : Sl) : Prop where
  len : s.rs.length ≤ m + 1
  acc : ∀ q ∈ s.all, q.val.length ≤ 140737488351232
  rnd : ∀ r ∈ s.rs, r.ps.length ≤ m ∧ r.vs.length ≤ m ∧ r.val.length ≤ 140737488351232 ∧ ∀ p ∈ r.ps, p.val.length ≤ 140737488351232
theorem Small.ac {m : Nat} {s : Sl} (h : Small m s) (a : Nat) : (ac s a).val.length ≤ 140737488351232 := by
  unfold Pax.ac
  rw [List.getD_eq_getElem?_getD]
  cases hq : s.all[a]? with
  | none => exact Nat.zero_le _
  | some q => exact h.acc q (List.mem_of_getElem? hq)
theorem Small.rd {m : Nat} {s : Sl} (h : Small m s) (k : Nat) : (rd s k).ps.length ≤ m ∧ (rd s k).vs.length ≤ m ∧ (rd s k).val.length ≤ 140737488351232 ∧ ∀ p ∈ (rd s k).ps, p.val.length ≤ 140737488351232 := by
  unfold Pax.rd
  rw [List.getD_eq_getElem?_getD]
  cases hq : s.rs[k]? with
  | none => exact ⟨Nat.zero_le _, Nat.zero_le _, Nat.zero_le _, fun p hp => by cases hp⟩
  | some q => exact h.rnd q (List.mem_of_getElem? hq)
theorem Small.mono {m n : Nat} {s : Sl} (h : Small m s) (hmn : m ≤ n) : Small n s :=
  ⟨Nat.le_trans h.len (by omega), h.acc, fun r hr => ⟨Nat.le_trans (h.rnd r hr).1 hmn, Nat.le_trans (h.rnd r hr).2.1 hmn, (h.rnd r hr).2.2⟩⟩
theorem small_new {m : Nat} {s : Sl} (h : Small m s) (p : Int) : Small (m + 1) (opNew s p) :=
  ⟨by unfold opNew; simp only [List.length_append, List.length_cons, List.length_nil]; have := h.len; omega, h.acc, fun r hr => by
    rcases List.mem_append.1 hr with h1 | h1
    · exact (h.mono (Nat.le_succ m)).rnd r h1
    · simp only [List.mem_cons, List.not_mem_nil, or_false] at h1
      subst h1
      exact ⟨Nat.zero_le _, Nat.zero_le _, Nat.zero_le _, fun p hp => by cases hp⟩⟩
theorem small_ask {m : Nat} {s : Sl} (h : Small m s) (k a : Nat) (lost : Bool) : Small (m + 1) (opAsk s k a lost) := by
  have hm := h.mono (Nat.le_succ m)
  have hrd := h.rd k
  refine ⟨?_, fun q hq => ?_, fun r hr => ?_⟩
  · unfold opAsk
    have := hm.len
    dsimp only
    split
    · rw [List.length_set]; exact this
    · exact this
  · unfold opAsk at hq
    rcases List.mem_or_eq_of_mem_set hq with h1 | h1
    · exact h.acc q h1
    · subst h1
      cases hok : Acc.prepareOk (Pax.ac s a) (Pax.rd s k).r (Pax.rd s k).t
      · rw [Acc.prepare_no hok]; exact h.ac a
      · rw [Acc.prepare_ok hok]; exact h.ac a
  · unfold opAsk at hr
    dsimp only at hr
    split at hr
    · rcases List.mem_or_eq_of_mem_set hr with h1 | h1
      · exact hm.rnd r h1
      · subst h1
        refine ⟨by simp only [List.length_append, List.length_cons, List.length_nil]; omega, by show (Pax.rd s k).vs.length ≤ _; omega, hrd.2.2.1, fun p hp => ?_⟩
        rcases List.mem_append.1 hp with h2 | h2
        · exact hrd.2.2.2 p h2
        · simp only [List.mem_cons, List.not_mem_nil, or_false] at h2
          subst h2
          exact h.ac a
    · exact hm.rnd r hr
theorem left_small {n : Int} {l : List Pm} {L : Nat} (h : ∀ p ∈ l, p.val.length ≤ L) : (left n l).length ≤ L := by
  rcases left_is n l with ⟨_, e⟩ | ⟨p, hp, _, e, _⟩
  · rw [e]; exact Nat.zero_le _
  · rw [e]; exact h _ (getD_mem hp)
theorem small_choose {m : Nat} {s : Sl} (h : Small m s) (n : Int) (k : Nat) : Small (m + 1) (opChoose s n k) := by
  have hm := h.mono (Nat.le_succ m)
  have hrd := h.rd k
  unfold opChoose
  split
  · refine ⟨by show (s.rs.set _ _).length ≤ _; rw [List.length_set]; exact hm.len, h.acc, fun r hr => ?_⟩
    rcases List.mem_or_eq_of_mem_set hr with h1 | h1
    · exact hm.rnd r h1
    · subst h1
      exact ⟨by show (Pax.rd s k).ps.length ≤ _; omega, by show (Pax.rd s k).vs.length ≤ _; omega, left_small hrd.2.2.2, hrd.2.2.2⟩
  · exact hm
theorem small_put {m : Nat} {s : Sl} (h : Small m s) (k a : Nat) : Small (m + 1) (opPut s k a) := by
  have hm := h.mono (Nat.le_succ m)
  have hrd := h.rd k
  unfold opPut
  split
  · refine ⟨?_, fun q hq => ?_, fun r hr => ?_⟩
    · have := hm.len
      dsimp only
      split
      · rw [List.length_set]; exact this
      · exact this
    · rcases List.mem_or_eq_of_mem_set hq with h1 | h1
      · exact h.acc q h1
      · subst h1
        cases hok : Acc.acceptOk (Pax.ac s a) (Pax.rd s k).r (Pax.rd s k).t
        · rw [Acc.accept_no hok]; exact h.ac a
        · rw [Acc.accept_ok hok]; exact hrd.2.2.1
    · dsimp only at hr
      split at hr
      · rcases List.mem_or_eq_of_mem_set hr with h1 | h1
        · exact hm.rnd r h1
        · subst h1
          refine ⟨by show (Pax.rd s k).ps.length ≤ _; omega, by simp only [List.length_append, List.length_cons, List.length_nil]; omega, hrd.2.2.1, hrd.2.2.2⟩
      · exact hm.rnd r hr
  · exact hm
theorem small_first {owner : Int} {val : List Int} (h : val.length ≤ 140737488351232) (m : Nat) : Small m (first owner val) :=
  ⟨by simp [first], fun q hq => by simp [first] at hq; rw [hq]; exact Nat.zero_le _, fun r hr => by
    simp only [first, List.mem_cons, List.not_mem_nil, or_false] at hr
    subst hr
    exact ⟨Nat.zero_le _, Nat.zero_le _, h, fun p hp => by cases hp⟩⟩
/-- A number's place among so many. -/
def plc (n m : Int) : Int := (if n < 0 then -(n + 1) else n) % m
theorem plc_range {n m : Int} (h : 0 < m) : 0 ≤ plc n m ∧ plc n m < m := ⟨Int.emod_nonneg _ (by omega), Int.emod_lt_of_pos _ h⟩
/-- An event. -/
def opPlay (N : Nat) (s : Sl) (kind ep ek ea : Int) (lost : Bool) : Sl :=
  if kind = 0 then opNew s (plc ep N) else if kind = 1 then opAsk s (plc ek s.rs.length).toNat (plc ea N).toNat lost else if kind = 2 then opChoose s N (plc ek s.rs.length).toNat else opPut s (plc ek s.rs.length).toNat (plc ea N).toNat
theorem inv_play {N : Nat} {s : Sl} (h : Inv N s) (hN : 0 < N) (kind ep ek ea : Int) (lost : Bool) : Inv N (opPlay N s kind ep ek ea lost) := by
  have hl := h.len
  have h1 := plc_range (n := ep) (m := N) (by omega)
  have h2 := plc_range (n := ek) (m := s.rs.length) (by omega)
  have h3 := plc_range (n := ea) (m := N) (by omega)
  unfold opPlay
  split
  · exact inv_new h h1.1
  · split
    · exact inv_ask h (by omega) (by omega) lost
    · split
      · exact inv_choose h (by omega)
      · exact inv_put h (by omega) (by omega)
theorem small_play {N m : Nat} {s : Sl} (h : Small m s) (kind ep ek ea : Int) (lost : Bool) : Small (m + 1) (opPlay N s kind ep ek ea lost) := by
  unfold opPlay
  split
  · exact small_new h _
  · split
    · exact small_ask h _ _ _
    · split
      · exact small_choose h _ _
      · exact small_put h _ _
end Go.Pax
