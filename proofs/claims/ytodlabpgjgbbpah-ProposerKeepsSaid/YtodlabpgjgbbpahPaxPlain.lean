/-
  The plain mathematics of one slot: rounds, acceptors, whatever comes (Paxos): lists, no program in sight.
-/
import Derived.Test.YtodlabpgjgbbpahPropPlain
import Derived.Test.YtodlabpgjgbbpahAccPlain
namespace Go.Pax
open Go.Bal Go.Prp

/-- A round: its ballot, the promises that came, whether it has a value, which one, and the votes for it. -/
structure Rnd where
  r : Int
  t : Int
  ps : List Pm
  has : Bool
  val : List Int
  vs : List Vt
def rn0 : Rnd := ⟨0, 0, [], false, [], []⟩
/-- A slot: its acceptors, and its rounds. -/
structure Sl where
  all : List Acc.St
  rs : List Rnd
def rd (s : Sl) (k : Nat) : Rnd := s.rs.getD k rn0
def ac (s : Sl) (a : Nat) : Acc.St := s.all.getD a Acc.zero

def opNew (s : Sl) (p : Int) : Sl := ⟨s.all, s.rs ++ [⟨(rd s (s.rs.length - 1)).r + 1, p, [], false, [], []⟩]⟩
def told (a : Nat) (q : Acc.St) : Pm := ⟨a, q.some, q.ar, q.as_, q.val⟩
def opAsk (s : Sl) (k a : Nat) (lost : Bool) : Sl :=
  ⟨s.all.set a (Acc.prepare (ac s a) (rd s k).r (rd s k).t), if (Acc.prepareOk (ac s a) (rd s k).r (rd s k).t && !lost) = true then s.rs.set k { rd s k with ps := (rd s k).ps ++ [told a (ac s a)] } else s.rs⟩
def opChoose (s : Sl) (n : Int) (k : Nat) : Sl := if (may_ n (rd s k).ps && !(rd s k).has) = true then ⟨s.all, s.rs.set k { rd s k with has := true, val := left n (rd s k).ps }⟩ else s
def opPut (s : Sl) (k a : Nat) : Sl :=
  if (rd s k).has = true then ⟨s.all.set a (Acc.accept (ac s a) (rd s k).r (rd s k).t (rd s k).val), if Acc.acceptOk (ac s a) (rd s k).r (rd s k).t = true then s.rs.set k { rd s k with vs := (rd s k).vs ++ [⟨a, (rd s k).r, (rd s k).t⟩] } else s.rs⟩ else s

theorem getD_set {α : Type} {l : List α} {k j : Nat} {x d : α} (h : k < l.length) : (l.set k x).getD j d = if j = k then x else l.getD j d := by
  rw [List.getD_eq_getElem?_getD, List.getD_eq_getElem?_getD, List.getElem?_set]
  by_cases hj : k = j
  · subst hj; simp [h]
  · rw [if_neg hj, if_neg (fun e => hj e.symm)]
theorem getD_snoc {α : Type} {l : List α} {j : Nat} {x d : α} (h : j < l.length) : (l ++ [x]).getD j d = l.getD j d := by
  rw [List.getD_eq_getElem?_getD, List.getD_eq_getElem?_getD, List.getElem?_append_left h]
theorem getD_last {α : Type} {l : List α} {x d : α} : (l ++ [x]).getD l.length d = x := by
  simp [List.getD_eq_getElem?_getD]

/-- What was accepted is some round's value. -/
def AtOk (s : Sl) (r t : Int) (v : List Int) : Prop := ∃ i : Nat, i < s.rs.length ∧ r = i ∧ t = (rd s i).t ∧ (rd s i).has = true ∧ v = (rd s i).val
def AccOk (s : Sl) (q : Acc.St) : Prop := (∃ p : Nat, p < s.rs.length ∧ q.pr = p ∧ (q.ps = (rd s p).t ∨ (p = 0 ∧ q.ps = 0))) ∧ (q.some = true → AtOk s q.ar q.as_ q.val ∧ q.ar ≤ q.pr)
/-- Whatever is kept: round by round. -/
structure Inv (N : Nat) (s : Sl) : Prop where
  len : 0 < s.rs.length
  alen : N ≤ s.all.length
  bal : ∀ k : Nat, k < s.rs.length → (rd s k).r = k ∧ 0 ≤ (rd s k).t
  acc : ∀ a : Nat, a < N → AccOk s (ac s a)
  vot : ∀ j : Nat, j < s.rs.length → ∀ v ∈ (rd s j).vs, v.r = j ∧ v.t = (rd s j).t ∧ (rd s j).has = true ∧ ∃ a : Nat, v.frm = a ∧ a < N ∧ (ac s a).some = true ∧ (j : Int) ≤ (ac s a).ar
  prm : ∀ k : Nat, k < s.rs.length → ∀ m ∈ (rd s k).ps, ∃ a : Nat, m.frm = a ∧ a < N ∧ (k : Int) ≤ (ac s a).pr ∧ (m.some = true → AtOk s m.r m.t m.val ∧ m.r ≤ k) ∧
    ∀ j : Nat, j < k → (∃ v ∈ (rd s j).vs, v.frm = a) → m.some = true ∧ (j : Int) ≤ m.r
  wit : ∀ k : Nat, k < s.rs.length → 0 < k → (rd s k).has = true → ∃ ps : List Pm, (∀ m ∈ ps, m ∈ (rd s k).ps) ∧ may_ N ps = true ∧ (rd s k).val = left N ps ∧ ∀ m ∈ ps, m.some = true → m.r < k
  fst : (rd s 0).has = true

/-- Rounds stay what they were. -/
def Ext (s s' : Sl) : Prop := s.rs.length ≤ s'.rs.length ∧ ∀ k : Nat, k < s.rs.length → (rd s' k).t = (rd s k).t ∧ ((rd s k).has = true → (rd s' k).has = true ∧ (rd s' k).val = (rd s k).val)
theorem AtOk.ext {s s' : Sl} (h : Ext s s') {r t : Int} {v : List Int} (ha : AtOk s r t v) : AtOk s' r t v := by
  obtain ⟨i, h1, h2, h3, h4, h5⟩ := ha
  obtain ⟨e1, e2⟩ := h.2 i h1
  exact ⟨i, Nat.lt_of_lt_of_le h1 h.1, h2, by rw [e1]; exact h3, (e2 h4).1, by rw [(e2 h4).2]; exact h5⟩
theorem AccOk.ext {s s' : Sl} (h : Ext s s') {q : Acc.St} (ha : AccOk s q) : AccOk s' q := by
  obtain ⟨⟨p, h1, h2, h3⟩, h4⟩ := ha
  refine ⟨⟨p, Nat.lt_of_lt_of_le h1 h.1, h2, ?_⟩, fun hs => ⟨(h4 hs).1.ext h, (h4 hs).2⟩⟩
  rw [(h.2 p h1).1]
  exact h3

/-- A ballot of a round is below a promise just if the round is an earlier one. -/
theorem low_iff {N : Nat} {s : Sl} (h : Inv N s) {q : Acc.St} (hq : AccOk s q) {k : Nat} (hk : k < s.rs.length) : Acc.low q (rd s k).r (rd s k).t = true ↔ (k : Int) < q.pr := by
  obtain ⟨⟨p, h1, h2, h3⟩, _⟩ := hq
  obtain ⟨b1, b2⟩ := h.bal k hk
  unfold Acc.low
  rw [decide_eq_true_eq, b1, h2]
  unfold Bal.compare
  by_cases hlt : (k : Int) < p
  · rw [if_pos hlt]; exact ⟨fun _ => hlt, fun _ => by omega⟩
  · rw [if_neg hlt]
    refine ⟨fun hc => ?_, fun h' => absurd h' hlt⟩
    exfalso
    by_cases he : (k : Int) = p
    · rw [if_pos he] at hc
      have hkp : k = p := by omega
      subst hkp
      rcases h3 with h3 | ⟨h3, h4⟩
      · rw [h3] at hc; unfold cmp at hc; rw [if_neg (by omega), if_pos rfl] at hc; omega
      · rw [h4] at hc; unfold cmp at hc; rw [if_neg (by omega)] at hc; split at hc <;> omega
    · rw [if_neg he] at hc; omega

theorem Inv.congr {N : Nat} {s s' : Sl} (h : Inv N s) (hr : s'.rs = s.rs) (hl : s.all.length = s'.all.length) (ha : ∀ a, a < N → ac s' a = ac s a) : Inv N s' := by
  have hrd : ∀ k, rd s' k = rd s k := fun k => by unfold rd; rw [hr]
  have hx : Ext s s' := ⟨by rw [hr]; exact Nat.le_refl _, fun k _ => by rw [hrd]; exact ⟨rfl, fun h => ⟨h, rfl⟩⟩⟩
  refine ⟨by rw [hr]; exact h.len, by rw [← hl]; exact h.alen, fun k hk => ?_, fun a hk => ?_, fun j hj v hv => ?_, fun k hk m hm => ?_, fun k hk h0 hh => ?_, by rw [hrd]; exact h.fst⟩
  · rw [hrd]; exact h.bal k (by rw [← hr]; exact hk)
  · rw [ha a hk]; exact (h.acc a hk).ext hx
  · rw [hrd] at hv
    obtain ⟨h1, h2, h3, a, h4, h5, h6, h7⟩ := h.vot j (by rw [← hr]; exact hj) v hv
    exact ⟨h1, by rw [hrd]; exact h2, by rw [hrd]; exact h3, a, h4, h5, by rw [ha a h5]; exact h6, by rw [ha a h5]; exact h7⟩
  · rw [hrd] at hm
    obtain ⟨a, h1, h2, h3, h4, h5⟩ := h.prm k (by rw [← hr]; exact hk) m hm
    exact ⟨a, h1, h2, by rw [ha a h2]; exact h3, fun hs => ⟨(h4 hs).1.ext hx, (h4 hs).2⟩, fun j hj hv => h5 j hj (by rw [hrd] at hv; exact hv)⟩
  · rw [hrd] at hh ⊢
    exact h.wit k (by rw [← hr]; exact hk) h0 hh

/-- An acceptor goes on. -/
theorem Inv.acceptor {N : Nat} {s : Sl} (h : Inv N s) {a : Nat} (ha : a < N) {q : Acc.St} (hq : AccOk s q) (hpr : (ac s a).pr ≤ q.pr) (hs : (ac s a).some = true → q.some = true ∧ (ac s a).ar ≤ q.ar) : Inv N ⟨s.all.set a q, s.rs⟩ := by
  have hal : a < s.all.length := Nat.lt_of_lt_of_le ha h.alen
  have hac : ∀ b, ac ⟨s.all.set a q, s.rs⟩ b = if b = a then q else ac s b := fun b => getD_set hal
  have hx : Ext s ⟨s.all.set a q, s.rs⟩ := ⟨Nat.le_refl _, fun k _ => ⟨rfl, fun h => ⟨h, rfl⟩⟩⟩
  refine ⟨h.len, by simp; exact h.alen, h.bal, fun b hb => ?_, fun j hj v hv => ?_, fun k hk m hm => ?_, h.wit, h.fst⟩
  · rw [hac]
    split
    · exact hq.ext hx
    · exact (h.acc b hb).ext hx
  · obtain ⟨h1, h2, h3, b, h4, h5, h6, h7⟩ := h.vot j hj v hv
    refine ⟨h1, h2, h3, b, h4, h5, ?_, ?_⟩
    · rw [hac]; split
      · rename_i e; subst e; exact (hs h6).1
      · exact h6
    · rw [hac]; split
      · rename_i e; subst e; have := (hs h6).2; omega
      · exact h7
  · obtain ⟨b, h1, h2, h3, h4, h5⟩ := h.prm k hk m hm
    refine ⟨b, h1, h2, ?_, fun hh => ⟨(h4 hh).1.ext hx, (h4 hh).2⟩, h5⟩
    rw [hac]; split
    · rename_i e; subst e; omega
    · exact h3

/-- A promise more. -/
theorem Inv.promise {N : Nat} {s : Sl} (h : Inv N s) {k a : Nat} (hk : k < s.rs.length) (ha : a < N) {m : Pm} (hm : m.frm = a) (hp : (k : Int) ≤ (ac s a).pr) (h1 : m.some = true → AtOk s m.r m.t m.val ∧ m.r ≤ k)
    (h2 : ∀ j : Nat, j < k → (∃ v ∈ (rd s j).vs, v.frm = a) → m.some = true ∧ (j : Int) ≤ m.r) : Inv N ⟨s.all, s.rs.set k { rd s k with ps := (rd s k).ps ++ [m] }⟩ := by
  have hrd : ∀ j, rd ⟨s.all, s.rs.set k { rd s k with ps := (rd s k).ps ++ [m] }⟩ j = if j = k then { rd s k with ps := (rd s k).ps ++ [m] } else rd s j := fun j => getD_set hk
  have hpart : ∀ j, (rd ⟨s.all, s.rs.set k { rd s k with ps := (rd s k).ps ++ [m] }⟩ j).r = (rd s j).r ∧ (rd ⟨s.all, s.rs.set k { rd s k with ps := (rd s k).ps ++ [m] }⟩ j).t = (rd s j).t ∧ (rd ⟨s.all, s.rs.set k { rd s k with ps := (rd s k).ps ++ [m] }⟩ j).has = (rd s j).has ∧ (rd ⟨s.all, s.rs.set k { rd s k with ps := (rd s k).ps ++ [m] }⟩ j).val = (rd s j).val ∧ (rd ⟨s.all, s.rs.set k { rd s k with ps := (rd s k).ps ++ [m] }⟩ j).vs = (rd s j).vs := fun j => by
    rw [hrd]; split
    · rename_i e; subst e; exact ⟨rfl, rfl, rfl, rfl, rfl⟩
    · exact ⟨rfl, rfl, rfl, rfl, rfl⟩
  have hx : Ext s ⟨s.all, s.rs.set k { rd s k with ps := (rd s k).ps ++ [m] }⟩ := ⟨by simp, fun j _ => by obtain ⟨_, e2, e3, e4, _⟩ := hpart j; rw [e2, e3, e4]; exact ⟨rfl, fun h => ⟨h, rfl⟩⟩⟩
  refine ⟨by simpa using h.len, h.alen, fun j hj => ?_, fun b hb => (h.acc b hb).ext hx, fun j hj v hv => ?_, fun j hj m' hm' => ?_, fun j hj h0 hh => ?_, ?_⟩
  · obtain ⟨e1, e2, _⟩ := hpart j
    rw [e1, e2]; exact h.bal j (by simpa using hj)
  · obtain ⟨e1, e2, e3, e4, e5⟩ := hpart j
    rw [e5] at hv
    rw [e2, e3]
    exact h.vot j (by simpa using hj) v hv
  · have hold : m' ∈ (rd s j).ps → ∃ a : Nat, m'.frm = a ∧ a < N ∧ (j : Int) ≤ (ac s a).pr ∧ (m'.some = true → AtOk ⟨s.all, s.rs.set k { rd s k with ps := (rd s k).ps ++ [m] }⟩ m'.r m'.t m'.val ∧ m'.r ≤ j) ∧
        ∀ i : Nat, i < j → (∃ v ∈ (rd ⟨s.all, s.rs.set k { rd s k with ps := (rd s k).ps ++ [m] }⟩ i).vs, v.frm = a) → m'.some = true ∧ (i : Int) ≤ m'.r := fun hmem => by
      obtain ⟨b, g1, g2, g3, g4, g5⟩ := h.prm j (by simpa using hj) m' hmem
      exact ⟨b, g1, g2, g3, fun hs => ⟨(g4 hs).1.ext hx, (g4 hs).2⟩, fun i hi hv => g5 i hi (by rw [(hpart i).2.2.2.2] at hv; exact hv)⟩
    rw [hrd] at hm'
    split at hm'
    · rename_i e
      subst e
      rcases List.mem_append.1 hm' with hmem | hmem
      · exact hold hmem
      · simp at hmem
        subst hmem
        exact ⟨a, hm, ha, hp, fun hs => ⟨(h1 hs).1.ext hx, (h1 hs).2⟩, fun i hi hv => h2 i hi (by rw [(hpart i).2.2.2.2] at hv; exact hv)⟩
    · exact hold hm'
  · obtain ⟨e1, e2, e3, e4, e5⟩ := hpart j
    rw [e3] at hh
    obtain ⟨ps, g1, g2, g3, g4⟩ := h.wit j (by simpa using hj) h0 hh
    refine ⟨ps, fun m' hm' => ?_, g2, by rw [e4]; exact g3, g4⟩
    rw [hrd]; split
    · rename_i e; subst e; exact List.mem_append.2 (.inl (g1 m' hm'))
    · exact g1 m' hm'
  · rw [(hpart 0).2.2.1]; exact h.fst

/-- A vote more. -/
theorem Inv.vote {N : Nat} {s : Sl} (h : Inv N s) {k a : Nat} (hk : k < s.rs.length) (ha : a < N) (hh : (rd s k).has = true) (hs : (ac s a).some = true) (har : (k : Int) ≤ (ac s a).ar)
    (hno : ∀ j : Nat, j < s.rs.length → k < j → ∀ m ∈ (rd s j).ps, m.frm ≠ a) : Inv N ⟨s.all, s.rs.set k { rd s k with vs := (rd s k).vs ++ [⟨a, (rd s k).r, (rd s k).t⟩] }⟩ := by
  have hrd : ∀ j, rd ⟨s.all, s.rs.set k { rd s k with vs := (rd s k).vs ++ [⟨a, (rd s k).r, (rd s k).t⟩] }⟩ j = if j = k then { rd s k with vs := (rd s k).vs ++ [⟨a, (rd s k).r, (rd s k).t⟩] } else rd s j := fun j => getD_set hk
  generalize hs' : (⟨s.all, s.rs.set k { rd s k with vs := (rd s k).vs ++ [⟨a, (rd s k).r, (rd s k).t⟩] }⟩ : Sl) = s' at *
  have hlen : s'.rs.length = s.rs.length := by rw [← hs']; simp
  have hall : s'.all = s.all := by rw [← hs']
  have hac : ∀ b, ac s' b = ac s b := fun b => by unfold ac; rw [hall]
  clear hs'
  have hpart : ∀ j, (rd s' j).r = (rd s j).r ∧ (rd s' j).t = (rd s j).t ∧ (rd s' j).has = (rd s j).has ∧ (rd s' j).val = (rd s j).val ∧ (rd s' j).ps = (rd s j).ps := fun j => by
    rw [hrd]; split
    · rename_i e; subst e; exact ⟨rfl, rfl, rfl, rfl, rfl⟩
    · exact ⟨rfl, rfl, rfl, rfl, rfl⟩
  have hvs : ∀ j v, v ∈ (rd s' j).vs → v ∈ (rd s j).vs ∨ (j = k ∧ v = ⟨a, (rd s k).r, (rd s k).t⟩) := fun j v hv => by
    rw [hrd] at hv
    split at hv
    · rename_i e
      subst e
      rcases List.mem_append.1 hv with g | g
      · exact .inl g
      · exact .inr ⟨rfl, by simpa using g⟩
    · exact .inl hv
  have hx : Ext s s' := ⟨by rw [hlen]; exact Nat.le_refl _, fun j _ => by obtain ⟨_, e2, e3, e4, _⟩ := hpart j; rw [e2, e3, e4]; exact ⟨rfl, fun h => ⟨h, rfl⟩⟩⟩
  refine ⟨by rw [hlen]; exact h.len, by rw [hall]; exact h.alen, fun j hj => ?_, fun b hb => by rw [hac]; exact (h.acc b hb).ext hx, fun j hj v hv => ?_, fun j hj m hm => ?_, fun j hj h0 hj' => ?_, by rw [(hpart 0).2.2.1]; exact h.fst⟩
  · obtain ⟨e1, e2, _⟩ := hpart j
    rw [e1, e2]; exact h.bal j (by rw [← hlen]; exact hj)
  · obtain ⟨e1, e2, e3, _, _⟩ := hpart j
    rw [e2, e3]
    rcases hvs j v hv with g | ⟨g1, g2⟩
    · obtain ⟨f1, f2, f3, b, f4, f5, f6, f7⟩ := h.vot j (by rw [← hlen]; exact hj) v g
      exact ⟨f1, f2, f3, b, f4, f5, by rw [hac]; exact f6, by rw [hac]; exact f7⟩
    · subst g1 g2
      exact ⟨(h.bal j hk).1, rfl, hh, a, rfl, ha, by rw [hac]; exact hs, by rw [hac]; exact har⟩
  · rw [(hpart j).2.2.2.2] at hm
    obtain ⟨b, g1, g2, g3, g4, g5⟩ := h.prm j (by rw [← hlen]; exact hj) m hm
    refine ⟨b, g1, g2, by rw [hac]; exact g3, fun hs => ⟨(g4 hs).1.ext hx, (g4 hs).2⟩, fun i hi hv => ?_⟩
    obtain ⟨v, hv, hvf⟩ := hv
    rcases hvs i v hv with g | ⟨e1, e2⟩
    · exact g5 i hi ⟨v, g, hvf⟩
    · subst e1 e2
      exact absurd (show m.frm = a by rw [g1]; exact hvf.symm) (hno j (by rw [← hlen]; exact hj) hi m hm)
  · obtain ⟨_, _, e3, e4, e5⟩ := hpart j
    rw [e3] at hj'
    rw [e4, e5]
    exact h.wit j (by rw [← hlen]; exact hj) h0 hj'

/-- A round comes by a value. -/
theorem Inv.chosen {N : Nat} {s : Sl} (h : Inv N s) {k : Nat} (hk : k < s.rs.length) (hno : (rd s k).has = false) (hm : may_ N (rd s k).ps = true) : Inv N ⟨s.all, s.rs.set k { rd s k with has := true, val := left N (rd s k).ps }⟩ := by
  have hrd : ∀ j, rd ⟨s.all, s.rs.set k { rd s k with has := true, val := left N (rd s k).ps }⟩ j = if j = k then { rd s k with has := true, val := left N (rd s k).ps } else rd s j := fun j => getD_set hk
  generalize hs' : (⟨s.all, s.rs.set k { rd s k with has := true, val := left N (rd s k).ps }⟩ : Sl) = s' at *
  have hlen : s'.rs.length = s.rs.length := by rw [← hs']; simp
  have hall : s'.all = s.all := by rw [← hs']
  have hac : ∀ b, ac s' b = ac s b := fun b => by unfold ac; rw [hall]
  clear hs'
  have hpart : ∀ j, (rd s' j).r = (rd s j).r ∧ (rd s' j).t = (rd s j).t ∧ (rd s' j).ps = (rd s j).ps ∧ (rd s' j).vs = (rd s j).vs := fun j => by
    rw [hrd]; split
    · rename_i e; subst e; exact ⟨rfl, rfl, rfl, rfl⟩
    · exact ⟨rfl, rfl, rfl, rfl⟩
  have hhas : ∀ j, (rd s j).has = true → (rd s' j).has = true ∧ (rd s' j).val = (rd s j).val := fun j hj => by
    rw [hrd]; split
    · rename_i e; subst e; rw [hno] at hj; cases hj
    · exact ⟨hj, rfl⟩
  have hx : Ext s s' := ⟨by rw [hlen]; exact Nat.le_refl _, fun j _ => ⟨(hpart j).2.1, hhas j⟩⟩
  refine ⟨by rw [hlen]; exact h.len, by rw [hall]; exact h.alen, fun j hj => ?_, fun b hb => by rw [hac]; exact (h.acc b hb).ext hx, fun j hj v hv => ?_, fun j hj m hm' => ?_, fun j hj h0 hj' => ?_, (hhas 0 h.fst).1⟩
  · obtain ⟨e1, e2, _⟩ := hpart j
    rw [e1, e2]; exact h.bal j (by rw [← hlen]; exact hj)
  · rw [(hpart j).2.2.2] at hv
    obtain ⟨f1, f2, f3, b, f4, f5, f6, f7⟩ := h.vot j (by rw [← hlen]; exact hj) v hv
    exact ⟨f1, by rw [(hpart j).2.1]; exact f2, (hhas j f3).1, b, f4, f5, by rw [hac]; exact f6, by rw [hac]; exact f7⟩
  · rw [(hpart j).2.2.1] at hm'
    obtain ⟨b, g1, g2, g3, g4, g5⟩ := h.prm j (by rw [← hlen]; exact hj) m hm'
    exact ⟨b, g1, g2, by rw [hac]; exact g3, fun hs => ⟨(g4 hs).1.ext hx, (g4 hs).2⟩, fun i hi hv => g5 i hi (by rw [(hpart i).2.2.2] at hv; exact hv)⟩
  · rw [(hpart j).2.2.1]
    by_cases e : j = k
    · subst e
      refine ⟨(rd s j).ps, fun m hm => hm, hm, by rw [hrd, if_pos rfl], fun m hmem hsome => ?_⟩
      obtain ⟨b, g1, g2, g3, g4, g5⟩ := h.prm j hk m hmem
      obtain ⟨⟨i, i1, i2, i3, i4, i5⟩, hle⟩ := g4 hsome
      have : i ≠ j := fun e => by subst e; rw [hno] at i4; cases i4
      omega
    · rw [hrd, if_neg e] at hj' ⊢
      exact h.wit j (by rw [← hlen]; exact hj) h0 hj'

theorem inv_new {N : Nat} {s : Sl} (h : Inv N s) {p : Int} (hp : 0 ≤ p) : Inv N (opNew s p) := by
  have hlast := (h.bal (s.rs.length - 1) (by have := h.len; omega)).1
  unfold opNew
  have hrd : ∀ j, j < s.rs.length → rd ⟨s.all, s.rs ++ [⟨(rd s (s.rs.length - 1)).r + 1, p, [], false, [], []⟩]⟩ j = rd s j := fun j hj => getD_snoc hj
  have hrl : rd ⟨s.all, s.rs ++ [⟨(rd s (s.rs.length - 1)).r + 1, p, [], false, [], []⟩]⟩ s.rs.length = ⟨(rd s (s.rs.length - 1)).r + 1, p, [], false, [], []⟩ := getD_last
  rw [hlast] at hrd hrl ⊢
  generalize hs' : (⟨s.all, s.rs ++ [⟨((s.rs.length - 1 : Nat) : Int) + 1, p, [], false, [], []⟩]⟩ : Sl) = s' at *
  have hlen : s'.rs.length = s.rs.length + 1 := by rw [← hs']; simp
  have hall : s'.all = s.all := by rw [← hs']
  have hac : ∀ b, ac s' b = ac s b := fun b => by unfold ac; rw [hall]
  clear hs'
  have hl := h.len
  have hx : Ext s s' := ⟨by omega, fun j hj => by rw [hrd j hj]; exact ⟨rfl, fun h => ⟨h, rfl⟩⟩⟩
  have hcase : ∀ j, j < s'.rs.length → j < s.rs.length ∨ j = s.rs.length := fun j hj => by omega
  refine ⟨by omega, by rw [hall]; exact h.alen, fun j hj => ?_, fun b hb => by rw [hac]; exact (h.acc b hb).ext hx, fun j hj v hv => ?_, fun j hj m hm => ?_, fun j hj h0 hh => ?_, by rw [hrd 0 hl]; exact h.fst⟩
  · rcases hcase j hj with g | rfl
    · rw [hrd j g]; exact h.bal j g
    · rw [hrl]; exact ⟨by show ((s.rs.length - 1 : Nat) : Int) + 1 = _; omega, hp⟩
  · rcases hcase j hj with g | rfl
    · rw [hrd j g] at hv ⊢
      obtain ⟨f1, f2, f3, b, f4, f5, f6, f7⟩ := h.vot j g v hv
      exact ⟨f1, f2, f3, b, f4, f5, by rw [hac]; exact f6, by rw [hac]; exact f7⟩
    · rw [hrl] at hv; cases hv
  · rcases hcase j hj with g | rfl
    · rw [hrd j g] at hm
      obtain ⟨b, g1, g2, g3, g4, g5⟩ := h.prm j g m hm
      exact ⟨b, g1, g2, by rw [hac]; exact g3, fun hs => ⟨(g4 hs).1.ext hx, (g4 hs).2⟩, fun i hi hv => g5 i hi (by rw [hrd i (by omega)] at hv; exact hv)⟩
    · rw [hrl] at hm; cases hm
  · rcases hcase j hj with g | rfl
    · rw [hrd j g] at hh ⊢; exact h.wit j g h0 hh
    · rw [hrl] at hh; cases hh
theorem inv_choose {N : Nat} {s : Sl} (h : Inv N s) {k : Nat} (hk : k < s.rs.length) : Inv N (opChoose s N k) := by
  unfold opChoose
  split
  · rename_i hc
    simp only [Bool.and_eq_true, Bool.not_eq_true'] at hc
    exact h.chosen hk hc.2 hc.1
  · exact h
theorem set_same {α : Type} (l : List α) (a : Nat) (d : α) (h : a < l.length) : l.set a (l.getD a d) = l := by
  apply List.ext_getElem?
  intro i
  rw [List.getElem?_set]
  split
  · rename_i e; subst e; simp [List.getD_eq_getElem?_getD, h]
  · rfl
theorem inv_ask {N : Nat} {s : Sl} (h : Inv N s) {k a : Nat} (hk : k < s.rs.length) (ha : a < N) (lost : Bool) : Inv N (opAsk s k a lost) := by
  have hal : a < s.all.length := Nat.lt_of_lt_of_le ha h.alen
  have hq := h.acc a ha
  unfold opAsk
  cases hok : Acc.prepareOk (ac s a) (rd s k).r (rd s k).t
  · rw [Acc.prepare_no hok, if_neg (by simp)]
    exact h.congr rfl (by simp) (fun b hb => by show (s.all.set a (s.all.getD a Acc.zero)).getD b _ = _; rw [set_same _ _ _ hal]; rfl)
  · rw [Acc.prepare_ok hok]
    have hnl : ¬ (k : Int) < (ac s a).pr := fun hh => by
      have := (low_iff h hq hk).2 hh
      simp only [Acc.prepareOk, Bool.and_eq_true, Bool.not_eq_true'] at hok
      rw [hok.2] at this; cases this
    obtain ⟨b1, b2⟩ := h.bal k hk
    have h1 : Inv N ⟨s.all.set a { ac s a with pr := (rd s k).r, ps := (rd s k).t }, s.rs⟩ := h.acceptor ha ⟨⟨k, hk, b1, .inl rfl⟩, fun hs => ⟨(hq.2 hs).1, by show (ac s a).ar ≤ (rd s k).r; have := (hq.2 hs).2; omega⟩⟩ (by show (ac s a).pr ≤ (rd s k).r; omega) (fun hs => ⟨hs, Int.le_refl _⟩)
    cases lost
    · rw [if_pos (by simp)]
      have hac : ac ⟨s.all.set a { ac s a with pr := (rd s k).r, ps := (rd s k).t }, s.rs⟩ a = { ac s a with pr := (rd s k).r, ps := (rd s k).t } := by
        show (s.all.set a _).getD a _ = _
        rw [getD_set hal, if_pos rfl]
      refine h1.promise (m := told a (ac s a)) hk ha rfl (by rw [hac]; show (k : Int) ≤ (rd s k).r; omega) (fun hs => ⟨(hq.2 hs).1, by have := (hq.2 hs).2; show (ac s a).ar ≤ k; omega⟩) (fun j hj hv => ?_)
      obtain ⟨v, hv, hvf⟩ := hv
      obtain ⟨_, _, _, b, g1, g2, g3, g4⟩ := h.vot j (by omega) v hv
      have : b = a := by omega
      subst this
      exact ⟨g3, g4⟩
    · rw [if_neg (by simp)]
      exact h1
theorem inv_put {N : Nat} {s : Sl} (h : Inv N s) {k a : Nat} (hk : k < s.rs.length) (ha : a < N) : Inv N (opPut s k a) := by
  have hal : a < s.all.length := Nat.lt_of_lt_of_le ha h.alen
  have hq := h.acc a ha
  unfold opPut
  cases hhas : (rd s k).has
  · rw [if_neg (by decide)]; exact h
  · rw [if_pos rfl]
    cases hok : Acc.acceptOk (ac s a) (rd s k).r (rd s k).t
    · rw [Acc.accept_no hok, if_neg (by decide)]
      exact h.congr rfl (by simp) (fun b hb => by show (s.all.set a (s.all.getD a Acc.zero)).getD b _ = _; rw [set_same _ _ _ hal]; rfl)
    · rw [Acc.accept_ok hok, if_pos rfl]
      have hnl : ¬ (k : Int) < (ac s a).pr := fun hh => by
        have := (low_iff h hq hk).2 hh
        simp only [Acc.acceptOk, Bool.not_eq_true'] at hok
        rw [hok] at this; cases this
      obtain ⟨b1, b2⟩ := h.bal k hk
      have h1 : Inv N ⟨s.all.set a ⟨(rd s k).r, (rd s k).t, true, (rd s k).r, (rd s k).t, (rd s k).val⟩, s.rs⟩ := h.acceptor ha ⟨⟨k, hk, b1, .inl rfl⟩, fun _ => ⟨⟨k, hk, b1, rfl, hhas, rfl⟩, Int.le_refl _⟩⟩ (by show (ac s a).pr ≤ (rd s k).r; omega) (fun hs => ⟨rfl, by show (ac s a).ar ≤ (rd s k).r; have := (hq.2 hs).2; omega⟩)
      have hac : ac ⟨s.all.set a ⟨(rd s k).r, (rd s k).t, true, (rd s k).r, (rd s k).t, (rd s k).val⟩, s.rs⟩ a = ⟨(rd s k).r, (rd s k).t, true, (rd s k).r, (rd s k).t, (rd s k).val⟩ := by
        show (s.all.set a _).getD a _ = _
        rw [getD_set hal, if_pos rfl]
      refine h1.vote hk ha hhas (by rw [hac]) (by rw [hac]; show (k : Int) ≤ (rd s k).r; omega) (fun j hj hkj m hm he => ?_)
      obtain ⟨b, g1, g2, g3, _⟩ := h.prm j hj m hm
      have : b = a := by omega
      subst this
      omega

/-- The slot as it is begun. -/
def first (owner : Int) (val : List Int) : Sl := ⟨List.replicate 7 Acc.zero, [⟨0, owner, [], true, val, []⟩]⟩
theorem inv_first {N : Nat} {owner : Int} {val : List Int} (hN : N ≤ 7) (ho : 0 ≤ owner) : Inv N (first owner val) := by
  have hrd : ∀ k, k < (first owner val).rs.length → rd (first owner val) k = ⟨0, owner, [], true, val, []⟩ ∧ k = 0 := fun k hk => by
    have : k = 0 := by simpa [first] using hk
    subst this; exact ⟨rfl, rfl⟩
  have hac : ∀ a, ac (first owner val) a = Acc.zero := fun a => by
    unfold ac first
    rw [List.getD_eq_getElem?_getD]
    cases h : (List.replicate 7 Acc.zero)[a]? with
    | none => rfl
    | some q => have := List.mem_of_getElem? h; simp at this; rw [this]; rfl
  refine ⟨by simp [first], by simpa [first] using hN, fun k hk => ?_, fun a _ => ?_, fun j hj v hv => ?_, fun k hk m hm => ?_, fun k hk h0 _ => ?_, rfl⟩
  · obtain ⟨h1, h2⟩ := hrd k hk
    rw [h1, h2]; exact ⟨rfl, ho⟩
  · rw [hac]
    exact ⟨⟨0, by simp [first], rfl, .inr ⟨rfl, rfl⟩⟩, fun h => by cases h⟩
  · rw [(hrd j hj).1] at hv; cases hv
  · rw [(hrd k hk).1] at hm; cases hm
  · have := (hrd k hk).2; omega

/-- Is a round decided? -/
def dec (N : Nat) (s : Sl) (j : Nat) : Bool := decided (rd s j).r (rd s j).t N (rd s j).vs
theorem dec_has {N : Nat} {s : Sl} (h : Inv N s) {j : Nat} (hj : j < s.rs.length) (hd : dec N s j = true) : (rd s j).has = true := by
  obtain ⟨x, hx, _⟩ := meets hd hd
  unfold voters at hx
  obtain ⟨v, hv, _⟩ := List.mem_map.1 hx
  exact (h.vot j hj v (List.mem_filter.1 hv).1).2.2.1
/-- Whatever promises of most sites leave behind a decided round is a value of a round no earlier. -/
theorem key {N : Nat} {s : Sl} (h : Inv N s) {k j : Nat} (hk : k < s.rs.length) {ps : List Pm} (hps : ∀ m ∈ ps, m ∈ (rd s k).ps) (hmay : may_ N ps = true) (hlt : ∀ m ∈ ps, m.some = true → m.r < k) (hj : j < k) (hd : dec N s j = true) :
    ∃ i : Nat, j ≤ i ∧ i < k ∧ (rd s i).has = true ∧ left N ps = (rd s i).val := by
  obtain ⟨x, hx1, hx2, hx3, hx4⟩ := meets hd hmay
  unfold voters at hx1
  obtain ⟨v, hv, hvx⟩ := List.mem_map.1 hx1
  obtain ⟨m, hm, hmx⟩ := List.mem_map.1 hx2
  have hv := (List.mem_filter.1 hv).1
  obtain ⟨a, g1, g2, g3, g4, g5⟩ := h.prm k hk m (hps m hm)
  obtain ⟨f1, f2⟩ := g5 j hj ⟨v, hv, by rw [hvx, ← hmx, g1]⟩
  have hct : ct N m = true := by
    unfold ct
    rw [f1, Bool.true_and, inr_iff, hmx]
    exact ⟨hx3, hx4⟩
  rcases left_is N ps with ⟨e1, _⟩ | ⟨p, hp, e1, e2, e3⟩
  · rw [e1 m hm] at hct; cases hct
  · have hmem := getD_mem (d := pm0) hp
    generalize ps.getD p pm0 = M at *
    have hMs : M.some = true := by unfold ct at e1; simp only [Bool.and_eq_true] at e1; exact e1.1
    obtain ⟨_, _, _, _, q4, _⟩ := h.prm k hk M (hps M hmem)
    obtain ⟨i, i1, i2, i3, i4, i5⟩ := (q4 hMs).1
    have hc := e3 m hm hct
    have hMr := hlt M hmem hMs
    refine ⟨i, ?_, by omega, i4, by rw [e2]; exact i5⟩
    have : m.r ≤ M.r := by
      unfold Bal.compare at hc
      by_cases h1 : m.r < M.r
      · omega
      · rw [if_neg h1] at hc
        by_cases h2 : m.r = M.r
        · omega
        · rw [if_neg h2] at hc; omega
    omega
/-- ALL THAT IS DECIDED IS ONE VALUE. -/
theorem one_val {N : Nat} {s : Sl} (h : Inv N s) {j : Nat} (hd : dec N s j = true) : ∀ k : Nat, k < s.rs.length → j ≤ k → (rd s k).has = true → (rd s k).val = (rd s j).val := by
  intro k
  induction k using Nat.strongRecOn with
  | _ k ih =>
    intro hk hjk hh
    by_cases e : j = k
    · rw [e]
    · obtain ⟨ps, w1, w2, w3, w4⟩ := h.wit k hk (by omega) hh
      obtain ⟨i, i1, i2, i3, i4⟩ := key h hk w1 w2 w4 (by omega) hd
      rw [w3, i4]
      exact ih i i2 (by omega) i1 i3
theorem one_two {N : Nat} {s : Sl} (h : Inv N s) {i j : Nat} (hi : i < s.rs.length) (hj : j < s.rs.length) (hdi : dec N s i = true) (hdj : dec N s j = true) : (rd s i).val = (rd s j).val := by
  rcases Nat.le_total i j with g | g
  · exact (one_val h hdi j hj g (dec_has h hj hdj)).symm
  · exact one_val h hdj i hi g (dec_has h hi hdi)
/-- A value is the owner's, or nothing. -/
theorem owner_val {N : Nat} {s : Sl} (h : Inv N s) : ∀ k : Nat, k < s.rs.length → (rd s k).has = true → (rd s k).val = [] ∨ (rd s k).val = (rd s 0).val := by
  intro k
  induction k using Nat.strongRecOn with
  | _ k ih =>
    intro hk hh
    rcases Nat.eq_zero_or_pos k with rfl | h0
    · exact .inr rfl
    · obtain ⟨ps, w1, w2, w3, w4⟩ := h.wit k hk h0 hh
      rw [w3]
      rcases left_is N ps with ⟨_, e⟩ | ⟨p, hp, e1, e2, _⟩
      · exact .inl e
      · have hmem := getD_mem (d := pm0) hp
        generalize ps.getD p pm0 = M at *
        have hMs : M.some = true := by unfold ct at e1; simp only [Bool.and_eq_true] at e1; exact e1.1
        obtain ⟨_, _, _, _, q4, _⟩ := h.prm k hk M (w1 M hmem)
        obtain ⟨i, i1, i2, i3, i4, i5⟩ := (q4 hMs).1
        have := w4 M hmem hMs
        rw [e2, i5]
        exact ih i (by omega) i1 i4

/-- All sites are asked for a promise of the last round. -/
def asked (s : Sl) (L : Nat) : Nat → Sl
  | 0 => s
  | m + 1 => opAsk (asked s L m) L m false
structure Asked (N L : Nat) (p : Int) (s s' : Sl) (m : Nat) : Prop where
  inv : Inv N s'
  len : s'.rs.length = L + 1
  old : ∀ k, k < L → rd s' k = rd s k
  last : ∃ ps, rd s' L = ⟨L, p, ps, false, [], []⟩ ∧ ps.map Pm.frm = upto m
theorem asked_is {N : Nat} {s : Sl} (h : Inv N s) {p : Int} (hp : 0 ≤ p) : ∀ m, m ≤ N → Asked N s.rs.length p s (asked (opNew s p) s.rs.length m) m
  | 0, _ => by
    have hlast := (h.bal (s.rs.length - 1) (by have := h.len; omega)).1
    have hl := h.len
    refine ⟨inv_new h hp, by simp [asked, opNew], fun k hk => getD_snoc hk, [], ?_, by simp [upto]⟩
    show (s.rs ++ [_]).getD s.rs.length rn0 = _
    rw [getD_last, hlast]
    congr 1
    omega
  | m + 1, hm => by
    obtain ⟨h1, h2, h3, ps, h4, h5⟩ := asked_is h hp m (by omega)
    show Asked N s.rs.length p s (opAsk (asked (opNew s p) s.rs.length m) s.rs.length m false) (m + 1)
    generalize asked (opNew s p) s.rs.length m = s1 at *
    have hl := h.len
    have hL : s.rs.length < s1.rs.length := by omega
    have hi := inv_ask h1 hL (show m < N by omega) false
    have hq := h1.acc m (by omega)
    have hok : Acc.prepareOk (ac s1 m) (rd s1 s.rs.length).r (rd s1 s.rs.length).t = true := by
      have hb := (h1.bal _ hL).1
      have hnl : Acc.low (ac s1 m) (rd s1 s.rs.length).r (rd s1 s.rs.length).t = false := by
        cases hh : Acc.low (ac s1 m) (rd s1 s.rs.length).r (rd s1 s.rs.length).t
        · rfl
        · have := (low_iff h1 hq hL).1 hh
          obtain ⟨⟨p', g1, g2, _⟩, _⟩ := hq
          omega
      unfold Acc.prepareOk
      rw [hnl, hb]
      simp
      omega
    have hrs : (opAsk s1 s.rs.length m false).rs = s1.rs.set s.rs.length { rd s1 s.rs.length with ps := (rd s1 s.rs.length).ps ++ [told m (ac s1 m)] } := by
      unfold opAsk
      rw [hok]
      rfl
    have hrd : ∀ k, rd (opAsk s1 s.rs.length m false) k = if k = s.rs.length then { rd s1 s.rs.length with ps := (rd s1 s.rs.length).ps ++ [told m (ac s1 m)] } else rd s1 k := fun k => by
      unfold rd; rw [hrs]; exact getD_set hL
    refine ⟨hi, by rw [hrs, List.length_set, h2], fun k hk => by rw [hrd, if_neg (by omega)]; exact h3 k hk, ps ++ [told m (ac s1 m)], by rw [hrd, if_pos rfl, h4], ?_⟩
    rw [List.map_append, h5]
    unfold upto
    rw [List.range_succ, List.map_append]
    rfl
/-- WHAT WAS DECIDED IS WHAT THE NEXT BALLOT CHOOSES. -/
theorem keeps {N : Nat} {s s' : Sl} {p : Int} (hN : 0 < N) (ha : Asked N s.rs.length p s s' N) {j : Nat} (hj : j < s.rs.length) (hd : dec N s j = true) :
    may_ N (rd s' s.rs.length).ps = true ∧ left N (rd s' s.rs.length).ps = (rd s j).val := by
  obtain ⟨h1, h2, h3, ps, h4, h5⟩ := ha
  have hmay : may_ N (rd s' s.rs.length).ps = true := by
    rw [h4]
    show most (ps.map Pm.frm) N = true
    rw [h5]
    have := sites_upto (n := N) (k := N) (Nat.le_refl _)
    unfold most
    rw [this]
    unfold major
    rw [if_neg (by omega)]
    simp only [Bool.and_eq_true, decide_eq_true_eq]
    omega
  have hL : s.rs.length < s'.rs.length := by omega
  have hd' : dec N s' j = true := by unfold dec; rw [h3 j hj]; exact hd
  obtain ⟨i, i1, i2, i3, i4⟩ := key h1 hL (fun m hm => hm) hmay (fun m hm hs => by
    obtain ⟨_, _, _, _, g4, _⟩ := h1.prm _ hL m hm
    obtain ⟨⟨i, e1, e2, e3, e4, e5⟩, hle⟩ := g4 hs
    have : i ≠ s.rs.length := fun e => by subst e; rw [h4] at e4; cases e4
    omega) hj hd'
  refine ⟨hmay, ?_⟩
  rw [i4, one_val h1 hd' i (by omega) i1 i3, h3 j hj]
end Go.Pax
