/-
  Bits of a row of bytes, turned one behind the other (as in CrcTurned): the plain part, and what a frame is behind it.
-/
import Derived.Test.YtodlabpgjgbbpafCrcWords
import Derived.Test.YtodlabpgjgbbpafFrmTorn
namespace Go.Proofs.Ytodlabpgjgbbpaf
open Go.RowKit Go.Agio Go.ChangeShapes Go.WideShapes Go.ChangeAt

theorem xor8t {a b : Int} (ha : 0 ≤ a ∧ a ≤ 255) (hb : 0 ≤ b ∧ b ≤ 255) : (0 ≤ bits .xor .u8 a b ∧ bits .xor .u8 a b ≤ 255) ∧ Crc.bv (bits .xor .u8 a b) = Crc.bv a ^^^ Crc.bv b := by
  rw [u8_xor a b ha.1 (by omega) hb.1 (by omega)]
  obtain ⟨A, rfl⟩ := Int.eq_ofNat_of_zero_le ha.1
  obtain ⟨B, rfl⟩ := Int.eq_ofNat_of_zero_le hb.1
  have h : A ^^^ B < 2 ^ 8 := Nat.xor_lt_two_pow (by omega) (by omega)
  simp only [Int.toNat_natCast]
  refine ⟨by omega, ?_⟩
  unfold Crc.bv
  simp only [BitVec.ofInt_natCast]
  apply BitVec.eq_of_toNat_eq
  rw [BitVec.toNat_xor, BitVec.toNat_ofNat, BitVec.toNat_ofNat, BitVec.toNat_ofNat, Nat.mod_eq_of_lt (by omega), Nat.mod_eq_of_lt (by omega), Nat.mod_eq_of_lt (by omega)]

/-- One bit turned. -/
def turn (T : List Int) (p : Nat) : List Int := T.set (p / 8) (bits .xor .u8 (T.getD (p / 8) 0) (2 ^ (p % 8) % 256))
/-- The first k bits of a mask, turned from a place on. -/
def turns (zs : List Int) (f : Nat) (m : BitVec 32) : Nat → List Int
  | 0 => zs
  | k + 1 => if m.getLsbD k then turn (turns zs f m k) (f + k) else turns zs f m k
/-- Is there one among them? -/
def some_ (m : BitVec 32) : Nat → Bool
  | 0 => false
  | k + 1 => m.getLsbD k || some_ m k
/-- A bit of a row. -/
def bitOf (T : List Int) (p : Nat) : Bool := ((T.map Crc.bv).getD (p / 8) 0).getLsbD (p % 8)

theorem bit_at (m : BitVec 32) (k : Nat) : (Crc.nm m / 2 ^ k).tmod 2 = if m.getLsbD k then 1 else 0 := by
  have h : Crc.nm m / 2 ^ k = Crc.nm (m >>> k) := Crc.shr_nm m k _ (by rw [Int.natCast_pow]; rfl)
  have hb := Crc.nm_lt (m >>> k)
  rw [h, Int.tmod_eq_emod_of_nonneg hb.1, Crc.odd_nm, BitVec.getLsbD_ushiftRight]
  rfl

theorem turns_length (zs : List Int) (f : Nat) (m : BitVec 32) : ∀ k, (turns zs f m k).length = zs.length
  | 0 => rfl
  | k + 1 => by
    unfold turns
    split
    · unfold turn; rw [List.length_set, turns_length zs f m k]
    · exact turns_length zs f m k

theorem pow8 (r : Nat) (hr : r < 8) : (0 ≤ (2 ^ r % 256 : Int) ∧ (2 ^ r % 256 : Int) ≤ 255) ∧ ∀ s < 8, (Crc.bv (2 ^ r % 256)).getLsbD s = decide (s = r) := by
  have h : ∀ r < 8, (0 ≤ (2 ^ r % 256 : Int) ∧ (2 ^ r % 256 : Int) ≤ 255) ∧ ∀ s < 8, (Crc.bv (2 ^ r % 256)).getLsbD s = decide (s = r) := by decide
  exact h r hr

theorem turns_ok {zs : List Int} {f : Nat} {m : BitVec 32} (hz : ∀ z ∈ zs, 0 ≤ z ∧ z ≤ 255) : ∀ k, ∀ z ∈ turns zs f m k, 0 ≤ z ∧ z ≤ 255
  | 0 => hz
  | k + 1 => by
    have ih := turns_ok (f := f) (m := m) hz k
    unfold turns
    split
    · unfold turn
      intro z hzm
      rcases List.mem_or_eq_of_mem_set hzm with h | h
      · exact ih z h
      · subst h
        refine (xor8t ?_ (pow8 _ (Nat.mod_lt _ (by omega))).1).1
        by_cases hl : (f + k) / 8 < (turns zs f m k).length
        · rw [List.getD_eq_getElem?_getD, List.getElem?_eq_getElem hl]
          exact ih _ (List.getElem_mem hl)
        · rw [List.getD_eq_getElem?_getD, List.getElem?_eq_none (by omega)]
          decide
    · exact ih

theorem turn_bit {T : List Int} {q : Nat} (hT : ∀ z ∈ T, 0 ≤ z ∧ z ≤ 255) (hq : q / 8 < T.length) (p : Nat) : bitOf (turn T q) p = (bitOf T p ^^ decide (p = q)) := by
  unfold bitOf turn
  have hx : T.getD (q / 8) 0 = T[q / 8] := by simp [List.getD_eq_getElem?_getD, hq]
  by_cases hpq : p / 8 = q / 8
  · have e1 : ((T.set (q / 8) (bits .xor .u8 (T.getD (q / 8) 0) (2 ^ (q % 8) % 256))).map Crc.bv).getD (p / 8) 0 = Crc.bv (bits .xor .u8 (T.getD (q / 8) 0) (2 ^ (q % 8) % 256)) := by
      rw [hpq, List.getD_eq_getElem?_getD, List.getElem?_map, List.getElem?_set_self hq]; rfl
    have e2 : (T.map Crc.bv).getD (p / 8) 0 = Crc.bv (T.getD (q / 8) 0) := by
      rw [hpq, List.getD_eq_getElem?_getD, List.getElem?_map, List.getElem?_eq_getElem hq, hx]; rfl
    rw [e1, e2, (xor8t (by rw [hx]; exact hT _ (List.getElem_mem hq)) (pow8 _ (Nat.mod_lt _ (by omega))).1).2, BitVec.getLsbD_xor, (pow8 _ (Nat.mod_lt _ (by omega))).2 _ (Nat.mod_lt _ (by omega))]
    congr 1
    rw [decide_eq_decide]
    omega
  · have e1 : ((T.set (q / 8) (bits .xor .u8 (T.getD (q / 8) 0) (2 ^ (q % 8) % 256))).map Crc.bv).getD (p / 8) 0 = (T.map Crc.bv).getD (p / 8) 0 := by
      have h := congrArg (fun o : Option Int => (o.map Crc.bv).getD 0) (List.getElem?_set_ne (l := T) (i := q / 8) (j := p / 8) (a := bits .xor .u8 (T.getD (q / 8) 0) (2 ^ (q % 8) % 256)) (by omega))
      rw [List.getD_eq_getElem?_getD (l := T.map Crc.bv), List.getD_eq_getElem?_getD (l := (T.set _ _).map Crc.bv), List.getElem?_map, List.getElem?_map]
      exact h
    rw [e1]
    have : decide (p = q) = false := by rw [decide_eq_false_iff_not]; rintro rfl; exact hpq rfl
    rw [this, Bool.xor_false]

theorem turns_bit {zs : List Int} {f : Nat} {m : BitVec 32} (hz : ∀ z ∈ zs, 0 ≤ z ∧ z ≤ 255) : ∀ k, f + k ≤ 8 * zs.length → ∀ p, bitOf (turns zs f m k) p = (bitOf zs p ^^ (decide (f ≤ p ∧ p < f + k) && m.getLsbD (p - f)))
  | 0, _, p => by
    have : decide (f ≤ p ∧ p < f + 0) = false := by rw [decide_eq_false_iff_not]; omega
    rw [this]; simp [turns]
  | k + 1, hk, p => by
    have ih := turns_bit (f := f) (m := m) hz k (by omega) p
    cases hb : m.getLsbD k
    · simp only [turns, hb, Bool.false_eq_true, if_false]
      rw [ih]
      congr 1
      by_cases hp : p = f + k
      · subst hp
        rw [show f + k - f = k from by omega, hb]; simp
      · have : decide (f ≤ p ∧ p < f + k) = decide (f ≤ p ∧ p < f + (k + 1)) := by rw [decide_eq_decide]; omega
        rw [this]
    · simp only [turns, hb, if_true]
      rw [turn_bit (turns_ok hz k) (by rw [turns_length]; omega), ih, Bool.xor_assoc]
      congr 1
      by_cases hp : p = f + k
      · subst hp
        rw [show f + k - f = k from by omega, hb]
        simp
      · have h1 : decide (f ≤ p ∧ p < f + k) = decide (f ≤ p ∧ p < f + (k + 1)) := by rw [decide_eq_decide]; omega
        have h2 : decide (p = f + k) = false := by rw [decide_eq_false_iff_not]; exact hp
        rw [h1, h2, Bool.xor_false]

theorem some_bit {m : BitVec 32} : ∀ k, some_ m k = true → ∃ j, j < k ∧ m.getLsbD j = true
  | k + 1, h => by
    simp only [some_, Bool.or_eq_true] at h
    rcases h with h | h
    · exact ⟨k, by omega, h⟩
    · obtain ⟨j, hj, hb⟩ := some_bit k h
      exact ⟨j, by omega, hb⟩

/-- A row of which some bit was turned is another one. -/
theorem turned_ne {zs : List Int} {f : Nat} {m : BitVec 32} (hz : ∀ z ∈ zs, 0 ≤ z ∧ z ≤ 255) {k : Nat} (hf : f + k ≤ 8 * zs.length) (hs : some_ m k = true) : turns zs f m k ≠ zs := fun he => by
  obtain ⟨j, hj, hb⟩ := some_bit k hs
  have h1 := turns_bit (m := m) hz k hf (f + j)
  have hd : decide (f ≤ f + j ∧ f + j < f + k) = true := by rw [decide_eq_true_eq]; omega
  rw [hd, show f + j - f = j from by omega, hb, he] at h1
  revert h1
  cases bitOf zs (f + j) <;> decide
/-- The bits turned lie in the middle part alone. -/
theorem turns_mid (a y b : List Int) (f : Nat) (m : BitVec 32) : ∀ k, f + k ≤ 8 * y.length → turns (a ++ (y ++ b)) (8 * a.length + f) m k = a ++ (turns y f m k ++ b)
  | 0, _ => rfl
  | k + 1, h => by
    have ih := turns_mid a y b f m k (by omega)
    have hl := turns_length y f m k
    cases hb : m.getLsbD k
    · simp only [turns, hb, Bool.false_eq_true, if_false]; exact ih
    · simp only [turns, hb, if_true]
      rw [ih]
      unfold turn
      have e1 : (8 * a.length + f + k) / 8 = a.length + (f + k) / 8 := by omega
      have e2 : (8 * a.length + f + k) % 8 = (f + k) % 8 := by omega
      have hlt : (f + k) / 8 < (turns y f m k).length := by omega
      rw [e1, e2, List.set_append_right _ _ (by omega), show a.length + (f + k) / 8 - a.length = (f + k) / 8 by omega, List.set_append_left _ _ hlt]
      congr 3
      rw [List.getD_eq_getElem?_getD, List.getD_eq_getElem?_getD, List.getElem?_append_right (by omega), show a.length + (f + k) / 8 - a.length = (f + k) / 8 by omega, List.getElem?_append_left hlt]
end Go.Proofs.Ytodlabpgjgbbpaf
namespace Go.Frm
/-- What is scanned behind bits turned in frame k: all those ahead of it, and it is not scanned as it was. -/
theorem turned_scan {l : List Row} {k : Nat} (h : ∀ x ∈ l, x.length ≤ 4096 ∧ ok x) {y : Row} (hy : ok y) (hl : y.length = (put (l.getD k [])).length) (hne : y ≠ put (l.getD k [])) :
    ∃ s : List Row, (scan (puts (l.take k) ++ (y ++ puts (l.drop (k + 1))))).1 = l.take k ++ s ∧ (s = [] ∨ s.getD 0 [] ≠ l.getD k []) := by
  have hok : ok (puts (l.drop (k + 1))) := Go.Frm.puts_ok (fun x hx => (h x (List.mem_of_mem_drop hx)).2)
  refine ⟨(scan (y ++ puts (l.drop (k + 1)))).1, by rw [scan_puts _ _ (fun x hx => (h x (List.mem_of_mem_take hx)).1)], ?_⟩
  rcases turned_code (x := l.getD k []) (puts (l.drop (k + 1))) hy hok hl hne with hc | hc
  · left; rw [scan_end hc]
  · by_cases h0 : code (y ++ puts (l.drop (k + 1))) = 0
    · right; rw [scan_one h0]; exact hc
    · left; rw [scan_end h0]
end Go.Frm
