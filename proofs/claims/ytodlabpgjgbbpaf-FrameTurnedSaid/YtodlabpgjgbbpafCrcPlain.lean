/-
  The plain mathematics of CRC-32: a bit's step is linear and one to one; no program in sight.
-/
namespace Go.Crc

/-- The polynomial. -/
def poly : BitVec 32 := 3988292384#32
/-- One bit's step. -/
def bit (w : BitVec 32) : BitVec 32 := if w.getLsbD 0 then (w >>> 1) ^^^ poly else w >>> 1
/-- Many bits' steps. -/
def bits : Nat → BitVec 32 → BitVec 32
  | 0, w => w
  | n + 1, w => bits n (bit w)
/-- One byte's step. -/
def byte (w : BitVec 32) (c : BitVec 32) : BitVec 32 := bits 8 (w ^^^ c)
/-- Many bytes' steps. -/
def word (w : BitVec 32) (l : List (BitVec 32)) : BitVec 32 := l.foldl byte w
/-- The sum of what has a sum, with more behind. -/
def more (s : BitVec 32) (l : List (BitVec 32)) : BitVec 32 := ~~~ (word (~~~ s) l)

theorem bit_xor (a b : BitVec 32) : bit (a ^^^ b) = bit a ^^^ bit b := by
  unfold bit
  have h : ((a ^^^ b) >>> 1) = (a >>> 1) ^^^ (b >>> 1) := by
    ext i hi; simp
  have hx : (a ^^^ b).getLsbD 0 = (a.getLsbD 0 ^^ b.getLsbD 0) := by simp
  rw [hx, h]
  cases a.getLsbD 0 <;> cases b.getLsbD 0 <;> simp only [Bool.xor_false, Bool.xor_true, Bool.not_false, Bool.not_true, if_true, if_false, Bool.false_eq_true]
  all_goals
    apply BitVec.eq_of_getLsbD_eq
    intro i hi
    simp only [BitVec.getLsbD_xor]
    generalize (a >>> 1).getLsbD i = x
    generalize (b >>> 1).getLsbD i = y
    generalize poly.getLsbD i = z
    revert x y z
    decide

theorem bit_zero : bit 0 = 0 := by decide

/-- The step loses nothing. -/
theorem bit_eq_zero {a : BitVec 32} (h : bit a = 0) : a = 0 := by
  unfold bit at h
  by_cases h0 : a.getLsbD 0 = true
  · rw [if_pos h0] at h
    have h31 : ((a >>> 1) ^^^ poly).getLsbD 31 = (0 : BitVec 32).getLsbD 31 := by rw [h]
    have hp : poly.getLsbD 31 = true := by decide
    rw [BitVec.getLsbD_xor, hp, BitVec.getLsbD_ushiftRight] at h31
    have : a.getLsbD (1 + 31) = false := BitVec.getLsbD_of_ge a 32 (by omega)
    rw [this] at h31
    simp at h31
  · rw [if_neg h0] at h
    apply BitVec.eq_of_getLsbD_eq
    intro i hi
    have hz : (0 : BitVec 32).getLsbD i = false := by simp
    rw [hz]
    cases i with
    | zero => simpa using h0
    | succ i =>
      have : (a >>> 1).getLsbD i = (0 : BitVec 32).getLsbD i := by rw [h]
      rw [BitVec.getLsbD_ushiftRight] at this
      rw [Nat.add_comm]
      simpa using this

theorem bits_xor (n : Nat) : ∀ a b : BitVec 32, bits n (a ^^^ b) = bits n a ^^^ bits n b := by
  induction n with
  | zero => intro a b; rfl
  | succ n ih => intro a b; simp only [bits, bit_xor, ih]

theorem bits_zero (n : Nat) : bits n 0 = 0 := by
  induction n with
  | zero => rfl
  | succ n ih => simp only [bits, bit_zero, ih]

theorem bits_eq_zero (n : Nat) : ∀ {a : BitVec 32}, bits n a = 0 → a = 0 := by
  induction n with
  | zero => intro a h; exact h
  | succ n ih => intro a h; exact bit_eq_zero (ih h)

theorem xor_eq_zero_iff' {a b : BitVec 32} : a ^^^ b = 0 ↔ a = b := by
  constructor
  · intro h
    have : (a ^^^ b) ^^^ b = 0 ^^^ b := by rw [h]
    simpa [BitVec.xor_assoc] using this
  · rintro rfl; simp

theorem bits_inj (n : Nat) {a b : BitVec 32} (h : bits n a = bits n b) : a = b := by
  apply xor_eq_zero_iff'.1
  apply bits_eq_zero n
  rw [bits_xor, h]; simp

theorem bits_add (m n : Nat) : ∀ a : BitVec 32, bits (m + n) a = bits n (bits m a) := by
  induction m with
  | zero => intro a; simp [bits]
  | succ m ih => intro a; rw [Nat.add_right_comm]; simp only [bits]; exact ih _

theorem word_append (w : BitVec 32) (a b : List (BitVec 32)) : word w (a ++ b) = word (word w a) b := by
  simp [word, List.foldl_append]

theorem word_cons (w c : BitVec 32) (b : List (BitVec 32)) : word w (c :: b) = word (byte w c) b := rfl
theorem word_snoc (w c : BitVec 32) (b : List (BitVec 32)) : word w (b ++ [c]) = byte (word w b) c := by
  simp [word, List.foldl_append]

theorem byte_xor (w v c d : BitVec 32) : byte (w ^^^ v) (c ^^^ d) = byte w c ^^^ byte v d := by
  unfold byte
  rw [← bits_xor]
  congr 1
  ext i hi; simp
  cases w[i] <;> cases v[i] <;> cases c[i] <;> cases d[i] <;> rfl

/-- Bytes added, one by one. -/
def add : List (BitVec 32) → List (BitVec 32) → List (BitVec 32)
  | a :: l, b :: r => (a ^^^ b) :: add l r
  | _, _ => []

theorem word_xor : ∀ (a b : List (BitVec 32)) (w v : BitVec 32), a.length = b.length → word (w ^^^ v) (add a b) = word w a ^^^ word v b
  | [], [], w, v, _ => rfl
  | c :: a, d :: b, w, v, h => by
    simp only [add, word_cons, byte_xor]
    exact word_xor a b _ _ (by simpa using h)

theorem byte_inj_left {w v c : BitVec 32} (h : byte w c = byte v c) : w = v := by
  have := bits_inj 8 h
  have e : (w ^^^ c) ^^^ c = (v ^^^ c) ^^^ c := by rw [this]
  simpa [BitVec.xor_assoc] using e

theorem byte_inj_right {w c d : BitVec 32} (h : byte w c = byte w d) : c = d := by
  have := bits_inj 8 h
  have e : w ^^^ (w ^^^ c) = w ^^^ (w ^^^ d) := by rw [this]
  simpa [← BitVec.xor_assoc] using e

theorem word_inj {l : List (BitVec 32)} : ∀ {w v : BitVec 32}, word w l = word v l → w = v := by
  induction l with
  | nil => intro w v h; exact h
  | cons c l ih => intro w v h; exact byte_inj_left (ih h)

/-! Bits, one by one. -/

theorem bit_shl {v : BitVec 32} (h : v.getLsbD 31 = false) : bit (v <<< 1) = v := by
  unfold bit
  have h0 : (v <<< 1).getLsbD 0 = false := by simp
  rw [h0]
  simp only [Bool.false_eq_true, if_false]
  apply BitVec.eq_of_getLsbD_eq
  intro i hi
  rw [BitVec.getLsbD_ushiftRight, BitVec.getLsbD_shiftLeft]
  by_cases h31 : i = 31
  · subst h31; rw [h]; simp
  · have : 1 + i < 32 := by omega
    simp [this]

/-- The state behind some bits. -/
def feed (w : BitVec 32) : List Bool → BitVec 32
  | [] => w
  | b :: l => feed (bit (w ^^^ if b then 1#32 else 0#32)) l
/-- Bits, the lowest first, as a number. -/
def val : List Bool → BitVec 32
  | [] => 0
  | b :: l => (if b then 1#32 else 0#32) ^^^ (val l <<< 1)

theorem val_bit : ∀ (l : List Bool) (i : Nat), i < 32 → (val l).getLsbD i = l.getD i false
  | [], i, _ => by simp [val]
  | b :: l, 0, _ => by cases b <;> simp [val]
  | b :: l, i + 1, h => by
    have ih := val_bit l i (by omega)
    have h1 : ((if b then 1#32 else 0#32) : BitVec 32).getLsbD (i + 1) = false := by
      cases b
      · simp
      · simp
    rw [val, BitVec.getLsbD_xor, h1, BitVec.getLsbD_shiftLeft, Nat.add_sub_cancel, ih]
    simp [h]

theorem feed_eq : ∀ (l : List Bool) (w : BitVec 32), l.length ≤ 32 → feed w l = bits l.length (w ^^^ val l)
  | [], w, _ => by simp [feed, bits, val]
  | b :: l, w, h => by
    have hl : l.length ≤ 31 := by simpa using h
    have h31 : (val l).getLsbD 31 = false := by
      rw [val_bit l 31 (by omega), List.getD_eq_getElem?_getD, List.getElem?_eq_none (by omega)]; rfl
    rw [feed, feed_eq l _ (by omega), List.length_cons, bits, val, ← BitVec.xor_assoc, bit_xor (_ ^^^ _), bit_shl h31]

theorem feed_append (w : BitVec 32) : ∀ (a b : List Bool), feed w (a ++ b) = feed (feed w a) b := by
  intro a
  induction a generalizing w with
  | nil => intro b; rfl
  | cons x a ih => intro b; simp only [List.cons_append, feed]; exact ih _ b

theorem feed_false (w : BitVec 32) : ∀ n, feed w (List.replicate n false) = bits n w := by
  intro n
  induction n generalizing w with
  | zero => rfl
  | succ n ih => simp only [List.replicate_succ, feed, bits, Bool.false_eq_true, if_false]; rw [ih]; simp

/-- Bits added, one by one. -/
def addB : List Bool → List Bool → List Bool
  | a :: l, b :: r => (a ^^ b) :: addB l r
  | _, _ => []

theorem feed_xor : ∀ (a b : List Bool) (w v : BitVec 32), a.length = b.length → feed (w ^^^ v) (addB a b) = feed w a ^^^ feed v b
  | [], [], w, v, _ => rfl
  | c :: a, d :: b, w, v, h => by
    simp only [addB, feed]
    rw [← feed_xor a b _ _ (by simpa using h), ← bit_xor]
    congr 2
    apply BitVec.eq_of_getLsbD_eq
    intro i hi
    cases c <;> cases d <;> simp [BitVec.getLsbD_xor]
    all_goals (generalize w.getLsbD i = x; generalize v.getLsbD i = y; generalize decide (i = 0) = z; revert x y z; decide)

/-- A byte's bits, the lowest first. -/
def bits8 (c : BitVec 32) : List Bool := (List.range 8).map c.getLsbD
/-- Bytes' bits. -/
def bitsOf (l : List (BitVec 32)) : List Bool := l.flatMap bits8

theorem bits8_length (c : BitVec 32) : (bits8 c).length = 8 := by simp [bits8]
theorem bits8_getD (c : BitVec 32) (p : Nat) (h : p < 8) : (bits8 c).getD p false = c.getLsbD p := by
  rw [bits8, List.getD_eq_getElem?_getD, List.getElem?_map, List.getElem?_range h]; rfl

theorem byte_feed (w c : BitVec 32) (h : c.toNat < 256) : byte w c = feed w (bits8 c) := by
  rw [feed_eq _ _ (by rw [bits8_length]; omega), bits8_length]
  unfold byte
  congr 2
  apply BitVec.eq_of_getLsbD_eq
  intro i hi
  rw [val_bit _ _ hi]
  by_cases h8 : i < 8
  · rw [bits8_getD _ _ h8]
  · rw [List.getD_eq_getElem?_getD, List.getElem?_eq_none (by rw [bits8_length]; omega)]
    rw [BitVec.getLsbD]
    exact Nat.testBit_lt_two_pow (Nat.lt_of_lt_of_le h (by
      have : 2 ^ 8 ≤ 2 ^ i := Nat.pow_le_pow_right (by omega) (by omega)
      omega))

theorem word_feed : ∀ (l : List (BitVec 32)) (w : BitVec 32), (∀ c ∈ l, c.toNat < 256) → word w l = feed w (bitsOf l)
  | [], w, _ => rfl
  | c :: l, w, h => by
    rw [word_cons, byte_feed w c (h c (by simp)), bitsOf, List.flatMap_cons, feed_append]
    exact word_feed l _ fun d hd => h d (by simp [hd])

theorem bitsOf_length : ∀ l : List (BitVec 32), (bitsOf l).length = 8 * l.length
  | [] => rfl
  | c :: l => by
    have := bitsOf_length l
    simp only [bitsOf, List.flatMap_cons, List.length_append, bits8_length, List.length_cons] at *
    omega

theorem bitsOf_getD : ∀ (l : List (BitVec 32)) (p : Nat), (bitsOf l).getD p false = (l.getD (p / 8) 0).getLsbD (p % 8)
  | [], p => by simp [bitsOf]
  | c :: l, p => by
    rw [bitsOf, List.flatMap_cons]
    by_cases h : p < 8
    · rw [List.getD_eq_getElem?_getD, List.getElem?_append_left (by rw [bits8_length]; exact h), ← List.getD_eq_getElem?_getD, bits8_getD _ _ h]
      rw [Nat.div_eq_of_lt h, Nat.mod_eq_of_lt h]; rfl
    · have ih := bitsOf_getD l (p - 8)
      rw [List.getD_eq_getElem?_getD, List.getElem?_append_right (by rw [bits8_length]; omega), ← List.getD_eq_getElem?_getD, bits8_length]
      rw [bitsOf] at ih
      rw [ih]
      have e1 : p / 8 = (p - 8) / 8 + 1 := by omega
      have e2 : p % 8 = (p - 8) % 8 := by omega
      rw [e1, e2]; rfl

theorem addB_length : ∀ a b : List Bool, a.length = b.length → (addB a b).length = a.length
  | [], [], _ => rfl
  | _ :: a, _ :: b, h => by simp only [addB, List.length_cons]; rw [addB_length a b (by simpa using h)]

theorem addB_getD : ∀ (a b : List Bool) (p : Nat), a.length = b.length → (addB a b).getD p false = (a.getD p false ^^ b.getD p false)
  | [], [], p, _ => by simp [addB]
  | x :: a, y :: b, 0, _ => by simp [addB]
  | x :: a, y :: b, p + 1, h => by simpa [addB] using addB_getD a b p (by simpa using h)

theorem getD_replicate {l : List Bool} (h : ∀ p, l.getD p false = false) : l = List.replicate l.length false := by
  apply List.ext_getElem?
  intro p
  by_cases hp : p < l.length
  · have := h p
    rw [List.getD_eq_getElem?_getD] at this
    rw [List.getElem?_eq_getElem hp] at this ⊢
    simp at this
    simp [this, hp]
  · rw [List.getElem?_eq_none (by omega), List.getElem?_eq_none (by simp; omega)]

/-- BITS THAT ARE TURNED WITHIN 32 MAKE ANOTHER SUM. -/
theorem turned {a b : List (BitVec 32)} (hl : a.length = b.length) (ha : ∀ c ∈ a, c.toNat < 256) (hb : ∀ c ∈ b, c.toNat < 256) (w : BitVec 32) (f : Nat)
    (hout : ∀ p, (p < f ∨ f + 32 ≤ p) → (a.getD (p / 8) 0).getLsbD (p % 8) = (b.getD (p / 8) 0).getLsbD (p % 8))
    (he : word w a = word w b) : ∀ p, (a.getD (p / 8) 0).getLsbD (p % 8) = (b.getD (p / 8) 0).getLsbD (p % 8) := by
  have hlen : (bitsOf a).length = (bitsOf b).length := by rw [bitsOf_length, bitsOf_length, hl]
  have h0 : feed (w ^^^ w) (addB (bitsOf a) (bitsOf b)) = 0 := by
    rw [feed_xor _ _ _ _ hlen, ← word_feed _ _ ha, ← word_feed _ _ hb, he]; simp
  rw [BitVec.xor_self] at h0
  have hD : ∀ p, (addB (bitsOf a) (bitsOf b)).getD p false = ((a.getD (p / 8) 0).getLsbD (p % 8) ^^ (b.getD (p / 8) 0).getLsbD (p % 8)) := fun p => by
    rw [addB_getD _ _ _ hlen, bitsOf_getD, bitsOf_getD]
  generalize addB (bitsOf a) (bitsOf b) = D at h0 hD
  have hsplit : D = D.take f ++ ((D.drop f).take 32 ++ (D.drop f).drop 32) := by
    rw [List.take_append_drop, List.take_append_drop]
  have h1 : D.take f = List.replicate (D.take f).length false := getD_replicate fun p => by
    rw [List.getD_eq_getElem?_getD, List.getElem?_take]
    split
    · rename_i hp
      rw [← List.getD_eq_getElem?_getD, hD, hout p (.inl hp)]; simp
    · rfl
  have h3 : (D.drop f).drop 32 = List.replicate ((D.drop f).drop 32).length false := getD_replicate fun p => by
    rw [List.getD_eq_getElem?_getD, List.getElem?_drop, List.getElem?_drop, ← List.getD_eq_getElem?_getD, hD, hout _ (.inr (by omega))]; simp
  rw [hsplit, feed_append, feed_append, h1, feed_false] at h0
  rw [show (0#32 : BitVec 32) = 0 from rfl, bits_zero, h3, feed_false] at h0
  have h2 := bits_eq_zero _ h0
  rw [feed_eq _ _ (by simp; omega)] at h2
  have hv := bits_eq_zero _ h2
  rw [show (0 : BitVec 32) ^^^ val (List.take 32 (List.drop f D)) = val (List.take 32 (List.drop f D)) from by simp] at hv
  intro p
  by_cases hp : p < f ∨ f + 32 ≤ p
  · exact hout p hp
  · have hb := val_bit ((D.drop f).take 32) (p - f) (by omega)
    rw [hv, List.getD_eq_getElem?_getD, List.getElem?_take, if_pos (by omega), List.getElem?_drop, ← List.getD_eq_getElem?_getD, hD] at hb
    rw [show f + (p - f) = p from by omega] at hb
    revert hb
    generalize (a.getD (p / 8) 0).getLsbD (p % 8) = x
    generalize (b.getD (p / 8) 0).getLsbD (p % 8) = y
    revert x y; simp

/-! A sum behind the bytes whose sum it is. -/

/-- Four bytes are 32 bits' steps of what they say. -/
theorem word_four {l : List (BitVec 32)} (hl : l.length = 4) (h : ∀ c ∈ l, c.toNat < 256) (w s : BitVec 32)
    (hs : ∀ i < 32, (l.getD (i / 8) 0).getLsbD (i % 8) = s.getLsbD i) : word w l = bits 32 (w ^^^ s) := by
  have hlen : (bitsOf l).length = 32 := by rw [bitsOf_length, hl]
  rw [word_feed l w h, feed_eq _ _ (by omega), hlen]
  congr 2
  apply BitVec.eq_of_getLsbD_eq
  intro i hi
  rw [val_bit _ _ hi, bitsOf_getD, hs i hi]

theorem back_bits : ~~~ (bits 32 (BitVec.allOnes 32)) = 558161692#32 := by decide +kernel

/-- Bytes with their own sum behind them have always the same sum. -/
theorem back {a l : List (BitVec 32)} (hl : l.length = 4) (h : ∀ c ∈ l, c.toNat < 256)
    (hs : ∀ i < 32, (l.getD (i / 8) 0).getLsbD (i % 8) = (more 0 a).getLsbD i) : more 0 (a ++ l) = 558161692#32 := by
  unfold more at *
  rw [word_append, word_four hl h _ _ hs, ← back_bits]
  generalize word (~~~ 0) a = x
  have e : x ^^^ ~~~ x = BitVec.allOnes 32 := by
    apply BitVec.eq_of_getLsbD_eq
    intro i hi
    rw [BitVec.getLsbD_xor, BitVec.getLsbD_not, BitVec.getLsbD_allOnes]
    simp only [hi, decide_true, Bool.true_and]
    cases x.getLsbD i <;> rfl
  rw [e]

theorem more_append (s : BitVec 32) (a b : List (BitVec 32)) : more (more s a) b = more s (a ++ b) := by
  unfold more
  rw [word_append, BitVec.not_not]

theorem more_nil (s : BitVec 32) : more s [] = s := by
  unfold more word; simp

theorem more_one_left {s t c : BitVec 32} : more s [c] = more t [c] ↔ s = t := by
  constructor
  · intro h
    have h1 : byte (~~~ s) c = byte (~~~ t) c := BitVec.not_inj.1 h
    exact BitVec.not_inj.1 (byte_inj_left h1)
  · rintro rfl; rfl

theorem more_one_right {s c d : BitVec 32} : more s [c] = more s [d] ↔ c = d := by
  constructor
  · intro h
    have h1 : byte (~~~ s) c = byte (~~~ s) d := BitVec.not_inj.1 h
    exact byte_inj_right h1
  · rintro rfl; rfl

/-- Of three rows of as many bytes the sum of all three added is their sums added. -/
theorem more_add3 {a b c : List (BitVec 32)} (h1 : a.length = b.length) (h2 : b.length = c.length) :
    more 0 (add (add a b) c) = more 0 a ^^^ more 0 b ^^^ more 0 c := by
  have hadd : ∀ a b : List (BitVec 32), a.length = b.length → (add a b).length = a.length := by
    intro a
    induction a with
    | nil => intro b h; cases b <;> simp_all [add]
    | cons x a ih =>
      intro b h
      cases b with
      | nil => simp at h
      | cons y b => simp only [add, List.length_cons]; rw [ih b (by simpa using h)]
  unfold more
  have e : (~~~ (0 : BitVec 32)) = (~~~ 0 ^^^ ~~~ 0) ^^^ ~~~ 0 := by decide
  conv => lhs; rw [e]
  rw [word_xor _ _ _ _ ((hadd a b h1).trans (h1.trans h2)), word_xor _ _ _ _ h1]
  apply BitVec.eq_of_getLsbD_eq
  intro i hi
  simp only [BitVec.getLsbD_xor, BitVec.getLsbD_not]
  generalize (word (~~~ 0) a).getLsbD i = x
  generalize (word (~~~ 0) b).getLsbD i = y
  generalize (word (~~~ 0) c).getLsbD i = z
  simp only [hi, decide_true, Bool.true_and]
  revert x y z; decide

end Go.Crc
