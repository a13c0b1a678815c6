/-
  The plain mathematics of frames: bytes as numbers, what stands in front of them, what is scanned; no program in sight.
-/
import Derived.Test.YtodlabpgjgbbpafCrcWords
namespace Go.Frm

abbrev Row := List Int
/-- Are they bytes? -/
def ok (b : Row) : Prop := ∀ z ∈ b, 0 ≤ z ∧ z ≤ 255
/-- A number as four bytes, the lowest first. -/
def four (n : Int) : Row := [n % 256, n / 256 % 256, n / 65536 % 256, n / 16777216 % 256]
/-- The number that the first four bytes are. -/
def num (b : Row) : Int := b.getD 0 0 + 256 * b.getD 1 0 + 65536 * b.getD 2 0 + 16777216 * b.getD 3 0
/-- The sum of a frame. -/
def chk (h b : Row) : Int := Crc.nm (Crc.more (Crc.more 0 (h.map Crc.bv)) (b.map Crc.bv))
/-- b in a frame. -/
def put (b : Row) : Row := four b.length ++ (four (chk (four b.length) b) ++ b)
/-- What stands in the first frame: how many bytes, or why there is none. -/
def bodyN (b : Row) : Nat := (num b).toNat
def code (b : Row) : Int :=
  if b.length < 8 then 3
  else if 4096 < num b then 5
  else if (b.length : Int) - 8 < num b then 3
  else if (b.drop 4).take 4 = four (chk (b.take 4) ((b.drop 8).take (bodyN b))) then 0 else 4
def body (b : Row) : Row := (b.drop 8).take (bodyN b)
def rest (b : Row) : Row := b.drop (8 + bodyN b)

theorem four_length (n : Int) : (four n).length = 4 := rfl
theorem four_ok (n : Int) : ok (four n) := by
  intro z hz
  simp only [four, List.mem_cons, List.not_mem_nil, or_false] at hz
  omega
theorem num_four {n : Int} (h0 : 0 ≤ n) (h1 : n < 4294967296) : num (four n) = n := by
  simp only [num, four, List.getD_cons_zero, List.getD_cons_succ]
  omega
theorem chk_bd (h b : Row) : 0 ≤ chk h b ∧ chk h b < 4294967296 := Crc.nm_lt _
theorem four_inj {a b : Int} (ha : 0 ≤ a ∧ a < 4294967296) (hb : 0 ≤ b ∧ b < 4294967296) (h : four a = four b) : a = b := by
  have := congrArg num h
  rwa [num_four ha.1 ha.2, num_four hb.1 hb.2] at this
theorem list4 {b : Row} (h : 4 ≤ b.length) : b.take 4 = [b.getD 0 0, b.getD 1 0, b.getD 2 0, b.getD 3 0] := by
  match b, h with
  | x0 :: x1 :: x2 :: x3 :: r, _ => simp
theorem num_take {b : Row} (h : 4 ≤ b.length) : num b = num (b.take 4) := by
  rw [list4 h]; simp [num]
theorem num_bd {b : Row} (hb : ok b) : 0 ≤ num b ∧ num b < 4294967296 := by
  have g : ∀ i, 0 ≤ b.getD i 0 ∧ b.getD i 0 ≤ 255 := fun i => by
    rcases Nat.lt_or_ge i b.length with hl | hl
    · rw [List.getD_eq_getElem?_getD, List.getElem?_eq_getElem hl]; exact hb _ (List.getElem_mem hl)
    · rw [List.getD_eq_getElem?_getD, List.getElem?_eq_none hl]; simp
  have h0 := g 0; have h1 := g 1; have h2 := g 2; have h3 := g 3
  unfold num
  omega
/-- Four bytes are the four bytes of their number. -/
theorem four_num {b : Row} (hb : ok b) (h : 4 ≤ b.length) : four (num b) = b.take 4 := by
  have g : ∀ i, 0 ≤ b.getD i 0 ∧ b.getD i 0 ≤ 255 := fun i => by
    rcases Nat.lt_or_ge i b.length with hl | hl
    · rw [List.getD_eq_getElem?_getD, List.getElem?_eq_getElem hl]; exact hb _ (List.getElem_mem hl)
    · rw [List.getD_eq_getElem?_getD, List.getElem?_eq_none hl]; simp
  have h0 := g 0; have h1 := g 1; have h2 := g 2; have h3 := g 3
  rw [list4 h]
  unfold four num
  simp only [List.cons.injEq, and_true]
  refine ⟨?_, ?_, ?_, ?_⟩ <;> omega

theorem ok_append {a b : Row} (ha : ok a) (hb : ok b) : ok (a ++ b) := fun z hz => (List.mem_append.1 hz).elim (ha z) (hb z)
theorem ok_take {a : Row} (ha : ok a) (n : Nat) : ok (a.take n) := fun z hz => ha z (List.mem_of_mem_take hz)
theorem ok_drop {a : Row} (ha : ok a) (n : Nat) : ok (a.drop n) := fun z hz => ha z (List.mem_of_mem_drop hz)
theorem put_length (b : Row) : (put b).length = b.length + 8 := by simp [put, four_length]; omega
theorem put_ok {b : Row} (hb : ok b) : ok (put b) := ok_append (four_ok _) (ok_append (four_ok _) hb)

section
variable {b : Row} (m : Row)
theorem put_take4 : (put b ++ m).take 4 = four b.length := by simp [put, four]
theorem put_drop4 : ((put b ++ m).drop 4).take 4 = four (chk (four b.length) b) := by simp [put, four]
theorem put_drop8 : (put b ++ m).drop 8 = b ++ m := by simp [put, four]
theorem put_num (hl : b.length ≤ 4096) : num (put b ++ m) = b.length := by
  rw [num_take (by simp [put_length]; omega), put_take4, num_four (by omega) (by omega)]
theorem put_bodyN (hl : b.length ≤ 4096) : bodyN (put b ++ m) = b.length := by unfold bodyN; rw [put_num m hl]; omega
theorem put_body (hl : b.length ≤ 4096) : body (put b ++ m) = b := by unfold body; rw [put_bodyN m hl, put_drop8]; simp
theorem put_rest (hl : b.length ≤ 4096) : rest (put b ++ m) = m := by
  unfold rest
  rw [put_bodyN m hl, ← List.drop_drop, put_drop8]; simp
theorem put_code (hl : b.length ≤ 4096) : code (put b ++ m) = 0 := by
  unfold code
  have hlen : (put b ++ m).length = b.length + 8 + m.length := by simp [put_length]
  rw [if_neg (by omega), put_num m hl, if_neg (by omega), if_neg (by omega), put_drop4, put_take4, if_pos]
  have := put_body (b := b) m hl
  unfold body at this
  rw [this]
end

/-- A frame that is whole is what is in it, put. -/
theorem code_zero {b : Row} (hb : ok b) (h : code b = 0) : bodyN b ≤ 4096 ∧ 8 + bodyN b ≤ b.length ∧ (body b).length = bodyN b ∧ b = put (body b) ++ rest b := by
  unfold code at h
  have hbd := num_bd hb
  by_cases h1 : b.length < 8
  · rw [if_pos h1] at h; omega
  · rw [if_neg h1] at h
    by_cases h2 : 4096 < num b
    · rw [if_pos h2] at h; omega
    · rw [if_neg h2] at h
      by_cases h3 : (b.length : Int) - 8 < num b
      · rw [if_pos h3] at h; omega
      · rw [if_neg h3] at h
        by_cases h4 : (b.drop 4).take 4 = four (chk (b.take 4) ((b.drop 8).take (bodyN b)))
        · have hn : (bodyN b : Int) = num b := by unfold bodyN; omega
          have hl : (body b).length = bodyN b := by unfold body; rw [List.length_take, List.length_drop]; omega
          refine ⟨by omega, by omega, hl, ?_⟩
          unfold put
          have e1 : four (((body b).length : Nat) : Int) = b.take 4 := by rw [hl, hn, four_num hb (by omega)]
          rw [e1]
          have e2 : four (chk (b.take 4) (body b)) = (b.drop 4).take 4 := h4.symm
          rw [e2]
          unfold body rest
          rw [List.append_assoc, List.append_assoc, ← List.drop_drop, List.take_append_drop]
          have e3 : b.drop 8 = (b.drop 4).drop 4 := by rw [List.drop_drop]
          rw [e3, List.take_append_drop, List.take_append_drop]
        · rw [if_neg h4] at h; omega

/-- All frames from the beginning on, by so many steps at most. -/
def scanF : Nat → Row → List Row × Nat
  | 0, _ => ([], 0)
  | f + 1, b => if code b = 0 then (body b :: (scanF f (rest b)).1, 8 + bodyN b + (scanF f (rest b)).2) else ([], 0)
def scan (b : Row) : List Row × Nat := scanF b.length b

theorem code_len {b : Row} (h : code b = 0) : 8 ≤ b.length := by
  unfold code at h
  by_cases h1 : b.length < 8
  · rw [if_pos h1] at h; omega
  · omega
theorem rest_lt {b : Row} (h : code b = 0) : (rest b).length < b.length := by
  have := code_len h
  unfold rest; rw [List.length_drop]; omega
theorem scanF_more : ∀ (f g : Nat) (b : Row), b.length ≤ f → b.length ≤ g → scanF f b = scanF g b
  | 0, 0, _, _, _ => rfl
  | 0, g + 1, b, hf, _ => by
    have : code b ≠ 0 := fun h => by have := code_len h; omega
    simp [scanF, this]
  | f + 1, 0, b, _, hg => by
    have : code b ≠ 0 := fun h => by have := code_len h; omega
    simp [scanF, this]
  | f + 1, g + 1, b, hf, hg => by
    unfold scanF
    by_cases h : code b = 0
    · have := rest_lt h
      rw [if_pos h, if_pos h, scanF_more f g (rest b) (by omega) (by omega)]
    · rw [if_neg h, if_neg h]
theorem scan_one {b : Row} (h : code b = 0) : scan b = (body b :: (scan (rest b)).1, 8 + bodyN b + (scan (rest b)).2) := by
  have hl := code_len h
  have hr := rest_lt h
  unfold scan
  obtain ⟨k, hk⟩ : ∃ k, b.length = k + 1 := ⟨b.length - 1, by omega⟩
  rw [hk, scanF, if_pos h, scanF_more k (rest b).length (rest b) (by omega) (Nat.le_refl _)]
theorem scan_end {b : Row} (h : code b ≠ 0) : scan b = ([], 0) := by
  unfold scan
  cases hk : b.length with
  | zero => rfl
  | succ k => rw [scanF, if_neg h]

/-- What is scanned ahead of a place, and from there on. -/
def Upto (b : Row) (l : List Row) (at_ : Nat) : Prop := at_ ≤ b.length ∧ (scan b).1 = l ++ (scan (b.drop at_)).1 ∧ (scan b).2 = at_ + (scan (b.drop at_)).2
theorem upto_zero (b : Row) : Upto b [] 0 := ⟨Nat.zero_le _, by simp, by simp⟩
theorem upto_next {b : Row} (hb : ok b) {l : List Row} {a : Nat} (h : Upto b l a) (hc : code (b.drop a) = 0) : Upto b (l ++ [body (b.drop a)]) (a + (8 + bodyN (b.drop a))) := by
  obtain ⟨h1, h2, h3⟩ := h
  obtain ⟨_, g2, _, _⟩ := code_zero (ok_drop hb a) hc
  rw [List.length_drop] at g2
  rw [scan_one hc] at h2 h3
  have hr : rest (b.drop a) = b.drop (a + (8 + bodyN (b.drop a))) := by unfold rest; rw [List.drop_drop]
  rw [hr] at h2 h3
  exact ⟨by omega, by rw [h2]; simp, by rw [h3]; simp only; omega⟩
theorem upto_end {b : Row} {l : List Row} {a : Nat} (h : Upto b l a) (hc : code (b.drop a) ≠ 0) : scan b = (l, a) := by
  obtain ⟨_, h2, h3⟩ := h
  rw [scan_end hc] at h2 h3
  exact Prod.ext (by simpa using h2) (by simpa using h3)

/-- All frames of a list, one behind the other. -/
def puts : List Row → Row
  | [] => []
  | x :: l => put x ++ puts l
theorem puts_append : ∀ (a b : List Row), puts (a ++ b) = puts a ++ puts b
  | [], _ => rfl
  | x :: a, b => by simp [puts, puts_append a b]
theorem puts_snoc (l : List Row) (x : Row) : puts (l ++ [x]) = puts l ++ put x := by rw [puts_append]; simp [puts]

/-- What is scanned, put in frames again, is what was scanned. -/
theorem scan_again : ∀ (n : Nat) (b : Row), b.length ≤ n → ok b → (scan b).2 ≤ b.length ∧ puts (scan b).1 = b.take (scan b).2 ∧ ∀ x ∈ (scan b).1, x.length ≤ 4096 ∧ ok x
  | n, b, hn, hb => by
    by_cases h : code b = 0
    · obtain ⟨h1, h2, h3, h4⟩ := code_zero hb h
      have hlt := rest_lt h
      match n, hn with
      | 0, hn => omega
      | n + 1, hn =>
        obtain ⟨g1, g2, g3⟩ := scan_again n (rest b) (by omega) (ok_drop hb _)
        rw [scan_one h]
        have hrl : (rest b).length = b.length - (8 + bodyN b) := by unfold rest; rw [List.length_drop]
        have hpl : (put (body b)).length = 8 + bodyN b := by rw [put_length, h3]; omega
        refine ⟨by simp only; omega, ?_, ?_⟩
        · show put (body b) ++ puts (scan (rest b)).1 = b.take (8 + bodyN b + (scan (rest b)).2)
          rw [g2]
          have hj : ∀ j, b.take (8 + bodyN b + j) = put (body b) ++ (rest b).take j := fun j => by
            generalize 8 + bodyN b = N at hpl
            conv => lhs; rw [h4]
            rw [List.take_append, hpl, List.take_of_length_le (by omega)]
            congr 2
            omega
          exact (hj _).symm
        · intro x hx
          rcases List.mem_cons.1 hx with rfl | hx
          · exact ⟨by omega, ok_take (ok_drop hb _) _⟩
          · exact g3 x hx
    · rw [scan_end h]
      exact ⟨by simp, by simp [puts], by simp⟩

/-- Frames are scanned as what is in them, then what stands behind them. -/
theorem scan_puts : ∀ (l : List Row) (m : Row), (∀ x ∈ l, x.length ≤ 4096) → scan (puts l ++ m) = (l ++ (scan m).1, (puts l).length + (scan m).2)
  | [], m, _ => by simp [puts]
  | x :: l, m, h => by
    have hx := h x (by simp)
    have e : puts (x :: l) ++ m = put x ++ (puts l ++ m) := by simp [puts]
    rw [e, scan_one (put_code _ hx), put_body _ hx, put_rest _ hx, put_bodyN _ hx, scan_puts l m (fun y hy => h y (by simp [hy]))]
    refine Prod.ext (by simp) ?_
    show 8 + x.length + ((puts l).length + (scan m).2) = _
    simp only [puts, List.length_append, put_length]
    omega

/-- A beginning of a frame that is not whole is none. -/
theorem torn_code {x : Row} (hx : x.length ≤ 4096) {k : Nat} (hk : k < (put x).length) : code ((put x).take k) ≠ 0 := by
  rw [put_length] at hk
  unfold code
  have hl : ((put x).take k).length = k := by rw [List.length_take, put_length]; omega
  by_cases h1 : k < 8
  · rw [if_pos (by omega)]; decide
  · have hn : num ((put x).take k) = x.length := by
      rw [num_take (by omega), List.take_take, Nat.min_eq_left (by omega)]
      have := put_take4 (b := x) []
      rw [List.append_nil] at this
      rw [this, num_four (by omega) (by omega)]
    rw [if_neg (by omega), hn, if_neg (by omega), if_pos (by omega)]; decide

/-- With other bytes in a frame's place it is not scanned as it was. -/
theorem turned_code {x y : Row} (m : Row) (hy : ok y) (hm : ok m) (hl : y.length = (put x).length) (hne : y ≠ put x) : code (y ++ m) ≠ 0 ∨ body (y ++ m) ≠ x := by
  by_cases h : code (y ++ m) = 0
  · right
    intro hb
    obtain ⟨_, _, _, h4⟩ := code_zero (ok_append hy hm) h
    rw [hb] at h4
    apply hne
    have := congrArg (List.take y.length) h4
    rw [List.take_left, hl, List.take_left] at this
    exact this
  · exact .inl h

/-- How many frames of a list are whole ahead of a place. -/
def wholeTo (l : List Row) (k : Nat) : Nat → Prop := fun w => w ≤ l.length ∧ (puts (l.take w)).length ≤ k ∧ (w < l.length → k < (puts (l.take (w + 1))).length)
theorem scan_torn {l : List Row} {k w : Nat} (h : ∀ x ∈ l, x.length ≤ 4096) (hw : wholeTo l k w) : scan ((puts l).take k) = (l.take w, (puts (l.take w)).length) := by
  obtain ⟨h1, h2, h3⟩ := hw
  have hs : puts l = puts (l.take w) ++ puts (l.drop w) := by rw [← puts_append, List.take_append_drop]
  have ht : (puts l).take k = puts (l.take w) ++ (puts (l.drop w)).take (k - (puts (l.take w)).length) := by
    rw [hs, List.take_append, List.take_of_length_le h2]
  rw [ht, scan_puts _ _ (fun x hx => h x (List.mem_of_mem_take hx))]
  have he : code ((puts (l.drop w)).take (k - (puts (l.take w)).length)) ≠ 0 := by
    by_cases hlt : w < l.length
    · have h3 := h3 hlt
      have hd : l.drop w = l[w] :: l.drop (w + 1) := by rw [List.drop_eq_getElem_cons hlt]
      have htk : l.take (w + 1) = l.take w ++ [l[w]] := by rw [List.take_succ_eq_append_getElem hlt]
      rw [htk, puts_snoc, List.length_append] at h3
      rw [hd]
      show code ((put l[w] ++ puts (l.drop (w + 1))).take _) ≠ 0
      rw [List.take_append_of_le_length (by omega)]
      exact torn_code (h _ (List.getElem_mem hlt)) (by omega)
    · have : l.drop w = [] := List.drop_eq_nil_of_le (by omega)
      rw [this]
      simp [puts, code]
  rw [scan_end he]
  simp

end Go.Frm
