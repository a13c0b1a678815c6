/-
  Numbers as words of 32 bits, and back: what the walks of the sum meet.
-/
import Derived.Test.YtodlabpgjgbbpafCrcPlain
import Derived.WalkKit
namespace Go.Crc

theorem bits_succ (n : Nat) : ∀ w, bits (n + 1) w = bit (bits n w) := by
  induction n with
  | zero => intro w; rfl
  | succ n ih => intro w; exact ih (bit w)

/-- A number as a word. -/
def bv (c : Int) : BitVec 32 := BitVec.ofInt 32 c
/-- A word as a number. -/
def nm (w : BitVec 32) : Int := (w.toNat : Int)
theorem nm_lt (w : BitVec 32) : 0 ≤ nm w ∧ nm w < 4294967296 := by unfold nm; have := w.isLt; omega
theorem bv_nm (w : BitVec 32) : bv (nm w) = w := by unfold bv nm; simp
theorem nm_bv {c : Int} (h0 : 0 ≤ c) (h1 : c < 4294967296) : nm (bv c) = c := by
  unfold bv nm; rw [BitVec.toNat_ofInt]; omega
theorem nm_inj {a b : BitVec 32} : nm a = nm b ↔ a = b := by
  constructor
  · intro h
    have := congrArg bv h
    rwa [bv_nm, bv_nm] at this
  · rintro rfl; rfl
theorem xor_nm (a b : Int) : Go.bits .xor .u32 a b = nm (bv a ^^^ bv b) := by
  show IntKind.u32.wrap ((BitVec.ofInt 32 a ^^^ BitVec.ofInt 32 b).toNat : Int) = _
  rw [IntKind.wrap_u32']
  have := nm_lt (bv a ^^^ bv b)
  exact Int.emod_eq_of_lt this.1 this.2
theorem and_nm (a b : Int) : Go.bits .and .u32 a b = nm (bv a &&& bv b) := by
  show IntKind.u32.wrap ((BitVec.ofInt 32 a &&& BitVec.ofInt 32 b).toNat : Int) = _
  rw [IntKind.wrap_u32']
  have := nm_lt (bv a &&& bv b)
  exact Int.emod_eq_of_lt this.1 this.2
theorem odd_nm (x : BitVec 32) : nm x % 2 = if x.getLsbD 0 then 1 else 0 := by
  unfold nm
  have : x.getLsbD 0 = decide (x.toNat % 2 = 1) := by rw [BitVec.getLsbD]; simp [Nat.testBit_zero]
  rw [this]
  by_cases h : x.toNat % 2 = 1
  · simp [h]; omega
  · simp [h]; omega
theorem low_nm (x : BitVec 32) : Go.bits .and .u32 (nm x) 1 = if x.getLsbD 0 then 1 else 0 := by
  rw [and_nm, bv_nm, ← odd_nm]
  unfold nm bv
  rw [BitVec.toNat_and, show (BitVec.ofInt 32 1).toNat = 1 from by decide, Nat.and_one_is_mod]
  omega
theorem half_nm (x : BitVec 32) : nm x / (2 : Int) = nm (x >>> 1) := by
  unfold nm
  rw [BitVec.toNat_ushiftRight, Nat.shiftRight_eq_div_pow]
  omega
theorem bv_half (x : BitVec 32) : bv (nm x / 2) = x >>> 1 := by rw [half_nm, bv_nm]
theorem poly_bv : bv 3988292384 = poly := by decide
theorem ones_bv : bv 4294967295 = BitVec.allOnes 32 := by decide
theorem bit_odd {x : BitVec 32} (h : x.getLsbD 0 = true) : Go.bits .xor .u32 (nm x / 2) 3988292384 = nm (bit x) := by
  rw [xor_nm, bv_half, poly_bv]; unfold bit; rw [if_pos h]
theorem bit_even {x : BitVec 32} (h : x.getLsbD 0 = false) : nm x / 2 = nm (bit x) := by
  rw [half_nm]; unfold bit; rw [h]; simp
theorem xor_ones (x : BitVec 32) : x ^^^ BitVec.allOnes 32 = ~~~ x := by
  apply BitVec.eq_of_getLsbD_eq
  intro i hi
  rw [BitVec.getLsbD_xor, BitVec.getLsbD_not, BitVec.getLsbD_allOnes]
  simp only [hi, decide_true, Bool.true_and, Bool.xor_true]
theorem not_nm (x : BitVec 32) : Go.bits .xor .u32 IntKind.u32.max (nm x) = nm (~~~ x) := by
  rw [xor_nm, bv_nm, show IntKind.u32.max = 4294967295 from by decide, ones_bv, BitVec.xor_comm, xor_ones]
theorem flip_nm (x : BitVec 32) : Go.bits .xor .u32 (nm x) 4294967295 = nm (~~~ x) := by
  rw [xor_nm, bv_nm, ones_bv, xor_ones]


/-- A word's lowest byte. -/
theorem low_bv (x : BitVec 32) : bv (nm x % 256) = x &&& 255#32 := by
  have h : nm x % 256 = nm (x &&& 255#32) := by
    unfold nm
    rw [BitVec.toNat_and, show (255#32 : BitVec 32).toNat = 2 ^ 8 - 1 from rfl, Nat.and_two_pow_sub_one_eq_mod]
    omega
  rw [h, bv_nm]
theorem shr_nm (x : BitVec 32) (k : Nat) (m : Int) (hm : m = ((2 ^ k : Nat) : Int)) : nm x / m = nm (x >>> k) := by
  subst hm
  unfold nm
  rw [BitVec.toNat_ushiftRight, Nat.shiftRight_eq_div_pow]
  exact (Int.natCast_ediv _ _).symm
theorem low_bit (x : BitVec 32) (r : Nat) (hr : r < 8) : (x &&& 255#32).getLsbD r = x.getLsbD r := by
  rw [BitVec.getLsbD_and]
  have : (255#32 : BitVec 32).getLsbD r = true := by
    have h : ∀ r < 8, (255#32 : BitVec 32).getLsbD r = true := by decide
    exact h r hr
  rw [this, Bool.and_true]
/-- A word's four bytes, the lowest first. -/
def fourOf (s : BitVec 32) : List Int := [nm s % 256, nm s / 256 % 256, nm s / 65536 % 256, nm s / 16777216]
theorem fourOf_ok (s : BitVec 32) : ∀ z ∈ fourOf s, 0 ≤ z ∧ z ≤ 255 := by
  have := nm_lt s
  intro z hz
  simp only [fourOf, List.mem_cons, List.not_mem_nil, or_false] at hz
  rcases hz with rfl | rfl | rfl | rfl <;> omega
theorem fourOf_bv (s : BitVec 32) : (fourOf s).map bv = [s &&& 255#32, (s >>> 8) &&& 255#32, (s >>> 16) &&& 255#32, (s >>> 24) &&& 255#32] := by
  have h4 : nm s / (16777216 : Int) = nm (s >>> 24) % (256 : Int) := by
    rw [← shr_nm s 24 16777216 (by decide)]
    have := nm_lt s
    omega
  simp only [fourOf, List.map_cons, List.map_nil]
  rw [h4, low_bv, shr_nm s 8 256 (by decide), low_bv, shr_nm s 16 65536 (by decide), low_bv, low_bv]
theorem fourOf_bits (s : BitVec 32) (i : Nat) (hi : i < 32) : (((fourOf s).map bv).getD (i / 8) 0).getLsbD (i % 8) = s.getLsbD i := by
  rw [fourOf_bv]
  have h8 : i % 8 < 8 := Nat.mod_lt _ (by omega)
  have hcase : i / 8 = 0 ∨ i / 8 = 1 ∨ i / 8 = 2 ∨ i / 8 = 3 := by omega
  rcases hcase with h | h | h | h <;> rw [h] <;> simp only [List.getD_cons_zero, List.getD_cons_succ] <;> rw [low_bit _ _ h8]
  · congr 1; omega
  · rw [BitVec.getLsbD_ushiftRight]; congr 1; omega
  · rw [BitVec.getLsbD_ushiftRight]; congr 1; omega
  · rw [BitVec.getLsbD_ushiftRight]; congr 1; omega
theorem fourOf_lt (s : BitVec 32) : ∀ c ∈ (fourOf s).map bv, c.toNat < 256 := by
  intro c hc
  obtain ⟨z, hz, rfl⟩ := List.mem_map.1 hc
  have := fourOf_ok s z hz
  unfold bv
  rw [BitVec.toNat_ofInt]
  omega
/-- Bytes with their own sum behind them. -/
theorem back_four (a : List (BitVec 32)) : nm (more 0 (a ++ (fourOf (more 0 a)).map bv)) = 558161692 := by
  rw [back (by simp [fourOf]) (fourOf_lt _) (fourOf_bits _)]
  decide

end Go.Crc
