/-
  Numbers as words of 32 bits, and back: what the walks of the sum meet.
-/
import Derived.Test.YtodlabpgjgbbpaaCrcPlain
import Derived.WalkKit
namespace Go.Crc

theorem bits_succ (n : Nat) : ∀ w, bits (n + 1) w = bit (bits n w) := by
  induction n with
  | zero => intro w; rfl
  | succ n ih => intro w; exact ih (bit w)

/-- A number as a word. -/
def bv (c : Int) : BitVec 32 := BitVec.ofInt 32 c
/-- A word as a number. -/
def nm (w : BitVec 32) : Int := (w.toNat : Int)
theorem nm_lt (w : BitVec 32) : 0 ≤ nm w ∧ nm w < 4294967296 := by unfold nm; have := w.isLt; omega
theorem bv_nm (w : BitVec 32) : bv (nm w) = w := by unfold bv nm; simp
theorem nm_bv {c : Int} (h0 : 0 ≤ c) (h1 : c < 4294967296) : nm (bv c) = c := by
  unfold bv nm; rw [BitVec.toNat_ofInt]; omega
theorem nm_inj {a b : BitVec 32} : nm a = nm b ↔ a = b := by
  constructor
  · intro h
    have := congrArg bv h
    rwa [bv_nm, bv_nm] at this
  · rintro rfl; rfl
theorem xor_nm (a b : Int) : Go.bits .xor .u32 a b = nm (bv a ^^^ bv b) := by
  show IntKind.u32.wrap ((BitVec.ofInt 32 a ^^^ BitVec.ofInt 32 b).toNat : Int) = _
  rw [IntKind.wrap_u32']
  have := nm_lt (bv a ^^^ bv b)
  exact Int.emod_eq_of_lt this.1 this.2
theorem and_nm (a b : Int) : Go.bits .and .u32 a b = nm (bv a &&& bv b) := by
  show IntKind.u32.wrap ((BitVec.ofInt 32 a &&& BitVec.ofInt 32 b).toNat : Int) = _
  rw [IntKind.wrap_u32']
  have := nm_lt (bv a &&& bv b)
  exact Int.emod_eq_of_lt this.1 this.2
theorem odd_nm (x : BitVec 32) : nm x % 2 = if x.getLsbD 0 then 1 else 0 := by
  unfold nm
  have : x.getLsbD 0 = decide (x.toNat % 2 = 1) := by rw [BitVec.getLsbD]; simp [Nat.testBit_zero]
  rw [this]
  by_cases h : x.toNat % 2 = 1
  · simp [h]; omega
  · simp [h]; omega
theorem low_nm (x : BitVec 32) : Go.bits .and .u32 (nm x) 1 = if x.getLsbD 0 then 1 else 0 := by
  rw [and_nm, bv_nm, ← odd_nm]
  unfold nm bv
  rw [BitVec.toNat_and, show (BitVec.ofInt 32 1).toNat = 1 from by decide, Nat.and_one_is_mod]
  omega
theorem half_nm (x : BitVec 32) : nm x / (2 : Int) = nm (x >>> 1) := by
  unfold nm
  rw [BitVec.toNat_ushiftRight, Nat.shiftRight_eq_div_pow]
  omega
theorem bv_half (x : BitVec 32) : bv (nm x / 2) = x >>> 1 := by rw [half_nm, bv_nm]
theorem poly_bv : bv 3988292384 = poly := by decide
theorem ones_bv : bv 4294967295 = BitVec.allOnes 32 := by decide
theorem bit_odd {x : BitVec 32} (h : x.getLsbD 0 = true) : Go.bits .xor .u32 (nm x / 2) 3988292384 = nm (bit x) := by
  rw [xor_nm, bv_half, poly_bv]; unfold bit; rw [if_pos h]
theorem bit_even {x : BitVec 32} (h : x.getLsbD 0 = false) : nm x / 2 = nm (bit x) := by
  rw [half_nm]; unfold bit; rw [h]; simp
theorem xor_ones (x : BitVec 32) : x ^^^ BitVec.allOnes 32 = ~~~ x := by
  apply BitVec.eq_of_getLsbD_eq
  intro i hi
  rw [BitVec.getLsbD_xor, BitVec.getLsbD_not, BitVec.getLsbD_allOnes]
  simp only [hi, decide_true, Bool.true_and, Bool.xor_true]
theorem not_nm (x : BitVec 32) : Go.bits .xor .u32 IntKind.u32.max (nm x) = nm (~~~ x) := by
  rw [xor_nm, bv_nm, show IntKind.u32.max = 4294967295 from by decide, ones_bv, BitVec.xor_comm, xor_ones]
theorem flip_nm (x : BitVec 32) : Go.bits .xor .u32 (nm x) 4294967295 = nm (~~~ x) := by
  rw [xor_nm, bv_nm, ones_bv, xor_ones]

end Go.Crc
