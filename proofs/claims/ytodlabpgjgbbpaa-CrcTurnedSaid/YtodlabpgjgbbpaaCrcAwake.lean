/-
  The laws' own first question: the known sum comes out.
-/
import Derived.Test.YtodlabpgjgbbpaaCrcWalks
import Derived.Lib.SlBytesConst
namespace Go.Proofs.Ytodlabpgjgbbpaa
open Go.RowKit Go.Agio

theorem sum_nine : Crc.nm (Crc.more 0 ([49, 50, 51, 52, 53, 54, 55, 56, 57].map Crc.bv)) = 3421780262 := by decide +kernel
theorem more_five : Crc.nm (Crc.more (Crc.more 0 ([49, 50, 51, 52].map Crc.bv)) ([53, 54, 55, 56, 57].map Crc.bv)) = 3421780262 := by decide +kernel

theorem nine_ok : ∀ z ∈ ([49, 50, 51, 52, 53, 54, 55, 56, 57] : List Int), 0 ≤ z ∧ z < 256 := by decide
theorem four_ok : ∀ z ∈ ([49, 50, 51, 52] : List Int), 0 ≤ z ∧ z < 256 := by decide
theorem five_ok : ∀ z ∈ ([53, 54, 55, 56, 57] : List Int), 0 ≤ z ∧ z < 256 := by decide

/-- The sum of four bytes, by name. -/
def four : BitVec 32 := Crc.more 0 ([49, 50, 51, 52].map Crc.bv)
theorem more_four : Crc.nm (Crc.more four ([53, 54, 55, 56, 57].map Crc.bv)) = 3421780262 := more_five

theorem ask_nine (A : Option Addr) (cap : Nat) (w : World) (hR : Reads w A [.int .u8 49, .int .u8 50, .int .u8 51, .int .u8 52, .int .u8 53, .int .u8 54, .int .u8 55, .int .u8 56, .int .u8 57]) :
    Calls Try.prog 10 #[.slice A 9 cap] w fun e w' => e = .returned (.int .u32 3421780262) ∧ Below w.heap.size w w' := by
  have h := sum_any A cap [49, 50, 51, 52, 53, 54, 55, 56, 57] w hR nine_ok (by decide)
  rw [sum_nine] at h
  exact h
theorem ask_four (A : Option Addr) (cap : Nat) (w : World) (hR : Reads w A [.int .u8 49, .int .u8 50, .int .u8 51, .int .u8 52]) :
    Calls Try.prog 10 #[.slice A 4 cap] w fun e w' => e = .returned (.int .u32 (Crc.nm four)) ∧ Below w.heap.size w w' :=
  sum_any A cap [49, 50, 51, 52] w hR four_ok (by decide)
theorem ask_five (A : Option Addr) (cap : Nat) (w : World) (hR : Reads w A [.int .u8 53, .int .u8 54, .int .u8 55, .int .u8 56, .int .u8 57]) :
    Calls Try.prog 12 #[.int .u32 (Crc.nm four), .slice A 5 cap] w fun e w' => e = .returned (.int .u32 3421780262) ∧ Below w.heap.size w w' := by
  have h := more_any four A cap [53, 54, 55, 56, 57] w hR five_ok (by decide)
  rw [more_four] at h
  exact h

set_option maxHeartbeats 400000 in
theorem awake_any (w : World) : Calls Try.prog 9 #[] w fun e w' => e = .returned (.bool true) ∧ Below w.heap.size w w' := by
  have kc := fun (w : World) (C : Array Value) (n c : Nat) => Lib.run_convert_bytes_const (P := Try.prog) w 23 5 C n c Try.underlying23 Try.underlying5
  go_enter Try.func9, Try.ntmps9
  go_wp2_with fail
  refine (ask_nine _ _ _ (Reads.new _ _ _ _)).mono ?_
  rintro e w1 ⟨rfl, hb1⟩
  go_wp2_with fail
  refine (ask_four _ _ _ (Reads.new _ _ _ _)).mono ?_
  rintro e w2 ⟨rfl, hb2⟩
  go_wp2_with fail
  refine (ask_five _ _ _ (Reads.new _ _ _ _)).mono ?_
  rintro e w3 ⟨rfl, hb3⟩
  go_wp2_with fail
  go_ret
  exact ⟨rfl, below_alloc (below_alloc (below_alloc (Below.refl _ _) hb1 (by simp)) hb2 (by simp)) hb3 (by simp)⟩
end Go.Proofs.Ytodlabpgjgbbpaa
