/-
  Two arrays of four bytes, compared.
-/
import Derived.Test.YtodlabpgjgbbpafFrmRef
import Derived.ChangeKeysEq
import Derived.Laws.StructEq
namespace Go.Proofs.Ytodlabpgjgbbpaf
open Go.RowKit Go.Agio

theorem guard4 : Try.prog.eqGuardType Try.prog.depth 47 = false := by kernel_rfl
theorem info4 : (Try.prog.info? 5).isSome = true := by kernel_rfl
theorem cells8 : Try.prog.cellsOf 5 = 1 := by kernel_rfl
theorem eq_four (W : World) (a0 a1 a2 a3 b0 b1 b2 b3 : Int) :
    (Op.equalIn 10000 47 (.agg #[.int .u8 a0, .int .u8 a1, .int .u8 a2, .int .u8 a3]) (.agg #[.int .u8 b0, .int .u8 b1, .int .u8 b2, .int .u8 b3])).run Try.prog W = .ok (decide (a0 = b0 ∧ a1 = b1 ∧ a2 = b2 ∧ a3 = b3)) W := by
  obtain ⟨i, hi⟩ := Option.isSome_iff_exists.1 info4
  rw [show (10000 : Nat) = 9999 + 1 from rfl, Go.run_equalIn_array W 9999 _ _ Try.underlying47 hi, cells8]
  simp [Op.eqItems, List.range_succ, part, Go.run_equalIn_int]
  by_cases h0 : a0 = b0 <;> by_cases h1 : a1 = b1 <;> by_cases h2 : a2 = b2 <;> by_cases h3 : a3 = b3 <;> simp [h0, h1, h2, h3]
theorem neq_four (W : World) (a0 a1 a2 a3 b0 b1 b2 b3 : Int) :
    (binOp .neq 47 (.agg #[.int .u8 a0, .int .u8 a1, .int .u8 a2, .int .u8 a3]) (.agg #[.int .u8 b0, .int .u8 b1, .int .u8 b2, .int .u8 b3])).run Try.prog W = .ok (.bool (!decide (a0 = b0 ∧ a1 = b1 ∧ a2 = b2 ∧ a3 = b3))) W := by
  rw [run_neq_struct, eq_four]
  rfl
end Go.Proofs.Ytodlabpgjgbbpaf
