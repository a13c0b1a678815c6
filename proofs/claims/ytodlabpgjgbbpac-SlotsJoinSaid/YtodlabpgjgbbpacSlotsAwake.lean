/-
  The document's examples of slots.
-/
import Derived.Test.YtodlabpgjgbbpacSlotsWalks
namespace Go.Proofs.Ytodlabpgjgbbpac
open Go.RowKit Go.Agio

theorem ask_owner (w : World) : Calls Try.prog 11 #[.int .i64 7, .int .i64 3] w fun e w' => e = .returned (.int .i64 1) ∧ w = w' := by
  have := owner_any 7 3 w
  rwa [show Slt.owner 7 3 = 1 by decide] at this
theorem ask_next (w : World) : Calls Try.prog 12 #[.int .i64 1, .int .i64 5, .int .i64 3] w fun e w' => e = .returned (.int .i64 7) ∧ w = w' := by
  have := next_any 1 5 3 w
  rwa [Slt.next_here (k := 7) (by omega) (by omega) (by omega) (by omega) (by omega) (fun j h1 h2 => by omega)] at this
theorem ask_count (w : World) : Calls Try.prog 10 #[.int .i64 0, .int .i64 1, .int .i64 8, .int .i64 3] w fun e w' => e = .returned (.int .i64 2) ∧ Below w.heap.size w w' := by
  have := count_any 0 1 8 3 w
  rwa [show ((Slt.own 0 1 8 3).length : Int) = 2 by decide] at this

set_option maxHeartbeats 1000000 in
theorem awake_any (w : World) : Calls Try.prog 9 #[] w fun e w' => e = .returned (.bool true) ∧ Below w.heap.size w w' := by
  go_enter Try.func9, Try.ntmps9
  go_wp2_with fail
  refine (ask_owner _).mono ?_
  rintro e w1 ⟨rfl, rfl⟩
  go_wp2_with fail
  refine (ask_next _).mono ?_
  rintro e w1 ⟨rfl, rfl⟩
  go_wp2_with fail
  refine (ask_count _).mono ?_
  rintro e w1 ⟨rfl, hb⟩
  go_wp2
  go_ret
  exact ⟨rfl, hb⟩
end Go.Proofs.Ytodlabpgjgbbpac
