/-
  The laws' own first question: a ballot that is next, and most of five.
-/
import Derived.Test.YtodlabpgjgbbpabBallotWalks
namespace Go.Proofs.Ytodlabpgjgbbpab
open Go.RowKit Go.Agio

theorem wf_small {z : Int} (h : 0 ≤ z ∧ z ≤ 7) : (Lit.int .i64 z).wf = true := WalkArith.wf_i64 (by omega)
theorem most_yes : Bal.most [0, 2, 2, 7, 4] 5 = true := by decide
theorem most_no : Bal.most [0, 2, 2] 5 = false := by decide
theorem ask_yes (A : Option Addr) (cap : Nat) (w : World) (hR : Reads w A [.int .i64 0, .int .i64 2, .int .i64 2, .int .i64 7, .int .i64 4]) :
    Calls Try.prog 12 #[.slice A 5 cap, .int .i64 5] w fun e w' => e = .returned (.bool true) ∧ Below w.heap.size w w' := by
  have h := most_any A cap [0, 2, 2, 7, 4] 5 w hR (fun z hz => wf_small (by simp at hz; omega)) (by simp) (by omega)
  rw [most_yes] at h
  exact h
theorem ask_no (A : Option Addr) (cap : Nat) (w : World) (hR : Reads w A [.int .i64 0, .int .i64 2, .int .i64 2]) :
    Calls Try.prog 12 #[.slice A 3 cap, .int .i64 5] w fun e w' => e = .returned (.bool false) ∧ Below w.heap.size w w' := by
  have h := most_any A cap [0, 2, 2] 5 w hR (fun z hz => wf_small (by simp at hz; omega)) (by simp) (by omega)
  rw [most_no] at h
  exact h
theorem ask_major (w : World) : Calls Try.prog 10 #[.int .i64 5] w fun e w' => e = .returned (.int .i64 3) ∧ w = w' := major_any 5 w (by omega)
theorem ask_next (w : World) : Calls Try.prog 15 #[.agg #[.int .i64 2, .int .i64 1], .int .i64 0] w fun e w' => e = .returned (.agg #[.int .i64 3, .int .i64 0]) ∧ Below w.heap.size w w' := next_any 2 1 0 w

set_option maxHeartbeats 1000000 in
theorem awake_any (w : World) : Calls Try.prog 9 #[] w fun e w' => e = .returned (.bool true) ∧ Below w.heap.size w w' := by
  go_enter Try.func9, Try.ntmps9
  go_wp2_with fail
  refine (ask_next _).mono ?_
  rintro e w1 ⟨rfl, hb1⟩
  go_wp2_with fail
  refine (ask_major _).mono ?_
  rintro e w2 ⟨rfl, rfl⟩
  go_wp2_with fail
  refine (ask_yes _ _ _ (Reads.new_at _ _ _ _ _ (by simp))).mono ?_
  rintro e w3 ⟨rfl, hb3⟩
  go_wp2_with fail
  refine (ask_no _ _ _ (Reads.new _ _ _ _)).mono ?_
  rintro e w4 ⟨rfl, hb4⟩
  go_wp2_with fail
  go_ret
  exact ⟨rfl, below_alloc (below_alloc (hb1.alloc hb1.size _) hb3 (by simp)) hb4 (by simp)⟩
end Go.Proofs.Ytodlabpgjgbbpab
