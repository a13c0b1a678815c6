/-
  Whether two slices hold the same bytes.
-/
import Derived.Test.YtodlabpgjgbbpagBytes
namespace Go.Proofs.Ytodlabpgjgbbpag
open Go.RowKit Go.Agio

set_option maxHeartbeats 1000000 in
theorem equal_any (A B : Option Addr) (n m c d : Nat) (xs ys : List Int) (w : World) (hA : Reads w A (bys xs)) (hB : Reads w B (bys ys)) (hn : xs.length = n) (hm : ys.length = m) (hx : ∀ z ∈ xs, 0 ≤ z ∧ z ≤ 255) (hy : ∀ z ∈ ys, 0 ≤ z ∧ z ≤ 255) :
    Calls Try.prog 27 #[.slice A n c, .slice B m d] w fun e w' => e = .returned (.bool (decide (xs = ys))) ∧ w = w' := by
  have q1 := str_reads w A n c xs hA hn
  have q2 := str_reads w B m d ys hB hm
  have HF := hide (str_beq hx hy)
  clear hA hB hx hy
  go_enter Try.func27, Try.ntmps27
  go_wp2
  go_ret
  exact ⟨by rw [← HF.out]; rfl, rfl⟩

end Go.Proofs.Ytodlabpgjgbbpag
