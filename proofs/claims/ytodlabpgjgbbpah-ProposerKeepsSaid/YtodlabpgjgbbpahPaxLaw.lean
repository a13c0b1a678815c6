/-
  What the invariant says of a slot in memory.
-/
import Derived.Test.YtodlabpgjgbbpahPaxOne
namespace Go.Proofs.Ytodlabpgjgbbpah
open Go.RowKit Go.Agio Go.Prp Go.Pax

theorem abs_dec (N : Nat) (all : List StA) (rs : List RnA) (j : Nat) : dec N (abs all rs) j = decided (rs.getD j ra0).r (rs.getD j ra0).t N (rs.getD j ra0).vs := by
  unfold dec
  rw [abs_rd]
  rfl
/-- All that is decided is one value: the owner's, or nothing. -/
theorem one_of_inv {N : Nat} {all : List StA} {rs : List RnA} (h : Inv N (abs all rs)) : ∃ v, OneAt N rs v := by
  have hlen : (abs all rs).rs.length = rs.length := by simp [abs]
  by_cases hd : ∃ j, j < rs.length ∧ dec N (abs all rs) j = true
  · obtain ⟨j, hj, hdj⟩ := hd
    refine ⟨(rs.getD j ra0).val, fun i hi hdi => ?_, ?_⟩
    · have := one_two h (by rw [hlen]; exact hi) (by rw [hlen]; exact hj) (by rw [abs_dec]; exact hdi) hdj
      rw [abs_rd, abs_rd] at this
      exact this
    · have hh := dec_has h (by rw [hlen]; exact hj) hdj
      have := owner_val h j (by rw [hlen]; exact hj) hh
      rw [abs_rd, abs_rd] at this
      exact this
  · refine ⟨[], fun i hi hdi => absurd ⟨i, hi, by rw [abs_dec]; exact hdi⟩ hd, .inl rfl⟩
theorem wf_small {a : Nat} (h : a < 7) : (Lit.int .i64 (a : Int)).wf = true := by
  have : a = 0 ∨ a = 1 ∨ a = 2 ∨ a = 3 ∨ a = 4 ∨ a = 5 ∨ a = 6 := by omega
  rcases this with rfl | rfl | rfl | rfl | rfl | rfl | rfl <;> rfl
/-- Votes and promises are of sites. -/
theorem fineV_inv {N : Nat} {all : List StA} {rs : List RnA} (h : Inv N (abs all rs)) (hN : N ≤ 7) {y : RnA} (hy : y ∈ rs) : fineV y.vs := fun v hv => by
  obtain ⟨j, hj, rfl⟩ := getD_of_mem ra0 hy
  have h' := h.vot j (by simpa [abs] using hj) v (by rw [abs_rd]; exact hv)
  obtain ⟨_, _, _, a, ha, haN, _⟩ := h'
  rw [ha]
  exact wf_small (by omega)
theorem fineP_inv {N : Nat} {all : List StA} {rs : List RnA} (h : Inv N (abs all rs)) (hN : N ≤ 7) {y : RnA} (hy : y ∈ rs) (hl : ∀ x ∈ y.X, x.p.val.length ≤ 140737488351232) : fineP y.X := fun x hx => by
  obtain ⟨j, hj, rfl⟩ := getD_of_mem ra0 hy
  have h' := h.prm j (by simpa [abs] using hj) x.p (by rw [abs_rd]; exact List.mem_map.2 ⟨x, hx, rfl⟩)
  obtain ⟨a, ha, haN, _⟩ := h'
  exact ⟨by rw [ha]; exact wf_small (by omega), hl x hx⟩

end Go.Proofs.Ytodlabpgjgbbpah
