/-
  What a slot's blocks hold, world by world.
-/
import Derived.Test.YtodlabpgjgbbpahPaxChoose
import Derived.Test.YtodlabpgjgbbpahHeld
namespace Go.Proofs.Ytodlabpgjgbbpah
open Go.RowKit Go.Agio Go.Prp Go.Pax

theorem five_hold {w : World} {b : Nat} {v0 v1 v2 v3 v4 : Value} {t : TypeId} {fr : Nat × Nat} (h : w.heap[b]? = some (.cells #[v0, v1, v2, v3, v4] t fr)) : ∀ W, Below w.heap.size w W → W.cell? ⟨b, 0, none⟩ = some v0 ∧ W.cell? ⟨b, 1, none⟩ = some v1 ∧ W.cell? ⟨b, 2, none⟩ = some v2 ∧ W.cell? ⟨b, 3, none⟩ = some v3 ∧ W.cell? ⟨b, 4, none⟩ = some v4 :=
  fun _ hb => five_at ((hb.block _ (blk_lt h)).trans h)
theorem six_hold {w : World} {b : Nat} {v0 v1 v2 v3 v4 v5 : Value} {t : TypeId} {fr : Nat × Nat} (h : w.heap[b]? = some (.cells #[v0, v1, v2, v3, v4, v5] t fr)) : ∀ W, Below w.heap.size w W → W.cell? ⟨b, 0, none⟩ = some v0 ∧ W.cell? ⟨b, 1, none⟩ = some v1 ∧ W.cell? ⟨b, 2, none⟩ = some v2 ∧ W.cell? ⟨b, 3, none⟩ = some v3 ∧ W.cell? ⟨b, 4, none⟩ = some v4 ∧ W.cell? ⟨b, 5, none⟩ = some v5 :=
  fun _ hb => six_at ((hb.block _ (blk_lt h)).trans h)
/-- How many sites, and the rounds. -/
theorem slot_at {w : World} {b0 B g : Nat} {n : Int} {all : List StA} {rs : List RnA} {rc : Nat} (h : Mem w b0 B g n all rs rc) : w.cell? ⟨B, 0, none⟩ = some (.int .i64 n) ∧ w.cell? ⟨B, 43, none⟩ = some (.slice (some ⟨g, 0, none⟩) rs.length rc) :=
  ⟨(blk_cell h.blk 0).trans (slotC_n _ _ _), (blk_cell h.blk 43).trans (slotC_rs _ _ h.seven)⟩
theorem slot_hold {w : World} {b0 B g : Nat} {n : Int} {all : List StA} {rs : List RnA} {rc : Nat} (h : Mem w b0 B g n all rs rc) : ∀ W, Below w.heap.size w W → W.cell? ⟨B, 0, none⟩ = some (.int .i64 n) ∧ W.cell? ⟨B, 43, none⟩ = some (.slice (some ⟨g, 0, none⟩) rs.length rc) :=
  fun _ hb => slot_at (h.below hb)
/-- An acceptor's cells. -/
theorem acc_at {w : World} {b0 B g : Nat} {n : Int} {all : List StA} {rs : List RnA} {rc : Nat} (h : Mem w b0 B g n all rs rc) {a : Nat} (ha : a < all.length) :
    w.cell? ⟨B, 1 + a * 6, none⟩ = some (.int .i64 (all.getD a sa0).s.pr) ∧ w.cell? ⟨B, 1 + a * 6 + 1, none⟩ = some (.int .i64 (all.getD a sa0).s.ps) ∧ w.cell? ⟨B, 1 + a * 6 + 2, none⟩ = some (.bool (all.getD a sa0).s.some) ∧
      w.cell? ⟨B, 1 + a * 6 + 3, none⟩ = some (.int .i64 (all.getD a sa0).s.ar) ∧ w.cell? ⟨B, 1 + a * 6 + 4, none⟩ = some (.int .i64 (all.getD a sa0).s.as_) ∧ w.cell? ⟨B, 1 + a * 6 + 5, none⟩ = some (.slice (all.getD a sa0).at_ (all.getD a sa0).s.val.length (all.getD a sa0).cap) :=
  ⟨(blk_cell h.blk _).trans (slotC_at _ _ _ ha (j := 0) (by omega)), (blk_cell h.blk _).trans (slotC_at _ _ _ ha (j := 1) (by omega)), (blk_cell h.blk _).trans (slotC_at _ _ _ ha (j := 2) (by omega)), (blk_cell h.blk _).trans (slotC_at _ _ _ ha (j := 3) (by omega)), (blk_cell h.blk _).trans (slotC_at _ _ _ ha (j := 4) (by omega)), (blk_cell h.blk _).trans (slotC_at _ _ _ ha (j := 5) (by omega))⟩
theorem slot_live {w : World} {b0 B g : Nat} {n : Int} {all : List StA} {rs : List RnA} {rc : Nat} (h : Mem w b0 B g n all rs rc) (j : Nat) : w.frozen? ⟨B, j, none⟩ = false := live h.blk j
/-- A round's cells. -/
theorem rnd_hold {w : World} {b0 B g : Nat} {n : Int} {all : List StA} {rs : List RnA} {rc : Nat} (h : Mem w b0 B g n all rs rc) {k : Nat} (hk : k < rs.length) :
    w.cell? ⟨g, k * 6, none⟩ = some (.int .i64 (rs.getD k ra0).r) ∧ w.cell? ⟨g, k * 6 + 1, none⟩ = some (.int .i64 (rs.getD k ra0).t) ∧ w.cell? ⟨g, k * 6 + 2, none⟩ = some (.slice (rs.getD k ra0).P (rs.getD k ra0).X.length (rs.getD k ra0).pc) ∧ w.cell? ⟨g, k * 6 + 3, none⟩ = some (.bool (rs.getD k ra0).has) ∧
      w.cell? ⟨g, k * 6 + 4, none⟩ = some (.slice (rs.getD k ra0).V (rs.getD k ra0).val.length (rs.getD k ra0).vc) ∧ w.cell? ⟨g, k * 6 + 5, none⟩ = some (.slice (rs.getD k ra0).W (rs.getD k ra0).vs.length (rs.getD k ra0).wc) := by
  obtain ⟨b, off, he, _, hc⟩ := Reads.flat RnA.cells_length ra0 (reads_own h.own) (by omega) hk
  injection he with he
  injection he with e1 e2
  subst e1 e2
  have c := fun j hj => hc j hj
  simp only [Nat.zero_add] at c
  exact ⟨c 0 (by omega), c 1 (by omega), c 2 (by omega), c 3 (by omega), c 4 (by omega), c 5 (by omega)⟩
theorem rnd_live {w : World} {b0 B g : Nat} {n : Int} {all : List StA} {rs : List RnA} {rc : Nat} (h : Mem w b0 B g n all rs rc) (j : Nat) : w.frozen? ⟨g, j, none⟩ = false := h.own.frozenAt j
theorem getD_mem {α : Type} {l : List α} {i : Nat} {d : α} (h : i < l.length) : l.getD i d ∈ l := Prp.getD_mem h
end Go.Proofs.Ytodlabpgjgbbpah
