/-
  A block that is known whole: its cells, and what a store makes of it. Over any program.
-/
import Derived.Test.YtodlabpgjgbbpahStep
namespace Go.Agio
open Go.RowKit

theorem live {w : World} {d : Nat} {C : Array Value} {t : TypeId} (h : w.heap[d]? = some (.cells C t)) (j : Nat) : w.frozen? ⟨d, j, none⟩ = false := by
  simp [World.frozen?, h]
/-- A store elsewhere. -/
theorem far {w : World} {m : Nat} {o : Obj} (h : w.heap[m]? = some o) {b : Nat} (hb : m ≠ b) (i : Nat) (u : Value) : (w.setCell ⟨b, i, none⟩ u).heap[m]? = some o := (Below.heap_setCell w _ u m hb).trans h
theorem two_at {w : World} {b : Nat} {v0 v1 : Value} {t : TypeId} {fr : Nat × Nat} (h : w.heap[b]? = some (.cells #[v0, v1] t fr)) : w.cell? ⟨b, 0, none⟩ = some v0 ∧ w.cell? ⟨b, 1, none⟩ = some v1 :=
  ⟨cell_blk h 0, cell_blk h 1⟩
theorem two_live {w : World} {b : Nat} {v0 v1 : Value} {t : TypeId} (h : w.heap[b]? = some (.cells #[v0, v1] t)) : w.frozen? ⟨b, 0, none⟩ = false ∧ w.frozen? ⟨b, 1, none⟩ = false :=
  ⟨live h 0, live h 1⟩
theorem two_put0 {w : World} {b : Nat} {v0 v1 : Value} {t : TypeId} (h : w.heap[b]? = some (.cells #[v0, v1] t)) (u : Value) : (w.setCell ⟨b, 0, none⟩ u).heap[b]? = some (.cells #[u, v1] t) := by
  simp [World.setCell, Array.getElem?_modify, h]
theorem two_put1 {w : World} {b : Nat} {v0 v1 : Value} {t : TypeId} (h : w.heap[b]? = some (.cells #[v0, v1] t)) (u : Value) : (w.setCell ⟨b, 1, none⟩ u).heap[b]? = some (.cells #[v0, u] t) := by
  simp [World.setCell, Array.getElem?_modify, h]
theorem three_at {w : World} {b : Nat} {v0 v1 v2 : Value} {t : TypeId} {fr : Nat × Nat} (h : w.heap[b]? = some (.cells #[v0, v1, v2] t fr)) : w.cell? ⟨b, 0, none⟩ = some v0 ∧ w.cell? ⟨b, 1, none⟩ = some v1 ∧ w.cell? ⟨b, 2, none⟩ = some v2 :=
  ⟨cell_blk h 0, cell_blk h 1, cell_blk h 2⟩
theorem three_live {w : World} {b : Nat} {v0 v1 v2 : Value} {t : TypeId} (h : w.heap[b]? = some (.cells #[v0, v1, v2] t)) : w.frozen? ⟨b, 0, none⟩ = false ∧ w.frozen? ⟨b, 1, none⟩ = false ∧ w.frozen? ⟨b, 2, none⟩ = false :=
  ⟨live h 0, live h 1, live h 2⟩
theorem three_put0 {w : World} {b : Nat} {v0 v1 v2 : Value} {t : TypeId} (h : w.heap[b]? = some (.cells #[v0, v1, v2] t)) (u : Value) : (w.setCell ⟨b, 0, none⟩ u).heap[b]? = some (.cells #[u, v1, v2] t) := by
  simp [World.setCell, Array.getElem?_modify, h]
theorem three_put1 {w : World} {b : Nat} {v0 v1 v2 : Value} {t : TypeId} (h : w.heap[b]? = some (.cells #[v0, v1, v2] t)) (u : Value) : (w.setCell ⟨b, 1, none⟩ u).heap[b]? = some (.cells #[v0, u, v2] t) := by
  simp [World.setCell, Array.getElem?_modify, h]
theorem three_put2 {w : World} {b : Nat} {v0 v1 v2 : Value} {t : TypeId} (h : w.heap[b]? = some (.cells #[v0, v1, v2] t)) (u : Value) : (w.setCell ⟨b, 2, none⟩ u).heap[b]? = some (.cells #[v0, v1, u] t) := by
  simp [World.setCell, Array.getElem?_modify, h]
theorem four_at {w : World} {b : Nat} {v0 v1 v2 v3 : Value} {t : TypeId} {fr : Nat × Nat} (h : w.heap[b]? = some (.cells #[v0, v1, v2, v3] t fr)) : w.cell? ⟨b, 0, none⟩ = some v0 ∧ w.cell? ⟨b, 1, none⟩ = some v1 ∧ w.cell? ⟨b, 2, none⟩ = some v2 ∧ w.cell? ⟨b, 3, none⟩ = some v3 :=
  ⟨cell_blk h 0, cell_blk h 1, cell_blk h 2, cell_blk h 3⟩
theorem four_live {w : World} {b : Nat} {v0 v1 v2 v3 : Value} {t : TypeId} (h : w.heap[b]? = some (.cells #[v0, v1, v2, v3] t)) : w.frozen? ⟨b, 0, none⟩ = false ∧ w.frozen? ⟨b, 1, none⟩ = false ∧ w.frozen? ⟨b, 2, none⟩ = false ∧ w.frozen? ⟨b, 3, none⟩ = false :=
  ⟨live h 0, live h 1, live h 2, live h 3⟩
theorem four_put0 {w : World} {b : Nat} {v0 v1 v2 v3 : Value} {t : TypeId} (h : w.heap[b]? = some (.cells #[v0, v1, v2, v3] t)) (u : Value) : (w.setCell ⟨b, 0, none⟩ u).heap[b]? = some (.cells #[u, v1, v2, v3] t) := by
  simp [World.setCell, Array.getElem?_modify, h]
theorem four_put1 {w : World} {b : Nat} {v0 v1 v2 v3 : Value} {t : TypeId} (h : w.heap[b]? = some (.cells #[v0, v1, v2, v3] t)) (u : Value) : (w.setCell ⟨b, 1, none⟩ u).heap[b]? = some (.cells #[v0, u, v2, v3] t) := by
  simp [World.setCell, Array.getElem?_modify, h]
theorem four_put2 {w : World} {b : Nat} {v0 v1 v2 v3 : Value} {t : TypeId} (h : w.heap[b]? = some (.cells #[v0, v1, v2, v3] t)) (u : Value) : (w.setCell ⟨b, 2, none⟩ u).heap[b]? = some (.cells #[v0, v1, u, v3] t) := by
  simp [World.setCell, Array.getElem?_modify, h]
theorem four_put3 {w : World} {b : Nat} {v0 v1 v2 v3 : Value} {t : TypeId} (h : w.heap[b]? = some (.cells #[v0, v1, v2, v3] t)) (u : Value) : (w.setCell ⟨b, 3, none⟩ u).heap[b]? = some (.cells #[v0, v1, v2, u] t) := by
  simp [World.setCell, Array.getElem?_modify, h]
theorem six_at {w : World} {b : Nat} {v0 v1 v2 v3 v4 v5 : Value} {t : TypeId} {fr : Nat × Nat} (h : w.heap[b]? = some (.cells #[v0, v1, v2, v3, v4, v5] t fr)) : w.cell? ⟨b, 0, none⟩ = some v0 ∧ w.cell? ⟨b, 1, none⟩ = some v1 ∧ w.cell? ⟨b, 2, none⟩ = some v2 ∧ w.cell? ⟨b, 3, none⟩ = some v3 ∧ w.cell? ⟨b, 4, none⟩ = some v4 ∧ w.cell? ⟨b, 5, none⟩ = some v5 :=
  ⟨cell_blk h 0, cell_blk h 1, cell_blk h 2, cell_blk h 3, cell_blk h 4, cell_blk h 5⟩
theorem six_live {w : World} {b : Nat} {v0 v1 v2 v3 v4 v5 : Value} {t : TypeId} (h : w.heap[b]? = some (.cells #[v0, v1, v2, v3, v4, v5] t)) : w.frozen? ⟨b, 0, none⟩ = false ∧ w.frozen? ⟨b, 1, none⟩ = false ∧ w.frozen? ⟨b, 2, none⟩ = false ∧ w.frozen? ⟨b, 3, none⟩ = false ∧ w.frozen? ⟨b, 4, none⟩ = false ∧ w.frozen? ⟨b, 5, none⟩ = false :=
  ⟨live h 0, live h 1, live h 2, live h 3, live h 4, live h 5⟩
theorem six_put0 {w : World} {b : Nat} {v0 v1 v2 v3 v4 v5 : Value} {t : TypeId} (h : w.heap[b]? = some (.cells #[v0, v1, v2, v3, v4, v5] t)) (u : Value) : (w.setCell ⟨b, 0, none⟩ u).heap[b]? = some (.cells #[u, v1, v2, v3, v4, v5] t) := by
  simp [World.setCell, Array.getElem?_modify, h]
theorem six_put1 {w : World} {b : Nat} {v0 v1 v2 v3 v4 v5 : Value} {t : TypeId} (h : w.heap[b]? = some (.cells #[v0, v1, v2, v3, v4, v5] t)) (u : Value) : (w.setCell ⟨b, 1, none⟩ u).heap[b]? = some (.cells #[v0, u, v2, v3, v4, v5] t) := by
  simp [World.setCell, Array.getElem?_modify, h]
theorem six_put2 {w : World} {b : Nat} {v0 v1 v2 v3 v4 v5 : Value} {t : TypeId} (h : w.heap[b]? = some (.cells #[v0, v1, v2, v3, v4, v5] t)) (u : Value) : (w.setCell ⟨b, 2, none⟩ u).heap[b]? = some (.cells #[v0, v1, u, v3, v4, v5] t) := by
  simp [World.setCell, Array.getElem?_modify, h]
theorem six_put3 {w : World} {b : Nat} {v0 v1 v2 v3 v4 v5 : Value} {t : TypeId} (h : w.heap[b]? = some (.cells #[v0, v1, v2, v3, v4, v5] t)) (u : Value) : (w.setCell ⟨b, 3, none⟩ u).heap[b]? = some (.cells #[v0, v1, v2, u, v4, v5] t) := by
  simp [World.setCell, Array.getElem?_modify, h]
theorem six_put4 {w : World} {b : Nat} {v0 v1 v2 v3 v4 v5 : Value} {t : TypeId} (h : w.heap[b]? = some (.cells #[v0, v1, v2, v3, v4, v5] t)) (u : Value) : (w.setCell ⟨b, 4, none⟩ u).heap[b]? = some (.cells #[v0, v1, v2, v3, u, v5] t) := by
  simp [World.setCell, Array.getElem?_modify, h]
theorem six_put5 {w : World} {b : Nat} {v0 v1 v2 v3 v4 v5 : Value} {t : TypeId} (h : w.heap[b]? = some (.cells #[v0, v1, v2, v3, v4, v5] t)) (u : Value) : (w.setCell ⟨b, 5, none⟩ u).heap[b]? = some (.cells #[v0, v1, v2, v3, v4, u] t) := by
  simp [World.setCell, Array.getElem?_modify, h]
theorem new_set (w : World) (p : Addr) (u : Value) (o : Obj) : ((w.setCell p u).alloc o).heap[w.heap.size]? = some o := by
  have := heap_new (w.setCell p u) o
  simpa [World.setCell] using this
/-- Six cells of a block of the call's own are written: what else is read, and what lay there, stay. -/
theorem set_stay {w W : World} {A : Option Addr} {xs : List Value} {b : Nat} (hb : Below w.heap.size w W) (hR : Reads W A xs) (hA : ∀ a, A = some a → a.block ≠ b) (hw : w.heap.size ≤ b) (o : Nat) (u : Value) :
    Reads (W.setCell ⟨b, o, none⟩ u) A xs ∧ Below w.heap.size w (W.setCell ⟨b, o, none⟩ u) :=
  ⟨hR.keepset _ _ _ hA, hb.setCell (p := ⟨b, o, none⟩) hw _⟩
theorem set_two {w W : World} {A : Option Addr} {xs : List Value} {b : Nat} (h : Reads W A xs ∧ Below w.heap.size w W) (hA : ∀ a, A = some a → a.block ≠ b) (hw : w.heap.size ≤ b) (u0 u1 : Value) :
    Reads ((W.setCell ⟨b, 0, none⟩ u0).setCell ⟨b, 1, none⟩ u1) A xs ∧ Below w.heap.size w ((W.setCell ⟨b, 0, none⟩ u0).setCell ⟨b, 1, none⟩ u1) := by
  have h0 := set_stay h.2 h.1 hA hw 0 u0
  exact set_stay h0.2 h0.1 hA hw 1 u1
theorem set_six {w W : World} {A : Option Addr} {xs : List Value} {b : Nat} (h : Reads W A xs ∧ Below w.heap.size w W) (hA : ∀ a, A = some a → a.block ≠ b) (hw : w.heap.size ≤ b) (u0 u1 u2 u3 u4 u5 : Value) :
    Reads ((((((W.setCell ⟨b, 0, none⟩ u0).setCell ⟨b, 1, none⟩ u1).setCell ⟨b, 2, none⟩ u2).setCell ⟨b, 3, none⟩ u3).setCell ⟨b, 4, none⟩ u4).setCell ⟨b, 5, none⟩ u5) A xs ∧
      Below w.heap.size w ((((((W.setCell ⟨b, 0, none⟩ u0).setCell ⟨b, 1, none⟩ u1).setCell ⟨b, 2, none⟩ u2).setCell ⟨b, 3, none⟩ u3).setCell ⟨b, 4, none⟩ u4).setCell ⟨b, 5, none⟩ u5) := by
  have h1 := set_two h hA hw u0 u1
  have h2 := set_stay h1.2 h1.1 hA hw 2 u2
  have h3 := set_stay h2.2 h2.1 hA hw 3 u3
  have h4 := set_stay h3.2 h3.1 hA hw 4 u4
  exact set_stay h4.2 h4.1 hA hw 5 u5
/-- The same, with what is known of the row's block. -/
theorem fin_six {w W : World} {A : Option Addr} {xs : List Value} {b : Nat} (h : Reads W A xs ∧ Below w.heap.size w W) (hA : ∀ a, A = some a → b < a.block) (hw : w.heap.size ≤ b) (u0 u1 u2 u3 u4 u5 : Value) :
    Reads ((((((W.setCell ⟨b, 0, none⟩ u0).setCell ⟨b, 1, none⟩ u1).setCell ⟨b, 2, none⟩ u2).setCell ⟨b, 3, none⟩ u3).setCell ⟨b, 4, none⟩ u4).setCell ⟨b, 5, none⟩ u5) A xs ∧ (∀ a, A = some a → w.heap.size ≤ a.block) ∧
      Below w.heap.size w ((((((W.setCell ⟨b, 0, none⟩ u0).setCell ⟨b, 1, none⟩ u1).setCell ⟨b, 2, none⟩ u2).setCell ⟨b, 3, none⟩ u3).setCell ⟨b, 4, none⟩ u4).setCell ⟨b, 5, none⟩ u5) := by
  have h6 := set_six h (fun a ha => by have := hA a ha; omega) hw u0 u1 u2 u3 u4 u5
  exact ⟨h6.1, fun a ha => by have := hA a ha; omega, h6.2⟩
/-- Blocks that are new. -/
theorem one_new (w : World) (o0 : Obj) : (w.alloc o0).heap[w.heap.size]? = some o0 ∧ (w.alloc o0).heap.size = w.heap.size + 1 ∧ Below w.heap.size w (w.alloc o0) :=
  ⟨heap_new _ _, by simp, (Below.refl _ _).alloc (Nat.le_refl _) _⟩
theorem two_new (w : World) (o0 o1 : Obj) : ((w.alloc o0).alloc o1).heap[w.heap.size]? = some o0 ∧ ((w.alloc o0).alloc o1).heap[w.heap.size + 1]? = some o1 ∧ ((w.alloc o0).alloc o1).heap.size = w.heap.size + 2 ∧ Below w.heap.size w ((w.alloc o0).alloc o1) := by
  obtain ⟨h0, h1, h2⟩ := one_new w o0
  have g := heap_new (w.alloc o0) o1
  rw [h1] at g
  exact ⟨blk_alloc h0 _, g, by simp, h2.alloc h2.size _⟩
theorem three_new (w : World) (o0 o1 o2 : Obj) : (((w.alloc o0).alloc o1).alloc o2).heap[w.heap.size]? = some o0 ∧ (((w.alloc o0).alloc o1).alloc o2).heap[w.heap.size + 1]? = some o1 ∧ (((w.alloc o0).alloc o1).alloc o2).heap[w.heap.size + 1 + 1]? = some o2 ∧
    (((w.alloc o0).alloc o1).alloc o2).heap.size = w.heap.size + 3 ∧ Below w.heap.size w (((w.alloc o0).alloc o1).alloc o2) := by
  obtain ⟨h0, h1, h2, h3⟩ := two_new w o0 o1
  have g := heap_new ((w.alloc o0).alloc o1) o2
  rw [h2] at g
  exact ⟨blk_alloc h0 _, blk_alloc h1 _, g, by simp, h3.alloc h3.size _⟩
theorem four_new (w : World) (o0 o1 o2 o3 : Obj) : ((((w.alloc o0).alloc o1).alloc o2).alloc o3).heap[w.heap.size]? = some o0 ∧ ((((w.alloc o0).alloc o1).alloc o2).alloc o3).heap[w.heap.size + 1]? = some o1 ∧ ((((w.alloc o0).alloc o1).alloc o2).alloc o3).heap[w.heap.size + 1 + 1]? = some o2 ∧
    ((((w.alloc o0).alloc o1).alloc o2).alloc o3).heap[w.heap.size + 1 + 1 + 1]? = some o3 ∧ ((((w.alloc o0).alloc o1).alloc o2).alloc o3).heap.size = w.heap.size + 4 ∧ Below w.heap.size w ((((w.alloc o0).alloc o1).alloc o2).alloc o3) := by
  obtain ⟨h0, h1, h2, h3, h4⟩ := three_new w o0 o1 o2
  have g := heap_new (((w.alloc o0).alloc o1).alloc o2) o3
  rw [h3] at g
  exact ⟨blk_alloc h0 _, blk_alloc h1 _, blk_alloc h2 _, g, by simp, h4.alloc h4.size _⟩
end Go.Agio
