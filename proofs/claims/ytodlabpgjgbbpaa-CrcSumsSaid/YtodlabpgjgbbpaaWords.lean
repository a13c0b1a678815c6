/-
  Words shared by this seat's texts: a fact kept from the walk; a slice that reads as a list; what a call leaves alone. Over any program.
-/
import Derived.WalkKit
import Derived.OneCell
namespace Go.Agio
open Go.RowKit

/-- A fact kept from the walk. -/
theorem hide {p : Prop} (h : p) : Hid p := h

/-- The slice at A reads as the list xs. -/
def Reads (w : World) (A : Option Addr) (xs : List Value) : Prop :=
  xs = [] ∨ ∃ b off, A = some ⟨b, off, none⟩ ∧ b < w.heap.size ∧ ∀ i, i < xs.length → w.cell? ⟨b, off + i, none⟩ = some (xs.getD i undef)

theorem Reads.at_ {w : World} {A : Option Addr} {xs : List Value} (h : Reads w A xs) {k : Nat} (hk : k < xs.length) :
    ∃ b off, A = some ⟨b, off, none⟩ ∧ b < w.heap.size ∧ ∀ i, i < xs.length → w.cell? ⟨b, off + i, none⟩ = some (xs.getD i undef) := by
  rcases h with rfl | h
  · simp at hk
  · exact h
theorem Reads.nil (w : World) (A : Option Addr) : Reads w A [] := .inl rfl
theorem Reads.keep {w w' : World} {A : Option Addr} {xs : List Value} (h : Reads w A xs) (hs : w.heap.size ≤ w'.heap.size)
    (hk : ∀ b o, b < w.heap.size → w'.cell? ⟨b, o, none⟩ = w.cell? ⟨b, o, none⟩) : Reads w' A xs := by
  rcases h with h | ⟨b, off, e, hb, hc⟩
  · exact .inl h
  · exact .inr ⟨b, off, e, by omega, fun i hi => (hk _ _ hb).trans (hc i hi)⟩
theorem Reads.below {w w' : World} {A : Option Addr} {xs : List Value} (h : Reads w A xs) (hb : Below w.heap.size w w') : Reads w' A xs :=
  h.keep hb.size fun b o hlt => hb.cell (p := ⟨b, o, none⟩) hlt
theorem Reads.drew {w : World} {A : Option Addr} {xs : List Value} (h : Reads w A xs) : Reads w.drew A xs := h
theorem Reads.alloc {w : World} {A : Option Addr} {xs : List Value} (h : Reads w A xs) (o : Obj) : Reads (w.alloc o) A xs :=
  h.below ((Below.refl _ w).alloc (Nat.le_refl _) o)

/-- Numbers of a list, as values. -/
theorem getD_map_int (k : IntKind) (zs : List Int) {i : Nat} (hi : i < zs.length) : (zs.map (Value.int k)).getD i undef = .int k (zs.getD i 0) := by
  simp [List.getD_eq_getElem?_getD, List.getElem?_eq_getElem hi]

theorem grownBy_setCell {a w : World} {g : Nat} (h : a.grownBy w (some g)) (u : Value) (o : Nat) : a.grownBy (w.setCell ⟨g, o, none⟩ u) (some g) :=
  ⟨h.os, h.tape, h.output, by simpa [World.setCell] using h.size, fun k hk hne => (Below.heap_setCell w _ u k (fun e => hne (by rw [e]))).trans (h.block k hk hne)⟩

theorem take_snoc {α : Type} (l : List α) (d : α) (k : Nat) (h : k < l.length) : l.take (k + 1) = l.take k ++ [l.getD k d] := by
  rw [List.take_succ_eq_append_getElem h]
  simp [List.getD_eq_getElem?_getD, h]

/-- One call more, behind a new block; and one call more. -/
theorem below_alloc {w w1 w2 : World} {o : Obj} {n : Nat} (h : Below w.heap.size w w1) (h2 : Below n (w1.alloc o) w2) (hn : w1.heap.size ≤ n) : Below w.heap.size w w2 :=
  (h.alloc h.size o).trans (h2.mono (Nat.le_trans h.size hn))
theorem below_next {w w1 w2 : World} (h : Below w.heap.size w w1) (h2 : Below w1.heap.size w1 w2) : Below w.heap.size w w2 :=
  h.trans (h2.mono h.size)

/-- A new row reads as its cells. -/
theorem Reads.new (w : World) (C : List Value) (e : TypeId) (fr : Nat × Nat) : Reads (w.alloc (.cells C.toArray e fr)) (some ⟨w.heap.size, 0, none⟩) C := by
  right
  refine ⟨w.heap.size, 0, rfl, by simp, fun i hi => ?_⟩
  have h : (w.alloc (.cells C.toArray e fr)).heap[w.heap.size]? = some (.cells C.toArray e fr) := by
    show (w.heap.push _)[w.heap.size]? = _
    simp
  unfold World.cell?
  rw [h]
  simp [List.getD_eq_getElem?_getD, hi]

theorem heap_new (w : World) (o : Obj) : (w.alloc o).heap[w.heap.size]? = some o := by
  show (w.heap.push o)[w.heap.size]? = some o
  simp

end Go.Agio
