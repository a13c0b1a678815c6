/-
  Promises and votes as they stand in memory.
-/
import Derived.Test.YtodlabpgjgbbpahPropPlain
import Derived.Test.YtodlabpgjgbbpahPropBal
import Derived.Test.YtodlabpgjgbbpahBytes
import Derived.Test.YtodlabpgjgbbpahCells
import Derived.Test.YtodlabpgjgbbpahLaw
namespace Go.Agio
open Go.RowKit

/-- A flat list of rows of C cells. -/
theorem flat_length {α : Type} {f : α → List Value} {C : Nat} (hf : ∀ x, (f x).length = C) : ∀ l : List α, (l.flatMap f).length = l.length * C
  | [] => by simp
  | x :: l => by rw [List.flatMap_cons, List.length_append, hf, flat_length hf l, List.length_cons]; rw [Nat.add_mul]; omega
theorem flat_get {α : Type} {f : α → List Value} {C : Nat} (hf : ∀ x, (f x).length = C) (d : α) : ∀ (l : List α) (i j : Nat), i < l.length → j < C → (l.flatMap f).getD (i * C + j) undef = (f (l.getD i d)).getD j undef
  | x :: l, 0, j, _, hj => by
    rw [List.flatMap_cons, Nat.zero_mul, Nat.zero_add, List.getD_eq_getElem?_getD, List.getElem?_append_left (by rw [hf]; exact hj)]
    rfl
  | x :: l, i + 1, j, hi, hj => by
    have ih := flat_get hf d l i j (by simpa using hi) hj
    have e : (i + 1) * C + j = C + (i * C + j) := by rw [Nat.add_mul]; omega
    rw [List.flatMap_cons, e, List.getD_eq_getElem?_getD, List.getElem?_append_right (by rw [hf]; omega), hf, Nat.add_sub_cancel_left]
    rw [List.getD_eq_getElem?_getD] at ih
    rw [ih]
    rfl
/-- A row's cell. -/
theorem Reads.flat {α : Type} {f : α → List Value} {C : Nat} (hf : ∀ x, (f x).length = C) (d : α) {w : World} {A : Option Addr} {l : List α} (h : Reads w A (l.flatMap f)) (hC : 0 < C) {i : Nat} (hi : i < l.length) :
    ∃ b off, A = some ⟨b, off, none⟩ ∧ b < w.heap.size ∧ ∀ j, j < C → w.cell? ⟨b, off + i * C + j, none⟩ = some ((f (l.getD i d)).getD j undef) := by
  have hl := flat_length hf l
  have hm : (i + 1) * C ≤ l.length * C := Nat.mul_le_mul_right _ hi
  rw [Nat.add_mul] at hm
  obtain ⟨b, off, e, hb, hc⟩ := h.at_ (k := i * C) (by omega)
  refine ⟨b, off, e, hb, fun j hj => ?_⟩
  rw [Nat.add_assoc, hc _ (by omega), flat_get hf d l i j hi hj]
/-- The rows of an argument, flat. -/
theorem Rows.flat {α : Type} {f : α → List Value} {C : Nat} (hf : ∀ x, (f x).length = C) {w : World} {A : Option Addr} {n : Nat} {X : Nat → α} (hC : 0 < C) (h : Rows w A n C (fun i => f (X i))) : Reads w A (((List.range n).map X).flatMap f) := by
  rcases h with h0 | ⟨b, off, e, hb, hc⟩
  · left; rw [h0]; rfl
  · refine .inr ⟨b, off, e, hb, fun k hk => ?_⟩
    rw [flat_length hf] at hk
    simp only [List.length_map, List.length_range] at hk
    have h1 : k / C < n := (Nat.div_lt_iff_lt_mul hC).2 hk
    have h2 : k % C < C := Nat.mod_lt _ hC
    have h3 : k / C * C + k % C = k := by rw [Nat.mul_comm]; exact Nat.div_add_mod k C
    have h4 := hc (k / C) h1 (k % C) h2
    rw [Nat.add_assoc, h3] at h4
    rw [h4]
    have h5 := flat_get hf (X 0) ((List.range n).map X) (k / C) (k % C) (by simpa using h1) h2
    rw [h3] at h5
    rw [h5]
    have h6 : ((List.range n).map X).getD (k / C) (X 0) = X (k / C) := by
      rw [List.getD_eq_getElem?_getD, List.getElem?_map, List.getElem?_range h1]; rfl
    rw [h6]
end Go.Agio
namespace Go.Prp
/-- A promise, and where its value stands. -/
structure PAt where
  p : Pm
  at_ : Option Addr
  cap : Nat
def pa0 : PAt := ⟨pm0, none, 0⟩
def PAt.cells (x : PAt) : List Value := [.int .i64 x.p.frm, .bool x.p.some, .int .i64 x.p.r, .int .i64 x.p.t, .slice x.at_ x.p.val.length x.cap]
theorem PAt.cells_length (x : PAt) : x.cells.length = 5 := rfl
def Vt.cells (x : Vt) : List Value := [.int .i64 x.frm, .int .i64 x.r, .int .i64 x.t]
theorem Vt.cells_length (x : Vt) : x.cells.length = 3 := rfl
end Go.Prp
namespace Go.Proofs.Ytodlabpgjgbbpah
open Go.RowKit Go.Agio Go.Prp
/-- The promises at A, and their values. -/
def PsRd (w : World) (A : Option Addr) (X : List PAt) : Prop := Reads w A (X.flatMap PAt.cells) ∧ ∀ x ∈ X, Reads w x.at_ (bys x.p.val)
def VsRd (w : World) (A : Option Addr) (X : List Vt) : Prop := Reads w A (X.flatMap Vt.cells)
theorem PsRd.below {w w' : World} {A : Option Addr} {X : List PAt} (h : PsRd w A X) (hb : Below w.heap.size w w') : PsRd w' A X := ⟨h.1.below hb, fun x hx => (h.2 x hx).below hb⟩
theorem VsRd.below {w w' : World} {A : Option Addr} {X : List Vt} (h : VsRd w A X) (hb : Below w.heap.size w w') : VsRd w' A X := Reads.below h hb
theorem PsRd.at_ {w : World} {A : Option Addr} {X : List PAt} (h : PsRd w A X) {i : Nat} (hi : i < X.length) :
    ∃ b off, A = some ⟨b, off, none⟩ ∧ b < w.heap.size ∧ w.cell? ⟨b, off + i * 5, none⟩ = some (.int .i64 (X.getD i pa0).p.frm) ∧ w.cell? ⟨b, off + i * 5 + 1, none⟩ = some (.bool (X.getD i pa0).p.some) ∧ w.cell? ⟨b, off + i * 5 + 2, none⟩ = some (.int .i64 (X.getD i pa0).p.r) ∧
      w.cell? ⟨b, off + i * 5 + 3, none⟩ = some (.int .i64 (X.getD i pa0).p.t) ∧ w.cell? ⟨b, off + i * 5 + 4, none⟩ = some (.slice (X.getD i pa0).at_ (X.getD i pa0).p.val.length (X.getD i pa0).cap) := by
  obtain ⟨b, off, e, hb, hc⟩ := Reads.flat PAt.cells_length pa0 h.1 (by omega) hi
  exact ⟨b, off, e, hb, hc 0 (by omega), hc 1 (by omega), hc 2 (by omega), hc 3 (by omega), hc 4 (by omega)⟩
theorem VsRd.at_ {w : World} {A : Option Addr} {X : List Vt} (h : VsRd w A X) {i : Nat} (hi : i < X.length) :
    ∃ b off, A = some ⟨b, off, none⟩ ∧ b < w.heap.size ∧ w.cell? ⟨b, off + i * 3, none⟩ = some (.int .i64 (X.getD i vt0).frm) ∧ w.cell? ⟨b, off + i * 3 + 1, none⟩ = some (.int .i64 (X.getD i vt0).r) ∧ w.cell? ⟨b, off + i * 3 + 2, none⟩ = some (.int .i64 (X.getD i vt0).t) := by
  obtain ⟨b, off, e, hb, hc⟩ := Reads.flat Vt.cells_length vt0 h (by omega) hi
  exact ⟨b, off, e, hb, hc 0 (by omega), hc 1 (by omega), hc 2 (by omega)⟩
/-- The promises themselves. -/
def pms (X : List PAt) : List Pm := X.map PAt.p
theorem pms_length (X : List PAt) : (pms X).length = X.length := by simp [pms]
theorem pms_get (X : List PAt) (i : Nat) : (pms X).getD i pm0 = (X.getD i pa0).p := by
  unfold pms
  rw [List.getD_eq_getElem?_getD, List.getD_eq_getElem?_getD, List.getElem?_map]
  cases X[i]? <;> rfl
/-- A place, as a number. -/
def placeOf : Option Nat → Int
  | none => -1
  | some p => (p : Int)
end Go.Proofs.Ytodlabpgjgbbpah
