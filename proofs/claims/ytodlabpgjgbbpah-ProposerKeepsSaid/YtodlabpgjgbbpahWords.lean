/-
  Words shared by this seat's texts: a fact kept from the walk; a slice that reads as a list; what a call leaves alone. Over any program.
-/
import Derived.WalkKit
import Derived.OneCell
namespace Go.Agio
open Go.RowKit

/-- A fact kept from the walk. -/
theorem hide {p : Prop} (h : p) : Hid p := h

/-- Where the walk is to stand still, before an operation that a law of ours takes. -/
def Halted (p : Prop) : Prop := p
theorem halted {p : Prop} (h : Halted p) : p := h
theorem unhalt {p : Prop} (h : p) : Halted p := h

/-- The slice at A reads as the list xs. -/
def Reads (w : World) (A : Option Addr) (xs : List Value) : Prop :=
  xs = [] ∨ ∃ b off, A = some ⟨b, off, none⟩ ∧ b < w.heap.size ∧ ∀ i, i < xs.length → w.cell? ⟨b, off + i, none⟩ = some (xs.getD i undef)

theorem Reads.at_ {w : World} {A : Option Addr} {xs : List Value} (h : Reads w A xs) {k : Nat} (hk : k < xs.length) :
    ∃ b off, A = some ⟨b, off, none⟩ ∧ b < w.heap.size ∧ ∀ i, i < xs.length → w.cell? ⟨b, off + i, none⟩ = some (xs.getD i undef) := by
  rcases h with rfl | h
  · simp at hk
  · exact h
theorem Reads.nil (w : World) (A : Option Addr) : Reads w A [] := .inl rfl
theorem Reads.keep {w w' : World} {A : Option Addr} {xs : List Value} (h : Reads w A xs) (hs : w.heap.size ≤ w'.heap.size)
    (hk : ∀ b o, b < w.heap.size → w'.cell? ⟨b, o, none⟩ = w.cell? ⟨b, o, none⟩) : Reads w' A xs := by
  rcases h with h | ⟨b, off, e, hb, hc⟩
  · exact .inl h
  · exact .inr ⟨b, off, e, by omega, fun i hi => (hk _ _ hb).trans (hc i hi)⟩
theorem Reads.below {w w' : World} {A : Option Addr} {xs : List Value} (h : Reads w A xs) (hb : Below w.heap.size w w') : Reads w' A xs :=
  h.keep hb.size fun b o hlt => hb.cell (p := ⟨b, o, none⟩) hlt
theorem Reads.drew {w : World} {A : Option Addr} {xs : List Value} (h : Reads w A xs) : Reads w.drew A xs := h
theorem Reads.alloc {w : World} {A : Option Addr} {xs : List Value} (h : Reads w A xs) (o : Obj) : Reads (w.alloc o) A xs :=
  h.below ((Below.refl _ w).alloc (Nat.le_refl _) o)

theorem Reads.take {w : World} {A : Option Addr} {xs : List Value} (h : Reads w A xs) (n : Nat) : Reads w A (xs.take n) := by
  rcases h with rfl | ⟨b, off, e, hb, hc⟩
  · left; simp
  · right
    refine ⟨b, off, e, hb, fun i hi => ?_⟩
    rw [List.length_take] at hi
    rw [hc i (by omega)]
    simp only [List.getD_eq_getElem?_getD, List.getElem?_take]
    rw [if_pos (by omega)]
/-- What stands behind a cut, in the walk's spelling. -/
theorem Reads.cut {w : World} {A : Option Addr} {xs : List Value} (h : Reads w A xs) {k cap : Nat} (hc : xs.length ≤ cap) :
    Reads w (if cap = k then A else Option.map (fun x => Addr.add x k) A) (xs.drop k) := by
  by_cases hk : xs.length ≤ k
  · left; exact List.drop_eq_nil_of_le hk
  · obtain ⟨b, off, rfl, hb, hcell⟩ := h.at_ (k := k) (by omega)
    right
    refine ⟨b, off + k, ?_, hb, fun i hi => ?_⟩
    · rw [if_neg (by omega)]
      unfold Addr.add
      by_cases h0 : k = 0
      · subst h0; simp
      · simp [h0]
    · rw [List.length_drop] at hi
      rw [Nat.add_assoc, hcell (k + i) (by omega)]
      simp [List.getD_eq_getElem?_getD]

/-- 's[l:h]' of a slice of one-cell elements: one equation for the walk, and what stands there. -/
theorem cut_lh {P : Program} (T : TypeId) (hT : P.underlying T = some (.slice (P.elem T))) (hz : ∀ w : World, (sizeOf (P.elem T)).run P w = .ok 1 w) (A : Option Addr) (n cap l h : Nat) (hl : l ≤ h) (hh : h ≤ n) (hn : n ≤ cap) :
    ∃ A2 m c, m = h - l ∧ c = cap - l ∧ (∀ w : World, (Instr.slice T (.slice A n cap) (some (.int .i64 (l : Int))) (some (.int .i64 (h : Int))) none).run P w = .ok (.slice A2 m c) w) ∧
      ∀ (w : World) (xs : List Value), Reads w A xs → xs.length = n → Reads w A2 ((xs.drop l).take m) := by
  refine ⟨if cap = l then A else Option.map (fun x => Addr.add x l) A, h - l, cap - l, rfl, rfl, fun w => ?_, fun w xs hR hx => (hR.cut (by omega)).take _⟩
  have := run_slice_lh w T A n cap hT .i64 .i64 (l : Int) (h : Int) (by omega) (by omega) (by omega)
  rw [this, hz]
  simp [sliced]
theorem cut_l {P : Program} (T : TypeId) (hT : P.underlying T = some (.slice (P.elem T))) (hz : ∀ w : World, (sizeOf (P.elem T)).run P w = .ok 1 w) (A : Option Addr) (n cap l : Nat) (hl : l ≤ n) (hn : n ≤ cap) :
    ∃ A2 m c, m = n - l ∧ c = cap - l ∧ (∀ w : World, (Instr.slice T (.slice A n cap) (some (.int .i64 (l : Int))) none none).run P w = .ok (.slice A2 m c) w) ∧
      ∀ (w : World) (xs : List Value), Reads w A xs → xs.length = n → Reads w A2 (xs.drop l) := by
  refine ⟨if cap = l then A else Option.map (fun x => Addr.add x l) A, n - l, cap - l, rfl, rfl, fun w => ?_, fun w xs hR hx => hR.cut (by omega)⟩
  have := run_slice_l w T A n cap hT .i64 (l : Int) (by omega) (by omega)
  rw [this, hz]
  simp [sliced]
theorem cut_h {P : Program} (T : TypeId) (hT : P.underlying T = some (.slice (P.elem T))) (hz : ∀ w : World, (sizeOf (P.elem T)).run P w = .ok 1 w) (A : Option Addr) (n cap h : Nat) (hh : h ≤ cap) :
    ∀ w : World, (Instr.slice T (.slice A n cap) none (some (.int .i64 (h : Int))) none).run P w = .ok (.slice A h cap) w := by
  intro w
  have := run_slice_h w T A n cap hT .i64 (h : Int) (by omega) (by omega)
  rw [this, hz]
  have e : Option.map (fun x => Addr.add x 0) A = A := by cases A <;> simp [Addr.add]
  simp [sliced, e]

/-- Numbers of a list, as values. -/
theorem getD_map_int (k : IntKind) (zs : List Int) {i : Nat} (hi : i < zs.length) : (zs.map (Value.int k)).getD i undef = .int k (zs.getD i 0) := by
  simp [List.getD_eq_getElem?_getD, List.getElem?_eq_getElem hi]

theorem grownBy_setCell {a w : World} {g : Nat} (h : a.grownBy w (some g)) (u : Value) (o : Nat) : a.grownBy (w.setCell ⟨g, o, none⟩ u) (some g) :=
  ⟨h.os, h.tape, h.output, by simpa [World.setCell] using h.size, fun k hk hne => (Below.heap_setCell w _ u k (fun e => hne (by rw [e]))).trans (h.block k hk hne)⟩

theorem take_snoc {α : Type} (l : List α) (d : α) (k : Nat) (h : k < l.length) : l.take (k + 1) = l.take k ++ [l.getD k d] := by
  rw [List.take_succ_eq_append_getElem h]
  simp [List.getD_eq_getElem?_getD, h]

/-- One call more, behind a new block; and one call more. -/
theorem below_alloc {w w1 w2 : World} {o : Obj} {n : Nat} (h : Below w.heap.size w w1) (h2 : Below n (w1.alloc o) w2) (hn : w1.heap.size ≤ n) : Below w.heap.size w w2 :=
  (h.alloc h.size o).trans (h2.mono (Nat.le_trans h.size hn))
theorem below_next {w w1 w2 : World} (h : Below w.heap.size w w1) (h2 : Below w1.heap.size w1 w2) : Below w.heap.size w w2 :=
  h.trans (h2.mono h.size)

/-- All that was there reads as it did: two rules for the walk. -/
theorem bcell {W w1 : World} (hb : Below W.heap.size W w1) : (∀ b o, b < W.heap.size → w1.cell? ⟨b, o, none⟩ = W.cell? ⟨b, o, none⟩) ∧ (∀ b o, b < W.heap.size → w1.frozen? ⟨b, o, none⟩ = W.frozen? ⟨b, o, none⟩) :=
  ⟨fun b o h => hb.cell (p := ⟨b, o, none⟩) h, fun b o h => hb.frozen (p := ⟨b, o, none⟩) h⟩

/-- A new row reads as its cells. -/
theorem Reads.new (w : World) (C : List Value) (e : TypeId) (fr : Nat × Nat) : Reads (w.alloc (.cells C.toArray e fr)) (some ⟨w.heap.size, 0, none⟩) C := by
  right
  refine ⟨w.heap.size, 0, rfl, by simp, fun i hi => ?_⟩
  have h : (w.alloc (.cells C.toArray e fr)).heap[w.heap.size]? = some (.cells C.toArray e fr) := by
    show (w.heap.push _)[w.heap.size]? = _
    simp
  unfold World.cell?
  rw [h]
  simp [List.getD_eq_getElem?_getD, hi]

/-- The same, its number by name. -/
theorem Reads.new_at (w : World) (C : List Value) (e : TypeId) (fr : Nat × Nat) (m : Nat) (hm : w.heap.size = m) : Reads (w.alloc (.cells C.toArray e fr)) (some ⟨m, 0, none⟩) C := by
  subst hm; exact Reads.new w C e fr

theorem heap_new (w : World) (o : Obj) : (w.alloc o).heap[w.heap.size]? = some o := by
  show (w.heap.push o)[w.heap.size]? = some o
  simp

/-- A block known whole: its cells. -/
theorem cell_blk {w : World} {m : Nat} {C : Array Value} {t : TypeId} {fr : Nat × Nat} (h : w.heap[m]? = some (.cells C t fr)) (j : Nat) : w.cell? ⟨m, j, none⟩ = C[j]? := by
  simp [World.cell?, h]
theorem blk_lt {w : World} {m : Nat} {o : Obj} (h : w.heap[m]? = some o) : m < w.heap.size := by
  rcases Nat.lt_or_ge m w.heap.size with hlt | hge
  · exact hlt
  · rw [Array.getElem?_eq_none hge] at h; cases h
theorem blk_alloc {w : World} {m : Nat} {o : Obj} (h : w.heap[m]? = some o) (o' : Obj) : (w.alloc o').heap[m]? = some o := (Below.heap_alloc w o' m (blk_lt h)).trans h

/-- The two cells of a block that was there. -/
theorem two_cells {W w1 : World} (hb : Below W.heap.size W w1) {b : Nat} {x y : Value} {t : TypeId} {fr : Nat × Nat} (h : W.heap[b]? = some (.cells #[x, y] t fr)) : w1.cell? ⟨b, 0, none⟩ = some x ∧ w1.cell? ⟨b, 1, none⟩ = some y := by
  have h1 : w1.heap[b]? = some (.cells #[x, y] t fr) := (hb.block b (blk_lt h)).trans h
  exact ⟨cell_blk h1 0, cell_blk h1 1⟩

end Go.Agio
