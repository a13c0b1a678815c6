/-
  A slot as it stands in memory: its acceptors, its rounds; what a store leaves of it.
-/
import Derived.Test.YtodlabpgjgbbpahPaxPlain
import Derived.Test.YtodlabpgjgbbpahPropRdec
namespace Go.Pax
open Go.Prp Go.RowKit
structure StA where
  s : Acc.St
  at_ : Option Addr
  cap : Nat
def sa0 : StA := ⟨Acc.zero, none, 0⟩
def StA.cells (x : StA) : List Value := [.int .i64 x.s.pr, .int .i64 x.s.ps, .bool x.s.some, .int .i64 x.s.ar, .int .i64 x.s.as_, .slice x.at_ x.s.val.length x.cap]
theorem StA.cells_length (x : StA) : x.cells.length = 6 := rfl
structure RnA where
  r : Int
  t : Int
  P : Option Addr
  pc : Nat
  X : List PAt
  has : Bool
  V : Option Addr
  vc : Nat
  val : List Int
  W : Option Addr
  wc : Nat
  vs : List Vt
def ra0 : RnA := ⟨0, 0, none, 0, [], false, none, 0, [], none, 0, []⟩
def RnA.cells (x : RnA) : List Value := [.int .i64 x.r, .int .i64 x.t, .slice x.P x.X.length x.pc, .bool x.has, .slice x.V x.val.length x.vc, .slice x.W x.vs.length x.wc]
theorem RnA.cells_length (x : RnA) : x.cells.length = 6 := rfl
def RnA.rn (x : RnA) : Rnd := ⟨x.r, x.t, x.X.map PAt.p, x.has, x.val, x.vs⟩
def abs (all : List StA) (rs : List RnA) : Sl := ⟨all.map StA.s, rs.map RnA.rn⟩
theorem abs_rd (all : List StA) (rs : List RnA) (k : Nat) : rd (abs all rs) k = (rs.getD k ra0).rn := by
  unfold rd abs
  simp only
  rw [List.getD_eq_getElem?_getD, List.getD_eq_getElem?_getD, List.getElem?_map]
  cases rs[k]? <;> rfl
theorem abs_ac (all : List StA) (rs : List RnA) (a : Nat) : ac (abs all rs) a = (all.getD a sa0).s := by
  unfold ac abs
  simp only
  rw [List.getD_eq_getElem?_getD, List.getD_eq_getElem?_getD, List.getElem?_map]
  cases all[a]? <;> rfl
end Go.Pax
namespace Go.Agio
open Go.RowKit

/-- Six cells of a flat list are written: one row is another one. -/
theorem flat_set6 {α : Type} {f : α → List Value} (hf : ∀ x, (f x).length = 6) (d : α) {l : List α} {i : Nat} {x : α} (h : i < l.length) {v0 v1 v2 v3 v4 v5 : Value} (hx : f x = [v0, v1, v2, v3, v4, v5]) :
    (l.set i x).flatMap f = ((((((l.flatMap f).set (i * 6) v0).set (i * 6 + 1) v1).set (i * 6 + 2) v2).set (i * 6 + 3) v3).set (i * 6 + 4) v4).set (i * 6 + 5) v5 := by
  have hl1 := flat_length hf (l.set i x)
  have hl2 := flat_length hf l
  rw [List.length_set] at hl1
  have hfx := flat_get hf d (l.set i x)
  have hfl := flat_get hf d l
  generalize hL1 : (l.set i x).flatMap f = L1 at *
  generalize hL2 : l.flatMap f = L2 at *
  clear hL1 hL2
  apply List.ext_getElem?
  intro m
  by_cases hm : m < l.length * 6
  · have h1 : m / 6 < l.length := by omega
    have h2 := hfx (m / 6) (m % 6) (by rw [List.length_set]; exact h1) (by omega)
    have h3 := hfl (m / 6) (m % 6) h1 (by omega)
    rw [show m / 6 * 6 + m % 6 = m by omega] at h2 h3
    rw [List.getElem?_eq_getElem (by omega)]
    rw [List.getD_eq_getElem?_getD, List.getElem?_eq_getElem (show m < L1.length by omega), Option.getD_some] at h2
    rw [h2, Pax.getD_set h]
    by_cases hmi : m / 6 = i
    · rw [if_pos hmi, hx]
      subst hmi
      have hr : m % 6 = 0 ∨ m % 6 = 1 ∨ m % 6 = 2 ∨ m % 6 = 3 ∨ m % 6 = 4 ∨ m % 6 = 5 := by omega
      rcases hr with hr | hr | hr | hr | hr | hr
      · rw [hr]; simp only [List.getElem?_set, List.length_set]
        rw [if_neg (by omega), if_neg (by omega), if_neg (by omega), if_neg (by omega), if_neg (by omega), if_pos (by omega), if_pos (by omega)]; rfl
      · rw [hr]; simp only [List.getElem?_set, List.length_set]
        rw [if_neg (by omega), if_neg (by omega), if_neg (by omega), if_neg (by omega), if_pos (by omega), if_pos (by omega)]; rfl
      · rw [hr]; simp only [List.getElem?_set, List.length_set]
        rw [if_neg (by omega), if_neg (by omega), if_neg (by omega), if_pos (by omega), if_pos (by omega)]; rfl
      · rw [hr]; simp only [List.getElem?_set, List.length_set]
        rw [if_neg (by omega), if_neg (by omega), if_pos (by omega), if_pos (by omega)]; rfl
      · rw [hr]; simp only [List.getElem?_set, List.length_set]
        rw [if_neg (by omega), if_pos (by omega), if_pos (by omega)]; rfl
      · rw [hr]; simp only [List.getElem?_set, List.length_set]
        rw [if_pos (by omega), if_pos (by omega)]; rfl
    · rw [if_neg hmi, ← h3]
      simp only [List.getElem?_set, List.length_set]
      rw [if_neg (by omega), if_neg (by omega), if_neg (by omega), if_neg (by omega), if_neg (by omega), if_neg (by omega)]
      rw [List.getD_eq_getElem?_getD, List.getElem?_eq_getElem (show m < L2.length by omega)]
      rfl
  · rw [List.getElem?_eq_none (by omega), List.getElem?_eq_none (by simp; omega)]

/-- A cell of a block known as a list is written. -/
theorem blk_set {w : World} {B : Nat} {L : List Value} {t : TypeId} (h : w.heap[B]? = some (.cells L.toArray t)) (j : Nat) (v : Value) : (w.setCell ⟨B, j, none⟩ v).heap[B]? = some (.cells (L.set j v).toArray t) := by
  rw [heap_setCell_same w B j _ t v h]
  simp
theorem blk_cell {w : World} {B : Nat} {L : List Value} {t : TypeId} {fr : Nat × Nat} (h : w.heap[B]? = some (.cells L.toArray t fr)) (j : Nat) : w.cell? ⟨B, j, none⟩ = L[j]? := by
  rw [cell_blk h j]; simp

/-- The slice at A reads as xs, and lies in none of two blocks. -/
def Aw (w : World) (B g : Nat) (A : Option Addr) (xs : List Value) : Prop :=
  xs = [] ∨ ∃ b off, A = some ⟨b, off, none⟩ ∧ b < w.heap.size ∧ b ≠ B ∧ b ≠ g ∧ ∀ i, i < xs.length → w.cell? ⟨b, off + i, none⟩ = some (xs.getD i undef)
theorem Aw.reads {w : World} {B g : Nat} {A : Option Addr} {xs : List Value} (h : Aw w B g A xs) : Reads w A xs := by
  rcases h with h | ⟨b, off, h1, h2, _, _, h3⟩
  · exact .inl h
  · exact .inr ⟨b, off, h1, h2, h3⟩
/-- What is new lies apart. -/
theorem Aw.fresh {w : World} {B g n : Nat} {A : Option Addr} {xs : List Value} (h : Reads w A xs) (hB : B < n) (hg : g < n) (hA : ∀ a, A = some a → n ≤ a.block) : Aw w B g A xs := by
  rcases h with h | ⟨b, off, h1, h2, h3⟩
  · exact .inl h
  · have := hA _ h1
    simp at this
    exact .inr ⟨b, off, h1, h2, by omega, by omega, h3⟩
/-- All blocks but two are as they were. -/
def Keep2 (w w' : World) (B g : Nat) : Prop := w.heap.size ≤ w'.heap.size ∧ ∀ i, i < w.heap.size → i ≠ B → i ≠ g → w'.heap[i]? = w.heap[i]?
theorem Aw.keep {w w' : World} {B g : Nat} {A : Option Addr} {xs : List Value} (h : Aw w B g A xs) (hk : Keep2 w w' B g) : Aw w' B g A xs := by
  rcases h with h | ⟨b, off, h1, h2, h3, h4, h5⟩
  · exact .inl h
  · refine .inr ⟨b, off, h1, Nat.lt_of_lt_of_le h2 hk.1, h3, h4, fun i hi => ?_⟩
    rw [← h5 i hi]
    unfold World.cell?
    rw [hk.2 b h2 h3 h4]
theorem Aw.move {w : World} {B g g' : Nat} {A : Option Addr} {xs : List Value} (h : Aw w B g A xs) (hg : g' = g ∨ w.heap.size ≤ g') : Aw w B g' A xs := by
  rcases h with h | ⟨b, off, h1, h2, h3, h4, h5⟩
  · exact .inl h
  · exact .inr ⟨b, off, h1, h2, h3, by omega, h5⟩
theorem Keep2.below {w w' : World} {B g : Nat} (h : Below w.heap.size w w') : Keep2 w w' B g := ⟨h.size, fun i hi _ _ => h.block i hi⟩
theorem Keep2.refl (w : World) (B g : Nat) : Keep2 w w B g := ⟨Nat.le_refl _, fun _ _ _ _ => rfl⟩
theorem Keep2.setB {w w' : World} {B g : Nat} (h : Keep2 w w' B g) (j : Nat) (v : Value) : Keep2 w (w'.setCell ⟨B, j, none⟩ v) B g :=
  ⟨by simpa [World.setCell] using h.1, fun i hi h1 h2 => (Below.heap_setCell w' _ v i (fun e => h1 (by rw [e]))).trans (h.2 i hi h1 h2)⟩
theorem Keep2.setG {w w' : World} {B g : Nat} (h : Keep2 w w' B g) (j : Nat) (v : Value) : Keep2 w (w'.setCell ⟨g, j, none⟩ v) B g :=
  ⟨by simpa [World.setCell] using h.1, fun i hi h1 h2 => (Below.heap_setCell w' _ v i (fun e => h2 (by rw [e]))).trans (h.2 i hi h1 h2)⟩
theorem Keep2.grown {w w' : World} {B g : Nat} {row : Option Nat} (h : w.grownBy w' row) (hr : ∀ i, row = some i → i = g) : Keep2 w w' B g :=
  ⟨h.size, fun i hi _ h2 => h.block i hi (fun e => h2 (hr i e.symm))⟩
end Go.Agio
namespace Go.Proofs.Ytodlabpgjgbbpah
open Go.RowKit Go.Agio Go.Prp Go.Pax

/-- The cells of a slot. -/
def slotC (n : Int) (all : List StA) (V : Value) : List Value := (.int .i64 n) :: (all.flatMap StA.cells ++ [V])
theorem slotC_n (n : Int) (all : List StA) (V : Value) : (slotC n all V)[0]? = some (.int .i64 n) := rfl
theorem slotC_at (n : Int) (all : List StA) (V : Value) {a j : Nat} (ha : a < all.length) (hj : j < 6) : (slotC n all V)[1 + a * 6 + j]? = some ((all.getD a sa0).cells.getD j undef) := by
  have hl := flat_length StA.cells_length all
  have h := flat_get StA.cells_length sa0 all a j ha hj
  have hlt : a * 6 + j < all.length * 6 := by omega
  unfold slotC
  rw [show 1 + a * 6 + j = (a * 6 + j) + 1 by omega, List.getElem?_cons_succ, List.getElem?_append_left (by omega)]
  rw [List.getD_eq_getElem?_getD] at h
  rw [List.getElem?_eq_getElem (by omega)] at h ⊢
  rw [← h]; rfl
theorem slotC_rs (n : Int) {all : List StA} (V : Value) (h7 : all.length = 7) : (slotC n all V)[43]? = some V := by
  have hl := flat_length StA.cells_length all
  unfold slotC
  rw [show (43 : Nat) = 42 + 1 from rfl, List.getElem?_cons_succ, List.getElem?_append_right (by omega)]
  rw [hl, h7]; rfl
theorem slotC_set (n : Int) {all : List StA} (V : Value) {a : Nat} (ha : a < all.length) (q : StA) {v0 v1 v2 v3 v4 v5 : Value} (hq : q.cells = [v0, v1, v2, v3, v4, v5]) :
    ((((((slotC n all V).set (1 + a * 6) v0).set (1 + a * 6 + 1) v1).set (1 + a * 6 + 2) v2).set (1 + a * 6 + 3) v3).set (1 + a * 6 + 4) v4).set (1 + a * 6 + 5) v5 = slotC n (all.set a q) V := by
  have hl := flat_length StA.cells_length all
  unfold slotC
  rw [flat_set6 StA.cells_length sa0 ha hq]
  have e : ∀ (L : List Value) (x : Value) (m : Nat) (u : Value), (x :: L).set (1 + m) u = x :: L.set m u := fun L x m u => by rw [Nat.add_comm, List.set_cons_succ]
  simp only [Nat.add_assoc, e]
  rw [List.set_append_left _ _ (by omega), List.set_append_left _ _ (by simp only [List.length_set]; omega), List.set_append_left _ _ (by simp only [List.length_set]; omega), List.set_append_left _ _ (by simp only [List.length_set]; omega), List.set_append_left _ _ (by simp only [List.length_set]; omega), List.set_append_left _ _ (by simp only [List.length_set]; omega)]
theorem slotC_put (n : Int) {all : List StA} (V U : Value) (h7 : all.length = 7) : (slotC n all V).set 43 U = slotC n all U := by
  have hl := flat_length StA.cells_length all
  unfold slotC
  rw [show (43 : Nat) = 42 + 1 from rfl, List.set_cons_succ, List.set_append_right _ _ (by omega), hl, h7]
  rfl

/-- A slot at block B, its rounds in block g. -/
structure Mem (w : World) (b0 B g : Nat) (n : Int) (all : List StA) (rs : List RnA) (rc : Nat) : Prop where
  blk : w.heap[B]? = some (.cells (slotC n all (.slice (some ⟨g, 0, none⟩) rs.length rc)).toArray 55)
  own : w.ownsRow b0 62 6 (.slice (some ⟨g, 0, none⟩) rs.length rc) rs.length (rs.flatMap RnA.cells)
  base : b0 ≤ B
  apart : B ≠ g
  seven : all.length = 7
  ra : ∀ x ∈ all, Aw w B g x.at_ (bys x.s.val)
  rr : ∀ y ∈ rs, Aw w B g y.P (y.X.flatMap PAt.cells) ∧ (∀ x ∈ y.X, Aw w B g x.at_ (bys x.p.val)) ∧ Aw w B g y.V (bys y.val) ∧ Aw w B g y.W (y.vs.flatMap Vt.cells)
theorem Mem.glt {w : World} {b0 B g : Nat} {n : Int} {all : List StA} {rs : List RnA} {rc : Nat} (h : Mem w b0 B g n all rs rc) : b0 ≤ g ∧ g < w.heap.size := h.own.lt g rfl
theorem Mem.blt {w : World} {b0 B g : Nat} {n : Int} {all : List StA} {rs : List RnA} {rc : Nat} (h : Mem w b0 B g n all rs rc) : B < w.heap.size := blk_lt h.blk
theorem Mem.below {w w' : World} {b0 B g : Nat} {n : Int} {all : List StA} {rs : List RnA} {rc : Nat} (h : Mem w b0 B g n all rs rc) (hb : Below w.heap.size w w') : Mem w' b0 B g n all rs rc :=
  ⟨(hb.block _ (blk_lt h.blk)).trans h.blk, own_below h.own hb, h.base, h.apart, h.seven, fun x hx => (h.ra x hx).keep (.below hb), fun y hy => by
    obtain ⟨h1, h2, h3, h4⟩ := h.rr y hy
    exact ⟨h1.keep (.below hb), fun x hx => (h2 x hx).keep (.below hb), h3.keep (.below hb), h4.keep (.below hb)⟩⟩
theorem Mem.ps {w : World} {b0 B g : Nat} {n : Int} {all : List StA} {rs : List RnA} {rc : Nat} (h : Mem w b0 B g n all rs rc) {y : RnA} (hy : y ∈ rs) : PsRd w y.P y.X := by
  obtain ⟨h1, h2, _⟩ := h.rr y hy
  exact ⟨h1.reads, fun x hx => (h2 x hx).reads⟩
theorem own_else {w : World} {b0 B g size n c : Nat} {e : TypeId} {xs : List Value} (h : w.ownsRow b0 e size (.slice (some ⟨g, 0, none⟩) n c) n xs) (hne : B ≠ g) (j : Nat) (v : Value) : (w.setCell ⟨B, j, none⟩ v).ownsRow b0 e size (.slice (some ⟨g, 0, none⟩) n c) n xs := by
  refine ⟨h.1, ?_⟩
  rcases h.2 with hn | ⟨g1, cap, cur, hv1, hbg, hh, rest⟩
  · exact .inl hn
  · refine .inr ⟨g1, cap, cur, hv1, hbg, ?_, rest⟩
    have e : g = g1 := by injection hv1 with e1; injection e1 with e1; injection e1
    subst e
    exact (Below.heap_setCell _ _ _ _ (fun e => hne e.symm)).trans hh
/-- An acceptor's state is written. -/
theorem Mem.setAcc {w : World} {b0 B g : Nat} {n : Int} {all : List StA} {rs : List RnA} {rc : Nat} (h : Mem w b0 B g n all rs rc) {a : Nat} (ha : a < all.length) {q : StA} (hq : Aw w B g q.at_ (bys q.s.val)) {v0 v1 v2 v3 v4 v5 : Value} (hv : q.cells = [v0, v1, v2, v3, v4, v5]) :
    Mem ((((((w.setCell ⟨B, 1 + a * 6, none⟩ v0).setCell ⟨B, 1 + a * 6 + 1, none⟩ v1).setCell ⟨B, 1 + a * 6 + 2, none⟩ v2).setCell ⟨B, 1 + a * 6 + 3, none⟩ v3).setCell ⟨B, 1 + a * 6 + 4, none⟩ v4).setCell ⟨B, 1 + a * 6 + 5, none⟩ v5) b0 B g n (all.set a q) rs rc ∧
    Keep2 w ((((((w.setCell ⟨B, 1 + a * 6, none⟩ v0).setCell ⟨B, 1 + a * 6 + 1, none⟩ v1).setCell ⟨B, 1 + a * 6 + 2, none⟩ v2).setCell ⟨B, 1 + a * 6 + 3, none⟩ v3).setCell ⟨B, 1 + a * 6 + 4, none⟩ v4).setCell ⟨B, 1 + a * 6 + 5, none⟩ v5) B g := by
  have hk : Keep2 w ((((((w.setCell ⟨B, 1 + a * 6, none⟩ v0).setCell ⟨B, 1 + a * 6 + 1, none⟩ v1).setCell ⟨B, 1 + a * 6 + 2, none⟩ v2).setCell ⟨B, 1 + a * 6 + 3, none⟩ v3).setCell ⟨B, 1 + a * 6 + 4, none⟩ v4).setCell ⟨B, 1 + a * 6 + 5, none⟩ v5) B g := ((((((Keep2.refl w B g).setB _ _).setB _ _).setB _ _).setB _ _).setB _ _).setB _ _
  have hb := blk_set (blk_set (blk_set (blk_set (blk_set (blk_set h.blk (1 + a * 6) v0) (1 + a * 6 + 1) v1) (1 + a * 6 + 2) v2) (1 + a * 6 + 3) v3) (1 + a * 6 + 4) v4) (1 + a * 6 + 5) v5
  rw [slotC_set n _ ha q hv] at hb
  refine ⟨⟨hb, ?_, h.base, h.apart, by simpa using h.seven, fun x hx => ?_, fun y hy => ?_⟩, hk⟩
  · exact own_else (own_else (own_else (own_else (own_else (own_else h.own h.apart _ _) h.apart _ _) h.apart _ _) h.apart _ _) h.apart _ _) h.apart _ _
  · rcases List.mem_or_eq_of_mem_set hx with h1 | h1
    · exact (h.ra x h1).keep hk
    · subst h1; exact hq.keep hk
  · obtain ⟨h1, h2, h3, h4⟩ := h.rr y hy
    exact ⟨h1.keep hk, fun x hx => (h2 x hx).keep hk, h3.keep hk, h4.keep hk⟩
/-- A round is written. -/
theorem Mem.setRnd {w : World} {b0 B g : Nat} {n : Int} {all : List StA} {rs : List RnA} {rc : Nat} (h : Mem w b0 B g n all rs rc) {k : Nat} (hk : k < rs.length) {y : RnA}
    (hy : Aw w B g y.P (y.X.flatMap PAt.cells) ∧ (∀ x ∈ y.X, Aw w B g x.at_ (bys x.p.val)) ∧ Aw w B g y.V (bys y.val) ∧ Aw w B g y.W (y.vs.flatMap Vt.cells)) {v0 v1 v2 v3 v4 v5 : Value} (hv : y.cells = [v0, v1, v2, v3, v4, v5]) :
    Mem ((((((w.setCell ⟨g, k * 6, none⟩ v0).setCell ⟨g, k * 6 + 1, none⟩ v1).setCell ⟨g, k * 6 + 2, none⟩ v2).setCell ⟨g, k * 6 + 3, none⟩ v3).setCell ⟨g, k * 6 + 4, none⟩ v4).setCell ⟨g, k * 6 + 5, none⟩ v5) b0 B g n all (rs.set k y) rc ∧
    Keep2 w ((((((w.setCell ⟨g, k * 6, none⟩ v0).setCell ⟨g, k * 6 + 1, none⟩ v1).setCell ⟨g, k * 6 + 2, none⟩ v2).setCell ⟨g, k * 6 + 3, none⟩ v3).setCell ⟨g, k * 6 + 4, none⟩ v4).setCell ⟨g, k * 6 + 5, none⟩ v5) B g := by
  have hkk : Keep2 w ((((((w.setCell ⟨g, k * 6, none⟩ v0).setCell ⟨g, k * 6 + 1, none⟩ v1).setCell ⟨g, k * 6 + 2, none⟩ v2).setCell ⟨g, k * 6 + 3, none⟩ v3).setCell ⟨g, k * 6 + 4, none⟩ v4).setCell ⟨g, k * 6 + 5, none⟩ v5) B g := ((((((Keep2.refl w B g).setG _ _).setG _ _).setG _ _).setG _ _).setG _ _).setG _ _
  have hne : ∀ j : Nat, B ≠ (⟨g, j, none⟩ : Addr).block := fun j => h.apart
  have ho := ((((((h.own.stored (k * 6) v0).1.stored (k * 6 + 1) v1).1.stored (k * 6 + 2) v2).1.stored (k * 6 + 3) v3).1.stored (k * 6 + 4) v4).1.stored (k * 6 + 5) v5).1
  rw [← flat_set6 RnA.cells_length ra0 hk hv] at ho
  have hl : (rs.set k y).length = rs.length := by simp
  refine ⟨⟨?_, by rw [hl]; exact ho, h.base, h.apart, h.seven, fun x hx => (h.ra x hx).keep hkk, fun z hz => ?_⟩, hkk⟩
  · rw [hl, ← h.blk, Below.heap_setCell _ _ _ _ (hne _), Below.heap_setCell _ _ _ _ (hne _), Below.heap_setCell _ _ _ _ (hne _), Below.heap_setCell _ _ _ _ (hne _), Below.heap_setCell _ _ _ _ (hne _), Below.heap_setCell _ _ _ _ (hne _)]
  · rcases List.mem_or_eq_of_mem_set hz with h1 | h1
    · obtain ⟨h1, h2, h3, h4⟩ := h.rr z h1
      exact ⟨h1.keep hkk, fun x hx => (h2 x hx).keep hkk, h3.keep hkk, h4.keep hkk⟩
    · subst h1
      obtain ⟨h1, h2, h3, h4⟩ := hy
      exact ⟨h1.keep hkk, fun x hx => (h2 x hx).keep hkk, h3.keep hkk, h4.keep hkk⟩
/-- A round more: its row, and the slot told of it. -/
theorem Mem.more {w w' : World} {b0 B g : Nat} {n : Int} {all : List StA} {rs : List RnA} {rc : Nat} (h : Mem w b0 B g n all rs rc) {y : RnA} {g' c' : Nat}
    (hy : y.P = none ∧ y.X = [] ∧ y.V = none ∧ y.val = [] ∧ y.W = none ∧ y.vs = [])
    (ho : w'.ownsRow b0 62 6 (.slice (some ⟨g', 0, none⟩) (rs.length + 1) c') (rs.length + 1) (rs.flatMap RnA.cells ++ y.cells)) (hg : w.grownBy w' (some g)) (hg' : g' = g ∨ w.heap.size ≤ g') :
    Mem (w'.setCell ⟨B, 43, none⟩ (.slice (some ⟨g', 0, none⟩) (rs.length + 1) c')) b0 B g' n all (rs ++ [y]) c' := by
  have hk1 : Keep2 w w' B g := .grown hg (fun i e => by injection e with e; exact e.symm)
  have hBw := blk_lt h.blk
  have hB' : w'.heap[B]? = w.heap[B]? := hg.block B hBw (fun e => h.apart (by injection e))
  have hk : Keep2 w (w'.setCell ⟨B, 43, none⟩ (.slice (some ⟨g', 0, none⟩) (rs.length + 1) c')) B g := hk1.setB _ _
  have hap : B ≠ g' := by rcases hg' with e | e; rw [e]; exact h.apart; omega
  have hb := blk_set (hB'.trans h.blk) 43 (.slice (some ⟨g', 0, none⟩) (rs.length + 1) c')
  rw [slotC_put n _ _ h.seven] at hb
  have hmv : ∀ {A : Option Addr} {xs : List Value}, Aw w B g A xs → Aw (w'.setCell ⟨B, 43, none⟩ (.slice (some ⟨g', 0, none⟩) (rs.length + 1) c')) B g' A xs := fun {A xs} ha => by
    rcases ha with ha | ⟨b, off, a1, a2, a3, a4, a5⟩
    · exact .inl ha
    · have := (Aw.keep (.inr ⟨b, off, a1, a2, a3, a4, a5⟩) hk)
      rcases this with ha | ⟨b', off', c1, c2, c3, c4, c5⟩
      · exact .inl ha
      · rw [a1] at c1
        injection c1 with c1
        injection c1 with c1 c1'
        subst c1 c1'
        exact .inr ⟨b, off, a1, c2, c3, by omega, c5⟩
  refine ⟨by rw [List.length_append]; exact hb, ?_, h.base, hap, h.seven, fun x hx => hmv (h.ra x hx), fun z hz => ?_⟩
  · rw [List.length_append, List.flatMap_append]
    simp only [List.length_cons, List.length_nil, Nat.zero_add, List.flatMap_cons, List.flatMap_nil, List.append_nil]
    exact own_else ho hap _ _
  · rcases List.mem_append.1 hz with h1 | h1
    · obtain ⟨h1, h2, h3, h4⟩ := h.rr z h1
      exact ⟨hmv h1, fun x hx => hmv (h2 x hx), hmv h3, hmv h4⟩
    · simp at h1
      subst h1
      obtain ⟨e1, e2, e3, e4, e5, e6⟩ := hy
      rw [e2, e4, e6]
      exact ⟨.inl rfl, (fun x hx => by cases hx), .inl rfl, .inl rfl⟩
end Go.Proofs.Ytodlabpgjgbbpah
