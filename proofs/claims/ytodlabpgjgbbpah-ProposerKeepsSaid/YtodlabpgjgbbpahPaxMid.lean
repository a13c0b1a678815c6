/-
  A slot's blocks midway: what is kept of memory while play writes.
-/
import Derived.Test.YtodlabpgjgbbpahPaxPlay0
namespace Go.Proofs.Ytodlabpgjgbbpah
open Go.RowKit Go.Agio Go.Prp Go.Pax

/-- A block of six, written whole. -/
theorem put_six {w W : World} {b : Nat} {v0 v1 v2 v3 v4 v5 : Value} {t : TypeId} (h : W.heap[b]? = some (.cells #[v0, v1, v2, v3, v4, v5] t)) (hb : Below w.heap.size w W) (hw : w.heap.size ≤ b) (u0 u1 u2 u3 u4 u5 : Value) :
    ((((((W.setCell ⟨b, 0, none⟩ u0).setCell ⟨b, 1, none⟩ u1).setCell ⟨b, 2, none⟩ u2).setCell ⟨b, 3, none⟩ u3).setCell ⟨b, 4, none⟩ u4).setCell ⟨b, 5, none⟩ u5).heap[b]? = some (.cells #[u0, u1, u2, u3, u4, u5] t) ∧
    Below w.heap.size w ((((((W.setCell ⟨b, 0, none⟩ u0).setCell ⟨b, 1, none⟩ u1).setCell ⟨b, 2, none⟩ u2).setCell ⟨b, 3, none⟩ u3).setCell ⟨b, 4, none⟩ u4).setCell ⟨b, 5, none⟩ u5) :=
  ⟨six_put5 (six_put4 (six_put3 (six_put2 (six_put1 (six_put0 h u0) u1) u2) u3) u4) u5, (set_six (xs := []) ⟨.nil _ none, hb⟩ (fun a ha => by cases ha) hw u0 u1 u2 u3 u4 u5).2⟩
theorem six_reads {W : World} {A : Option Addr} {xs : List Value} {b j0 j1 j2 j3 j4 j5 : Nat} {u0 u1 u2 u3 u4 u5 : Value} (h : Reads W A xs) (hA : ∀ a, A = some a → a.block ≠ b) :
    Reads ((((((W.setCell ⟨b, j0, none⟩ u0).setCell ⟨b, j1, none⟩ u1).setCell ⟨b, j2, none⟩ u2).setCell ⟨b, j3, none⟩ u3).setCell ⟨b, j4, none⟩ u4).setCell ⟨b, j5, none⟩ u5) A xs :=
  (((((h.keepset _ _ _ hA).keepset _ _ _ hA).keepset _ _ _ hA).keepset _ _ _ hA).keepset _ _ _ hA).keepset _ _ _ hA
theorem six_far {W : World} {m b j0 j1 j2 j3 j4 j5 : Nat} {u0 u1 u2 u3 u4 u5 : Value} {o : Obj} (h : W.heap[m]? = some o) (hb : m ≠ b) :
    ((((((W.setCell ⟨b, j0, none⟩ u0).setCell ⟨b, j1, none⟩ u1).setCell ⟨b, j2, none⟩ u2).setCell ⟨b, j3, none⟩ u3).setCell ⟨b, j4, none⟩ u4).setCell ⟨b, j5, none⟩ u5).heap[m]? = some o :=
  far (far (far (far (far (far h hb _ _) hb _ _) hb _ _) hb _ _) hb _ _) hb _ _

theorem drew_at {W : World} {m : Nat} {o : Obj} (h : W.heap[m]? = some o) : W.drew.heap[m]? = some o := h
theorem drew_cell {W : World} {p : Addr} {v : Value} (h : W.cell? p = some v) : W.drew.cell? p = some v := h
theorem six_far_eq {W : World} {m b j0 j1 j2 j3 j4 j5 : Nat} {u0 u1 u2 u3 u4 u5 : Value} (hb : m ≠ b) :
    ((((((W.setCell ⟨b, j0, none⟩ u0).setCell ⟨b, j1, none⟩ u1).setCell ⟨b, j2, none⟩ u2).setCell ⟨b, j3, none⟩ u3).setCell ⟨b, j4, none⟩ u4).setCell ⟨b, j5, none⟩ u5).heap[m]? = W.heap[m]? := by
  have hne : ∀ j : Nat, m ≠ (⟨b, j, none⟩ : Addr).block := fun j => hb
  rw [Below.heap_setCell _ _ _ _ (hne _), Below.heap_setCell _ _ _ _ (hne _), Below.heap_setCell _ _ _ _ (hne _), Below.heap_setCell _ _ _ _ (hne _), Below.heap_setCell _ _ _ _ (hne _), Below.heap_setCell _ _ _ _ (hne _)]
/-- Midway from w on: blocks B and g told, all else that was in w as it was. -/
structure Mid (w W : World) (b0 B g : Nat) (n : Int) (all : List StA) (rs : List RnA) (rc : Nat) : Prop where
  keep : Keep2 w W B g
  blk : W.heap[B]? = some (.cells (slotC n all (.slice (some ⟨g, 0, none⟩) rs.length rc)).toArray 55)
  own : W.ownsRow b0 62 6 (.slice (some ⟨g, 0, none⟩) rs.length rc) rs.length (rs.flatMap RnA.cells)
  bel : Below b0 w W
theorem Mem.mid {w W : World} {b0 B g : Nat} {n : Int} {all : List StA} {rs : List RnA} {rc : Nat} (h : Mem w b0 B g n all rs rc) (hb : Below w.heap.size w W) : Mid w W b0 B g n all rs rc :=
  ⟨.below hb, (h.below hb).blk, (h.below hb).own, hb.mono (Nat.le_trans h.base (Nat.le_of_lt h.blt))⟩
section
variable {w W W' : World} {b0 B g : Nat} {n : Int} {all : List StA} {rs : List RnA} {rc : Nat}
theorem Mid.glt (h : Mid w W b0 B g n all rs rc) : b0 ≤ g ∧ g < W.heap.size := h.own.lt g rfl
theorem Mid.below (h : Mid w W b0 B g n all rs rc) (hb : Below W.heap.size W W') (h0 : b0 ≤ W.heap.size) : Mid w W' b0 B g n all rs rc :=
  ⟨⟨Nat.le_trans h.keep.1 hb.size, fun i hi h1 h2 => (hb.block i (Nat.lt_of_lt_of_le hi h.keep.1)).trans (h.keep.2 i hi h1 h2)⟩, (hb.block _ (blk_lt h.blk)).trans h.blk, own_below h.own hb, h.bel.trans (hb.mono h0)⟩
theorem Mid.drew (h : Mid w W b0 B g n all rs rc) : Mid w W.drew b0 B g n all rs rc := ⟨h.keep, h.blk, h.own, h.bel.drew⟩
/-- A cell of a block that is new is written. -/
theorem Mid.other (h : Mid w W b0 B g n all rs rc) {p : Nat} (hp : w.heap.size ≤ p) (hB : p ≠ B) (hg : p ≠ g) (h0 : b0 ≤ p) (j : Nat) (v : Value) : Mid w (W.setCell ⟨p, j, none⟩ v) b0 B g n all rs rc :=
  ⟨⟨by simpa [World.setCell] using h.keep.1, fun i hi h1 h2 => (Below.heap_setCell W _ v i (fun e => by have : i = p := e; omega)).trans (h.keep.2 i hi h1 h2)⟩, (Below.heap_setCell W _ v B (fun e => hB e.symm)).trans h.blk, own_else h.own hg j v, h.bel.setCell (p := ⟨p, j, none⟩) h0 v⟩
theorem Mid.setAcc (h : Mid w W b0 B g n all rs rc) (hB0 : b0 ≤ B) (hap : B ≠ g) {a : Nat} (ha : a < all.length) {q : StA} {v0 v1 v2 v3 v4 v5 : Value} (hv : q.cells = [v0, v1, v2, v3, v4, v5]) :
    Mid w ((((((W.setCell ⟨B, 1 + a * 6, none⟩ v0).setCell ⟨B, 1 + a * 6 + 1, none⟩ v1).setCell ⟨B, 1 + a * 6 + 2, none⟩ v2).setCell ⟨B, 1 + a * 6 + 3, none⟩ v3).setCell ⟨B, 1 + a * 6 + 4, none⟩ v4).setCell ⟨B, 1 + a * 6 + 5, none⟩ v5) b0 B g n (all.set a q) rs rc := by
  have hb := blk_set (blk_set (blk_set (blk_set (blk_set (blk_set h.blk (1 + a * 6) v0) (1 + a * 6 + 1) v1) (1 + a * 6 + 2) v2) (1 + a * 6 + 3) v3) (1 + a * 6 + 4) v4) (1 + a * 6 + 5) v5
  rw [slotC_set n _ ha q hv] at hb
  refine ⟨(((((h.keep.setB _ _).setB _ _).setB _ _).setB _ _).setB _ _).setB _ _, hb, own_else (own_else (own_else (own_else (own_else (own_else h.own hap _ _) hap _ _) hap _ _) hap _ _) hap _ _) hap _ _, ?_⟩
  exact (((((h.bel.setCell (p := ⟨B, _, none⟩) hB0 _).setCell (p := ⟨B, _, none⟩) hB0 _).setCell (p := ⟨B, _, none⟩) hB0 _).setCell (p := ⟨B, _, none⟩) hB0 _).setCell (p := ⟨B, _, none⟩) hB0 _).setCell (p := ⟨B, _, none⟩) hB0 _
theorem Mid.setRnd (h : Mid w W b0 B g n all rs rc) (hap : B ≠ g) {k : Nat} (hk : k < rs.length) {y : RnA} {v0 v1 v2 v3 v4 v5 : Value} (hv : y.cells = [v0, v1, v2, v3, v4, v5]) :
    Mid w ((((((W.setCell ⟨g, k * 6, none⟩ v0).setCell ⟨g, k * 6 + 1, none⟩ v1).setCell ⟨g, k * 6 + 2, none⟩ v2).setCell ⟨g, k * 6 + 3, none⟩ v3).setCell ⟨g, k * 6 + 4, none⟩ v4).setCell ⟨g, k * 6 + 5, none⟩ v5) b0 B g n all (rs.set k y) rc := by
  have hg0 := h.glt.1
  have ho := ((((((h.own.stored (k * 6) v0).1.stored (k * 6 + 1) v1).1.stored (k * 6 + 2) v2).1.stored (k * 6 + 3) v3).1.stored (k * 6 + 4) v4).1.stored (k * 6 + 5) v5).1
  rw [← flat_set6 RnA.cells_length ra0 hk hv] at ho
  have hl : (rs.set k y).length = rs.length := by simp
  refine ⟨(((((h.keep.setG _ _).setG _ _).setG _ _).setG _ _).setG _ _).setG _ _, by rw [hl]; exact six_far h.blk hap, by rw [hl]; exact ho, ?_⟩
  exact (((((h.bel.setCell (p := ⟨g, _, none⟩) hg0 _).setCell (p := ⟨g, _, none⟩) hg0 _).setCell (p := ⟨g, _, none⟩) hg0 _).setCell (p := ⟨g, _, none⟩) hg0 _).setCell (p := ⟨g, _, none⟩) hg0 _).setCell (p := ⟨g, _, none⟩) hg0 _
end
/-- At the end: a slot again. -/
theorem Mid.done {w W : World} {b0 B g : Nat} {n : Int} {all all' : List StA} {rs rs' : List RnA} {rc : Nat} (h : Mid w W b0 B g n all' rs' rc) (hM : Mem w b0 B g n all rs rc) (h7 : all'.length = 7) (ha : ∀ x ∈ all', x ∈ all ∨ Aw W B g x.at_ (bys x.s.val))
    (hr : ∀ y ∈ rs', y ∈ rs ∨ (Aw W B g y.P (y.X.flatMap PAt.cells) ∧ (∀ x ∈ y.X, Aw W B g x.at_ (bys x.p.val)) ∧ Aw W B g y.V (bys y.val) ∧ Aw W B g y.W (y.vs.flatMap Vt.cells))) : Mem W b0 B g n all' rs' rc :=
  ⟨h.blk, h.own, hM.base, hM.apart, h7, fun x hx => (ha x hx).elim (fun h' => (hM.ra x h').keep h.keep) id, fun y hy => (hr y hy).elim (fun h' => by
    obtain ⟨h1, h2, h3, h4⟩ := hM.rr y h'
    exact ⟨h1.keep h.keep, fun x hx => (h2 x hx).keep h.keep, h3.keep h.keep, h4.keep h.keep⟩) id⟩
theorem mid_acc {w W : World} {b0 B g : Nat} {n : Int} {all : List StA} {rs : List RnA} {rc : Nat} (h : Mid w W b0 B g n all rs rc) {a : Nat} (ha : a < all.length) :
    W.cell? ⟨B, 1 + a * 6, none⟩ = some (.int .i64 (all.getD a sa0).s.pr) ∧ W.cell? ⟨B, 1 + a * 6 + 1, none⟩ = some (.int .i64 (all.getD a sa0).s.ps) ∧ W.cell? ⟨B, 1 + a * 6 + 2, none⟩ = some (.bool (all.getD a sa0).s.some) ∧
      W.cell? ⟨B, 1 + a * 6 + 3, none⟩ = some (.int .i64 (all.getD a sa0).s.ar) ∧ W.cell? ⟨B, 1 + a * 6 + 4, none⟩ = some (.int .i64 (all.getD a sa0).s.as_) ∧ W.cell? ⟨B, 1 + a * 6 + 5, none⟩ = some (.slice (all.getD a sa0).at_ (all.getD a sa0).s.val.length (all.getD a sa0).cap) :=
  ⟨(blk_cell h.blk _).trans (slotC_at _ _ _ ha (j := 0) (by omega)), (blk_cell h.blk _).trans (slotC_at _ _ _ ha (j := 1) (by omega)), (blk_cell h.blk _).trans (slotC_at _ _ _ ha (j := 2) (by omega)), (blk_cell h.blk _).trans (slotC_at _ _ _ ha (j := 3) (by omega)), (blk_cell h.blk _).trans (slotC_at _ _ _ ha (j := 4) (by omega)), (blk_cell h.blk _).trans (slotC_at _ _ _ ha (j := 5) (by omega))⟩
theorem mid_slot {w W : World} {b0 B g : Nat} {n : Int} {all : List StA} {rs : List RnA} {rc : Nat} (h : Mid w W b0 B g n all rs rc) (h7 : all.length = 7) : W.cell? ⟨B, 0, none⟩ = some (.int .i64 n) ∧ W.cell? ⟨B, 43, none⟩ = some (.slice (some ⟨g, 0, none⟩) rs.length rc) :=
  ⟨(blk_cell h.blk 0).trans (slotC_n _ _ _), (blk_cell h.blk 43).trans (slotC_rs _ _ h7)⟩
theorem mid_rnd {w W : World} {b0 B g : Nat} {n : Int} {all : List StA} {rs : List RnA} {rc : Nat} (h : Mid w W b0 B g n all rs rc) {k : Nat} (hk : k < rs.length) :
    W.cell? ⟨g, k * 6, none⟩ = some (.int .i64 (rs.getD k ra0).r) ∧ W.cell? ⟨g, k * 6 + 1, none⟩ = some (.int .i64 (rs.getD k ra0).t) ∧ W.cell? ⟨g, k * 6 + 2, none⟩ = some (.slice (rs.getD k ra0).P (rs.getD k ra0).X.length (rs.getD k ra0).pc) ∧ W.cell? ⟨g, k * 6 + 3, none⟩ = some (.bool (rs.getD k ra0).has) ∧
      W.cell? ⟨g, k * 6 + 4, none⟩ = some (.slice (rs.getD k ra0).V (rs.getD k ra0).val.length (rs.getD k ra0).vc) ∧ W.cell? ⟨g, k * 6 + 5, none⟩ = some (.slice (rs.getD k ra0).W (rs.getD k ra0).vs.length (rs.getD k ra0).wc) := by
  obtain ⟨b, off, he, _, hc⟩ := Reads.flat RnA.cells_length ra0 (reads_own h.own) (by omega) hk
  injection he with he
  injection he with e1 e2
  subst e1 e2
  have c := fun j hj => hc j hj
  simp only [Nat.zero_add] at c
  exact ⟨c 0 (by omega), c 1 (by omega), c 2 (by omega), c 3 (by omega), c 4 (by omega), c 5 (by omega)⟩
theorem Aw.of {W : World} {B g : Nat} {A : Option Addr} {xs : List Value} (h : Reads W A xs) (hA : ∀ a, A = some a → a.block ≠ B ∧ a.block ≠ g) : Aw W B g A xs := by
  rcases h with h | ⟨b, off, h1, h2, h3⟩
  · exact .inl h
  · exact .inr ⟨b, off, h1, h2, (hA _ h1).1, (hA _ h1).2, h3⟩
theorem abs_set (all : List StA) (rs : List RnA) (a : Nat) (q : StA) : abs (all.set a q) rs = ⟨(abs all rs).all.set a q.s, (abs all rs).rs⟩ := by
  unfold abs; simp [List.map_set]
theorem abs_put (all : List StA) (rs : List RnA) (k : Nat) (y : RnA) : abs all (rs.set k y) = ⟨(abs all rs).all, (abs all rs).rs.set k y.rn⟩ := by
  unfold abs; simp [List.map_set]
end Go.Proofs.Ytodlabpgjgbbpah
