/-
  An append as one step of a region that draws its order. Over any program.
-/
import Derived.Test.YtodlabpgjgbbpahAppend
import Derived.RegionTactic
namespace Go.Agio
open Go.RowKit

theorem step_append_own {P : Program} {w : World} {ops : Array Oper} {o : Oper} {a : Act} {K : Act → World → Prop} {Q : Exit → Act → World → Prop} {E : Prop} (hgd : Region.wanted o (yielded ops a.tmps) = true) (s x : Operand) (t : TypeId)
    (ho : o.op = .call { callee := .builtin .append, args := #[s, x], argTypes := #[t, t] })
    (base : Nat) (e : TypeId) (i : TypeInfo) (z : Value) (bytes : Nat) (ht : P.underlying t = some (.slice e)) (hi : P.info? e = some i) (hz : i.zero = some z)
    (hsize : i.size = 1) (hby : i.bytes = bytes) (hzs : z.cells.size = 1)
    (v : Value) (n : Nat) (xs : List Value) (hs : a.eval s = v) (hown : w.ownsRow base e 1 v n xs)
    (A : Option Addr) (m c : Nat) (news : List Value) (hx : a.eval x = .slice A m c) (hR : Reads w A news) (hm : news.length = m) (h1 : ∀ u ∈ news, u.oneCell' = true)
    (h63 : n + m ≤ maxLen) (hbytes : (n + m) * bytes ≤ 140737488355328) (hbase : base ≤ w.heap.size)
    (h : ∀ A' c' w', w'.ownsRow base e 1 (.slice A' (n + m) c') (n + m) (xs ++ news) → w.grownBy w' v.ownBlock →
      (Value.ownBlock (.slice A' (n + m) c') = v.ownBlock ∨ Value.ownBlock (.slice A' (n + m) c') = some w.heap.size) → K (a.put o.dst (.slice A' (n + m) c')) w') :
    if Region.wanted o (yielded ops a.tmps) = true then Oper.wp P o a w K Q else E := by
  rw [if_pos hgd]
  obtain ⟨A', c', w', hr, h2, h3, h5⟩ := run_append_reads (P := P) w base t o.type e i z bytes ht hi hz hsize hby hzs v n xs hown A m c news hR hm h1 h63 hbytes hbase
  unfold Oper.wp execOp
  simp only [ho, resolve, invoke, builtin, Sem.run_bind, Sem.run_pure, Result.andThen_ok, List.map_toArray, List.map_cons, List.map_nil, hs, hx, hr]
  exact h A' c' w' h2 h3 h5

/-- A cell of another block is written. -/
theorem Reads.keepset {w : World} {A : Option Addr} {xs : List Value} (h : Reads w A xs) (b o : Nat) (u : Value) (hne : ∀ a, A = some a → a.block ≠ b) : Reads (w.setCell ⟨b, o, none⟩ u) A xs := by
  rcases h with h | ⟨b', off, e, hb, hc⟩
  · exact .inl h
  · exact .inr ⟨b', off, e, by simpa [World.setCell] using hb, fun i hi => (World.cell?_setCell_other w ⟨b, o, none⟩ ⟨b', off + i, none⟩ u (by intro he; injection he with h1; first | exact hne _ e h1 | exact hne _ e h1.symm)).trans (hc i hi)⟩

/-- A fresh row, or the one that was there. -/
def Fresh (n m : Nat) (A A' : Option Addr) : Prop := A' = A ∨ ∀ a, A' = some a → n ≤ a.block ∧ a.block < m
theorem Fresh.same (n m : Nat) (A : Option Addr) : Fresh n m A A := .inl rfl
/-- A new row, its block by name. -/
theorem own_new_at (w : World) (base : Nat) (e : TypeId) (C : List Value) (n m : Nat) (hw : w.heap.size = m) (hb : base ≤ m) (hn : C.length = n) (hm : n ≤ maxLen) :
    (w.alloc (.cells C.toArray e)).ownsRow base e 1 (.slice (some ⟨m, 0, none⟩) n n) n C := by
  subst hw
  exact own_new w base e C n hb hn hm
/-- Two cells new. -/
theorem below_two {w : World} (o o' : Obj) : Below w.heap.size w ((w.alloc o).alloc o') := ((Below.refl _ _).alloc (Nat.le_refl _) _).alloc (by simp) _
theorem below_three {w : World} (o o' o'' : Obj) : Below w.heap.size w (((w.alloc o).alloc o').alloc o'') := (below_two o o').alloc (by simp; omega) _
/-- What may be written is a block alone, and what is new. -/
theorem only_alloc {a w : World} {row : Option Nat} (h : a.grownBy w row) (o : Obj) : a.grownBy (w.alloc o) row :=
  ⟨h.os, h.tape, h.output, Nat.le_trans h.size (by simp), fun i hi hne => (Below.heap_alloc w o i (Nat.lt_of_lt_of_le hi h.size)).trans (h.block i hi hne)⟩
theorem only_drew {a w : World} {row : Option Nat} (h : a.grownBy w row) : a.grownBy w.drew row := ⟨h.os, h.tape, h.output, h.size, h.block⟩
end Go.Agio
