/-
  A slot that begins: its block, stored whole; what a law is handed.
-/
import Derived.Test.YtodlabpgjgbbpahPaxLaw
import Derived.Test.YtodlabpgjgbbpahPaxBegun
import Derived.Test.YtodlabpgjgbbpahPaxSmall
import Derived.Test.YtodlabpgjgbbpahPropArgs
namespace Go.Proofs.Ytodlabpgjgbbpah
open Go.RowKit Go.Agio Go.Prp Go.Pax Go.ChangeShapes Go.WideShapes Go.ChangeAt

def Good (W : World) (b0 B N m : Nat) (s : Sl) : Prop := ∃ g all rs rc, Mem W b0 B g N all rs rc ∧ abs all rs = s ∧ Inv N s ∧ Small m s
theorem Good.below {w w' : World} {b0 B N m : Nat} {s : Sl} (h : Good w b0 B N m s) (hb : Below w.heap.size w w') : Good w' b0 B N m s := by
  obtain ⟨g, all, rs, rc, hM, h2⟩ := h
  exact ⟨g, all, rs, rc, hM.below hb, h2⟩
theorem Good.base {w : World} {b0 B N m : Nat} {s : Sl} (h : Good w b0 B N m s) : b0 ≤ B ∧ B < w.heap.size := by
  obtain ⟨g, all, rs, rc, hM, h2⟩ := h
  exact ⟨hM.base, hM.blt⟩
theorem small_rs {m : Nat} {all : List StA} {rs : List RnA} (hS : Small m (abs all rs)) : ∀ y ∈ rs, y.X.length ≤ m ∧ y.vs.length ≤ m ∧ y.val.length ≤ 140737488351232 ∧ ∀ x ∈ y.X, x.p.val.length ≤ 140737488351232 := fun y hy => by
  obtain ⟨h1, h2, h3, h4⟩ := hS.rnd y.rn (List.mem_map.2 ⟨y, hy, rfl⟩)
  refine ⟨?_, h2, h3, fun x hx => h4 x.p (List.mem_map.2 ⟨x, hx, rfl⟩)⟩
  have h1' : (y.X.map PAt.p).length ≤ m := h1
  simpa using h1'

theorem block_setCells {b : Nat} {t : TypeId} : ∀ (vs : List Value) (o : Nat) (w : World) (xs : List Value), w.heap[b]? = some (.cells xs.toArray t) → o + vs.length = xs.length → (w.setCells b o vs).heap[b]? = some (.cells (xs.take o ++ vs).toArray t)
  | [], o, w, xs, h, hl => by
    have : xs.take o = xs := List.take_of_length_le (by simp at hl; omega)
    rw [this, List.append_nil]; exact h
  | v :: vs, o, w, xs, h, hl => by
    have h1 := block_setCells vs (o + 1) (w.setCell ⟨b, o, none⟩ v) (xs.set o v) (blk_set h o v) (by simp at hl ⊢; omega)
    have e : (xs.set o v).take (o + 1) ++ vs = xs.take o ++ v :: vs := by
      have ho : o < xs.length := by simp at hl; omega
      rw [List.take_add_one, List.take_set_of_le (by omega)]
      simp [ho]
    rw [e] at h1
    exact h1
def zero44 : List Value := [.int .i64 0, .int .i64 0, .int .i64 0, .bool false, .int .i64 0, .int .i64 0, .slice none 0 0, .int .i64 0, .int .i64 0, .bool false, .int .i64 0, .int .i64 0, .slice none 0 0, .int .i64 0, .int .i64 0, .bool false, .int .i64 0, .int .i64 0, .slice none 0 0, .int .i64 0, .int .i64 0, .bool false, .int .i64 0, .int .i64 0, .slice none 0 0, .int .i64 0, .int .i64 0, .bool false, .int .i64 0, .int .i64 0, .slice none 0 0, .int .i64 0, .int .i64 0, .bool false, .int .i64 0, .int .i64 0, .slice none 0 0, .int .i64 0, .int .i64 0, .bool false, .int .i64 0, .int .i64 0, .slice none 0 0, .slice none 0 0]
theorem step_store_mid {P : Program} {w : World} {ops : Array Oper} {o : Oper} {a : Act} {K : Act → World → Prop} {Q : Exit → Act → World → Prop} {E : Prop} (hgd : Region.wanted o (yielded ops a.tmps) = true) (ty : TypeId) (x y : Operand) (ho : o.op = .store ty x y)
    (b off : Nat) (cells : Array Value) (hx : a.eval x = .pointer (some ⟨b, off, none⟩)) (hy : a.eval y = .agg cells)
    (ht : w.there b off cells.size) (hi : (P.info? ty).map (·.size) = some cells.size) (h1 : cells.all (·.oneCell') = true)
    (h : K (a.put o.dst undef) (w.setCells b off cells.toList)) : if Region.wanted o (yielded ops a.tmps) = true then Oper.wp P o a w K Q else E := by
  rw [if_pos hgd]
  exact wp_store_mid ty x y ho b off cells hx hy ht hi h1 h
theorem there44 {w : World} {B : Nat} (h : w.heap[B]? = some (.cells zero44.toArray 55)) : w.there B 0 44 := fun j hj => ⟨by rw [Nat.zero_add, cell_blk h j, Array.getElem?_eq_getElem (by exact hj)]; rfl, by rw [Nat.zero_add]; exact live h j⟩
theorem Reads.lt_some {w : World} {A : Option Addr} {xs : List Value} {a : Addr} (h : Reads w A xs) (ha : A = some a) (hx : xs ≠ []) : a.block < w.heap.size := by
  rcases h with h | ⟨b, off, e, hb, _⟩
  · exact absurd h hx
  · rw [ha] at e
    injection e with e
    subst e
    exact hb
/-- A slot that is stored whole, a new one. -/
theorem made {w : World} {b0 B g N : Nat} {owner : Int} {V : Option Addr} {vc : Nat} {v : List Int} (hB : w.heap[B]? = some (.cells zero44.toArray 55)) (hb0 : b0 ≤ B) (hbg : b0 ≤ g)
    (hg : w.heap[g]? = some (.cells (RnA.cells ⟨0, owner, none, 0, [], true, V, vc, v, none, 0, []⟩).toArray 62)) (hBg : B ≠ g) (hV : Reads w V (bys v)) (hVne : bys v ≠ [] → ∀ a, V = some a → a.block ≠ B ∧ a.block ≠ g) (hN : N ≤ 7) (ho : 0 ≤ owner) (hv : v.length ≤ 140737488351232) :
    Good (w.setCells B 0 (slotC N (List.replicate 7 sa0) (.slice (some ⟨g, 0, none⟩) 1 1)).toArray.toList) b0 B N 0 (first owner v) := by
  have hab : abs (List.replicate 7 sa0) [⟨0, owner, none, 0, [], true, V, vc, v, none, 0, []⟩] = first owner v := by
    unfold abs first; simp [RnA.rn, sa0]
  refine ⟨g, List.replicate 7 sa0, [⟨0, owner, none, 0, [], true, V, vc, v, none, 0, []⟩], 1, ⟨?_, ?_, hb0, hBg, by simp, fun x hx => ?_, fun y hy => ?_⟩, hab, inv_first hN ho, small_first hv 0⟩
  · exact block_setCells (slotC N (List.replicate 7 sa0) (.slice (some ⟨g, 0, none⟩) 1 1)) 0 w zero44 hB rfl
  · refine ⟨by simp [RnA.cells], .inr ⟨g, 1, _, rfl, hbg, (heap_setCells (fun e => hBg e.symm) _ _ _).trans hg, Nat.le_refl _, by unfold maxLen; omega, by simp [RnA.cells], by simp [RnA.cells]⟩⟩
  · have := (List.mem_replicate.1 hx).2
    subst this
    exact .inl rfl
  · simp only [List.mem_cons, List.not_mem_nil, or_false] at hy
    subst hy
    exact ⟨.inl rfl, (fun x hx => nomatch hx), (by
      by_cases h : bys v = []
      · exact .inl h
      · exact Aw.of (reads_setCells hV (fun a ha => (hVne h a ha).1)) (hVne h)), .inl rfl⟩

section
variable {H : Type} {enc : TypeId × Value → H} {P : Program} {W : World}
theorem trod_struct5 {t : TypeId} {f0 f1 f2 f3 f4 : Field} {fuel : Nat} {cs : List Value} {x : DataW H × List MemPlace} {base : Nat} {spare : Nat → Bool} {held : Bool} (ht : P.underlying t = some (.struct #[f0, f1, f2, f3, f4])) (h : DataW.trod enc P W base spare held fuel t cs = some x) :
    ∃ y0 y1 y2 y3 y4 n, cs.length = P.cellsOf t ∧ DataW.trod enc P W base spare held n f0.type ((cs.drop f0.offset).take (P.cellsOf f0.type)) = some y0 ∧
      DataW.trod enc P W base spare held n f1.type ((cs.drop f1.offset).take (P.cellsOf f1.type)) = some y1 ∧ DataW.trod enc P W base spare held n f2.type ((cs.drop f2.offset).take (P.cellsOf f2.type)) = some y2 ∧
      DataW.trod enc P W base spare held n f3.type ((cs.drop f3.offset).take (P.cellsOf f3.type)) = some y3 ∧ DataW.trod enc P W base spare held n f4.type ((cs.drop f4.offset).take (P.cellsOf f4.type)) = some y4 := by
  obtain ⟨xs, n, _, rfl, hl, hlen, hf⟩ := DataW.trod_struct ht h
  match xs, hlen with
  | [y0, y1, y2, y3, y4], _ => exact ⟨y0, y1, y2, y3, y4, n, hl, by simpa using hf 0 f0 rfl, by simpa using hf 1 f1 rfl, by simpa using hf 2 f2 rfl, by simpa using hf 3 f3 rfl, by simpa using hf 4 f4 rfl⟩
/-- A cell that holds a slice of rows. -/
theorem open_rows_cell {t e : TypeId} {C fuel : Nat} {cs : List Value} {x : DataW H × List MemPlace} (ht : P.underlying t = some (.slice e)) (hC : P.cellsOf e = C) (hC0 : 0 < C) (hf : DataW.trod enc P W 0 (fun _ => true) true fuel t cs = some x) :
    ∃ (A : Option Addr) (cap n : Nat) (V : Nat → List Value) (fuel : Nat) (D : Nat → DataW H), cs = [.slice A n cap] ∧ n ≤ cap ∧ cap ≤ maxLen ∧ Agio.Rows W A n C V ∧
      (∀ i, i < n → (V i).length = C ∧ ∃ Pl, DataW.trod enc P W 0 (fun _ => true) true fuel e (V i) = some (D i, Pl)) := by
  rcases Deep.open_slice ht hf with ⟨hcs, _⟩ | ⟨a, len, cap', m, n, D, Pl, hcs, _, hl, hm, hmm, hx, hel⟩
  · exact ⟨none, 0, 0, fun _ => [], 0, fun _ => .nil, hcs, Nat.le_refl _, by unfold maxLen; omega, .inl rfl, fun i hi => by omega⟩
  · simp only [if_true] at hmm
    rw [hC] at hel
    have hel' : ∀ i, ∃ cs' : List Value, i < m → W.cells? 0 (a.add (i * C)) C = some cs' ∧ DataW.trod enc P W 0 (fun _ => true) true n e cs' = some (D i, Pl i) := fun i => by
      by_cases hi : i < m
      · obtain ⟨cs', h1, h2⟩ := hel i hi
        exact ⟨cs', fun _ => ⟨h1, h2⟩⟩
      · exact ⟨[], fun h => absurd h hi⟩
    obtain ⟨V, hV⟩ : ∃ V : Nat → List Value, ∀ i, i < m → W.cells? 0 (a.add (i * C)) C = some (V i) ∧ DataW.trod enc P W 0 (fun _ => true) true n e (V i) = some (D i, Pl i) :=
      ⟨fun i => Classical.choose (hel' i), fun i hi => Classical.choose_spec (hel' i) hi⟩
    clear hel' hel
    refine ⟨some a, cap', len, V, n, D, hcs, hl, hm, ?_, fun i hi => ?_⟩
    · by_cases h0 : len = 0
      · exact .inl h0
      · right
        obtain ⟨b, off, spot⟩ := a
        have h00 := World.cells?_some (hV 0 (by omega)).1
        have hc0 := h00.2.2 0 hC0
        have hsp : spot = none := by
          have hlt : 0 < (V 0).length := by rw [h00.2.1]; exact hC0
          rw [List.getElem?_eq_getElem hlt] at hc0
          simpa [Addr.add] using World.cell?_spot hc0
        subst hsp
        have hcell : ∀ i, i < len → ∀ j, j < C → W.cell? ⟨b, off + i * C + j, none⟩ = some ((V i).getD j undef) := fun i hi j hj => by
          have hi' := World.cells?_some (hV i (by omega)).1
          have hj' := hi'.2.2 j hj
          rw [add_plain, add_plain] at hj'
          rw [hj', List.getD_eq_getElem?_getD, List.getElem?_eq_getElem (by rw [hi'.2.1]; exact hj)]
          rfl
        refine ⟨b, off, rfl, ?_, hcell⟩
        have hx0 := hcell 0 (by omega) 0 hC0
        rcases Nat.lt_or_ge b W.heap.size with hlt | hge
        · exact hlt
        · unfold World.cell? at hx0
          rw [Array.getElem?_eq_none hge] at hx0
          simp at hx0
    · have hi' := hV i (by omega)
      exact ⟨(World.cells?_some hi'.1).2.1, Pl i, hi'.2⟩
end

/-- An event, as a law is handed it. -/
structure Ev where
  kind : Int
  p : Int
  k : Int
  a : Int
  lost : Bool
instance : Inhabited Ev := ⟨⟨0, 0, 0, 0, false⟩⟩
def ev0 : Ev := ⟨0, 0, 0, 0, false⟩
def Ev.cells (x : Ev) : List Value := [.int .i64 x.kind, .int .i64 x.p, .int .i64 x.k, .int .i64 x.a, .bool x.lost]
theorem Ev.cells_length (x : Ev) : x.cells.length = 5 := rfl
def Ev.fine (x : Ev) : Prop := (-9223372036854775808 ≤ x.p ∧ x.p ≤ 9223372036854775807) ∧ (-9223372036854775808 ≤ x.k ∧ x.k ≤ 9223372036854775807) ∧ (-9223372036854775808 ≤ x.a ∧ x.a ≤ 9223372036854775807)
theorem bounds_u8' {z : Int} (h : (Lit.int .u8 z).wf = true) : 0 ≤ z ∧ z ≤ 255 := by
  have := bounds_u8 h
  omega
theorem i64_range {z : Int} (h : (Lit.int .i64 z).wf = true) : -9223372036854775808 ≤ z ∧ z ≤ 9223372036854775807 := by
  have := bounds_i64 h
  omega
theorem event_cells {H : Type} {enc : TypeId × Value → H} {W : World} {fuel : Nat} {cs : List Value} {D : DataW H} {Pl : List MemPlace} (hl : cs.length = 5) (h : DataW.trod enc Try.prog W 0 (fun _ => true) true fuel 59 cs = some (D, Pl)) :
    ∃ x : Ev, cs = x.cells ∧ Ev.fine x := by
  obtain ⟨y0, y1, y2, y3, y4, n, _, h0, h1, h2, h3, h4⟩ := trod_struct5 Try.underlying59 h
  match cs, hl with
  | [a, b, c, d, e], _ =>
    have c2 : Try.prog.cellsOf 4 = 1 := by kernel_rfl
    have c4 : Try.prog.cellsOf 3 = 1 := by kernel_rfl
    obtain ⟨x0, e0, _, w0⟩ := DataW.trod_int Try.underlying3 h0
    obtain ⟨x1, e1, _, w1⟩ := DataW.trod_int Try.underlying3 h1
    obtain ⟨x2, e2, _, w2⟩ := DataW.trod_int Try.underlying3 h2
    obtain ⟨x3, e3, _, w3⟩ := DataW.trod_int Try.underlying3 h3
    obtain ⟨p, e4, _⟩ := DataW.trod_bool Try.underlying4 h4
    simp [c2, c4] at e0 e1 e2 e3 e4
    subst e0 e1 e2 e3 e4
    exact ⟨⟨x0, x1, x2, x3, p⟩, rfl, i64_range w1, i64_range w2, i64_range w3⟩
theorem rows_events {W : World} {A : Option Addr} {n : Nat} {V : Nat → List Value} (hR : Agio.Rows W A n 5 V) (hel : ∀ i, i < n → ∃ x : Ev, V i = x.cells ∧ Ev.fine x) :
    ∃ X : List Ev, X.length = n ∧ Reads W A (X.flatMap Ev.cells) ∧ ∀ x ∈ X, Ev.fine x := by
  obtain ⟨X, hX⟩ := choose_at hel
  refine ⟨(List.range n).map X, by simp, Rows.flat Ev.cells_length (by omega) (hR.congr fun i hi => (hX i hi).1), fun x hx => ?_⟩
  obtain ⟨i, hi, rfl⟩ := List.mem_map.1 hx
  exact (hX i (List.mem_range.1 hi)).2
theorem slot_cells {H : Type} {enc : TypeId × Value → H} {W : World} {fuel : Nat} {cs : List Value} {D : DataW H} {Pl : List MemPlace} (hl : cs.length = 4) (h : DataW.trod enc Try.prog W 0 (fun _ => true) true fuel 49 cs = some (D, Pl)) (hs : Sized Try.prog 49 D) :
    ∃ (p q : Int) (A E : Option Addr) (c e : Nat) (v : List Int) (X : List Ev), cs = (#[.int .u8 p, .int .u8 q, .slice A v.length c, .slice E X.length e] : Array Value).toList ∧ (0 ≤ p ∧ p ≤ 255) ∧ (0 ≤ q ∧ q ≤ 255) ∧ Reads W A (bys v) ∧ v.length ≤ 140737488351232 ∧ Reads W E (X.flatMap Ev.cells) ∧ (∀ x ∈ X, Ev.fine x) ∧ X.length ≤ maxLen := by
  obtain ⟨y0, y1, y2, y3, n, hx, _, h0, h1, h2, h3⟩ := Joins.trod_struct4 Try.underlying49 h
  match cs, hl with
  | [z0, z1, z2, z3], _ =>
    have c1 : Try.prog.cellsOf 5 = 1 := by kernel_rfl
    have c3 : Try.prog.cellsOf 24 = 1 := by kernel_rfl
    have c4 : Try.prog.cellsOf 47 = 1 := by kernel_rfl
    simp only [Prod.mk.injEq] at hx
    rw [hx.1] at hs
    obtain ⟨x, e0, _, w0⟩ := DataW.trod_int Try.underlying5 h0
    obtain ⟨y, e1, _, w1⟩ := DataW.trod_int Try.underlying5 h1
    obtain ⟨A, cap, zs, e2, hz, hm, hR, hwf, hl2⟩ := trod_nums Try.underlying24 Try.underlying5 (by kernel_rfl) h2
    have hln := (hs.field Try.underlying49 (j := 2) rfl rfl).nums (m := 1) Try.underlying24 (by kernel_rfl) hl2
    simp [c1, c3] at e0 e1 e2
    have e3 : DataW.trod enc Try.prog W 0 (fun _ => true) true n 47 [z3] = some y3 := by simpa [c1, c3, c4] using h3
    obtain ⟨E, cap', m, V, fuel', D', e4, hle, hmx, hRw, hel⟩ := open_rows_cell Try.underlying47 (C := 5) (by kernel_rfl) (by omega) e3
    obtain ⟨X, hXl, hXr, hXf⟩ := rows_events hRw (fun i hi => event_cells (hel i hi).1 (hel i hi).2.choose_spec)
    subst hXl
    simp only [List.cons.injEq, and_true] at e4
    refine ⟨x, y, A, E, cap, cap', zs, X, ?_, bounds_u8' w0, bounds_u8' w1, hR, by omega, hXr, hXf, by omega⟩
    simp [e0, e1, e2, e4]

end Go.Proofs.Ytodlabpgjgbbpah
