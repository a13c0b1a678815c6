/-
  Promises and votes, as a law is handed them.
-/
import Derived.Test.YtodlabpgjgbbpahPropAwake
import Derived.Test.YtodlabpgjgbbpahTrod
import Derived.Test.YtodlabpgjgbbpahLaw
namespace Go.Proofs.Ytodlabpgjgbbpah
open Go.RowKit Go.Agio Go.Prp Go.ChangeShapes Go.WideShapes Go.ChangeAt

abbrev okb (l : List Int) : Prop := ∀ z ∈ l, 0 ≤ z ∧ z ≤ 255
theorem okb_wf {l : List Int} (h : ∀ z ∈ l, (Lit.int .u8 z).wf = true) : okb l := fun z hz => by
  have := bounds_u8 (h z hz)
  omega
/-- What holds of a promise that is handed in. -/
def PAt.fine (W : World) (x : PAt) : Prop := Reads W x.at_ (bys x.p.val) ∧ (Lit.int .i64 x.p.frm).wf = true ∧ (Lit.int .i64 x.p.r).wf = true ∧ (Lit.int .i64 x.p.t).wf = true ∧ x.p.val.length ≤ 140737488351232 ∧ okb x.p.val

theorem promise_cells {H : Type} {enc : TypeId × Value → H} {W : World} {fuel : Nat} {cs : List Value} {D : DataW H} {Pl : List MemPlace} (hl : cs.length = 5) (h : DataW.trod enc Try.prog W 0 (fun _ => true) true fuel 34 cs = some (D, Pl)) (hs : Sized Try.prog 34 D) :
    ∃ x : PAt, cs = x.cells ∧ PAt.fine W x := by
  obtain ⟨y0, y1, y2, y3, n, hx, _, h0, h1, h2, h3⟩ := Joins.trod_struct4 Try.underlying34 h
  match cs, hl with
  | [a, b, c, d, e], _ =>
    have c1 : Try.prog.cellsOf 32 = 2 := by kernel_rfl
    have c2 : Try.prog.cellsOf 4 = 1 := by kernel_rfl
    have c3 : Try.prog.cellsOf 24 = 1 := by kernel_rfl
    have c4 : Try.prog.cellsOf 3 = 1 := by kernel_rfl
    obtain ⟨u0, u1, m, _, _, g0, g1⟩ := trod_struct2 Try.underlying32 h2
    obtain ⟨x, e1, _, w1⟩ := DataW.trod_int Try.underlying3 h0
    obtain ⟨p, e2, _⟩ := DataW.trod_bool Try.underlying4 h1
    obtain ⟨x', e3, _, w2⟩ := DataW.trod_int Try.underlying3 g0
    obtain ⟨y', e4, _, w3⟩ := DataW.trod_int Try.underlying3 g1
    obtain ⟨A, cap, zs, e5, hz, hm, hR, hwf, hl2⟩ := trod_nums Try.underlying24 Try.underlying5 (by kernel_rfl) h3
    simp [c1, c2, c3, c4] at e1 e2 e3 e4 e5
    subst e1 e2 e3 e4 e5
    simp only [Prod.mk.injEq] at hx
    rw [hx.1] at hs
    have hln := (hs.field Try.underlying34 (j := 3) rfl rfl).nums (m := 1) Try.underlying24 (by kernel_rfl) hl2
    exact ⟨⟨⟨x, p, x', y', zs⟩, A, cap⟩, rfl, hR, w1, w2, w3, by show zs.length ≤ _; omega, okb_wf hwf⟩
def Vt.fine (x : Vt) : Prop := (Lit.int .i64 x.frm).wf = true ∧ (Lit.int .i64 x.r).wf = true ∧ (Lit.int .i64 x.t).wf = true
theorem vote_cells {H : Type} {enc : TypeId × Value → H} {W : World} {fuel : Nat} {cs : List Value} {D : DataW H} {Pl : List MemPlace} (hl : cs.length = 3) (h : DataW.trod enc Try.prog W 0 (fun _ => true) true fuel 44 cs = some (D, Pl)) :
    ∃ x : Vt, cs = x.cells ∧ Vt.fine x := by
  obtain ⟨y0, y1, n, hx, _, h0, h1⟩ := trod_struct2 Try.underlying44 h
  match cs, hl with
  | [a, b, c], _ =>
    have c1 : Try.prog.cellsOf 32 = 2 := by kernel_rfl
    have c4 : Try.prog.cellsOf 3 = 1 := by kernel_rfl
    obtain ⟨u0, u1, m, _, _, g0, g1⟩ := trod_struct2 Try.underlying32 h1
    obtain ⟨x, e1, _, w1⟩ := DataW.trod_int Try.underlying3 h0
    obtain ⟨x', e3, _, w2⟩ := DataW.trod_int Try.underlying3 g0
    obtain ⟨y', e4, _, w3⟩ := DataW.trod_int Try.underlying3 g1
    simp [c1, c4] at e1 e3 e4
    subst e1 e3 e4
    exact ⟨⟨x, x', y'⟩, rfl, w1, w2, w3⟩

theorem choose_at {α : Type} [Inhabited α] {n : Nat} {p : Nat → α → Prop} (h : ∀ i, i < n → ∃ x : α, p i x) : ∃ X : Nat → α, ∀ i, i < n → p i (X i) := by
  have h' : ∀ i, ∃ q : α, i < n → p i q := fun i => by
    by_cases hi : i < n
    · obtain ⟨x, hp⟩ := h i hi
      exact ⟨x, fun _ => hp⟩
    · exact ⟨default, fun hh => absurd hh hi⟩
  exact ⟨fun i => Classical.choose (h' i), fun i hi => Classical.choose_spec (h' i) hi⟩
instance : Inhabited PAt := ⟨pa0⟩
instance : Inhabited Vt := ⟨vt0⟩

/-- A list of promises, opened. -/
theorem rows_promises {W : World} {A : Option Addr} {n : Nat} {V : Nat → List Value} (hR : Agio.Rows W A n 5 V) (hel : ∀ i, i < n → ∃ x : PAt, V i = x.cells ∧ PAt.fine W x) :
    ∃ X : List PAt, X.length = n ∧ PsRd W A X ∧ ∀ x ∈ X, PAt.fine W x := by
  obtain ⟨X, hX⟩ := choose_at hel
  refine ⟨(List.range n).map X, by simp, ⟨Rows.flat PAt.cells_length (by omega) (hR.congr fun i hi => (hX i hi).1), fun x hx => ?_⟩, fun x hx => ?_⟩
  · obtain ⟨i, hi, rfl⟩ := List.mem_map.1 hx
    exact (hX i (List.mem_range.1 hi)).2.1
  · obtain ⟨i, hi, rfl⟩ := List.mem_map.1 hx
    exact (hX i (List.mem_range.1 hi)).2
theorem rows_votes {W : World} {A : Option Addr} {n : Nat} {V : Nat → List Value} (hR : Agio.Rows W A n 3 V) (hel : ∀ i, i < n → ∃ x : Vt, V i = x.cells ∧ Vt.fine x) :
    ∃ X : List Vt, X.length = n ∧ VsRd W A X ∧ ∀ x ∈ X, Vt.fine x := by
  obtain ⟨X, hX⟩ := choose_at hel
  refine ⟨(List.range n).map X, by simp, Rows.flat Vt.cells_length (by omega) (hR.congr fun i hi => (hX i hi).1), fun x hx => ?_⟩
  obtain ⟨i, hi, rfl⟩ := List.mem_map.1 hx
  exact (hX i (List.mem_range.1 hi)).2
theorem fineP_of {W : World} {X : List PAt} (h : ∀ x ∈ X, PAt.fine W x) : fineP X := fun x hx => ⟨(h x hx).2.1, (h x hx).2.2.2.2.1⟩
theorem fineV_of {X : List Vt} (h : ∀ x ∈ X, Vt.fine x) : fineV X := fun x hx => (h x hx).1

end Go.Proofs.Ytodlabpgjgbbpah
