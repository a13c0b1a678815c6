/-
  A list of deeds, as a law is handed it.
-/
import Derived.Test.YtodlabpgjgbbpadProg
import Derived.Test.YtodlabpgjgbbpadTrod
import Derived.Test.YtodlabpgjgbbpadDiskAwake
namespace Go.Proofs.Ytodlabpgjgbbpad
open Go.RowKit Go.Agio Go.ChangeShapes Go.WideShapes Go.ChangeAt

/-- A deed: its kind, its number, and its bytes, as they stand. -/
structure Deed where
  kind : Int
  num : Int
  bs : List Int
  at_ : Option Addr
  cap : Nat

def Deed.cells (x : Deed) : List Value := [.int .i64 x.kind, .int .i64 x.num, .slice x.at_ x.bs.length x.cap]
def Deed.fine (W : World) (x : Deed) : Prop := Reads W x.at_ (bys x.bs) ∧ x.bs.length ≤ x.cap ∧ x.cap ≤ maxLen ∧ (Lit.int .i64 x.kind).wf = true ∧ (Lit.int .i64 x.num).wf = true ∧ x.bs.length ≤ 140737488351232

theorem deed_cells {H : Type} {enc : TypeId × Value → H} {W : World} {fuel : Nat} {cs : List Value} {D : DataW H} {Pl : List MemPlace} (hl : cs.length = 3) (h : DataW.trod enc Try.prog W 0 (fun _ => true) true fuel 29 cs = some (D, Pl)) (hs : Sized Try.prog 29 D) :
    ∃ x : Deed, cs = x.cells ∧ x.fine W := by
  obtain ⟨y0, y1, y2, n, hx, _, h0, h1, h2⟩ := Deep.trod_struct3 Try.underlying29 h
  match cs, hl with
  | [a, b, c], _ =>
    obtain ⟨x, e1, _, w1⟩ := DataW.trod_int Try.underlying3 h0
    obtain ⟨y, e2, _, w2⟩ := DataW.trod_int Try.underlying3 h1
    obtain ⟨A, cap, zs, e3, hz, hm, hR, _, hl2⟩ := trod_nums Try.underlying26 Try.underlying5 (by kernel_rfl) h2
    have c1 : Try.prog.cellsOf 3 = 1 := by kernel_rfl
    have c2 : Try.prog.cellsOf 26 = 1 := by kernel_rfl
    simp [c1, c2] at e1 e2 e3
    subst e1 e2 e3
    simp only [Prod.mk.injEq] at hx
    rw [hx.1] at hs
    have hln := (hs.field Try.underlying29 (j := 2) rfl rfl).nums (m := 1) Try.underlying26 (by kernel_rfl) hl2
    exact ⟨⟨x, y, zs, A, cap⟩, rfl, hR, hz, hm, w1, w2, by show zs.length ≤ _; omega⟩

theorem chooseD {α : Type} [Inhabited α] {n : Nat} {p : Nat → α → Prop} (h : ∀ i, i < n → ∃ x : α, p i x) : ∃ X : Nat → α, ∀ i, i < n → p i (X i) := by
  have h' : ∀ i, ∃ q : α, i < n → p i q := fun i => by
    by_cases hi : i < n
    · obtain ⟨x, hp⟩ := h i hi
      exact ⟨x, fun _ => hp⟩
    · exact ⟨default, fun hh => absurd hh hi⟩
  exact ⟨fun i => Classical.choose (h' i), fun i hi => Classical.choose_spec (h' i) hi⟩

instance : Inhabited Deed := ⟨⟨0, 0, [], none, 0⟩⟩

end Go.Proofs.Ytodlabpgjgbbpad
