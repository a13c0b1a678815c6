/-
  A list of asks, as a law is handed it; a state that a law keeps in a block of its own.
-/
import Derived.Test.YtodlabpgjgbbpagAccAwake
import Derived.Test.YtodlabpgjgbbpagTrod
import Derived.Deep.DeepCutAuto
namespace Go.Proofs.Ytodlabpgjgbbpag
open Go.RowKit Go.Agio Go.ChangeShapes Go.WideShapes Go.ChangeAt

/-- An ask, where it stands. -/
structure AskAt where
  a : Acc.Ask
  at_ : Option Addr
  cap : Nat
instance : Inhabited AskAt := ⟨⟨⟨0, 0, false, []⟩, none, 0⟩⟩
def AskAt.cells (x : AskAt) : List Value := [.int .i64 x.a.r, .int .i64 x.a.t, .bool x.a.puts, .slice x.at_ x.a.val.length x.cap]
def okb (l : List Int) : Prop := ∀ z ∈ l, 0 ≤ z ∧ z ≤ 255
def AskAt.fine (W : World) (x : AskAt) : Prop := Reads W x.at_ (bys x.a.val) ∧ okb x.a.val ∧ x.a.val.length ≤ 140737488351232

theorem okb_wf {l : List Int} (h : ∀ z ∈ l, (Lit.int .u8 z).wf = true) : okb l := fun z hz => by
  have := bounds_u8 (h z hz)
  omega

theorem ask_cells {H : Type} {enc : TypeId × Value → H} {W : World} {fuel : Nat} {cs : List Value} {D : DataW H} {Pl : List MemPlace} (hl : cs.length = 4) (h : DataW.trod enc Try.prog W 0 (fun _ => true) true fuel 33 cs = some (D, Pl)) (hs : Sized Try.prog 33 D) :
    ∃ x : AskAt, cs = x.cells ∧ x.fine W := by
  obtain ⟨y0, y1, y2, n, hx, _, h0, h1, h2⟩ := Deep.trod_struct3 Try.underlying33 h
  match cs, hl with
  | [a, b, c, d], _ =>
    have c1 : Try.prog.cellsOf 24 = 2 := by kernel_rfl
    have c2 : Try.prog.cellsOf 4 = 1 := by kernel_rfl
    have c3 : Try.prog.cellsOf 26 = 1 := by kernel_rfl
    have c4 : Try.prog.cellsOf 3 = 1 := by kernel_rfl
    obtain ⟨u0, u1, m, _, _, g0, g1⟩ := trod_struct2 Try.underlying24 h0
    obtain ⟨x, e1, _, w1⟩ := DataW.trod_int Try.underlying3 g0
    obtain ⟨y, e2, _, w2⟩ := DataW.trod_int Try.underlying3 g1
    obtain ⟨p, e3, _⟩ := DataW.trod_bool Try.underlying4 h1
    obtain ⟨A, cap, zs, e4, hz, hm, hR, hwf, hl2⟩ := trod_nums Try.underlying26 Try.underlying5 (by kernel_rfl) h2
    simp [c1, c2, c3, c4] at e1 e2 e3 e4
    subst e1 e2 e3 e4
    simp only [Prod.mk.injEq] at hx
    rw [hx.1] at hs
    have hln := (hs.field Try.underlying33 (j := 2) rfl rfl).nums (m := 1) Try.underlying26 (by kernel_rfl) hl2
    exact ⟨⟨⟨x, y, p, zs⟩, A, cap⟩, rfl, hR, okb_wf hwf, by show zs.length ≤ _; omega⟩

theorem choose_ask {α : Type} [Inhabited α] {n : Nat} {p : Nat → α → Prop} (h : ∀ i, i < n → ∃ x : α, p i x) : ∃ X : Nat → α, ∀ i, i < n → p i (X i) := by
  have h' : ∀ i, ∃ q : α, i < n → p i q := fun i => by
    by_cases hi : i < n
    · obtain ⟨x, hp⟩ := h i hi
      exact ⟨x, fun _ => hp⟩
    · exact ⟨default, fun hh => absurd hh hi⟩
  exact ⟨fun i => Classical.choose (h' i), fun i hi => Classical.choose_spec (h' i) hi⟩

/-- What a law's state may hold. -/
def small (s : Acc.St) : Prop := okb s.val ∧ s.val.length ≤ 140737488351232
theorem small_zero : small Acc.zero := ⟨fun z h => absurd h (by simp [Acc.zero]), by simp [Acc.zero]⟩
theorem small_answer {s : Acc.St} {a : Acc.Ask} (h : small s) (ha : okb a.val ∧ a.val.length ≤ 140737488351232) : small (Acc.answer s a) := by
  unfold Acc.answer
  split
  · unfold Acc.accept
    split
    · exact ha
    · exact h
  · unfold Acc.prepare
    split
    · exact h
    · exact h

/-- A block that holds a state. -/
def StAt (g : Nat) (s : Acc.St) (A : Option Addr) (c : Nat) (wr : World) : Prop :=
  wr.heap[g]? = some (.cells (stc s.pr s.ps s.some s.ar s.as_ (.slice A s.val.length c)) 28) ∧ Reads wr A (bys s.val)
theorem StAt.below {g : Nat} {s : Acc.St} {A : Option Addr} {c : Nat} {wr wx : World} (h : StAt g s A c wr) (hb : Below wr.heap.size wr wx) : StAt g s A c wx := ⟨(hb.block _ (blk_lt h.1)).trans h.1, h.2.below hb⟩

/-- What an answer leaves in a block that is new. -/
def Kept (wr : World) (q : Acc.St) (g : Nat) (wx : World) : Prop := ∃ A c, StAt g q A c wx ∧ (∀ a, A = some a → wr.heap.size ≤ a.block) ∧ wr.heap.size ≤ g ∧ Below wr.heap.size wr wx

theorem kept_one {wr w5 : World} {q : Acc.St} {A : Option Addr} {c : Nat} (hb : Below wr.heap.size wr w5) (hR : Reads w5 A (bys q.val)) (hA : ∀ a, A = some a → wr.heap.size ≤ a.block) :
    Kept wr q w5.heap.size (w5.alloc (.cells (stc q.pr q.ps q.some q.ar q.as_ (.slice A q.val.length c)) 28)) :=
  ⟨A, c, ⟨heap_new _ _, hR.alloc _⟩, hA, hb.size, hb.alloc hb.size _⟩
theorem kept_two {wr w5 : World} {q : Acc.St} {A : Option Addr} {c : Nat} {v0 v1 v2 v3 v4 v5 : Value} (hb : Below wr.heap.size wr w5) (hR : Reads w5 A (bys q.val)) (hA : ∀ a, A = some a → wr.heap.size < a.block)
    (hK : w5.heap[wr.heap.size]? = some (.cells #[v0, v1, v2, v3, v4, v5] 28)) :
    Kept wr q wr.heap.size ((((((w5.setCell ⟨wr.heap.size, 0, none⟩ (.int .i64 q.pr)).setCell ⟨wr.heap.size, 1, none⟩ (.int .i64 q.ps)).setCell ⟨wr.heap.size, 2, none⟩ (.bool q.some)).setCell ⟨wr.heap.size, 3, none⟩ (.int .i64 q.ar)).setCell ⟨wr.heap.size, 4, none⟩ (.int .i64 q.as_)).setCell ⟨wr.heap.size, 5, none⟩ (.slice A q.val.length c)) := by
  have h6 := fin_six (w := wr) (b := wr.heap.size) ⟨hR, hb⟩ hA (Nat.le_refl _) (.int .i64 q.pr) (.int .i64 q.ps) (.bool q.some) (.int .i64 q.ar) (.int .i64 q.as_) (.slice A q.val.length c)
  exact ⟨A, c, ⟨six_put5 (six_put4 (six_put3 (six_put2 (six_put1 (six_put0 hK _) _) _) _) _) _, h6.1⟩, h6.2.1, Nat.le_refl _, h6.2.2⟩

/-- The state's own block is written over by what was kept. -/
theorem st_next {w wr wx : World} {Bs : Nat} {q : Acc.St} {A : Option Addr} {c : Nat} {v0 v1 v2 v3 v4 v5 : Value} (hB : wx.heap[Bs]? = some (.cells #[v0, v1, v2, v3, v4, v5] 28)) (hlt : Bs < wr.heap.size) (hw : w.heap.size ≤ Bs)
    (hR : Reads wx A (bys q.val)) (hA : ∀ a, A = some a → wr.heap.size ≤ a.block) (hb : Below w.heap.size w wx) :
    StAt Bs q A c ((((((wx.setCell ⟨Bs, 0, none⟩ (.int .i64 q.pr)).setCell ⟨Bs, 1, none⟩ (.int .i64 q.ps)).setCell ⟨Bs, 2, none⟩ (.bool q.some)).setCell ⟨Bs, 3, none⟩ (.int .i64 q.ar)).setCell ⟨Bs, 4, none⟩ (.int .i64 q.as_)).setCell ⟨Bs, 5, none⟩ (.slice A q.val.length c)) ∧
      Below w.heap.size w ((((((wx.setCell ⟨Bs, 0, none⟩ (.int .i64 q.pr)).setCell ⟨Bs, 1, none⟩ (.int .i64 q.ps)).setCell ⟨Bs, 2, none⟩ (.bool q.some)).setCell ⟨Bs, 3, none⟩ (.int .i64 q.ar)).setCell ⟨Bs, 4, none⟩ (.int .i64 q.as_)).setCell ⟨Bs, 5, none⟩ (.slice A q.val.length c)) := by
  have h6 := fin_six (w := w) (b := Bs) ⟨hR, hb⟩ (fun a ha => by have := hA a ha; omega) hw (.int .i64 q.pr) (.int .i64 q.ps) (.bool q.some) (.int .i64 q.ar) (.int .i64 q.as_) (.slice A q.val.length c)
  exact ⟨⟨six_put5 (six_put4 (six_put3 (six_put2 (six_put1 (six_put0 hB _) _) _) _) _) _, h6.1⟩, h6.2.2⟩

end Go.Proofs.Ytodlabpgjgbbpag
