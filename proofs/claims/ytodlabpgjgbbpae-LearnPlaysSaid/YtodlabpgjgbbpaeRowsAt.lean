/-
  A slice of slices of bytes of the call's own reads as a list of lists.
-/
import Derived.Test.YtodlabpgjgbbpaeBytes
namespace Go.Proofs.Ytodlabpgjgbbpae
open Go.RowKit Go.Agio

theorem info22 : (Try.prog.info? 22).map (fun i => (i.zero, i.size, i.bytes)) = some (some (.slice none 0 0), 1, 24) := by kernel_rfl

theorem own_below {w w' : World} {base n : Nat} {e : TypeId} {v : Value} {xs : List Value} (h : w.ownsRow base e 1 v n xs) (hb : Below w.heap.size w w') : w'.ownsRow base e 1 v n xs := by
  refine ⟨h.1, ?_⟩
  rcases h.2 with hn | ⟨g, cap, cur, hv, hbg, hh, rest⟩
  · exact .inl hn
  · exact .inr ⟨g, cap, cur, hv, hbg, (hb.block _ (blk_lt hh)).trans hh, rest⟩
theorem own_base {W : World} {base base' : Nat} {e : TypeId} {size : Nat} {v : Value} {k : Nat} {xs : List Value} (h : W.ownsRow base e size v k xs) (hb : base' ≤ base) : W.ownsRow base' e size v k xs := by
  refine ⟨h.1, ?_⟩
  rcases h.2 with hn | ⟨g, cap, cur, hv, hbg, rest⟩
  · exact .inl hn
  · exact .inr ⟨g, cap, cur, hv, Nat.le_trans hb hbg, rest⟩

def RowsAt (w : World) (base : Nat) (v : Value) (l : List (List Int)) : Prop :=
  ∃ vals, w.ownsRow base 22 1 v l.length vals ∧ vals.length = l.length ∧
    ∀ i, i < l.length → ∃ A c, vals[i]? = some (.slice A (l.getD i []).length c) ∧ Reads w A (bys (l.getD i [])) ∧ ∀ a, A = some a → base ≤ a.block ∧ a.block < w.heap.size ∧ v.ownBlock ≠ some a.block
theorem rowsAt_nil (w : World) (base : Nat) : RowsAt w base (.slice none 0 0) [] := ⟨[], World.ownsRow_nil _ _ _ _, rfl, fun i hi => by simp at hi⟩
theorem RowsAt.below {w w' : World} {base : Nat} {v : Value} {l : List (List Int)} (h : RowsAt w base v l) (hb : Below w.heap.size w w') : RowsAt w' base v l := by
  obtain ⟨vals, h1, h2, h3⟩ := h
  refine ⟨vals, own_below h1 hb, h2, fun i hi => ?_⟩
  obtain ⟨A, c, g1, g2, g3⟩ := h3 i hi
  exact ⟨A, c, g1, g2.below hb, fun a ha => ⟨(g3 a ha).1, Nat.lt_of_lt_of_le (g3 a ha).2.1 hb.size, (g3 a ha).2.2⟩⟩
/-- One more is appended. -/
theorem RowsAt.snoc {w w' : World} {base : Nat} {v v' : Value} {l : List (List Int)} {x : List Int} {A : Option Addr} {c : Nat} {vals : List Value} (h2 : vals.length = l.length)
    (h3 : ∀ i, i < l.length → ∃ A c, vals[i]? = some (.slice A (l.getD i []).length c) ∧ Reads w A (bys (l.getD i [])) ∧ ∀ a, A = some a → base ≤ a.block ∧ a.block < w.heap.size ∧ v.ownBlock ≠ some a.block)
    (hR : Reads w A (bys x)) (hA : ∀ a, A = some a → base ≤ a.block ∧ a.block < w.heap.size ∧ v.ownBlock ≠ some a.block)
    (hO : w'.ownsRow base 22 1 v' (l.length + 1) (vals ++ [.slice A x.length c])) (hg : w.grownBy w' v.ownBlock) (hat : v'.ownBlock = v.ownBlock ∨ v'.ownBlock = some w.heap.size) : RowsAt w' base v' (l ++ [x]) := by
  have key : ∀ (B : Option Addr) (y : List Int), Reads w B (bys y) → (∀ a, B = some a → base ≤ a.block ∧ a.block < w.heap.size ∧ v.ownBlock ≠ some a.block) → Reads w' B (bys y) ∧ ∀ a, B = some a → base ≤ a.block ∧ a.block < w'.heap.size ∧ v'.ownBlock ≠ some a.block := fun B y hR hB =>
    ⟨hR.grown hg (fun b off he h => (hB _ he).2.2 h.symm), fun a ha => ⟨(hB a ha).1, Nat.lt_of_lt_of_le (hB a ha).2.1 hg.size, by
      rcases hat with h | h
      · rw [h]; exact (hB a ha).2.2
      · rw [h]; intro he; injection he with he; have := (hB a ha).2.1; omega⟩⟩
  refine ⟨vals ++ [.slice A x.length c], by rw [List.length_append]; exact hO, by simp [h2], fun i hi => ?_⟩
  rcases Nat.lt_or_ge i l.length with hlt | hge
  · obtain ⟨B, d, g1, g2, g3⟩ := h3 i hlt
    have e : (l ++ [x]).getD i [] = l.getD i [] := by simp [List.getD_eq_getElem?_getD, List.getElem?_append_left hlt]
    rw [e]
    obtain ⟨k1, k2⟩ := key B _ g2 g3
    exact ⟨B, d, by rw [List.getElem?_append_left (by omega)]; exact g1, k1, k2⟩
  · have hi' : i = l.length := by simp at hi; omega
    subst hi'
    have e : (l ++ [x]).getD l.length [] = x := by simp [List.getD_eq_getElem?_getD]
    rw [e]
    obtain ⟨k1, k2⟩ := key A _ hR hA
    exact ⟨A, c, by rw [List.getElem?_append_right (by omega), h2]; simp, k1, k2⟩
/-- An elder cell is written. -/
theorem RowsAt.setOld {w : World} {base : Nat} {v : Value} {l : List (List Int)} (h : RowsAt w base v l) (d o : Nat) (u : Value) (hd : d < base) : RowsAt (w.setCell ⟨d, o, none⟩ u) base v l := by
  have hg : w.grownBy (w.setCell ⟨d, o, none⟩ u) (some d) := grownBy_setCell (World.grownBy.refl w _) u o
  obtain ⟨vals, h1, h2, h3⟩ := h
  refine ⟨vals, h1.kept hg (.inr fun he => by have := (h1.lt d he).1; omega), h2, fun i hi => ?_⟩
  obtain ⟨A, c, g1, g2, g3⟩ := h3 i hi
  exact ⟨A, c, g1, g2.keepset _ _ _ (fun a ha => by have := (g3 a ha).1; omega), fun a ha => ⟨(g3 a ha).1, by simpa [World.setCell] using (g3 a ha).2.1, (g3 a ha).2.2⟩⟩
end Go.Proofs.Ytodlabpgjgbbpae
