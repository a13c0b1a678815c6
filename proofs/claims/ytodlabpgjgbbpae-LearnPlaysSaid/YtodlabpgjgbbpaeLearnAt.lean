/-
  A learner in memory: what it knows, and how many slots were taken.
-/
import Derived.Test.YtodlabpgjgbbpaeBytes
import Derived.Test.YtodlabpgjgbbpaeCells
import Derived.Test.YtodlabpgjgbbpaeMapSl
import Derived.Test.YtodlabpgjgbbpaeLearnPlain
namespace Go.Proofs.Ytodlabpgjgbbpae
open Go.RowKit Go.Agio

theorem lawI : Maps.Keyed Try.prog 3 := Maps.int_keyed Try.underlying3
theorem zeroS (w : World) : (zeroValue 22).run Try.prog w = .ok (.slice none 0 0) w := by kernel_rfl
def okRow (xs : List Int) : Prop := ∀ z ∈ xs, 0 ≤ z ∧ z ≤ 255

/-- What stands in the map at k. -/
def Entry (w : World) (d bm : Nat) (G : Nat → Prop) (D : DataW Value) (k : Int) (r : Option (List Int)) : Prop :=
  Maps.has D (.int .i64 k) = r.isSome ∧ ∃ A c, D.atKey (.int .i64 k) nilD = .held (.slice A (r.getD []).length c) ∧ Reads w A (bys (r.getD [])) ∧ (r.getD []).length ≤ 2048 ∧ okRow (r.getD []) ∧
    ∀ a, A = some a → a.block ≠ d ∧ a.block ≠ bm ∧ ¬ G a.block ∧ a.block < w.heap.size

structure LAt (w : World) (d bm n : Nat) (M : Lrn.Map) (t : Nat) (G : Nat → Prop) : Prop where
  blk : w.heap[d]? = some (.cells #[.map (some bm), .int .i64 (t : Int)] 57)
  fine : Lrn.Fine M
  map : ∃ D : DataW Value, w.ownsMap Try.prog 3 RV bm n D ∧ Maps.Tidy D ∧ ∀ k : Int, (Lit.int .i64 k).wf = true → Entry w d bm G D k (M k)
  done : ∀ j : Nat, j < t → (M j).isSome = true
  le : t ≤ 4096

theorem map_below {w w' : World} {bm n : Nat} {D : DataW Value} (h : w.ownsMap Try.prog 3 RV bm n D) (hb : Below w.heap.size w w') : w'.ownsMap Try.prog 3 RV bm n D := by
  have hlt := h.lt
  obtain ⟨es, clock, h1, F, h2, h3⟩ := h
  exact ⟨es, clock, (hb.block _ hlt).trans h1, F, h2, h3⟩
theorem LAt.ne {w : World} {d bm n : Nat} {M : Lrn.Map} {t : Nat} {G : Nat → Prop} (h : LAt w d bm n M t G) : d ≠ bm := by
  obtain ⟨D, ⟨es, clock, h1, _⟩, _⟩ := h.map
  intro e
  subst e
  rw [h.blk] at h1
  cases h1
theorem LAt.lt {w : World} {d bm n : Nat} {M : Lrn.Map} {t : Nat} {G : Nat → Prop} (h : LAt w d bm n M t G) : d < w.heap.size ∧ bm < w.heap.size := by
  obtain ⟨D, hD, _⟩ := h.map
  exact ⟨blk_lt h.blk, hD.lt⟩
theorem LAt.mono {w : World} {d bm n n' : Nat} {M : Lrn.Map} {t : Nat} {G : Nat → Prop} (h : LAt w d bm n M t G) (hn : n ≤ n') : LAt w d bm n' M t G := by
  obtain ⟨D, h1, h2⟩ := h.map
  exact ⟨h.blk, h.fine, ⟨D, h1.mono hn, h2⟩, h.done, h.le⟩
/-- Whatever writes neither, nor what the entries lead to. -/
theorem LAt.grown {w w' : World} {d bm n : Nat} {M : Lrn.Map} {t : Nat} {G G' : Nat → Prop} {row : Option Nat} (h : LAt w d bm n M t G) (hg : w.grownBy w' row) (h1 : some d ≠ row) (h2 : some bm ≠ row) (h3 : ∀ r, row = some r → G r) (h4 : ∀ g, G' g → G g ∨ w.heap.size ≤ g) : LAt w' d bm n M t G' := by
  obtain ⟨D, hD, hT, hE⟩ := h.map
  refine ⟨(hg.block _ h.lt.1 h1).trans h.blk, h.fine, ⟨D, hD.kept hg h2, hT, fun k hk => ?_⟩, h.done, h.le⟩
  obtain ⟨e1, A, c, e2, e3, e4, e5, e6⟩ := hE k hk
  refine ⟨e1, A, c, e2, e3.grown hg (fun b off he hr => ?_), e4, e5, fun a ha => ⟨(e6 a ha).1, (e6 a ha).2.1, ?_, Nat.lt_of_lt_of_le (e6 a ha).2.2.2 hg.size⟩⟩
  · exact (e6 _ he).2.2.1 (h3 _ hr.symm)
  · intro hg'
    rcases h4 _ hg' with h | h
    · exact (e6 a ha).2.2.1 h
    · have := (e6 a ha).2.2.2; omega
theorem grown_below {w w' : World} (hb : Below w.heap.size w w') : w.grownBy w' none := ⟨hb.os, hb.tape, hb.output, hb.size, fun i hi _ => hb.block i hi⟩
theorem LAt.below {w w' : World} {d bm n : Nat} {M : Lrn.Map} {t : Nat} {G : Nat → Prop} (h : LAt w d bm n M t G) (hb : Below w.heap.size w w') : LAt w' d bm n M t G :=
  h.grown (grown_below hb) (by simp) (by simp) (fun r hr => by cases hr) (fun g hg => .inl hg)
theorem LAt.less {w : World} {d bm n : Nat} {M : Lrn.Map} {t : Nat} {G G' : Nat → Prop} (h : LAt w d bm n M t G) (h4 : ∀ g, G' g → G g) : LAt w d bm n M t G' :=
  h.grown (World.grownBy.refl w none) (by simp) (by simp) (fun r hr => by cases hr) (fun g hg => .inl (h4 g hg))
theorem LAt.cells {w : World} {d bm n : Nat} {M : Lrn.Map} {t : Nat} {G : Nat → Prop} (h : LAt w d bm n M t G) : w.cell? ⟨d, 0, none⟩ = some (.map (some bm)) ∧ w.cell? ⟨d, 1, none⟩ = some (.int .i64 (t : Int)) := two_at h.blk
theorem LAt.live {w : World} {d bm n : Nat} {M : Lrn.Map} {t : Nat} {G : Nat → Prop} (h : LAt w d bm n M t G) : w.frozen? ⟨d, 0, none⟩ = false ∧ w.frozen? ⟨d, 1, none⟩ = false := two_live h.blk
theorem Entry.below {w w' : World} {d bm : Nat} {G : Nat → Prop} {D : DataW Value} {k : Int} {r : Option (List Int)} (h : Entry w d bm G D k r) (hb : Below w.heap.size w w') : Entry w' d bm G D k r := by
  obtain ⟨e1, A, c, e2, e3, e4, e5, e6⟩ := h
  exact ⟨e1, A, c, e2, e3.below hb, e4, e5, fun a ha => ⟨(e6 a ha).1, (e6 a ha).2.1, (e6 a ha).2.2.1, Nat.lt_of_lt_of_le (e6 a ha).2.2.2 hb.size⟩⟩
/-- The store of a slot that isn't decided. -/
theorem LAt.stored {w w' : World} {d bm n : Nat} {M : Lrn.Map} {t : Nat} {G : Nat → Prop} (h : LAt w d bm n M t G) (hg : w.grownBy w' (some bm)) {k : Int} (hk : 0 ≤ k ∧ k ≤ 4095) {D : DataW Value} (hT : Maps.Tidy D) (hE : ∀ k : Int, (Lit.int .i64 k).wf = true → Entry w d bm G D k (M k))
    {A : Option Addr} {xs : List Int} {m c : Nat} (hm : xs.length = m) (hl : m ≤ 2048) (hx : okRow xs) (hR : Reads w' A (bys xs)) (hA : ∀ a, A = some a → a.block ≠ d ∧ a.block ≠ bm ∧ ¬ G a.block ∧ a.block < w'.heap.size)
    (ho : w'.ownsMap Try.prog 3 RV bm (n + 1) (D.put (.int .i64 k) (.held (.slice A m c)))) : LAt w' d bm (n + 1) (Lrn.put M k xs) t G := by
  have hkw : (Lit.int .i64 k).wf = true := WalkArith.wf_i64 (by omega)
  have hkl : WideAt.IsKeyLit (.int .i64 k) := trivial
  refine ⟨(hg.block _ h.lt.1 (by have := h.ne; simpa using this)).trans h.blk, Lrn.fine_put h.fine hk xs, ⟨_, ho, ho.tidy lawI, fun j hj => ?_⟩, fun j hj => ?_, h.le⟩
  · by_cases e : j = k
    · subst e
      subst hm
      have e1 : Lrn.put M j xs j = some xs := by simp [Lrn.put]
      rw [e1]
      exact ⟨by rw [Maps.has_put_same hT.isMap hkl]; rfl, A, c, by rw [Maps.atKey_put_same hT.isMap hkl]; rfl, hR, hl, hx, hA⟩
    · have e1 : Lrn.put M k xs j = M j := by simp [Lrn.put, e]
      rw [e1]
      obtain ⟨g1, B, q, g2, g3, g4, g5, g6⟩ := hE j hj
      have hne : (Lit.int .i64 j) ≠ (Lit.int .i64 k) := fun h => by injection h with _ h; exact e h
      refine ⟨by rw [Maps.has_put_other hne]; exact g1, B, q, by rw [Maps.atKey_put_other hne]; exact g2, g3.grown hg (fun b off he hr => ?_), g4, g5, fun a ha => ⟨(g6 a ha).1, (g6 a ha).2.1, (g6 a ha).2.2.1, Nat.lt_of_lt_of_le (g6 a ha).2.2.2 hg.size⟩⟩
      injection hr with hr
      exact (g6 _ he).2.1 hr
  · unfold Lrn.put
    split
    · rfl
    · exact h.done j hj
/-- How many were taken is written. -/
theorem LAt.took {w : World} {d bm n : Nat} {M : Lrn.Map} {t : Nat} {G : Nat → Prop} (h : LAt w d bm n M t G) {t' : Nat} (hd : ∀ j : Nat, j < t' → (M j).isSome = true) (hl : t' ≤ 4096) : LAt (w.setCell ⟨d, 1, none⟩ (.int .i64 (t' : Int))) d bm n M t' G := by
  obtain ⟨D, hD, hT, hE⟩ := h.map
  refine ⟨two_put1 h.blk _, h.fine, ⟨D, hD.setCell (a := ⟨d, 1, none⟩) (Ne.symm h.ne) _, hT, fun k hk => ?_⟩, hd, hl⟩
  obtain ⟨e1, A, c, e2, e3, e4, e5, e6⟩ := hE k hk
  exact ⟨e1, A, c, e2, e3.keepset _ _ _ (fun a ha => (e6 a ha).1), e4, e5, fun a ha => ⟨(e6 a ha).1, (e6 a ha).2.1, (e6 a ha).2.2.1, by simpa [World.setCell] using (e6 a ha).2.2.2⟩⟩
end Go.Proofs.Ytodlabpgjgbbpae
