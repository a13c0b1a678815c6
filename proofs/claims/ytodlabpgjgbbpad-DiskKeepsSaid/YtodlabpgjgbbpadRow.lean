/-
  A row of cells that is the call's own, or that has no room left: an append onto it writes over nothing but its own. Over any program.
-/
import Derived.Test.YtodlabpgjgbbpadWords
import Derived.Test.YtodlabpgjgbbpadAppend
import Derived.ArgAppend
namespace Go.Agio
open Go.RowKit

/-- A row: the call's own, or full (its block may be longer). -/
def Rowed (w : World) (base : Nat) (e : TypeId) (A : Option Addr) (n c : Nat) (xs : List Value) : Prop :=
  w.ownsRow base e 1 (.slice A n c) n xs ∨ (c = n ∧ xs.length = n ∧ ∃ b off, A = some ⟨b, off, none⟩ ∧ base ≤ b ∧ b < w.heap.size ∧ ∀ i, i < xs.length → w.cell? ⟨b, off + i, none⟩ = some (xs.getD i undef))

theorem Rowed.reads {w : World} {base : Nat} {e : TypeId} {A : Option Addr} {n c : Nat} {xs : List Value} (h : Rowed w base e A n c xs) : Reads w A xs := by
  rcases h with h | ⟨_, _, b, off, h1, _, h2, h3⟩
  · exact Reads.of_own h
  · exact .inr ⟨b, off, h1, h2, h3⟩
theorem Rowed.length {w : World} {base : Nat} {e : TypeId} {A : Option Addr} {n c : Nat} {xs : List Value} (h : Rowed w base e A n c xs) : xs.length = n := by
  rcases h with h | h
  · have := h.1; omega
  · exact h.2.1
theorem Rowed.low {w : World} {base : Nat} {e : TypeId} {A : Option Addr} {n c : Nat} {xs : List Value} (h : Rowed w base e A n c xs) : ∀ a, A = some a → base ≤ a.block ∧ a.block < w.heap.size := by
  rcases h with h | ⟨_, _, b, off, h1, h2, h3, _⟩
  · intro a ha
    subst ha
    exact h.lt a.block rfl
  · intro a ha
    rw [h1] at ha
    injection ha with ha
    subst ha
    exact ⟨h2, h3⟩
theorem Rowed.nil (w : World) (base : Nat) (e : TypeId) : Rowed w base e none 0 0 [] := .inl (World.ownsRow_nil w base e 1)
theorem Rowed.cap {w : World} {base : Nat} {e : TypeId} {A : Option Addr} {n c : Nat} {xs : List Value} (h : Rowed w base e A n c xs) : n ≤ c := by
  rcases h with h | h
  · rcases h.2 with ⟨he, h0⟩ | ⟨g, cap, cur, he, _, _, hnc, _⟩
    · omega
    · injection he with _ _ he
      omega
  · omega

/-- The first n cells alone, the capacity cut too. -/
theorem Rowed.first {w : World} {base : Nat} {e : TypeId} {A : Option Addr} {n c : Nat} {xs : List Value} (h : Rowed w base e A n c xs) (k : Nat) (hk : k ≤ n) : Rowed w base e A k k (xs.take k) := by
  have hl := h.length
  have hR := h.reads.take k
  rcases A with _ | a
  · have h0 : xs.take k = [] := by
      rcases hR with h0 | ⟨b, off, he, _⟩
      · exact h0
      · cases he
    have hk0 : k = 0 := by
      have := congrArg List.length h0
      rw [List.length_take] at this
      simp at this
      rcases this with h1 | h1
      · exact h1
      · rw [h1] at hl; simp at hl; omega
    rw [h0, hk0]
    exact Rowed.nil _ _ _
  · obtain ⟨b, off, hf⟩ : ∃ b off, a = ⟨b, off, none⟩ := by
      rcases h with h | ⟨_, _, b, off, h1, _⟩
      · rcases h.2 with ⟨he, _⟩ | ⟨g, _, _, he, _⟩
        · cases he
        · injection he with he; injection he with he; exact ⟨g, 0, he⟩
      · injection h1 with h1; exact ⟨b, off, h1⟩
    subst hf
    have hlow := h.low _ rfl
    refine .inr ⟨rfl, by rw [List.length_take]; omega, b, off, rfl, hlow.1, hlow.2, fun i hi => ?_⟩
    rcases hR with h0 | ⟨b', off', he, _, hc⟩
    · rw [h0] at hi; simp at hi
    · injection he with he
      injection he with e1 e2
      subst e1 e2
      exact hc i hi

/-- What happens elsewhere leaves a row as it is. -/
theorem Rowed.same {w w' : World} {base : Nat} {e : TypeId} {A : Option Addr} {n c : Nat} {xs : List Value} (h : Rowed w base e A n c xs) (hs : w.heap.size ≤ w'.heap.size) (hk : ∀ a : Addr, A = some a → w'.heap[a.block]? = w.heap[a.block]?) : Rowed w' base e A n c xs := by
  rcases h with h | ⟨h1, h2, b, off, rfl, h4, h5, h6⟩
  · left
    refine ⟨h.1, ?_⟩
    rcases h.2 with h2 | ⟨g, cap, cur, he, hb, hh, r⟩
    · exact .inl h2
    · right
      refine ⟨g, cap, cur, he, hb, ?_, r⟩
      injection he with he
      rw [hk _ he]
      exact hh
  · right
    refine ⟨h1, h2, b, off, rfl, h4, Nat.lt_of_lt_of_le h5 hs, fun i hi => ?_⟩
    rw [World.cell?_of_block (w := w) (a := ⟨b, off + i, none⟩) (hk ⟨b, off, none⟩ rfl)]
    exact h6 i hi

section
variable {P : Program}

theorem run_append_none (w : World) (t ty e : TypeId) (i : TypeInfo) (ht : P.underlying t = some (.slice e)) (hi : P.info? e = some i) (b : Nat) (off n cap : Nat) (B : Option Addr) (c : Nat) (hnc : n ≤ cap) :
    (Builtin.append_ #[t, t] ty #[.slice (some ⟨b, off, none⟩) n cap, .slice B 0 c]).run P w = .ok (.slice (some ⟨b, off, none⟩) n cap) w := by
  rcases B with _ | B
  · simp [Builtin.append_, run_underlying ht, sizeOf, typeInfo, hi, Builtin.lenOf, Builtin.firstCells, hnc, storeCells]
  · have := run_append_room_cells (P := P) w t ty e i ht hi b off n cap B 0 c [] (by simp) (by simp) (by simp) (by omega) (by simp) (by simp)
    simpa [World.setCells] using this

theorem run_append_rowed (w : World) (base : Nat) (t ty e : TypeId) (i : TypeInfo) (z : Value) (bytes : Nat) (ht : P.underlying t = some (.slice e)) (hi : P.info? e = some i) (hz : i.zero = some z)
    (hsize : i.size = 1) (hby : i.bytes = bytes) (hzs : z.cells.size = 1)
    (A : Option Addr) (n cap : Nat) (xs : List Value) (hown : Rowed w base e A n cap xs)
    (B : Option Addr) (m c : Nat) (news : List Value) (hR : Reads w B news) (hm : news.length = m) (h1 : ∀ u ∈ news, u.oneCell' = true)
    (h63 : n + m ≤ maxLen) (hbytes : (n + m) * bytes ≤ 140737488355328) (hbase : base ≤ w.heap.size) :
    ∃ A' c' w', (Builtin.append_ #[t, t] ty #[.slice A n cap, .slice B m c]).run P w = .ok (.slice A' (n + m) c') w' ∧ Rowed w' base e A' (n + m) c' (xs ++ news) ∧ w.grownBy w' (Value.ownBlock (.slice A n cap)) ∧
      (∀ a, A' = some a → (∃ a0, A = some a0 ∧ a.block = a0.block) ∨ w.heap.size ≤ a.block) := by
  rcases hown with hown | ⟨hc, hl, b, off, rfl, hlow, hlt, hX⟩
  · obtain ⟨A', c', w', r1, r2, r3, r4⟩ := run_append_reads (P := P) w base t ty e i z bytes ht hi hz hsize hby hzs _ n xs hown B m c news hR hm h1 h63 hbytes hbase
    refine ⟨A', c', w', r1, .inl r2, r3, ?_⟩
    rintro a rfl
    rcases r4 with h | h
    · left
      cases A with
      | none => cases h
      | some a0 => injection h with h; exact ⟨a0, rfl, h⟩
    · right
      injection h with h
      omega
  · subst hc
    by_cases h0 : m = 0
    · subst h0
      have hn : news = [] := List.eq_nil_of_length_eq_zero hm
      subst hn
      exact ⟨_, _, w, run_append_none (P := P) w t ty e i ht hi b off cap cap B c (Nat.le_refl _), .inr ⟨rfl, by simpa using hl, b, off, rfl, hlow, hlt, by simpa using hX⟩, World.grownBy.refl w _, fun a ha => .inl ⟨a, ha, rfl⟩⟩
    · rcases hR with rfl | ⟨b', off', rfl, hb', hc'⟩
      · simp at hm; omega
      · obtain ⟨v', w', r1, r2, r3⟩ := run_append_arg_grows (P := P) w t ty e i z 1 bytes ht hi hz hsize hby hzs (by omega) ⟨b, off, none⟩ cap cap xs (by omega)
          (fun j u hj => by
            have hj' := (List.getElem?_eq_some_iff.1 hj).1
            rw [WideShapes.add_plain, hX j hj']
            rw [List.getElem?_eq_getElem hj'] at hj
            injection hj with hj
            simp [List.getD_eq_getElem?_getD, hj', hj])
          ⟨b', off', none⟩ m c news (by omega)
          (fun j u hj => by
            have hj' := (List.getElem?_eq_some_iff.1 hj).1
            rw [WideShapes.add_plain, hc' j hj']
            rw [List.getElem?_eq_getElem hj'] at hj
            injection hj with hj
            simp [List.getD_eq_getElem?_getD, hj', hj])
          (by omega) h63 hbytes
        obtain ⟨A', c', rfl⟩ := own_form r2
        refine ⟨A', c', w', r1, .inl ?_, ⟨r3.os, r3.tape, r3.output, r3.size, fun k hk _ => r3.block k hk (by simp)⟩, ?_⟩
        · refine ⟨r2.1, ?_⟩
          rcases r2.2 with h | ⟨g, cap', cur, he, hg, r⟩
          · exact .inl h
          · exact .inr ⟨g, cap', cur, he, Nat.le_trans hbase hg, r⟩
        · rintro a rfl
          exact .inr (r2.lt a.block rfl).1

/-- At the operation, for the walk. -/
theorem wpList_append_rowed {w : World} {ops : Array Oper} {rest : List Oper} {o : Oper} {a : Act} {Q : Exit → Act → World → Prop} (hgd : Region.wanted o (yielded ops a.tmps) = true) (s x : Operand) (t : TypeId)
    (ho : o.op = .call { callee := .builtin .append, args := #[s, x], argTypes := #[t, t] })
    (base : Nat) (e : TypeId) (i : TypeInfo) (z : Value) (bytes : Nat) (ht : P.underlying t = some (.slice e)) (hi : P.info? e = some i) (hz : i.zero = some z)
    (hsize : i.size = 1) (hby : i.bytes = bytes) (hzs : z.cells.size = 1)
    (A : Option Addr) (n cap : Nat) (xs : List Value) (hs : a.eval s = .slice A n cap) (hown : Rowed w base e A n cap xs)
    (B : Option Addr) (m c : Nat) (news : List Value) (hx : a.eval x = .slice B m c) (hR : Reads w B news) (hm : news.length = m) (h1 : ∀ u ∈ news, u.oneCell' = true)
    (h63 : n + m ≤ maxLen) (hbytes : (n + m) * bytes ≤ 140737488355328) (hbase : base ≤ w.heap.size)
    (h : ∀ A' c' w', Rowed w' base e A' (n + m) c' (xs ++ news) → w.grownBy w' (Value.ownBlock (.slice A n cap)) →
      (∀ a, A' = some a → (∃ a0, A = some a0 ∧ a.block = a0.block) ∨ w.heap.size ≤ a.block) → wpList P ops Q rest (a.put o.dst (.slice A' (n + m) c')) w') :
    wpList P ops Q (o :: rest) a w := by
  refine wpList_step fun K hK => ?_
  rw [if_pos hgd]
  obtain ⟨A', c', w', hr, h2, h3, h5⟩ := run_append_rowed (P := P) w base t o.type e i z bytes ht hi hz hsize hby hzs A n cap xs hown B m c news hR hm h1 h63 hbytes hbase
  unfold Oper.wp execOp
  simp only [ho, resolve, invoke, builtin, Sem.run_bind, Sem.run_pure, Result.andThen_ok, List.map_toArray, List.map_cons, List.map_nil, hs, hx, hr]
  exact hK _ _ (h A' c' w' h2 h3 h5)

end

/-- Two cells of a block, written one at a time. -/
theorem two_set0 {w : World} {d : Nat} {x y : Value} {t : TypeId} (h : w.heap[d]? = some (.cells #[x, y] t)) (u : Value) : (w.setCell ⟨d, 0, none⟩ u).heap[d]? = some (.cells #[u, y] t) := by
  simp [World.setCell, Array.getElem?_modify, h]
theorem two_set1 {w : World} {d : Nat} {x y : Value} {t : TypeId} (h : w.heap[d]? = some (.cells #[x, y] t)) (u : Value) : (w.setCell ⟨d, 1, none⟩ u).heap[d]? = some (.cells #[x, u] t) := by
  simp [World.setCell, Array.getElem?_modify, h]

theorem live_blk {w : World} {d : Nat} {C : Array Value} {t : TypeId} (h : w.heap[d]? = some (.cells C t)) (j : Nat) : w.frozen? ⟨d, j, none⟩ = false := by
  simp [World.frozen?, h]

/-- What an object of two cells, the first of them a row's slice, may do to memory. -/
structure Moved (d : Nat) (A A' : Option Addr) (w w' : World) : Prop where
  os : w'.os = w.os
  tape : w'.tape = w.tape
  output : w'.output = w.output
  size : w.heap.size ≤ w'.heap.size
  rest : ∀ j, j < w.heap.size → j ≠ d → (∀ a, A = some a → j ≠ a.block) → w'.heap[j]? = w.heap[j]?
  next : ∀ a, A' = some a → (∃ a0, A = some a0 ∧ a.block = a0.block) ∨ w.heap.size ≤ a.block

theorem Moved.refl (d : Nat) (A : Option Addr) (w : World) : Moved d A A w w := ⟨rfl, rfl, rfl, Nat.le_refl _, fun _ _ _ _ => rfl, fun a h => .inl ⟨a, h, rfl⟩⟩
theorem Moved.trans {d : Nat} {A B C : Option Addr} {u v w : World} (h : Moved d A B u v) (k : Moved d B C v w) : Moved d A C u w :=
  ⟨k.os.trans h.os, k.tape.trans h.tape, k.output.trans h.output, Nat.le_trans h.size k.size,
    fun j hj h1 h2 => (k.rest j (Nat.lt_of_lt_of_le hj h.size) h1 (fun a ha he => by
      rcases h.next a ha with ⟨a0, h3, h4⟩ | h3
      · exact h2 a0 h3 (he.trans h4)
      · omega)).trans (h.rest j hj h1 h2),
    fun a ha => by
      rcases k.next a ha with ⟨a0, h3, h4⟩ | h3
      · rcases h.next a0 h3 with ⟨a1, h5, h6⟩ | h5
        · exact .inl ⟨a1, h5, h4.trans h6⟩
        · exact .inr (by omega)
      · exact .inr (Nat.le_trans h.size h3)⟩
theorem Moved.set {d : Nat} {A B : Option Addr} {u v : World} (h : Moved d A B u v) (o : Nat) (x : Value) : Moved d A B u (v.setCell ⟨d, o, none⟩ x) :=
  ⟨h.os, h.tape, h.output, by simpa [World.setCell] using h.size, fun j hj h1 h2 => (Below.heap_setCell v _ x j h1).trans (h.rest j hj h1 h2), h.next⟩
theorem Moved.of_below {d : Nat} {A : Option Addr} {u v : World} (h : Below u.heap.size u v) : Moved d A A u v :=
  ⟨h.os, h.tape, h.output, h.size, fun j hj _ _ => h.block j hj, fun a ha => .inl ⟨a, ha, rfl⟩⟩
theorem Moved.of_grown {d : Nat} {A A' : Option Addr} {u v : World} {n c : Nat} (h : u.grownBy v (Value.ownBlock (.slice A n c))) (ht : ∀ a, A' = some a → (∃ a0, A = some a0 ∧ a.block = a0.block) ∨ u.heap.size ≤ a.block) : Moved d A A' u v :=
  ⟨h.os, h.tape, h.output, h.size, fun j hj _ h2 => h.block j hj (fun he => by
    cases A with
    | none => cases he
    | some a => injection he with he; exact h2 a rfl he), ht⟩
theorem apart_next {d : Nat} {A A' : Option Addr} {u : World} (h : ∀ a, A = some a → a.block ≠ d) (ht : ∀ a, A' = some a → (∃ a0, A = some a0 ∧ a.block = a0.block) ∨ u.heap.size ≤ a.block) (hd : d < u.heap.size) : ∀ a, A' = some a → a.block ≠ d := by
  intro a ha
  rcases ht a ha with ⟨a0, h1, h2⟩ | h1
  · rw [h2]; exact h a0 h1
  · omega
theorem Moved.below {d B : Nat} {A A' : Option Addr} {w0 u v : World} (h : Moved d A A' u v) (hb : Below B w0 u) (hd : B ≤ d) (hA : ∀ a, A = some a → B ≤ a.block) (hs : B ≤ u.heap.size) : Below B w0 v :=
  hb.trans ⟨h.os, h.tape, h.output, h.size, fun j hj => h.rest j (by omega) (by omega) (fun a ha => by have := hA a ha; omega)⟩
theorem Moved.reads {d : Nat} {A A' : Option Addr} {u v : World} (h : Moved d A A' u v) {R : Option Addr} {xs : List Value} (hR : Reads u R xs) (hd : ∀ a, R = some a → a.block ≠ d) (hA : ∀ a b, R = some a → A = some b → a.block ≠ b.block) : Reads v R xs := by
  rcases hR with hR | ⟨b, off, rfl, hb, hc⟩
  · exact .inl hR
  · refine .inr ⟨b, off, rfl, Nat.lt_of_lt_of_le hb h.size, fun i hi => ?_⟩
    rw [World.cell?_of_block (w := u) (h.rest b hb (hd _ rfl) (fun a ha => hA _ a rfl ha))]
    exact hc i hi

end Go.Agio
