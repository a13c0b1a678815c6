/-
  append onto a row of the call's own, whatever slice is appended (nil, empty or not), with the value's own form told. Over any program.
-/
import Derived.Test.YtodlabpgjgbbpahWords
import Derived.Maps.AppendAt
import Derived.OwnWalk
import Derived.Laws.OwnMore
namespace Go.Agio
open Go.RowKit

theorem Reads.of_own {w : World} {base : Nat} {e : TypeId} {A : Option Addr} {n c : Nat} {xs : List Value} (h : w.ownsRow base e 1 (.slice A n c) n xs) : Reads w A xs := by
  rcases h.2 with ⟨he, hn⟩ | ⟨g, cap, cur, he, _, hh, _, _, hcs, htake⟩
  · left
    have := h.1
    rw [hn] at this
    exact List.eq_nil_of_length_eq_zero (by simpa using this)
  · right
    have hlt : g < w.heap.size := by
      rcases Nat.lt_or_ge g w.heap.size with hlt | hge
      · exact hlt
      · rw [Array.getElem?_eq_none hge] at hh; cases hh
    have hA : A = some ⟨g, 0, none⟩ := by injection he
    refine ⟨g, 0, hA, hlt, fun i hi => ?_⟩
    subst hA
    have hc := h.cells (g := g) rfl i xs[i] (List.getElem?_eq_getElem hi)
    rw [WideShapes.add_plain] at hc
    rw [hc]
    simp [List.getD_eq_getElem?_getD, hi]

/-- The form of an owned value. -/
theorem own_form {w : World} {base : Nat} {e : TypeId} {v : Value} {n : Nat} {xs : List Value} (h : w.ownsRow base e 1 v n xs) : ∃ A c, v = .slice A n c := by
  rcases h.2 with ⟨rfl, rfl⟩ | ⟨g, cap, cur, rfl, _⟩
  · exact ⟨_, _, rfl⟩
  · exact ⟨_, _, rfl⟩

theorem Reads.grown {w w' : World} {A : Option Addr} {xs : List Value} {row : Option Nat} (h : Reads w A xs) (hg : w.grownBy w' row) (hne : ∀ b off, A = some ⟨b, off, none⟩ → some b ≠ row) : Reads w' A xs := by
  rcases h with rfl | ⟨b, off, rfl, hb, hc⟩
  · exact .inl rfl
  · right
    refine ⟨b, off, rfl, Nat.lt_of_lt_of_le hb hg.size, fun i hi => ?_⟩
    rw [World.cell?_of_block (w := w) (hg.block b hb (hne b off rfl))]
    exact hc i hi

section
variable {P : Program}

theorem run_append_reads (w : World) (base : Nat) (t ty e : TypeId) (i : TypeInfo) (z : Value) (bytes : Nat) (ht : P.underlying t = some (.slice e)) (hi : P.info? e = some i) (hz : i.zero = some z)
    (hsize : i.size = 1) (hby : i.bytes = bytes) (hzs : z.cells.size = 1)
    (v : Value) (n : Nat) (xs : List Value) (hown : w.ownsRow base e 1 v n xs)
    (A : Option Addr) (m c : Nat) (news : List Value) (hR : Reads w A news) (hm : news.length = m) (h1 : ∀ u ∈ news, u.oneCell' = true)
    (h63 : n + m ≤ maxLen) (hbytes : (n + m) * bytes ≤ 140737488355328) (hbase : base ≤ w.heap.size) :
    ∃ A' c' w', (Builtin.append_ #[t, t] ty #[v, .slice A m c]).run P w = .ok (.slice A' (n + m) c') w' ∧ w'.ownsRow base e 1 (.slice A' (n + m) c') (n + m) (xs ++ news) ∧ w.grownBy w' v.ownBlock ∧
      (Value.ownBlock (.slice A' (n + m) c') = v.ownBlock ∨ Value.ownBlock (.slice A' (n + m) c') = some w.heap.size) := by
  rcases A with _ | ad
  · have hnil : news = [] := by
      rcases hR with h | ⟨b, off, h, _⟩
      · exact h
      · cases h
    subst hnil
    simp at hm
    subst hm
    obtain ⟨A', c', rfl⟩ := own_form hown
    refine ⟨A', c', w, ?_, by simpa using hown, World.grownBy.refl w _, .inl rfl⟩
    rcases hown.2 with ⟨he, _⟩ | ⟨g, cap, cur, he, _, _, hnc, _⟩
    · injection he with e1 e2 e3
      subst e1 e2 e3
      simp [Builtin.append_, run_underlying ht, sizeOf, typeInfo, hi, Builtin.lenOf, Builtin.firstCells]
    · injection he with e1 _ e3
      subst e1 e3
      simp [Builtin.append_, run_underlying ht, sizeOf, typeInfo, hi, Builtin.lenOf, Builtin.firstCells, hnc, storeCells]
  · have hnews : ∀ j u, news[j]? = some u → w.cell? (ad.add j) = some u := by
      intro j u hj
      rcases hR with rfl | ⟨b, off, he, _, hc⟩
      · simp at hj
      · injection he with he
        subst he
        have hlt : j < news.length := by
          rcases Nat.lt_or_ge j news.length with h | h
          · exact h
          · rw [List.getElem?_eq_none h] at hj; cases hj
        rw [WideShapes.add_plain, hc j hlt]
        rw [List.getElem?_eq_getElem hlt] at hj
        injection hj with hj
        simp [List.getD_eq_getElem?_getD, hlt, hj]
    obtain ⟨v', w', hr, h2, h3, _, h5⟩ := run_append_own_at (P := P) w base t ty e i z 1 bytes ht hi hz hsize hby hzs (by omega) v n xs hown ad m c news (by omega) hnews h1 h63 hbytes hbase
    obtain ⟨A', c', rfl⟩ := own_form h2
    exact ⟨A', c', w', hr, h2, h3, h5⟩

/-- At the operation, for the walk. -/
theorem wpList_append_reads {w : World} {ops : Array Oper} {rest : List Oper} {o : Oper} {a : Act} {Q : Exit → Act → World → Prop} (hgd : Region.wanted o (yielded ops a.tmps) = true) (s x : Operand) (t : TypeId)
    (ho : o.op = .call { callee := .builtin .append, args := #[s, x], argTypes := #[t, t] })
    (base : Nat) (e : TypeId) (i : TypeInfo) (z : Value) (bytes : Nat) (ht : P.underlying t = some (.slice e)) (hi : P.info? e = some i) (hz : i.zero = some z)
    (hsize : i.size = 1) (hby : i.bytes = bytes) (hzs : z.cells.size = 1)
    (v : Value) (n : Nat) (xs : List Value) (hs : a.eval s = v) (hown : w.ownsRow base e 1 v n xs)
    (A : Option Addr) (m c : Nat) (news : List Value) (hx : a.eval x = .slice A m c) (hR : Reads w A news) (hm : news.length = m) (h1 : ∀ u ∈ news, u.oneCell' = true)
    (h63 : n + m ≤ maxLen) (hbytes : (n + m) * bytes ≤ 140737488355328) (hbase : base ≤ w.heap.size)
    (h : ∀ A' c' w', w'.ownsRow base e 1 (.slice A' (n + m) c') (n + m) (xs ++ news) → w.grownBy w' v.ownBlock →
      (Value.ownBlock (.slice A' (n + m) c') = v.ownBlock ∨ Value.ownBlock (.slice A' (n + m) c') = some w.heap.size) → wpList P ops Q rest (a.put o.dst (.slice A' (n + m) c')) w') :
    wpList P ops Q (o :: rest) a w := by
  refine wpList_step fun K hK => ?_
  rw [if_pos hgd]
  obtain ⟨A', c', w', hr, h2, h3, h5⟩ := run_append_reads (P := P) w base t o.type e i z bytes ht hi hz hsize hby hzs v n xs hown A m c news hR hm h1 h63 hbytes hbase
  unfold Oper.wp execOp
  simp only [ho, resolve, invoke, builtin, Sem.run_bind, Sem.run_pure, Result.andThen_ok, List.map_toArray, List.map_cons, List.map_nil, hs, hx, hr]
  exact hK _ _ (h A' c' w' h2 h3 h5)
end

theorem one_one (v : Value) (h : v.oneCell' = true) : ∀ u ∈ [v], u.oneCell' = true := by
  intro u hu
  simp at hu
  subst hu
  exact h
theorem ints_one (k : IntKind) (zs : List Int) : ∀ u ∈ zs.map (Value.int k), u.oneCell' = true := by
  intro u hu
  obtain ⟨z, _, rfl⟩ := List.mem_map.1 hu
  rfl

/-- A new row is the call's own. -/
theorem own_new (w : World) (base : Nat) (e : TypeId) (C : List Value) (n : Nat) (hb : base ≤ w.heap.size) (hn : C.length = n) (hm : n ≤ maxLen) :
    (w.alloc (.cells C.toArray e)).ownsRow base e 1 (.slice (some ⟨w.heap.size, 0, none⟩) n n) n C := by
  have := World.ownsRow_lit (e := e) (size := 1) w C.toArray n hb hm (by simpa using hn)
  simpa using this

/-- Two values that own no block in common. -/
def Apart (u v : Value) : Prop := ∀ g, u.ownBlock = some g → v.ownBlock ≠ some g
theorem Apart.symm {u v : Value} (h : Apart u v) : Apart v u := fun g hv hu => h g hu hv
theorem apart_nil (u : Value) : Apart (.slice none 0 0) u := fun g h => by cases h

/-- Behind an append onto v another row is owned as it was, and lies apart from what v has become. -/
theorem own_aside {w w' : World} {base e n m : Nat} {u v v' : Value} {xs : List Value} (hu : w.ownsRow base e 1 u m xs) (ha : Apart u v) (hg : w.grownBy w' v.ownBlock) (hat : v'.ownBlock = v.ownBlock ∨ v'.ownBlock = some n) (hn : w.heap.size ≤ n) :
    w'.ownsRow base e 1 u m xs ∧ Apart u v' := by
  refine ⟨hu.kept hg ?_, fun g h1 h2 => ?_⟩
  · cases ho : u.ownBlock with
    | none => exact .inl rfl
    | some g => exact .inr fun h => ha g ho h.symm
  · rcases hat with h | h
    · exact ha g h1 (h ▸ h2)
    · have := (hu.lt g h1).2
      rw [h] at h2
      injection h2 with h2
      omega

/-- .. stays where another row is appended to. -/
theorem blk_grown {w0 w w' : World} {m base n : Nat} {e : TypeId} {o : Obj} {v : Value} {xs : List Value} (h : w.heap[m]? = some o) (hv : w0.ownsRow base e 1 v n xs) (hm : w0.heap.size ≤ m) (hg : w.grownBy w' v.ownBlock) : w'.heap[m]? = some o :=
  (hg.block m (blk_lt h) (fun he => by have := (hv.lt m he.symm).2; omega)).trans h
/-- A block of another element type is no row's. -/
theorem blk_other {w w' : World} {m base n : Nat} {e t : TypeId} {C : Array Value} {fr : Nat × Nat} {v : Value} {xs : List Value} (h : w.heap[m]? = some (.cells C t fr)) (hv : w.ownsRow base e 1 v n xs) (hne : e ≠ t) (hg : w.grownBy w' v.ownBlock) :
    w'.heap[m]? = some (.cells C t fr) := by
  refine (hg.block m (blk_lt h) (fun he => ?_)).trans h
  rcases hv.2 with ⟨rfl, _⟩ | ⟨g, cap, cur, rfl, _, hh, _⟩
  · cases he
  · have : m = g := by simpa [Value.ownBlock] using he
    subst this
    rw [h] at hh
    injection hh with hh
    injection hh with _ h2
    exact hne h2.symm
end Go.Agio
