/-
  append of elements of several cells, whatever slice is appended. Over any program.
-/
import Derived.Test.YtodlabpgjgbbpahAppend
import Derived.RegionTactic
namespace Go.Agio
open Go.RowKit
variable {P : Program}
theorem own_formw {w : World} {base size : Nat} {e : TypeId} {v : Value} {n : Nat} {xs : List Value} (h : w.ownsRow base e size v n xs) : ∃ A c, v = .slice A n c := by
  rcases h.2 with ⟨rfl, rfl⟩ | ⟨g, cap, cur, rfl, _⟩
  · exact ⟨_, _, rfl⟩
  · exact ⟨_, _, rfl⟩
theorem run_append_wide (w : World) (base : Nat) (t ty e : TypeId) (i : TypeInfo) (z : Value) (size bytes : Nat) (ht : P.underlying t = some (.slice e)) (hi : P.info? e = some i) (hz : i.zero = some z)
    (hsize : i.size = size) (hby : i.bytes = bytes) (hzs : z.cells.size = size) (hsz : 0 < size)
    (v : Value) (n : Nat) (xs : List Value) (hown : w.ownsRow base e size v n xs)
    (A : Option Addr) (m c : Nat) (news : List Value) (hR : Reads w A news) (hm : news.length = m * size) (h1 : ∀ u ∈ news, u.oneCell' = true)
    (h63 : n + m ≤ maxLen) (hbytes : (n + m) * bytes ≤ 140737488355328) (hbase : base ≤ w.heap.size) :
    ∃ A' c' w', (Builtin.append_ #[t, t] ty #[v, .slice A m c]).run P w = .ok (.slice A' (n + m) c') w' ∧ w'.ownsRow base e size (.slice A' (n + m) c') (n + m) (xs ++ news) ∧ w.grownBy w' v.ownBlock ∧
      (Value.ownBlock (.slice A' (n + m) c') = v.ownBlock ∨ Value.ownBlock (.slice A' (n + m) c') = some w.heap.size) := by
  rcases A with _ | ad
  · have hnil : news = [] := by
      rcases hR with h | ⟨b, off, h, _⟩
      · exact h
      · cases h
    subst hnil
    obtain rfl : m = 0 := by
      rcases Nat.eq_zero_or_pos m with h | h
      · exact h
      · have := Nat.mul_pos h hsz; simp at hm; omega
    subst hsize
    obtain ⟨A', c', rfl⟩ := own_formw hown
    refine ⟨A', c', w, ?_, by simpa using hown, World.grownBy.refl w _, .inl rfl⟩
    rcases hown.2 with ⟨he, _⟩ | ⟨g, cap, cur, he, _, _, hnc, _⟩
    · injection he with e1 e2 e3
      subst e1 e2 e3
      simp [Builtin.append_, run_underlying ht, sizeOf, typeInfo, hi, Builtin.lenOf, Builtin.firstCells]
    · injection he with e1 _ e3
      subst e1 e3
      simp [Builtin.append_, run_underlying ht, sizeOf, typeInfo, hi, Builtin.lenOf, Builtin.firstCells, hnc, storeCells]
  · have hnews : ∀ j u, news[j]? = some u → w.cell? (ad.add j) = some u := by
      intro j u hj
      rcases hR with rfl | ⟨b, off, he, _, hc⟩
      · simp at hj
      · injection he with he
        subst he
        have hlt : j < news.length := by
          rcases Nat.lt_or_ge j news.length with h | h
          · exact h
          · rw [List.getElem?_eq_none h] at hj; cases hj
        rw [WideShapes.add_plain, hc j hlt]
        rw [List.getElem?_eq_getElem hlt] at hj
        injection hj with hj
        simp [List.getD_eq_getElem?_getD, hlt, hj]
    obtain ⟨v', w', hr, h2, h3, _, h5⟩ := run_append_own_at (P := P) w base t ty e i z size bytes ht hi hz hsize hby hzs hsz v n xs hown ad m c news hm hnews h1 h63 hbytes hbase
    obtain ⟨A', c', rfl⟩ := own_formw h2
    exact ⟨A', c', w', hr, h2, h3, h5⟩
/-- At the operation, for the walk. -/
theorem wpList_append_wide {w : World} {ops : Array Oper} {rest : List Oper} {o : Oper} {a : Act} {Q : Exit → Act → World → Prop} (hgd : Region.wanted o (yielded ops a.tmps) = true) (s x : Operand) (t : TypeId)
    (ho : o.op = .call { callee := .builtin .append, args := #[s, x], argTypes := #[t, t] })
    (base : Nat) (e : TypeId) (i : TypeInfo) (z : Value) (size bytes : Nat) (ht : P.underlying t = some (.slice e)) (hi : P.info? e = some i) (hz : i.zero = some z)
    (hsize : i.size = size) (hby : i.bytes = bytes) (hzs : z.cells.size = size) (hsz : 0 < size)
    (v : Value) (n : Nat) (xs : List Value) (hs : a.eval s = v) (hown : w.ownsRow base e size v n xs)
    (A : Option Addr) (m c : Nat) (news : List Value) (hx : a.eval x = .slice A m c) (hR : Reads w A news) (hm : news.length = m * size) (h1 : ∀ u ∈ news, u.oneCell' = true)
    (h63 : n + m ≤ maxLen) (hbytes : (n + m) * bytes ≤ 140737488355328) (hbase : base ≤ w.heap.size)
    (h : ∀ A' c' w', w'.ownsRow base e size (.slice A' (n + m) c') (n + m) (xs ++ news) → w.grownBy w' v.ownBlock →
      (Value.ownBlock (.slice A' (n + m) c') = v.ownBlock ∨ Value.ownBlock (.slice A' (n + m) c') = some w.heap.size) → wpList P ops Q rest (a.put o.dst (.slice A' (n + m) c')) w') :
    wpList P ops Q (o :: rest) a w := by
  refine wpList_step fun K hK => ?_
  rw [if_pos hgd]
  obtain ⟨A', c', w', hr, h2, h3, h5⟩ := run_append_wide (P := P) w base t o.type e i z size bytes ht hi hz hsize hby hzs hsz v n xs hown A m c news hR hm h1 h63 hbytes hbase
  unfold Oper.wp execOp
  simp only [ho, resolve, invoke, builtin, Sem.run_bind, Sem.run_pure, Result.andThen_ok, List.map_toArray, List.map_cons, List.map_nil, hs, hx, hr]
  exact hK _ _ (h A' c' w' h2 h3 h5)
/-- What an owned row of whatever elements reads as. -/
theorem reads_own {w : World} {base : Nat} {e : TypeId} {size : Nat} {A : Option Addr} {n c : Nat} {xs : List Value} (h : w.ownsRow base e size (.slice A n c) n xs) : Reads w A xs := by
  rcases h.2 with ⟨he, hn⟩ | ⟨g, cap, cur, he, _, hh, _, _, hcs, htake⟩
  · left
    have := h.1
    rw [hn] at this
    exact List.eq_nil_of_length_eq_zero (by simpa using this)
  · right
    have hlt : g < w.heap.size := by
      rcases Nat.lt_or_ge g w.heap.size with hlt | hge
      · exact hlt
      · rw [Array.getElem?_eq_none hge] at hh; cases hh
    have hA : A = some ⟨g, 0, none⟩ := by injection he
    refine ⟨g, 0, hA, hlt, fun i hi => ?_⟩
    subst hA
    have hc := h.cells (g := g) rfl i xs[i] (List.getElem?_eq_getElem hi)
    rw [WideShapes.add_plain] at hc
    rw [hc]
    simp [List.getD_eq_getElem?_getD, hi]
/-- As one step of a region that draws its order. -/
theorem step_append_wide {w : World} {ops : Array Oper} {o : Oper} {a : Act} {K : Act → World → Prop} {Q : Exit → Act → World → Prop} {E : Prop} (hgd : Region.wanted o (yielded ops a.tmps) = true) (s x : Operand) (t : TypeId)
    (ho : o.op = .call { callee := .builtin .append, args := #[s, x], argTypes := #[t, t] })
    (base : Nat) (e : TypeId) (i : TypeInfo) (z : Value) (size bytes : Nat) (ht : P.underlying t = some (.slice e)) (hi : P.info? e = some i) (hz : i.zero = some z)
    (hsize : i.size = size) (hby : i.bytes = bytes) (hzs : z.cells.size = size) (hsz : 0 < size)
    (v : Value) (n : Nat) (xs : List Value) (hs : a.eval s = v) (hown : w.ownsRow base e size v n xs)
    (A : Option Addr) (m c : Nat) (news : List Value) (hx : a.eval x = .slice A m c) (hR : Reads w A news) (hm : news.length = m * size) (h1 : ∀ u ∈ news, u.oneCell' = true)
    (h63 : n + m ≤ maxLen) (hbytes : (n + m) * bytes ≤ 140737488355328) (hbase : base ≤ w.heap.size)
    (h : ∀ A' c' w', w'.ownsRow base e size (.slice A' (n + m) c') (n + m) (xs ++ news) → w.grownBy w' v.ownBlock →
      (Value.ownBlock (.slice A' (n + m) c') = v.ownBlock ∨ Value.ownBlock (.slice A' (n + m) c') = some w.heap.size) → K (a.put o.dst (.slice A' (n + m) c')) w') :
    if Region.wanted o (yielded ops a.tmps) = true then Oper.wp P o a w K Q else E := by
  rw [if_pos hgd]
  obtain ⟨A', c', w', hr, h2, h3, h5⟩ := run_append_wide (P := P) w base t o.type e i z size bytes ht hi hz hsize hby hzs hsz v n xs hown A m c news hR hm h1 h63 hbytes hbase
  unfold Oper.wp execOp
  simp only [ho, resolve, invoke, builtin, Sem.run_bind, Sem.run_pure, Result.andThen_ok, List.map_toArray, List.map_cons, List.map_nil, hs, hx, hr]
  exact h A' c' w' h2 h3 h5
/-- An empty row that is new. -/
theorem own_empty (W : World) (base : Nat) (e : TypeId) (size m : Nat) (hm : W.heap.size = m) (hb : base ≤ m) : (W.alloc (.cells #[] e)).ownsRow base e size (.slice (some ⟨m, 0, none⟩) 0 0) 0 [] := by
  subst hm
  exact World.ownsRow_lit (size := size) W #[] 0 hb (Nat.zero_le _) (by simp)
end Go.Agio
