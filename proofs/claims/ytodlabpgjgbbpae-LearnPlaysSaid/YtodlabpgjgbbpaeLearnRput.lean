/-
  What the document's Put does: the list, the list and one more.
-/
import Derived.Test.YtodlabpgjgbbpaeLearnRef
namespace Go.Agio
open Go.RowKit
variable {P : Program}
theorem own_formw {w : World} {base size : Nat} {e : TypeId} {v : Value} {n : Nat} {xs : List Value} (h : w.ownsRow base e size v n xs) : ∃ A c, v = .slice A n c := by
  rcases h.2 with ⟨rfl, rfl⟩ | ⟨g, cap, cur, rfl, _⟩
  · exact ⟨_, _, rfl⟩
  · exact ⟨_, _, rfl⟩
theorem run_append_wide (w : World) (base : Nat) (t ty e : TypeId) (i : TypeInfo) (z : Value) (size bytes : Nat) (ht : P.underlying t = some (.slice e)) (hi : P.info? e = some i) (hz : i.zero = some z)
    (hsize : i.size = size) (hby : i.bytes = bytes) (hzs : z.cells.size = size) (hsz : 0 < size)
    (v : Value) (n : Nat) (xs : List Value) (hown : w.ownsRow base e size v n xs)
    (A : Option Addr) (m c : Nat) (news : List Value) (hR : Reads w A news) (hm : news.length = m * size) (h1 : ∀ u ∈ news, u.oneCell' = true)
    (h63 : n + m ≤ maxLen) (hbytes : (n + m) * bytes ≤ 140737488355328) (hbase : base ≤ w.heap.size) :
    ∃ A' c' w', (Builtin.append_ #[t, t] ty #[v, .slice A m c]).run P w = .ok (.slice A' (n + m) c') w' ∧ w'.ownsRow base e size (.slice A' (n + m) c') (n + m) (xs ++ news) ∧ w.grownBy w' v.ownBlock ∧
      (Value.ownBlock (.slice A' (n + m) c') = v.ownBlock ∨ Value.ownBlock (.slice A' (n + m) c') = some w.heap.size) := by
  rcases A with _ | ad
  · have hnil : news = [] := by
      rcases hR with h | ⟨b, off, h, _⟩
      · exact h
      · cases h
    subst hnil
    obtain rfl : m = 0 := by
      rcases Nat.eq_zero_or_pos m with h | h
      · exact h
      · have := Nat.mul_pos h hsz; simp at hm; omega
    subst hsize
    obtain ⟨A', c', rfl⟩ := own_formw hown
    refine ⟨A', c', w, ?_, by simpa using hown, World.grownBy.refl w _, .inl rfl⟩
    rcases hown.2 with ⟨he, _⟩ | ⟨g, cap, cur, he, _, _, hnc, _⟩
    · injection he with e1 e2 e3
      subst e1 e2 e3
      simp [Builtin.append_, run_underlying ht, sizeOf, typeInfo, hi, Builtin.lenOf, Builtin.firstCells]
    · injection he with e1 _ e3
      subst e1 e3
      simp [Builtin.append_, run_underlying ht, sizeOf, typeInfo, hi, Builtin.lenOf, Builtin.firstCells, hnc, storeCells]
  · have hnews : ∀ j u, news[j]? = some u → w.cell? (ad.add j) = some u := by
      intro j u hj
      rcases hR with rfl | ⟨b, off, he, _, hc⟩
      · simp at hj
      · injection he with he
        subst he
        have hlt : j < news.length := by
          rcases Nat.lt_or_ge j news.length with h | h
          · exact h
          · rw [List.getElem?_eq_none h] at hj; cases hj
        rw [WideShapes.add_plain, hc j hlt]
        rw [List.getElem?_eq_getElem hlt] at hj
        injection hj with hj
        simp [List.getD_eq_getElem?_getD, hlt, hj]
    obtain ⟨v', w', hr, h2, h3, _, h5⟩ := run_append_own_at (P := P) w base t ty e i z size bytes ht hi hz hsize hby hzs hsz v n xs hown ad m c news hm hnews h1 h63 hbytes hbase
    obtain ⟨A', c', rfl⟩ := own_formw h2
    exact ⟨A', c', w', hr, h2, h3, h5⟩
/-- At the operation, for the walk. -/
theorem wpList_append_wide {w : World} {ops : Array Oper} {rest : List Oper} {o : Oper} {a : Act} {Q : Exit → Act → World → Prop} (hgd : Region.wanted o (yielded ops a.tmps) = true) (s x : Operand) (t : TypeId)
    (ho : o.op = .call { callee := .builtin .append, args := #[s, x], argTypes := #[t, t] })
    (base : Nat) (e : TypeId) (i : TypeInfo) (z : Value) (size bytes : Nat) (ht : P.underlying t = some (.slice e)) (hi : P.info? e = some i) (hz : i.zero = some z)
    (hsize : i.size = size) (hby : i.bytes = bytes) (hzs : z.cells.size = size) (hsz : 0 < size)
    (v : Value) (n : Nat) (xs : List Value) (hs : a.eval s = v) (hown : w.ownsRow base e size v n xs)
    (A : Option Addr) (m c : Nat) (news : List Value) (hx : a.eval x = .slice A m c) (hR : Reads w A news) (hm : news.length = m * size) (h1 : ∀ u ∈ news, u.oneCell' = true)
    (h63 : n + m ≤ maxLen) (hbytes : (n + m) * bytes ≤ 140737488355328) (hbase : base ≤ w.heap.size)
    (h : ∀ A' c' w', w'.ownsRow base e size (.slice A' (n + m) c') (n + m) (xs ++ news) → w.grownBy w' v.ownBlock →
      (Value.ownBlock (.slice A' (n + m) c') = v.ownBlock ∨ Value.ownBlock (.slice A' (n + m) c') = some w.heap.size) → wpList P ops Q rest (a.put o.dst (.slice A' (n + m) c')) w') :
    wpList P ops Q (o :: rest) a w := by
  refine wpList_step fun K hK => ?_
  rw [if_pos hgd]
  obtain ⟨A', c', w', hr, h2, h3, h5⟩ := run_append_wide (P := P) w base t o.type e i z size bytes ht hi hz hsize hby hzs hsz v n xs hown A m c news hR hm h1 h63 hbytes hbase
  unfold Oper.wp execOp
  simp only [ho, resolve, invoke, builtin, Sem.run_bind, Sem.run_pure, Result.andThen_ok, List.map_toArray, List.map_cons, List.map_nil, hs, hx, hr]
  exact hK _ _ (h A' c' w' h2 h3 h5)
end Go.Agio
namespace Go.Proofs.Ytodlabpgjgbbpae
open Go.RowKit Go.Agio

theorem own_base2 {W : World} {base base' : Nat} {e : TypeId} {size : Nat} {v : Value} {k : Nat} {xs : List Value} (h : W.ownsRow base e size v k xs) (hb : base' ≤ base) : W.ownsRow base' e size v k xs := by
  refine ⟨h.1, ?_⟩
  rcases h.2 with hn | ⟨g, cap, cur, hv, hbg, rest⟩
  · exact .inl hn
  · exact .inr ⟨g, cap, cur, hv, Nat.le_trans hb hbg, rest⟩
theorem pairs_one {w : World} {lim : Nat} {cs : List Value} {X : List (Int × List Int)} (hl : cs.length = X.length * 2) (h : ∀ i, i < X.length → PairIs w lim cs i (X.getD i (0, []))) : ∀ u ∈ cs, u.oneCell' = true := by
  intro u hu
  obtain ⟨j, hj, rfl⟩ := List.getElem_of_mem hu
  obtain ⟨h1, B, q, h2, _⟩ := h (j / 2) (by omega)
  rcases Nat.mod_two_eq_zero_or_one j with e | e
  · rw [show 2 * (j / 2) = j by omega, List.getD_eq_getElem?_getD, List.getElem?_eq_getElem hj, Option.getD_some] at h1
    rw [h1]; rfl
  · rw [show 2 * (j / 2) + 1 = j by omega, List.getD_eq_getElem?_getD, List.getElem?_eq_getElem hj, Option.getD_some] at h2
    rw [h2]; rfl
/-- One pair more. -/
theorem pairs_snoc {w w' : World} {lim : Nat} {cs : List Value} {X : List (Int × List Int)} (hl : cs.length = X.length * 2) (h : ∀ i, i < X.length → PairIs w lim cs i (X.getD i (0, []))) (hb : ∀ b, b < lim → w'.heap[b]? = w.heap[b]?) (hs : w.heap.size ≤ w'.heap.size)
    {B : Option Addr} {k : Int} {v : List Int} {m q : Nat} (hm : v.length = m) (hR : Reads w' B (bys v)) (ho : okRow v) (h2 : v.length ≤ 2048) (hB : Low B v lim) :
    ∀ i, i < (X ++ [(k, v)]).length → PairIs w' lim (cs ++ [.int .i64 k, .slice B m q]) i ((X ++ [(k, v)]).getD i (0, [])) := by
  subst hm
  intro i hi
  rcases Nat.lt_or_ge i X.length with hlt | hge
  · rw [show (X ++ [(k, v)]).getD i (0, []) = X.getD i (0, []) by simp [List.getD_eq_getElem?_getD, List.getElem?_append_left hlt]]
    obtain ⟨g1, g⟩ := (h i hlt).keep hb hs
    refine ⟨?_, ?_⟩
    · rw [← g1]; simp [List.getD_eq_getElem?_getD, List.getElem?_append_left (show 2 * i < cs.length by omega)]
    · obtain ⟨B', q', g2, g3⟩ := g
      refine ⟨B', q', ?_, g3⟩
      rw [← g2]; simp [List.getD_eq_getElem?_getD, List.getElem?_append_left (show 2 * i + 1 < cs.length by omega)]
  · obtain rfl : i = X.length := by simp at hi; omega
    rw [show (X ++ [(k, v)]).getD X.length (0, []) = (k, v) by simp [List.getD_eq_getElem?_getD]]
    refine ⟨?_, B, q, ?_, hR, ho, h2, hB⟩
    · rw [List.getD_eq_getElem?_getD, List.getElem?_append_right (by omega), show 2 * X.length - cs.length = 0 by omega]; rfl
    · rw [List.getD_eq_getElem?_getD, List.getElem?_append_right (by omega), show 2 * X.length + 1 - cs.length = 1 by omega]; rfl

/-- Behind the document's Put. -/
def RPut (w : World) (b0 lim : Nat) (X : List (Int × List Int)) (k : Int) (v : List Int) (e : Ending) (w' : World) : Prop :=
  ∃ A c X', e = .returned (.tuple #[.slice A X'.length c, .int .i64 (putCode (Lrn.get X) k v)]) ∧ Prs w' b0 lim A c X' ∧ Lrn.get X' = putMap (Lrn.get X) k v ∧ X'.length ≤ X.length + 1 ∧ Below w.heap.size w w'

set_option maxRecDepth 100000 in
set_option maxHeartbeats 4000000 in
theorem rput_any (b0 lim : Nat) (A : Option Addr) (c : Nat) (X : List (Int × List Int)) (k : Int) (B : Option Addr) (q : Nat) (v : List Int) (m : Nat) (w : World) (hX : Prs w b0 lim A c X) (hm : X.length ≤ 10000) (hb0 : b0 ≤ w.heap.size)
    (hR : Reads w B (bys v)) (hv : okRow v) (hvm : v.length = m) (hB : Low B v lim) (hl : lim ≤ w.heap.size) (hml : m ≤ 4611686018427387904) :
    Calls Try.prog 19 #[.slice A X.length c, .int .i64 k, .slice B m q] w (RPut w b0 lim X k v) := by
  by_cases hbad : ¬ (0 ≤ k ∧ k ≤ 4095 ∧ v.length ≤ 2048)
  · have hp := put_bad (M := Lrn.get X) hbad
    rw [hvm] at hbad
    have F : Hid (RPut w b0 lim X k v (.returned (.tuple #[.slice A X.length c, .int .i64 1])) w) := hide ⟨A, c, X, by rw [hp.1], hX, by rw [hp.2], by omega, Below.refl _ _⟩
    clear hp hX hR hv hvm hB hl hb0
    by_cases h1 : k < 0
    · clear hbad
      go_enter Try.func19, Try.ntmps19
      go_wp2_with fail
      go_ret2
      exact F.out
    · by_cases h2 : 4095 < k
      · clear hbad
        go_enter Try.func19, Try.ntmps19
        go_wp2_with fail
        go_ret2
        exact F.out
      · have h3 : (2048 : Int) < (m : Int) := by omega
        clear hbad
        go_enter Try.func19, Try.ntmps19
        go_wp2_with fail
        go_ret2
        exact F.out
  · have hgood := Decidable.not_not.1 hbad
    clear hbad
    have h1 : 0 ≤ k := hgood.1
    have h2 : k ≤ 4095 := hgood.2.1
    have h3 : (m : Int) ≤ 2048 := by have := hgood.2.2; omega
    have HGET := hide (rget_any b0 lim A c X k w hX (by omega))
    have HX := hide hX
    have HR := hide hR
    have HV := hide hv
    have HVM := hide hvm
    have HB := hide hB
    cases hMk : Lrn.get X k with
    | some old =>
      have hp := put_had hgood hMk
      rw [hMk] at HGET
      have HP := hide hp
      clear hp hgood hX hR hv hvm hB hMk
      go_enter Try.func19, Try.ntmps19
      go_wp2_with fail
      refine HGET.out.mono ?_
      rintro e w' ⟨B1, q1, rfl, r1, o1, l1, b1, rfl⟩
      simp only [Option.getD_some] at r1 o1 l1
      have s1 := str_reads w B1 _ q1 old r1 rfl
      have s2 := str_reads w B _ q v HR.out HVM.out
      have hq := str_beq o1 HV.out
      by_cases he : old = v
      · have e1 : ((strOfNums old).toList == (strOfNums v).toList) = true := by rw [hq]; exact decide_eq_true he
        rw [if_pos he] at HP
        have F : Hid (RPut w b0 lim X k v (.returned (.tuple #[.slice A X.length c, .int .i64 0])) w) := hide ⟨A, c, X, by rw [HP.out.1], HX.out, by rw [HP.out.2], by omega, Below.refl _ _⟩
        clear hq r1 o1 l1 b1 HP he HX HR HV HB HVM
        go_wp2
        go_ret2
        exact F.out
      · have e1 : ((strOfNums old).toList == (strOfNums v).toList) = false := by rw [hq]; exact decide_eq_false he
        rw [if_neg he] at HP
        have F : Hid (RPut w b0 lim X k v (.returned (.tuple #[.slice A X.length c, .int .i64 7])) w) := hide ⟨A, c, X, by rw [HP.out.1], HX.out, by rw [HP.out.2], by omega, Below.refl _ _⟩
        clear hq r1 o1 l1 b1 HP he HX HR HV HB HVM
        go_wp2
        go_ret2
        exact F.out
    | none =>
      have hp := put_new hgood hMk
      rw [hMk] at HGET
      have HP := hide hp
      have HS := hide (Lrn.get_snoc v hMk)
      have HLV := hide hgood.2.2
      obtain ⟨i0, hi0, hz0, hz1, hz2⟩ := info_parts infoP
      obtain ⟨cs, hown, hprs⟩ := hX
      have HO := hide hown; have HPR := hide hprs
      clear hp hgood hR hv hvm hB hMk hown hprs HX
      go_enter Try.func19, Try.ntmps19
      go_wp2_with fail
      refine HGET.out.mono ?_
      rintro e w' ⟨B1, q1, rfl, r1, o1, l1, b1, rfl⟩
      simp only [Option.getD_none, Option.isSome_none, List.length_nil]
      clear r1 o1 l1 b1
      go_wp2_with (at_builtin; apply halted)
      have hbA : Below w.heap.size w (w.alloc (.cells #[] 65)) := (Below.refl _ w).alloc (Nat.le_refl _) _
      refine unhalt (wpList_append_wide rfl (.tmp 40) (.tmp 41) 42 rfl w.heap.size 65 i0 (.agg #[.int .i64 0, .slice none 0 0]) 2 32 Try.underlying42 hi0 hz0 hz1 hz2 rfl (by omega) _ 0 [] rfl (World.ownsRow_lit (size := 2) w #[] 0 (Nat.le_refl _) (Nat.zero_le _) rfl) A X.length c cs rfl ((reads_own HO.out).below hbA) HO.out.1 (pairs_one HO.out.1 HPR.out) (by unfold maxLen; omega) (by omega) (by simp) ?_)
      intro A1 c1 w1 o1 g1 t1
      have hb1 := hide (hbA.grown g1 hbA.size (fun g hg => by have h : some w.heap.size = some g := hg; injection h with h; exact Nat.le_of_eq h))
      simp only [Nat.zero_add, List.nil_append] at o1 ⊢
      have O1 := hide o1
      clear hbA g1 t1 o1
      go_wp2_with (at_builtin; apply halted)
      have hb2 := hb1.out.alloc hb1.out.size (.cells #[.int .i64 k, .slice B m q] 65)
      have hb12 : Below w1.heap.size w1 (w1.alloc (.cells #[.int .i64 k, .slice B m q] 65)) := (Below.refl _ _).alloc (Nat.le_refl _) _
      refine unhalt (wpList_append_wide rfl (.tmp 43) (.tmp 47) 42 rfl w.heap.size 65 i0 (.agg #[.int .i64 0, .slice none 0 0]) 2 32 Try.underlying42 hi0 hz0 hz1 hz2 rfl (by omega) _ X.length cs rfl (own_later O1.out hb12) (some ⟨w1.heap.size, 0, none⟩) 1 1 [.int .i64 k, .slice B m q] rfl (Reads.new_at _ _ _ _ _ rfl) rfl (fun u hu => by simp at hu; rcases hu with rfl | rfl <;> rfl) (by unfold maxLen; omega) (by omega) hb2.size ?_)
      intro A2 c2 w2 o2 g2 t2
      have hb3 := hb2.grown g2 hb2.size (fun g hg => (O1.out.lt g hg).1)
      have F : Hid (RPut w b0 lim X k v (.returned (.tuple #[.slice A2 (X.length + 1) c2, .int .i64 0])) w2) := hide ⟨A2, c2, X ++ [(k, v)], by rw [HP.out.1, List.length_append]; rfl, ⟨cs ++ [.int .i64 k, .slice B m q], by rw [List.length_append]; exact own_base2 o2 hb0, pairs_snoc HO.out.1 HPR.out (fun b hb => hb3.block b (by omega)) hb3.size HVM.out (HR.out.below hb3) HV.out HLV.out HB.out⟩, by rw [HS.out, HP.out.2], by simp, hb3⟩
      clear hb3 hb2 hb12 o2 g2 t2 HP HS HV HVM HLV HB HR
      go_wp2
      go_ret2
      exact F.out

end Go.Proofs.Ytodlabpgjgbbpae
