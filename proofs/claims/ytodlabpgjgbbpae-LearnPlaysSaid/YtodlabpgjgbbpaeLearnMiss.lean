/-
  What is missing: the iterator over slots that are not decided, and all of them in a slice.
-/
import Derived.Test.YtodlabpgjgbbpaeLearnWalks
namespace Go.Proofs.Ytodlabpgjgbbpae
open Go.RowKit Go.Shelf Go.Agio

attribute [local go_sem] Oper.semAt_some

section
variable {F : Fence} {nF : Nat} {P : Program} {w : World} {ops : Array Oper} {rest : List Oper} {o : Oper} {a : Act} {Q : Exit → Act → World → Prop}
theorem wpListIn_lookup_is (hg : o.guard = none) (m x : Operand) (t : TypeId) (hop : o.op = Op.lookup t m x true) (k e : TypeId) (K : Maps.Keyed P k) (ht : P.underlying t = some (.map k e)) (hz : (zeroValue e).run P w = .ok (.slice none 0 0) w) (b n : Nat) (D : DataW Value)
    (hm : a.eval m = .map (some b)) (hown : w.ownsMap P k RV b n D) (key : Value) (kl : Lit) (hx : a.eval x = key) (hkey : keyOf P k key = some kl) (A : Option Addr) (l c : Nat) (y : Bool) (hat : D.atKey kl nilD = .held (.slice A l c)) (hy : Maps.has D kl = y)
    (hK : wpListIn F nF P ops Q rest (a.put o.dst (.tuple #[.slice A l c, .bool y])) w) : wpListIn F nF P ops Q (o :: rest) a w :=
  wpListIn_lookup_own_ok w hg m x t hop k e K ht RV hz nilD [] rv_nil b n D hm hown key kl hx hkey (fun v ps hv => by
    rw [hat] at hv
    obtain rfl := rv_inv hv
    rw [hy]
    exact hK)
end

/-- A slice of numbers of the call's own. -/
def Nums (w w' : World) (e : Ending) (l : List Int) : Prop := ∃ A c, e = .returned (.slice A l.length c) ∧ w'.ownsRow w.heap.size 3 1 (.slice A l.length c) l.length (l.map (Value.int .i64)) ∧ Below w.heap.size w w'

/-- The iterator's own blocks lie as they lay. -/
def Lies (b d bm : Nat) (A B : World) : Prop := ∀ x, x = b ∨ x = b + 1 ∨ x = d ∨ x = bm → B.heap[x]? = A.heap[x]?
theorem Lies.refl (b d bm : Nat) (A : World) : Lies b d bm A A := fun _ _ => rfl
theorem Lies.trans {b d bm : Nat} {A B C : World} (h : Lies b d bm A B) (k : Lies b d bm B C) : Lies b d bm A C := fun x hx => (k x hx).trans (h x hx)
theorem Lies.of_below {b d bm n : Nat} {A B : World} (h : Below n A B) (h1 : b + 1 < n) (h2 : d < n) (h3 : bm < n) : Lies b d bm A B := fun x hx => h.block x (by omega)
theorem map_lies {w w' : World} {b d bm n : Nat} {D : DataW Value} (h : w.ownsMap Try.prog 3 RV bm n D) (hl : Lies b d bm w w') : w'.ownsMap Try.prog 3 RV bm n D := by
  obtain ⟨es, clock, h1, F, h2, h3⟩ := h
  exact ⟨es, clock, (hl bm (by simp)).trans h1, F, h2, h3⟩

set_option maxRecDepth 100000 in
set_option maxHeartbeats 2000000 in
theorem open1_in (m : Nat) (hm : 1 ≤ m) (l b d bm n : Nat) (M : Lrn.Map) (t : Nat) (G : Nat → Prop) (hi : Int) (J Jx : List Int → World → Prop)
    (hY : ∀ pre x W, J pre W → pre.length < 4096 → YieldAt Fence.wide (m - 1) Try.prog l #[.int .i64 x] W fun e W' =>
      (e = .returned (.bool true) ∧ J (pre ++ [x]) W' ∧ Lies b d bm W W') ∨ (e = .returned (.bool false) ∧ Jx (pre ++ [x]) W'))
    (W : World) (hL : LAt W d bm n M t G) (hb0 : Boxed W b 31 (.pointer (some ⟨d, 0, none⟩))) (hb1 : Boxed W (b + 1) 3 (.int .i64 hi)) (h0 : J [] W) :
    CallsIn Fence.wide m Try.prog 33 #[.func (.yield l) #[] #[], .pointer (some ⟨b, 0, none⟩), .pointer (some ⟨b + 1, 0, none⟩)] W fun e W' => (∃ v, e = .returned v) ∧
      ((∃ xs, xs = Lrn.gaps M hi ∧ J xs W') ∨ (∃ pre, True ∧ Jx pre W')) := by
  have hF : Fence.wide.fn 17 := trivial
  have x0 := hb0.cell
  have HJ := hide h0
  have CN := hide (front_any d bm n M t G W hL)
  obtain ⟨D, hD, _, hE⟩ := hL.map
  have HD := hide hD
  have HE := hide hE
  have HB0 := hide hb0; have HB1 := hide hb1; have HBK := hide hL.blk
  have HFA := hide (fun (j : Nat) h => Lrn.front_all M (j := j) h)
  have hfl := Lrn.front_le M
  generalize Lrn.front M = f at *
  have H0 := hide (Lrn.gapsTo_front M HFA.out)
  clear hb0 hb1 h0 hE hD hL
  refine callsIn_of_wp Try.func33 rfl trivial ?_ rfl
  simp only [Try.ntmps33, List.size_toArray, List.length_cons, List.length_nil, Nat.reduceAdd, Nat.reduceSub, Array.replicate_succ, Array.replicate_zero, List.push_toArray, List.append_toArray, List.nil_append, List.cons_append]
  gi_wp2_with (gi_at_call 17; refine (callsIn_wide.2 CN.out).mono ?_; rintro e w' ⟨rfl, rfl⟩)
  clear x0
  gi_loopw [4] (fun s wr => ∃ p : Nat, s = .int .i64 p ∧ p ≤ 4096 ∧ Hid ((p : Int) ≤ min hi 4096 ∨ ∀ j : Nat, j < p → (M j).isSome = true) ∧ J (Lrn.gapsTo M p) wr ∧ Lies b d bm W wr) (fun s _ => 4300 - (intOf s).toNat)
  case atStart => exact ⟨f, rfl, hfl, hide (.inr HFA.out), by rw [H0.out]; exact HJ.out, Lies.refl _ _ _ _⟩
  case round =>
    obtain ⟨p, rfl, hp, HS, hJp, hlr⟩ := hrel
    have y0 := Boxed.cell (W := wr) (t := 31) (v := .pointer (some ⟨d, 0, none⟩)) (show Boxed wr b _ _ from (hlr b (by simp)).trans HB0.out)
    have y1 := Boxed.cell (W := wr) (t := 3) (v := .int .i64 hi) (show Boxed wr (b + 1) _ _ from (hlr (b + 1) (by simp)).trans HB1.out)
    have y2 := (two_at (w := wr) ((hlr d (by simp)).trans HBK.out)).1
    have HO := hide (map_lies HD.out hlr)
    have HLR := hide hlr
    clear hlr
    by_cases hlt : (p : Int) < min hi 4096
    · have h4 : (p : Int) < 4096 := by omega
      have h5 : (p : Int) < hi := by omega
      have HKW := hide (WalkArith.wf_i64 (n := (p : Int)) (by omega))
      obtain ⟨e1, B, q, e2, _⟩ := HE.out (p : Int) HKW.out
      have E1 := hide e1; have E2 := hide e2
      obtain ⟨y, hy⟩ : ∃ y, y = (M p).isSome := ⟨_, rfl⟩
      rw [← hy] at E1
      have HY2 := hide hy
      clear e1 e2 hy
      cases y with
      | true =>
        have HG := hide (Lrn.gapsTo_no (M := M) HY2.out.symm)
        by_cases hh : hi ≤ 4096
        all_goals
          gi_wp2_with (gi_at_lookup; refine wpListIn_lookup_is rfl _ _ 55 rfl 3 22 lawI Try.underlying55 (zeroS _) bm n D rfl HO.out _ _ rfl (keyI HKW.out) B _ q true E2.out E1.out ?_)
          refine ⟨fun _ h => (by cases h), ?_⟩
          gi_wp2
          go_roundw
          case rel => exact ⟨p + 1, by go_num, by omega, hide (HS.out.elim (fun _ => .inl (by omega)) (fun h => .inr (fun j hj => by
            by_cases e : j = p
            · subst e; exact HY2.out.symm
            · exact h j (by omega)))), by rw [HG.out]; exact hJp, HLR.out⟩
          case measure => simp [intOf]; omega
      | false =>
        have HG := hide (Lrn.gapsTo_yes (M := M) HY2.out.symm)
        have hlen := Lrn.gapsTo_len (M := M) (s := p)
        obtain ⟨fn, tmps, assign, body, hy, hR⟩ := hY _ (p : Int) wr hJp (by omega)
        by_cases hh : hi ≤ 4096
        all_goals
          gi_wp2_with (gi_at_lookup; refine wpListIn_lookup_is rfl _ _ 55 rfl 3 22 lawI Try.underlying55 (zeroS _) bm n D rfl HO.out _ _ rfl (keyI HKW.out) B _ q false E2.out E1.out ?_)
          refine hR.mono ?_
          rintro e W3 (⟨rfl, hJ3, hk3⟩ | ⟨rfl, hJx3⟩)
          · have HK3 := hide (HLR.out.trans hk3)
            gi_wp2
            go_roundw
            case rel => exact ⟨p + 1, by go_num, by omega, hide (.inl (by omega)), by rw [HG.out]; exact hJ3, HK3.out⟩
            case measure => simp [intOf]; omega
          · gi_wp2
            refine bodyPost_ret (results_none rfl _ _ _) rfl ?_
            exact ⟨⟨_, rfl⟩, .inr ⟨_, trivial, hJx3⟩⟩
    · have HE2 := hide (Lrn.gaps_end (M := M) (hi := hi) (s := p) (HS.out.elim (fun h => .inl (by omega)) (fun h => .inr ⟨by omega, h⟩)))
      by_cases hh : hi ≤ 4096
      all_goals
        gi_wp2
        go_end0
        first | exact ⟨⟨_, rfl⟩, .inl ⟨_, HE2.out, hJp⟩⟩ | exact ⟨⟨_, rfl⟩, .inl (by rw [← HE2.out]; exact hJp)⟩

theorem open1_stops (m : Nat) (hm : 1 ≤ m) (b d bm n : Nat) (M : Lrn.Map) (t : Nat) (G : Nat → Prop) (hi : Int) (w : World) (hL : LAt w d bm n M t G) (hb0 : Boxed w b 31 (.pointer (some ⟨d, 0, none⟩))) (hb1 : Boxed w (b + 1) 3 (.int .i64 hi)) :
    SeqStopsK Fence.wide m Try.prog 33 #[.pointer (some ⟨b, 0, none⟩), .pointer (some ⟨b + 1, 0, none⟩)] (fun x : Int => #[Value.int .i64 x]) (Lies b d bm) (fun ys => ys = Lrn.gaps M hi) (fun _ => True) 4096 w :=
  fun l J Jx W hW _ _ hY h0 => open1_in m hm l b d bm n M t G hi J Jx hY W (hL.below hW) ((hW.block _ hb0.lt).trans hb0) ((hW.block _ hb1.lt).trans hb1) h0

theorem open_in (F : Fence) (m : Nat) (hF : F.fn 31) (hro : F.round = none) (d : Nat) (hi : Int) (w : World) :
    CallsIn F m Try.prog 31 #[.pointer (some ⟨d, 0, none⟩), .int .i64 hi] w fun e w' =>
      e = .returned (.func (.func 33) #[] #[.pointer (some ⟨w.heap.size, 0, none⟩), .pointer (some ⟨w.heap.size + 1, 0, none⟩)]) ∧ w' = (w.alloc (.cells #[.pointer (some ⟨d, 0, none⟩)] 31)).alloc (.cells #[.int .i64 hi] 3) := by
  refine callsIn_of_wp Try.func31 rfl hF ?_ hro
  simp only [Try.ntmps31, List.size_toArray, List.length_cons, List.length_nil, Nat.reduceAdd, Nat.reduceSub, Array.replicate_succ, Array.replicate_zero, List.push_toArray, List.append_toArray, List.nil_append, List.cons_append]
  gi_wp2
  go_ret
  exact ⟨rfl, rfl⟩

set_option maxRecDepth 100000 in
set_option maxHeartbeats 2000000 in
theorem missing_any (d bm n : Nat) (M : Lrn.Map) (t : Nat) (G : Nat → Prop) (hi : Int) (w : World) (hL : LAt w d bm n M t G) :
    Calls Try.prog 18 #[.pointer (some ⟨d, 0, none⟩), .int .i64 hi] w fun e w' => Nums w w' e (Lrn.gaps M hi) := by
  refine (callsIn_wide (n := 6)).1 ?_
  have hF : Fence.wide.fn 31 := trivial
  have hF2 : Fence.wide.fn 30 := trivial
  have HB := hide (((Below.refl _ w).alloc (Nat.le_refl _) (.cells #[.pointer (some ⟨d, 0, none⟩)] 31)).alloc (by simp) (.cells #[.int .i64 hi] 3))
  have HL := hide (hL.below HB.out)
  have b0 := hide ((Boxed.new w 31 (.pointer (some ⟨d, 0, none⟩))).alloc (.cells #[.int .i64 hi] 3))
  have b1 := Boxed.new (w.alloc (.cells #[.pointer (some ⟨d, 0, none⟩)] 31)) 3 (.int .i64 hi)
  rw [World.size_alloc] at b1
  have b1 := hide b1
  have hlt := hL.lt
  have h1 := hlt.1; have h2 := hlt.2
  clear hL hlt
  refine callsIn_of_wp Try.func18 rfl trivial ?_ rfl
  simp only [Try.ntmps18, List.size_toArray, List.length_cons, List.length_nil, Nat.reduceAdd, Nat.reduceSub, Array.replicate_succ, Array.replicate_zero, List.push_toArray, List.append_toArray, List.nil_append, List.cons_append]
  gi_wp2_with (first | (gi_at_call 31; refine (open_in Fence.wide _ trivial rfl _ _ _).mono ?_; rintro e w' ⟨rfl, rfl⟩) |
    (gi_at_call 30; refine (collect_in _ (by omega) 33 _ (enters_of Try.func33 (by kernel_rfl) rfl) (Lies w.heap.size d bm) _ _ 4096 (by omega) _ _ (Below.refl _ _) (open1_stops _ (by omega) w.heap.size d bm n M t G hi _ HL.out b0.out b1.out) (fun h k => Lies.trans h k) (fun h => Lies.of_below h (by simp) (by simp; omega) (by simp; omega))).mono ?_; rintro e w' ⟨A, c, xs, rfl, rfl, hrow, hb⟩))
  go_ret
  exact ⟨A, c, rfl, own_base hrow (by simp; omega), HB.out.trans (hb.mono (by simp; omega))⟩

end Go.Proofs.Ytodlabpgjgbbpae
