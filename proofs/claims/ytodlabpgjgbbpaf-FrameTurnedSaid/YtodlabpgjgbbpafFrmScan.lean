/-
  All frames from the beginning of bytes on: what the program's Scan hands back.
-/
import Derived.Test.YtodlabpgjgbbpafFrmFirst
namespace Go.Proofs.Ytodlabpgjgbbpaf
open Go.RowKit Go.Agio

theorem info22 : (Try.prog.info? 22).map (fun i => (i.zero, i.size, i.bytes)) = some (some (.slice none 0 0), 1, 24) := by kernel_rfl

/-- A slice of slices of bytes of the call's own reads as a list of lists. -/
def RowsAt (w : World) (base : Nat) (v : Value) (l : List (List Int)) : Prop :=
  ∃ vals, w.ownsRow base 22 1 v l.length vals ∧ vals.length = l.length ∧
    ∀ i, i < l.length → ∃ A c, vals[i]? = some (.slice A (l.getD i []).length c) ∧ Reads w A (bys (l.getD i [])) ∧ ∀ a, A = some a → base ≤ a.block ∧ a.block < w.heap.size ∧ v.ownBlock ≠ some a.block
theorem rowsAt_nil (w : World) (base : Nat) : RowsAt w base (.slice none 0 0) [] := ⟨[], World.ownsRow_nil _ _ _ _, rfl, fun i hi => by simp at hi⟩
theorem RowsAt.below {w w' : World} {base : Nat} {v : Value} {l : List (List Int)} (h : RowsAt w base v l) (hb : Below w.heap.size w w') : RowsAt w' base v l := by
  obtain ⟨vals, h1, h2, h3⟩ := h
  refine ⟨vals, own_below h1 hb, h2, fun i hi => ?_⟩
  obtain ⟨A, c, g1, g2, g3⟩ := h3 i hi
  exact ⟨A, c, g1, g2.below hb, fun a ha => ⟨(g3 a ha).1, Nat.lt_of_lt_of_le (g3 a ha).2.1 hb.size, (g3 a ha).2.2⟩⟩
/-- One more is appended. -/
theorem RowsAt.snoc {w w' : World} {base : Nat} {v v' : Value} {l : List (List Int)} {x : List Int} {A : Option Addr} {c : Nat} {vals : List Value} (h2 : vals.length = l.length)
    (h3 : ∀ i, i < l.length → ∃ A c, vals[i]? = some (.slice A (l.getD i []).length c) ∧ Reads w A (bys (l.getD i [])) ∧ ∀ a, A = some a → base ≤ a.block ∧ a.block < w.heap.size ∧ v.ownBlock ≠ some a.block)
    (hR : Reads w A (bys x)) (hA : ∀ a, A = some a → base ≤ a.block ∧ a.block < w.heap.size ∧ v.ownBlock ≠ some a.block)
    (hO : w'.ownsRow base 22 1 v' (l.length + 1) (vals ++ [.slice A x.length c])) (hg : w.grownBy w' v.ownBlock) (hat : v'.ownBlock = v.ownBlock ∨ v'.ownBlock = some w.heap.size) : RowsAt w' base v' (l ++ [x]) := by
  have key : ∀ (B : Option Addr) (y : List Int), Reads w B (bys y) → (∀ a, B = some a → base ≤ a.block ∧ a.block < w.heap.size ∧ v.ownBlock ≠ some a.block) → Reads w' B (bys y) ∧ ∀ a, B = some a → base ≤ a.block ∧ a.block < w'.heap.size ∧ v'.ownBlock ≠ some a.block := fun B y hR hB =>
    ⟨hR.grown hg (fun b off he h => (hB _ he).2.2 h.symm), fun a ha => ⟨(hB a ha).1, Nat.lt_of_lt_of_le (hB a ha).2.1 hg.size, by
      rcases hat with h | h
      · rw [h]; exact (hB a ha).2.2
      · rw [h]; intro he; injection he with he; have := (hB a ha).2.1; omega⟩⟩
  refine ⟨vals ++ [.slice A x.length c], by rw [List.length_append]; exact hO, by simp [h2], fun i hi => ?_⟩
  rcases Nat.lt_or_ge i l.length with hlt | hge
  · obtain ⟨B, d, g1, g2, g3⟩ := h3 i hlt
    have e : (l ++ [x]).getD i [] = l.getD i [] := by simp [List.getD_eq_getElem?_getD, List.getElem?_append_left hlt]
    rw [e]
    obtain ⟨k1, k2⟩ := key B _ g2 g3
    exact ⟨B, d, by rw [List.getElem?_append_left (by omega)]; exact g1, k1, k2⟩
  · have hi' : i = l.length := by simp at hi; omega
    subst hi'
    have e : (l ++ [x]).getD l.length [] = x := by simp [List.getD_eq_getElem?_getD]
    rw [e]
    obtain ⟨k1, k2⟩ := key A _ hR hA
    exact ⟨A, c, by rw [List.getElem?_append_right (by omega), h2]; simp, k1, k2⟩

set_option maxRecDepth 100000 in
set_option maxHeartbeats 4000000 in
theorem scan_any (A : Option Addr) (c : Nat) (xs : List Int) (w : World) (hR : Reads w A (bys xs)) (hx : Frm.ok xs) (hl : xs.length ≤ 46912496000000) (hc : xs.length ≤ c) :
    Calls Try.prog 13 #[.slice A xs.length c] w fun e w' => ∃ L d, e = .returned (.tuple #[.slice L (Frm.scan xs).1.length d, .int .i64 (Frm.scan xs).2]) ∧ RowsAt w' w.heap.size (.slice L (Frm.scan xs).1.length d) (Frm.scan xs).1 ∧ Below w.heap.size w w' := by
  obtain ⟨i0, hi, hz0, hz1, hz2⟩ := info_parts info22
  have HR := hide hR; have HX := hide hx
  clear hR hx
  go_enter Try.func13, Try.ntmps13
  go_wp2_with fail
  go_loopw [4, 5] (fun v s wr => ∃ (l : List (List Int)) (a : Nat) (L : Option Addr) (d : Nat), v = .slice L l.length d ∧ s = .int .i64 a ∧ Frm.Upto xs l a ∧ 8 * l.length ≤ a ∧ RowsAt wr w.heap.size (.slice L l.length d) l ∧ Below w.heap.size w wr) (fun _ s _ => xs.length - (intOf s).toNat)
  case atStart => exact ⟨[], 0, none, 0, rfl, rfl, Frm.upto_zero _, by simp, rowsAt_nil _ _, Below.refl _ _⟩
  case round =>
    obtain ⟨l, a, L, d, rfl, rfl, hU, hla, hL, hB⟩ := hrel
    have HU := hide hU; have HL := hide hL; have HB := hide hB
    have hax : a ≤ xs.length := hU.1
    clear hU hL hB
    obtain ⟨A2, n2, c2, hn2, hc2, hs2, hr2⟩ := cut_l 22 elem8 size8 A xs.length c a hax hc
    have R2 := hr2 wr _ (HR.out.below HB.out) (by rw [List.length_map])
    rw [← List.map_drop] at R2
    have e2 : (xs.drop a).length = n2 := by rw [List.length_drop]; omega
    have CF := first_any A2 c2 (xs.drop a) wr R2 (Frm.ok_drop HX.out a) (by omega) (by omega)
    rw [e2] at CF
    have CF := hide CF
    clear R2 hr2 e2 hn2 hc2
    by_cases hcd : Frm.code (xs.drop a) = 0
    · obtain ⟨g1, g2, g3, g4⟩ := Frm.code_zero (Frm.ok_drop HX.out a) hcd
      have HU2 := hide (Frm.upto_next HX.out HU.out hcd)
      obtain ⟨m, hm⟩ : ∃ m, m = Frm.bodyN (xs.drop a) := ⟨_, rfl⟩
      obtain ⟨bd, hbd⟩ : ∃ bd, bd = Frm.body (xs.drop a) := ⟨_, rfl⟩
      have HBO := hide (show bd = (xs.drop (a + 8)).take m by rw [hbd, hm]; unfold Frm.body; rw [List.drop_drop])
      rw [← hm] at HU2 g1 g2 g3
      rw [← hbd] at HU2 g3
      have HG3 := hide g3
      have HM := hide hm
      have HCD := hide hcd
      have ham : a + 8 + m ≤ xs.length := by rw [List.length_drop] at g2; omega
      obtain ⟨A3, n3, c3, hn3, hc3, hs3, hr3⟩ := cut_lh 22 elem8 size8 A xs.length c (a + 8) (a + 8 + m) (by omega) (by omega) hc
      have HR3 := hide (fun (W : World) (hW : Below w.heap.size w W) => show Reads W A3 (bys bd) by
        have := hr3 W _ (HR.out.below hW) (by rw [List.length_map])
        rw [← List.map_drop, ← List.map_take, show n3 = m by omega, ← HBO.out] at this
        exact this)
      have HN3 := hide (show bd.length = n3 by rw [HG3.out]; omega)
      have hn3' : n3 ≤ 4096 := by omega
      rw [show ((a + 8 : Nat) : Int) = (a : Int) + 8 by omega, show ((a + 8 + m : Nat) : Int) = (a : Int) + 8 + (m : Int) by omega] at hs3
      clear g3 g4 hcd hm hbd hr3 hn3 hc3
      go_wp2_with fail
      refine CF.out.mono ?_
      intro e w1 hf
      obtain ⟨rfl, hb1⟩ := hf
      rw [if_pos HCD.out, HCD.out, ← HM.out]
      have HB1 := hide (below_next HB.out hb1)
      have HL1 := hide (HL.out.below hb1)
      clear hb1
      have hlm : l.length ≤ xs.length := by omega
      go_wp2_with fail
      refine (clone_at (w0 := w1) A3 n3 c3 bd w1 (Below.refl _ _) (HR3.out _ HB1.out) HN3.out (by omega)).mono ?_
      rintro e w2 ⟨A4, c4, rfl, R4, P4, hb2⟩
      have HB2 := hide (below_next HB1.out hb2)
      obtain ⟨vals, v1, v2, v3⟩ := HL1.out.below hb2
      have hfar : ∀ b, Value.ownBlock (.slice L l.length d) = some b → b < w1.heap.size := fun b hbb => by
        obtain ⟨_, u1, _, _⟩ := HL1.out
        exact (u1.lt b hbb).2
      have HR4 := hide (R4.alloc (.cells #[.slice A4 n3 c4] 22))
      have HP4 : Hid (∀ a, A4 = some a → w.heap.size ≤ a.block ∧ a.block < w2.heap.size ∧ Value.ownBlock (.slice L l.length d) ≠ some a.block) := hide (fun a ha => ⟨Nat.le_trans HB1.out.size (P4 a ha).1, (P4 a ha).2, fun he => by have := hfar _ he; have := (P4 a ha).1; omega⟩)
      have V1 := hide v1; have V2 := hide v2; have V3 := hide v3; have R4 := hide R4
      have hsz2 := HB2.out.size
      clear v1 v2 v3 R4 P4 hb2 hfar
      go_wp2_with (at_builtin; apply halted)
      refine unhalt (wpList_append_reads rfl (.tmp 19) (.tmp 29) 30 rfl w.heap.size 22 i0 (.slice none 0 0) 24 Try.underlying30 hi hz0 hz1 hz2 rfl _ l.length vals rfl (V1.out.alloc _) _ 1 1 [.slice A4 n3 c4] rfl (Reads.new w2 _ _ _) rfl (one_one _ rfl) (by unfold maxLen; omega) (by omega) (by simp; omega) ?_)
      intro A5 c5 w5 n5 g5 t5
      have F5 := hide (RowsAt.snoc (w := w2.alloc (.cells #[.slice A4 n3 c4] 22)) (v := .slice L l.length d) (x := bd) (c := c4) V2.out (fun i hi => by
        obtain ⟨B, q, u1, u2, u3⟩ := V3.out i hi
        exact ⟨B, q, u1, u2.alloc _, fun a ha => ⟨(u3 a ha).1, by have := (u3 a ha).2.1; simp; omega, (u3 a ha).2.2⟩⟩) HR4.out (fun a ha => ⟨(HP4.out a ha).1, by have := (HP4.out a ha).2.1; simp; omega, (HP4.out a ha).2.2⟩) (by rw [HN3.out]; exact n5) g5 t5)
      have HB5 := hide ((HB2.out.alloc HB2.out.size (.cells #[.slice A4 n3 c4] 22)).grown g5 (by simp; omega) (fun g hg => (V1.out.lt g hg).1))
      have HLL := hide (show (l ++ [bd]).length = l.length + 1 by simp)
      clear n5 g5 t5
      go_wp2
      go_roundw
      case rel => exact ⟨l ++ [bd], a + (8 + m), A5, c5, by rw [HLL.out], by go_num, HU2.out, by rw [HLL.out]; omega, by rw [HLL.out]; exact F5.out, HB5.out⟩
      case measure => simp [intOf]; omega
    · have HE := hide (Frm.upto_end HU.out hcd)
      obtain ⟨k, hk⟩ : ∃ k, k = Frm.code (xs.drop a) := ⟨_, rfl⟩
      have t1 : (k != 0) = true := by rw [bne_iff_ne, hk]; exact hcd
      have HK := hide hk
      have HCD := hide hcd
      clear hk hcd
      go_wp2_with fail
      refine CF.out.mono ?_
      intro e w1 hf
      obtain ⟨rfl, hb1⟩ := hf
      rw [if_neg HCD.out, ← HK.out]
      have HB1 := hide (below_next HB.out hb1)
      have HL1 := hide (HL.out.below hb1)
      clear hb1
      go_wp2
      go_ret2
      rw [HE.out]
      exact ⟨L, d, rfl, HL1.out, HB1.out⟩

end Go.Proofs.Ytodlabpgjgbbpaf
