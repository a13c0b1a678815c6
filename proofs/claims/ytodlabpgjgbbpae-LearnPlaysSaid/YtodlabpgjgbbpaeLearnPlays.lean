/-
  LearnPlays: whatever is decided, and taken: the answers, what is known of each slot, the frontier, the top, and what is missing. No conditions.
-/
import Derived.Test.YtodlabpgjgbbpaeLearnDeeds
import Derived.Test.YtodlabpgjgbbpaeLearnRbet
import Derived.Test.YtodlabpgjgbbpaeLearnBegins
import Derived.Test.YtodlabpgjgbbpaeRows
import Derived.Deep.QuietTactic
import Derived.BigQuiet
namespace Go.Proofs.Ytodlabpgjgbbpae
open Go.RowKit Go.Agio Go.ChangeShapes Go.WideShapes Go.ChangeAt

theorem below_drawn' {B : Nat} {a w : World} (h : Below B a w) (n : Nat) : Below B a (w.drewN n) := ⟨h.os, h.tape, h.output, h.size, h.block⟩

set_option maxRecDepth 100000 in
set_option maxHeartbeats 2000000 in
theorem nsame_yes (A B : Option Addr) (c d : Nat) (l : List Int) (w : World) (hA : Reads w A (l.map (Value.int .i64))) (hB : Reads w B (l.map (Value.int .i64))) (hm : l.length ≤ 100000) :
    Calls Try.prog 23 #[.slice A l.length c, .slice B l.length d] w fun e w' => e = .returned (.bool true) ∧ Below w.heap.size w w' := by
  have HA := hide hA; have HB := hide hB
  clear hA hB
  go_enter Try.func23, Try.ntmps23
  go_wp2_with fail
  go_loopw [5] (fun i wr => ∃ k : Nat, k ≤ l.length ∧ i = .int .i64 k ∧ Below w.heap.size w wr) (fun i _ => l.length - (intOf i).toNat)
  case atStart => exact ⟨0, Nat.zero_le _, rfl, Below.refl _ _⟩
  case round =>
    obtain ⟨k, hk, rfl, hbr⟩ := hrel
    by_cases hlt : k < l.length
    · obtain ⟨b, off, rfl, hb, hc⟩ := (HA.out.below hbr).at_ (k := k) (by simpa using hlt)
      have hck := hc k (by simpa using hlt)
      rw [getD_map_int _ _ hlt] at hck
      obtain ⟨b', off', rfl, hb', hc'⟩ := (HB.out.below hbr).at_ (k := k) (by simpa using hlt)
      have hck' := hc' k (by simpa using hlt)
      rw [getD_map_int _ _ hlt] at hck'
      generalize l.getD k 0 = x at *
      generalize l.length = n at *
      clear hc hc'
      go_wp2_with fail
      go_quiet (fail)
      go_wp2
      go_roundw
      case rel => exact ⟨k + 1, by omega, by go_num, below_drawn' hbr _⟩
      case measure => simp [intOf]; omega
    · obtain rfl : k = l.length := by omega
      go_wp2
      go_ret
      exact ⟨rfl, hbr⟩

/-- What stands between two deeds. -/
def Play (w : World) (b0 d bm p : Nat) (A : Option Addr) (c : Nat) (X : List (Int × List Int)) (t : Nat) (wr : World) : Prop :=
  LAt wr d bm p (Lrn.get X) t (fun _ => False) ∧ Prs wr b0 w.heap.size A c X ∧ X.length ≤ p ∧ Below w.heap.size w wr ∧ b0 ≤ wr.heap.size
theorem Play.below {w : World} {b0 d bm p : Nat} {A : Option Addr} {c : Nat} {X : List (Int × List Int)} {t : Nat} {wr w1 : World} (h : Play w b0 d bm p A c X t wr) (hb : Below wr.heap.size wr w1) : Play w b0 d bm p A c X t w1 :=
  ⟨h.1.below hb, h.2.1.below h.2.2.2.1.size hb, h.2.2.1, h.2.2.2.1.trans (hb.mono h.2.2.2.1.size), Nat.le_trans h.2.2.2.2 hb.size⟩

theorem three_at {W : World} {g : Nat} {a b c : Value} {T : TypeId} (h : W.heap[g]? = some (.cells #[a, b, c] T)) : W.cell? ⟨g, 0, none⟩ = some a ∧ W.cell? ⟨g, 1, none⟩ = some b ∧ W.cell? ⟨g, 2, none⟩ = some c :=
  ⟨cell_blk h 0, cell_blk h 1, cell_blk h 2⟩
theorem three_held {W0 W : World} {g : Nat} {a b c : Value} {T : TypeId} (h : W0.heap[g]? = some (.cells #[a, b, c] T)) (hb : Below W0.heap.size W0 W) : Below W0.heap.size W0 W ∧ W.cell? ⟨g, 1, none⟩ = some b :=
  ⟨hb, (three_at ((hb.block _ (blk_lt h)).trans h)).2.1⟩
theorem vals_ok {M : Lrn.Map} (h : ∀ j : Nat, j < 4096 → okRow ((M j).getD [])) (a : Nat) : ∀ b : Nat, b ≤ 4096 → ∀ x ∈ Lrn.vals M a b, ∀ z ∈ x, 0 ≤ z ∧ z ≤ 255
  | 0, _, x, hx => by simp [Lrn.vals] at hx
  | b + 1, hb, x, hx => by
    simp only [Lrn.vals] at hx
    split at hx
    · rcases List.mem_append.1 hx with hx | hx
      · exact vals_ok h a b (by omega) x hx
      · simp at hx; subst hx; exact h b (by omega)
    · simp at hx
theorem LAt.oks {w : World} {d bm n : Nat} {M : Lrn.Map} {t : Nat} {G : Nat → Prop} (h : LAt w d bm n M t G) : ∀ j : Nat, j < 4096 → okRow ((M j).getD []) := fun j hj => by
  obtain ⟨D, _, _, hE⟩ := h.map
  obtain ⟨_, A, c, _, _, _, ho, _⟩ := hE (j : Int) (WalkArith.wf_i64 (by omega))
  exact ho

set_option maxRecDepth 100000 in
set_option maxHeartbeats 20000000 in
theorem learnPlays_walk (L : Option Addr) (n cap : Nat) (D : Nat → Deed) (w : World) (hR : Agio.Rows w L n 3 (fun i => (D i).cells)) (hX : ∀ i, i < n → (D i).fine w) :
    Calls Try.prog 7 #[.slice L n cap] w fun e w' => e = .returned (.bool true) ∧ Below w.heap.size w w' := by
  have HR := hide hR; have HX := hide hX
  clear hR hX
  go_enter Try.func7, Try.ntmps7
  go_wp2_with fail
  refine (awake_any _).mono ?_
  rintro e w0 ⟨rfl, hB0⟩
  go_wp2_with fail
  refine (new_any _).mono ?_
  rintro e w1 ⟨d, bm, rfl, hd, hbm, hL, hb1⟩
  have HB1 := hide (below_next hB0 hb1)
  have HL0 := hide (hL (fun _ => False))
  have hdw : w.heap.size ≤ d := Nat.le_trans hB0.size hd
  have hbw : w.heap.size ≤ bm := Nat.le_trans hB0.size hbm
  obtain ⟨b0, hb0⟩ : ∃ b0, b0 = w1.heap.size := ⟨_, rfl⟩
  have hd0 : d < b0 := by rw [hb0]; exact HL0.out.lt.1
  have hbm0 : bm < b0 := by rw [hb0]; exact HL0.out.lt.2
  have P0 : Hid (Play w b0 d bm 0 none 0 [] 0 w1) := hide ⟨HL0.out, prs_nil _ _ _, Nat.le_refl _, HB1.out, by omega⟩
  clear hL hb1 hB0 hd hbm HB1 HL0 hb0
  go_wp2_with fail
  go_loopw [5, 6, 7] (fun v s i wr => ∃ (p : Nat) (A : Option Addr) (c : Nat) (X : List (Int × List Int)) (t : Nat), p ≤ n ∧ p ≤ 80 ∧ i = .int .i64 p ∧ v = .slice A X.length c ∧ s = .int .i64 t ∧ Play w b0 d bm p A c X t wr) (fun _ _ i _ => n - (intOf i).toNat)
  case atStart => exact ⟨0, none, 0, [], 0, Nat.zero_le _, by omega, rfl, rfl, rfl, P0.out⟩
  case round =>
    obtain ⟨p, A, c, X, t, hpn, hp80, rfl, rfl, rfl, hP⟩ := hrel
    have HP := hide hP
    clear hP P0
    by_cases hlt : p < n ∧ p < 80
    · obtain ⟨h1, h2⟩ := hlt
      obtain ⟨b, off, rfl, hb, hc⟩ := HR.out.at_ (k := p) h1
      obtain ⟨x, hx⟩ : ∃ x, x = D p := ⟨_, rfl⟩
      have HF := HX.out p h1
      have hk0 := hc p h1 0 (by omega)
      have hk1 := hc p h1 1 (by omega)
      have hk2 := hc p h1 2 (by omega)
      rw [← hx] at HF hk0 hk1 hk2
      clear hx hc
      obtain ⟨kind, k, v, B, cb⟩ := x
      obtain ⟨hRB, _, _, _, hkw, hlb, hok⟩ := HF
      change Reads w B (bys v) at hRB
      change (Lit.int .i64 k).wf = true at hkw
      change v.length ≤ _ at hlb
      change okRow v at hok
      replace hk0 : w.cell? ⟨b, off + p * 3, none⟩ = some (.int .i64 kind) := hk0
      replace hk1 : w.cell? ⟨b, off + p * 3 + 1, none⟩ = some (.int .i64 k) := hk1
      replace hk2 : w.cell? ⟨b, off + p * 3 + 2, none⟩ = some (.slice B v.length cb) := hk2
      have HRB := hide hRB; have HOK := hide hok; have HKW := hide hkw
      have HBW := hide HP.out.2.2.2.1
      have c0 := (HBW.out.cell (p := ⟨b, off + p * 3, none⟩) hb).trans hk0
      have c1 := (HBW.out.cell (p := ⟨b, off + p * 3 + 1, none⟩) hb).trans hk1
      have c2 := (HBW.out.cell (p := ⟨b, off + p * 3 + 2, none⟩) hb).trans hk2
      have a1 : (0 : Int) ≤ (p : Int) := by omega
      have a2 : (p : Int) < (n : Int) := by omega
      have a3 : (p : Int) < 80 := by omega
      clear hRB hok hkw
      by_cases q0 : kind = 0
      · subst q0
        go_wp2_with fail
        obtain ⟨g8, hg8⟩ : ∃ g8, wr.heap.size = g8 := ⟨_, rfl⟩
        have K0 := heap_new wr (.cells #[.int .i64 0, .int .i64 k, .slice B v.length cb] 44)
        have HW0 := (Below.refl wr.heap.size wr).alloc (Nat.le_refl _) (.cells #[.int .i64 0, .int .i64 k, .slice B v.length cb] 44)
        have hbb := HP.out.2.2.2.2
        rw [hg8] at K0 hbb ⊢
        have HP0 := hide (HP.out.below HW0)
        have K0 := hide K0
        clear HP HW0 c0 c1 c2 hg8
        generalize wr.alloc (.cells #[.int .i64 0, .int .i64 k, .slice B v.length cb] 44) = W0 at *
        have HRV := hide (HRB.out.below HP0.out.2.2.2.1)
        have f0 := (three_at K0.out).2.1
        have f2 := (three_at K0.out).2.2
        refine (put_any d bm p (Lrn.get X) t _ k HKW.out B v.length cb v W0 HP0.out.1 (by omega) (fun g h => h.elim) HRV.out rfl HOK.out).mono ?_
        rintro e w3 ⟨rfl, hL3, hg3⟩
        have HL3 := hide hL3
        have KN := hide ((hg3.block g8 (blk_lt K0.out) (fun h => by injection h with h; omega)).trans K0.out)
        have HX3 := hide (HP0.out.2.1.grown HP0.out.2.2.2.1.size hg3 hbm0 hbw)
        have HB3 := hide (HP0.out.2.2.2.1.grown hg3 HP0.out.2.2.2.1.size (fun g h => by injection h with h; omega))
        have hbs3 : b0 ≤ w3.heap.size := Nat.le_trans HP0.out.2.2.2.2 hg3.size
        clear hL3 hg3 f0 f2
        have f0 := (three_at KN.out).2.1
        have f2 := (three_at KN.out).2.2
        go_wp2_with fail
        refine (rput_any b0 w.heap.size A c X k B cb v v.length w3 HX3.out (by have := HP0.out.2.2.1; omega) hbs3 (HRB.out.below HB3.out) HOK.out rfl (low_of HRB.out) HB3.out.size (by omega)).mono ?_
        rintro e w4 ⟨A', c', X', rfl, hX4, hM4, hl4, hb4⟩
        have HPn : Hid (Play w b0 d bm (p + 1) A' c' X' t w4) := hide ⟨by rw [hM4]; exact HL3.out.below hb4, hX4, by have := HP0.out.2.2.1; omega, HB3.out.trans (hb4.mono HB3.out.size), Nat.le_trans hbs3 hb4.size⟩
        replace KN := hide ((hb4.block _ (blk_lt KN.out)).trans KN.out)
        clear f0 f2 hX4 hM4 hl4 hb4 HL3 HX3 HB3 HP0 K0
        have f0 := (three_at KN.out).2.1
        generalize putCode (Lrn.get X) k v = cd at *
        go_wp2_with fail
        refine (get_any d bm (p + 1) (Lrn.get X') t _ k HKW.out _ HPn.out.1).mono ?_
        rintro e w5 ⟨A5, c5, rfl, r5, hb5⟩
        have HP5 := hide (HPn.out.below hb5)
        have R5 := hide r5
        have f1 := (three_at ((hb5.block _ (blk_lt KN.out)).trans KN.out)).2.1
        clear r5 hb5 f0
        go_wp2_with fail
        refine (rget_any b0 w.heap.size A' c' X' k w5 HP5.out.2.1 (by have := HP5.out.2.2.1; omega)).mono ?_
        rintro e w6 ⟨B6, q6, rfl, r6, o6, l6, b6, rfl⟩
        have s1 := str_reads w5 A5 _ c5 _ R5.out rfl
        have s2 := str_reads w5 B6 _ q6 _ r6 rfl
        clear r6 o6 l6 b6 R5
        generalize (Lrn.get X' k).getD [] = u at *
        generalize (Lrn.get X' k).isSome = y at *
        have e1 : ((strOfNums u).toList == (strOfNums u).toList) = true := by simp
        go_wp2_with fail
        refine (front_any d bm (p + 1) (Lrn.get X') t _ w5 HP5.out.1).mono ?_
        rintro e w7 ⟨rfl, rfl⟩
        go_wp2_with fail
        refine (rfront_any b0 w.heap.size A' c' X' w5 HP5.out.2.1 (by have := HP5.out.2.2.1; omega)).mono ?_
        rintro e w7 ⟨rfl, rfl⟩
        go_wp2_with fail
        refine (top_any d bm (p + 1) (Lrn.get X') t _ w5 HP5.out.1).mono ?_
        rintro e w7 ⟨rfl, hb7⟩
        have HP7 := hide (HP5.out.below hb7)
        clear hb7
        go_wp2_with fail
        refine (rtop_any b0 w.heap.size A' c' X' w7 HP7.out.2.1 (by have := HP7.out.2.2.1; omega) HP7.out.1.fine).mono ?_
        rintro e w8 ⟨rfl, rfl⟩
        go_wp2_with fail
        refine (taken_any d bm (p + 1) (Lrn.get X') t _ w7 HP7.out.1).mono ?_
        rintro e w8 ⟨rfl, rfl⟩
        go_wp2
        go_roundw
        case rel => exact ⟨p + 1, A', c', X', t, by omega, by omega, by go_num, rfl, rfl, HP7.out⟩
        case measure => simp [intOf]; omega
      · by_cases q1 : kind = 1
        · subst q1
          clear q0
          go_wp2_with fail
          obtain ⟨g8, hg8⟩ : ∃ g8, wr.heap.size = g8 := ⟨_, rfl⟩
          have K0 := heap_new wr (.cells #[.int .i64 1, .int .i64 k, .slice B v.length cb] 44)
          have HW0 := (Below.refl wr.heap.size wr).alloc (Nat.le_refl _) (.cells #[.int .i64 1, .int .i64 k, .slice B v.length cb] 44)
          have hbb := HP.out.2.2.2.2
          rw [hg8] at K0 hbb ⊢
          have HP0 := hide (HP.out.below HW0)
          have K0 := hide K0
          clear HP HW0 c0 c1 c2 hg8
          generalize wr.alloc (.cells #[.int .i64 1, .int .i64 k, .slice B v.length cb] 44) = W0 at *
          have HRV := hide (HRB.out.below HP0.out.2.2.2.1)
          have f0 := (three_at K0.out).2.1
          have f2 := (three_at K0.out).2.2
          clear f2
          have HCX := hide HP0.out.2.2.1
          refine (rfront_any b0 w.heap.size A c X W0 HP0.out.2.1 (by have := HP0.out.2.2.1; omega)).mono ?_
          rintro e w3 ⟨rfl, rfl⟩
          have HTF := hide (front_ge HP0.out.1.done HP0.out.1.le)
          have HFL := hide (Lrn.front_le (Lrn.get X))
          go_wp2_with fail
          refine (take_any d bm p (Lrn.get X) t _ W0 HP0.out.1).mono ?_
          rintro e w3 ⟨L3, c3, rfl, hr3, hL3, hg3⟩
          have HL3 := hide hL3
          have HR3 := hide (hr3.rd)
          have KN := hide ((hg3.block g8 (blk_lt K0.out) (fun h => by injection h with h; omega)).trans K0.out)
          have HX3 := hide (HP0.out.2.1.grown HP0.out.2.2.2.1.size hg3 hd0 hdw)
          have HB3 := hide (HP0.out.2.2.2.1.grown hg3 HP0.out.2.2.2.1.size (fun g h => by injection h with h; omega))
          have hbs3 : b0 ≤ w3.heap.size := Nat.le_trans HP0.out.2.2.2.2 hg3.size
          have HOKS := hide (vals_ok HP0.out.1.oks t _ HFL.out)
          clear hL3 hg3 hr3 f0
          have HVL := hide (Lrn.vals_len (M := Lrn.get X) HTF.out)
          go_wp2_with fail
          refine (rbetween_any b0 w.heap.size A c X t (Lrn.front (Lrn.get X)) w3 HX3.out (by have := HCX.out; omega) HB3.out.size HTF.out HFL.out).mono ?_
          rintro e w4 ⟨L4, c4, rfl, hr4, hb4⟩
          have HR4 := hide hr4
          have HB4 := hide hb4
          clear hr4 hb4
          go_wp2_with fail
          refine (rsame_any L3 L4 c3 c4 _ _ w4 (HR3.out.1.below HB4.out) HR4.out HOKS.out HOKS.out (by have := HVL.out; have := HFL.out; omega) (by have := HVL.out; have := HFL.out; omega)).mono ?_
          rintro e w5 ⟨rfl, hb5⟩
          have hb35 : Below w3.heap.size w3 w5 := HB4.out.trans (hb5.mono HB4.out.size)
          have HPn : Hid (Play w b0 d bm (p + 1) A c X (Lrn.front (Lrn.get X)) w5) := hide ⟨(HL3.out.mono (by omega)).below hb35, HX3.out.below HB3.out.size hb35, by have := HCX.out; omega, HB3.out.trans (hb35.mono HB3.out.size), Nat.le_trans hbs3 hb35.size⟩
          replace KN := hide ((hb35.block _ (blk_lt KN.out)).trans KN.out)
          clear hb35 hb5 HL3 HX3 HB3 HB4 HR3 HR4 HOKS HP0 K0 HVL
          have f0 := (three_at KN.out).2.1
          rw [decide_eq_true (rfl : Lrn.vals (Lrn.get X) t (Lrn.front (Lrn.get X)) = _)]
          obtain ⟨t', ht'⟩ : ∃ t', t' = Lrn.front (Lrn.get X) := ⟨_, rfl⟩
          rw [← ht'] at HPn ⊢
          have HT' := hide ht'
          clear ht'
          go_wp2_with fail
          refine (get_any d bm (p + 1) (Lrn.get X) t' _ k HKW.out _ HPn.out.1).mono ?_
          rintro e w5 ⟨A5, c5, rfl, r5, hb5⟩
          have HP5 := hide (HPn.out.below hb5)
          have R5 := hide r5
          have f1 := (three_at ((hb5.block _ (blk_lt KN.out)).trans KN.out)).2.1
          clear r5 hb5 f0
          go_wp2_with fail
          refine (rget_any b0 w.heap.size A c X k w5 HP5.out.2.1 (by have := HP5.out.2.2.1; omega)).mono ?_
          rintro e w6 ⟨B6, q6, rfl, r6, o6, l6, b6, rfl⟩
          have s1 := str_reads w5 A5 _ c5 _ R5.out rfl
          have s2 := str_reads w5 B6 _ q6 _ r6 rfl
          clear r6 o6 l6 b6 R5
          generalize (Lrn.get X k).getD [] = u at *
          generalize (Lrn.get X k).isSome = y at *
          have e1 : ((strOfNums u).toList == (strOfNums u).toList) = true := by simp
          go_wp2_with fail
          refine (front_any d bm (p + 1) (Lrn.get X) t' _ w5 HP5.out.1).mono ?_
          rintro e w7 ⟨rfl, rfl⟩
          go_wp2_with fail
          refine (rfront_any b0 w.heap.size A c X w5 HP5.out.2.1 (by have := HP5.out.2.2.1; omega)).mono ?_
          rintro e w7 ⟨rfl, rfl⟩
          go_wp2_with fail
          refine (top_any d bm (p + 1) (Lrn.get X) t' _ w5 HP5.out.1).mono ?_
          rintro e w7 ⟨rfl, hb7⟩
          have HP7 := hide (HP5.out.below hb7)
          clear hb7
          go_wp2_with fail
          refine (rtop_any b0 w.heap.size A c X w7 HP7.out.2.1 (by have := HP7.out.2.2.1; omega) HP7.out.1.fine).mono ?_
          rintro e w8 ⟨rfl, rfl⟩
          go_wp2_with fail
          refine (taken_any d bm (p + 1) (Lrn.get X) t' _ w7 HP7.out.1).mono ?_
          rintro e w8 ⟨rfl, rfl⟩
          go_wp2
          go_roundw
          case rel => exact ⟨p + 1, A, c, X, t', by omega, by omega, by go_num, rfl, rfl, HP7.out⟩
          case measure => simp [intOf]; omega
        · go_wp2_with fail
          obtain ⟨g8, hg8⟩ : ∃ g8, wr.heap.size = g8 := ⟨_, rfl⟩
          have K0 := heap_new wr (.cells #[.int .i64 kind, .int .i64 k, .slice B v.length cb] 44)
          have HW0 := (Below.refl wr.heap.size wr).alloc (Nat.le_refl _) (.cells #[.int .i64 kind, .int .i64 k, .slice B v.length cb] 44)
          have hbb := HP.out.2.2.2.2
          rw [hg8] at K0 hbb ⊢
          have HP0 := hide (HP.out.below HW0)
          have K0 := hide K0
          clear HP HW0 c0 c1 c2 hg8
          generalize wr.alloc (.cells #[.int .i64 kind, .int .i64 k, .slice B v.length cb] 44) = W0 at *
          have HRV := hide (HRB.out.below HP0.out.2.2.2.1)
          have f0 := (three_at K0.out).2.1
          have f2 := (three_at K0.out).2.2
          clear f2
          have HGL := hide (Lrn.gaps_len (M := Lrn.get X) (hi := k))
          have C1 := hide (fun (W : World) (hb : Below W0.heap.size W0 W) => (missing_any d bm p (Lrn.get X) t _ k W (HP0.out.1.below hb)).mono (R' := fun e w' => ∃ A c, e = .returned (.slice A (Lrn.gaps (Lrn.get X) k).length c) ∧ Reads w' A ((Lrn.gaps (Lrn.get X) k).map (Value.int .i64)) ∧ Below W0.heap.size W0 w' ∧ Below W.heap.size W w') (by
            rintro e w' ⟨A1, c1, rfl, ho, hb'⟩
            exact ⟨A1, c1, rfl, Reads.of_own (e := 3) (n := (Lrn.gaps (Lrn.get X) k).length) (by simpa using ho), hb.trans (hb'.mono hb.size), hb'⟩))
          have C2 := hide (fun (W : World) (hb : Below W0.heap.size W0 W) => (rmissing_any b0 w.heap.size A c X k W ((HP0.out.below hb).2.1) (by have := HP0.out.2.2.1; omega) (HP0.out.below hb).2.2.2.1.size).mono (R' := fun e w' => ∃ A c, e = .returned (.slice A (Lrn.gaps (Lrn.get X) k).length c) ∧ Reads w' A ((Lrn.gaps (Lrn.get X) k).map (Value.int .i64)) ∧ Below W0.heap.size W0 w' ∧ Below W.heap.size W w') (by
            rintro e w' ⟨A1, c1, rfl, ho, hb'⟩
            exact ⟨A1, c1, rfl, Reads.of_own (e := 3) (n := (Lrn.gaps (Lrn.get X) k).length) (by simpa using ho), hb.trans (hb'.mono hb.size), hb'⟩))
          have C3 := hide (fun (A1 A2 : Option Addr) (c1 c2 : Nat) (W : World) (hb : Below W0.heap.size W0 W) (h1 : Reads W A1 ((Lrn.gaps (Lrn.get X) k).map (Value.int .i64))) (h2 : Reads W A2 ((Lrn.gaps (Lrn.get X) k).map (Value.int .i64))) => (nsame_yes A1 A2 c1 c2 _ W h1 h2 (by have := HGL.out; omega)).mono (R' := fun e w' => e = .returned (.bool true) ∧ Below W0.heap.size W0 w') (by
            rintro e w' ⟨rfl, hb'⟩
            exact ⟨rfl, hb.trans (hb'.mono hb.size)⟩))
          have HPX : Hid (∀ W, Below W0.heap.size W0 W → Play w b0 d bm (p + 1) A c X t W) := hide (fun W hb => by
            have h := HP0.out.below hb
            exact ⟨h.1.mono (by omega), h.2.1, by have := h.2.2.1; omega, h.2.2.2.1, h.2.2.2.2⟩)
          generalize hl : (Lrn.gaps (Lrn.get X) k).map (Value.int .i64) = l at *
          generalize hm : (Lrn.gaps (Lrn.get X) k).length = m at *
          clear hl hm HP0 HGL
          go_region_held3 (fun W => Below W0.heap.size W0 W ∧ W.cell? ⟨g8, 1, none⟩ = some (.int .i64 k)) (first | assumption | exact three_held K0.out (by assumption) | exact three_held K0.out (Below.refl W0.heap.size W0).drew) (first
              | (go_at_call 18; (with_reducible refine (C1.out _ (by first | assumption | (refine And.left (b := ?b) ?h; rotate_left; assumption))).mono ?_); rintro e w4 ⟨A4, c4, rfl, hR4, hq4, hb4⟩)
              | (go_at_call 24; (with_reducible refine (C2.out _ (by first | assumption | (refine And.left (b := ?b) ?h; rotate_left; assumption))).mono ?_); rintro e w5 ⟨A5, c5, rfl, hR5, hq5, hb5⟩)
              | (go_at_call 23; (with_reducible refine (C3.out _ _ _ _ _ (by first | assumption | (refine And.left (b := ?b) ?h; rotate_left; assumption)) (by first | exact hR4 | exact hR4.below hb5) (by first | exact hR5 | exact hR5.below hb4)).mono ?_); rintro e w6 ⟨rfl, hq6⟩))
          have HPn := hide (HPX.out _ hq6)
          have KN := hide ((hq6.block _ (blk_lt K0.out)).trans K0.out)
          clear f0 HPX C1 C2 C3 K0
          have f0 := (three_at KN.out).2.1
          go_wp2_with fail
          refine (get_any d bm (p + 1) (Lrn.get X) t _ k HKW.out _ HPn.out.1).mono ?_
          rintro e w5 ⟨A5, c5, rfl, r5, hb5⟩
          have HP5 := hide (HPn.out.below hb5)
          have R5 := hide r5
          have f1 := (three_at ((hb5.block _ (blk_lt KN.out)).trans KN.out)).2.1
          clear r5 hb5 f0
          go_wp2_with fail
          refine (rget_any b0 w.heap.size A c X k w5 HP5.out.2.1 (by have := HP5.out.2.2.1; omega)).mono ?_
          rintro e w6 ⟨B6, q6, rfl, r6, o6, l6, b6, rfl⟩
          have s1 := str_reads w5 A5 _ c5 _ R5.out rfl
          have s2 := str_reads w5 B6 _ q6 _ r6 rfl
          clear r6 o6 l6 b6 R5
          generalize (Lrn.get X k).getD [] = u at *
          generalize (Lrn.get X k).isSome = y at *
          have e1 : ((strOfNums u).toList == (strOfNums u).toList) = true := by simp
          go_wp2_with fail
          refine (front_any d bm (p + 1) (Lrn.get X) t _ w5 HP5.out.1).mono ?_
          rintro e w7 ⟨rfl, rfl⟩
          go_wp2_with fail
          refine (rfront_any b0 w.heap.size A c X w5 HP5.out.2.1 (by have := HP5.out.2.2.1; omega)).mono ?_
          rintro e w7 ⟨rfl, rfl⟩
          go_wp2_with fail
          refine (top_any d bm (p + 1) (Lrn.get X) t _ w5 HP5.out.1).mono ?_
          rintro e w7 ⟨rfl, hb7⟩
          have HP7 := hide (HP5.out.below hb7)
          clear hb7
          go_wp2_with fail
          refine (rtop_any b0 w.heap.size A c X w7 HP7.out.2.1 (by have := HP7.out.2.2.1; omega) HP7.out.1.fine).mono ?_
          rintro e w8 ⟨rfl, rfl⟩
          go_wp2_with fail
          refine (taken_any d bm (p + 1) (Lrn.get X) t _ w7 HP7.out.1).mono ?_
          rintro e w8 ⟨rfl, rfl⟩
          go_wp2
          go_roundw
          case rel => exact ⟨p + 1, A, c, X, t, by omega, by omega, by go_num, rfl, rfl, HP7.out⟩
          case measure => simp [intOf]; omega
    · have F : Hid (Below w.heap.size w wr) := hide HP.out.2.2.2.1
      by_cases h1 : p < n
      · have h2 : (80 : Int) ≤ (p : Int) := by omega
        clear hlt
        go_wp2
        go_ret
        exact ⟨rfl, F.out⟩
      · have h2 : (n : Int) ≤ (p : Int) := by omega
        clear hlt
        go_wp2
        go_ret
        exact ⟨rfl, F.out⟩

set_option maxRecDepth 100000 in
theorem learnPlays_lifted (os : Os) (started : os.Started) (H : Type) (enc : TypeId × Value → H) :
    ReturnsInHanded {} Try.checked os 7 .any (Rows.learnPlaysSpec.pre6 enc Try.prog Try.f7 Rows.learnPlaysRow.domain false) (Rows.learnPlaysSpec.post enc Try.prog Try.f7 false true false false) := by
  refine returnsInHanded_of_change_sized (C := Try.checked) (by kernel_rfl) started (by kernel_rfl) Try.func7
    (ChangeSpec.witness6 (enc := enc) (C := Try.checked) false ⟨#[], #[.slice none 0 0], []⟩ 8 (by kernel_rfl) (by kernel_rfl) (by kernel_rfl) (by kernel_rfl)) ?_
  intro W base args ds gs before hval0 hW _ hsz0 _
  have hval : ∀ (j : Nat) t v, Try.f7.params[j]? = some t → args[j]? = some v → Value.okWide Try.prog W .any base t v := hval0
  have hW' := hW
  obtain ⟨p, q, hA0, hV, rfl, _, _⟩ := hW
  have hA : DataW.TrodAll enc Try.prog W 0 (fun _ => true) true Try.f7.params.toList args.toList ds p := hA0
  have hsz : (DataW.weightsEach Try.prog (Try.f7.params.toList ++ Rows.learnPlaysSpec.plain.varTypes Try.prog) (ds ++ gs)).all (· ≤ reachBytes) = true := hsz0
  rw [Try.params7] at hA hval hsz
  obtain ⟨v0, d0, rfl, rfl, h0⟩ := trodAll_one hA
  obtain ⟨A0, cap0, n0, V, fuel, D, rfl, _, _, hR0, hel, hn0⟩ := open_rows Try.underlying41 (C := 3) (by kernel_rfl) (by omega) (hval 0 41 v0 rfl rfl) h0
  have hS0 : Sized Try.prog 41 d0 := sized_arg hsz (j := 0) rfl rfl
  have hSE : ∀ i, i < n0 → Sized Try.prog 44 (D i) := fun i hi => by rcases hn0 with h | ⟨el, sp, h1, _, h3⟩; omega; rw [h1] at hS0; exact hS0.elem Try.underlying41 (h3 i hi)
  obtain ⟨X, hV⟩ := chooseD (n := n0) (p := fun i (x : Deed) => V i = x.cells ∧ x.fine W) (fun i hi => deed_cells (hel i hi).1 (hel i hi).2.choose_spec (hSE i hi))
  have hR3 := hR0.congr (fun i hi => (hV i hi).1)
  refine (learnPlays_walk A0 n0 cap0 X W hR3 (fun i hi => (hV i hi).2)).mono fun e W' ⟨he, hb⟩ => ?_
  subst he
  exact ⟨_, rfl, post_law (by kernel_rfl) (by kernel_rfl) rfl hW' (by rintro _ rfl; rfl) rfl Try.underlying4 hb⟩

theorem learnPlays_holds : Rows.LearnPlaysSaid :=
  OpenClaim.holds_of_wide 7 Try.f7 rfl rfl rfl rfl rfl rfl rfl ⟨rfl, rfl, rfl, rfl, rfl⟩ rfl rfl rfl rfl rfl (by kernel_rfl) Try.func7 (by kernel_rfl)
    (of_decide_eq_true (by kernel_rfl)) (by unfold Func.isWrapper; first | (rw [if_pos (by decide +kernel)]; kernel_rfl) | (rw [if_neg (by decide +kernel)]; exact ⟨rfl, rfl⟩))
    (fun os started H enc _ => learnPlays_lifted os started H enc)

end Go.Proofs.Ytodlabpgjgbbpae
