/-
  All that was taken, of slots decided in some order, and taken now and then.
-/
import Derived.Test.YtodlabpgjgbbpaeLearnAwake
import Derived.Test.YtodlabpgjgbbpaeLearnKnow
import Derived.IntWalk
namespace Go.Proofs.Ytodlabpgjgbbpae
open Go.RowKit Go.Agio

/-- Whole slices are appended. -/
theorem RowsAt.join {w w' : World} {base : Nat} {v v' : Value} {l k : List (List Int)} {vals ws : List Value} (h2 : vals.length = l.length) (k2 : ws.length = k.length)
    (h3 : ∀ i, i < l.length → ∃ A c, vals[i]? = some (.slice A (l.getD i []).length c) ∧ Reads w A (bys (l.getD i [])) ∧ ∀ a, A = some a → base ≤ a.block ∧ a.block < w.heap.size ∧ v.ownBlock ≠ some a.block)
    (k3 : ∀ i, i < k.length → ∃ A c, ws[i]? = some (.slice A (k.getD i []).length c) ∧ Reads w A (bys (k.getD i [])) ∧ ∀ a, A = some a → base ≤ a.block ∧ a.block < w.heap.size ∧ v.ownBlock ≠ some a.block)
    (hO : w'.ownsRow base 22 1 v' (l.length + k.length) (vals ++ ws)) (hg : w.grownBy w' v.ownBlock) (hat : v'.ownBlock = v.ownBlock ∨ v'.ownBlock = some w.heap.size) : RowsAt w' base v' (l ++ k) := by
  have key : ∀ (B : Option Addr) (y : List Int), Reads w B (bys y) → (∀ a, B = some a → base ≤ a.block ∧ a.block < w.heap.size ∧ v.ownBlock ≠ some a.block) → Reads w' B (bys y) ∧ ∀ a, B = some a → base ≤ a.block ∧ a.block < w'.heap.size ∧ v'.ownBlock ≠ some a.block := fun B y hR hB =>
    ⟨hR.grown hg (fun b off he h => (hB _ he).2.2 h.symm), fun a ha => ⟨(hB a ha).1, Nat.lt_of_lt_of_le (hB a ha).2.1 hg.size, by
      rcases hat with h | h
      · rw [h]; exact (hB a ha).2.2
      · rw [h]; intro he; injection he with he; have := (hB a ha).2.1; omega⟩⟩
  refine ⟨vals ++ ws, by rw [List.length_append]; exact hO, by simp [h2, k2], fun i hi => ?_⟩
  rcases Nat.lt_or_ge i l.length with hlt | hge
  · obtain ⟨B, d, g1, g2, g3⟩ := h3 i hlt
    have e : (l ++ k).getD i [] = l.getD i [] := by simp [List.getD_eq_getElem?_getD, List.getElem?_append_left hlt]
    rw [e]
    obtain ⟨k1, k4⟩ := key B _ g2 g3
    exact ⟨B, d, by rw [List.getElem?_append_left (by omega)]; exact g1, k1, k4⟩
  · obtain ⟨B, d, g1, g2, g3⟩ := k3 (i - l.length) (by rw [List.length_append] at hi; omega)
    have e : (l ++ k).getD i [] = k.getD (i - l.length) [] := by simp [List.getD_eq_getElem?_getD, List.getElem?_append_right hge]
    rw [e]
    obtain ⟨k1, k4⟩ := key B _ g2 g3
    exact ⟨B, d, by rw [List.getElem?_append_right (by omega), h2]; exact g1, k1, k4⟩

set_option maxRecDepth 100000 in
set_option maxHeartbeats 1000000 in
theorem value_any (k : Nat) (hk : k ≤ 4096) (w : World) : Calls Try.prog 11 #[.int .i64 (k : Int)] w fun e w' => ∃ A c, e = .returned (.slice A (Lrn.valueRow k).length c) ∧ Reads w' A (bys (Lrn.valueRow k)) ∧ Below w.heap.size w w' := by
  by_cases h : (k : Int) % 3 = 2
  · have e : Lrn.valueRow k = [] := by unfold Lrn.valueRow; rw [if_pos h]
    rw [e]
    go_enter Try.func11, Try.ntmps11
    go_wp2
    go_ret
    exact ⟨none, 0, rfl, Reads.nil _ _, Below.refl _ _⟩
  · have e : Lrn.valueRow k = [(k : Int) % 256, (k : Int) / 256 % 256, 7] := by unfold Lrn.valueRow; rw [if_neg h]
    rw [e]
    have h2 : ((k : Int) % 3 == 2) = false := by rw [beq_eq_false_iff_ne]; exact h
    clear e h
    go_enter Try.func11, Try.ntmps11
    go_wp2
    go_ret
    have hq : (k : Int) / 256 % 256 = (k : Int) / 256 := by omega
    refine ⟨some ⟨w.heap.size, 0, none⟩, 3, rfl, ?_, (Below.refl _ _).alloc (Nat.le_refl _) _⟩
    rw [hq]
    exact Reads.new w [.int .u8 ((k : Int) % 256), .int .u8 ((k : Int) / 256), .int .u8 7] _ _

theorem put_know {zs : List Int} {z : Int} (h0 : 0 ≤ z) (h1 : z ≤ 4095) : putMap (Lrn.know zs) z (Lrn.valueRow z) = Lrn.know (zs ++ [z]) := by
  have hl := Lrn.valueRow_len z
  by_cases h : z ∈ zs
  · rw [(put_had ⟨h0, h1, by omega⟩ (Lrn.know_at h)).2, Lrn.know_had h]
  · rw [(put_new ⟨h0, h1, by omega⟩ (Lrn.know_not h)).2, Lrn.know_put h]
theorem know_code {zs : List Int} {z : Int} (h0 : 0 ≤ z) (h1 : z ≤ 4095) : putCode (Lrn.know zs) z (Lrn.valueRow z) = 0 := by
  have hl := Lrn.valueRow_len z
  by_cases h : z ∈ zs
  · rw [(put_had ⟨h0, h1, by omega⟩ (Lrn.know_at h)).1, if_pos rfl]
  · rw [(put_new ⟨h0, h1, by omega⟩ (Lrn.know_not h)).1]

/-- An elder block is turned. -/
theorem RowsAt.old {w w' : World} {base m : Nat} {v : Value} {l : List (List Int)} (h : RowsAt w base v l) (hg : w.grownBy w' (some m)) (hm : m < base) : RowsAt w' base v l := by
  obtain ⟨vals, h1, h2, h3⟩ := h
  refine ⟨vals, h1.kept hg (.inr fun he => by have := (h1.lt m he).1; omega), h2, fun i hi => ?_⟩
  obtain ⟨A, c, g1, g2, g3⟩ := h3 i hi
  exact ⟨A, c, g1, g2.grown hg (fun b off he hr => by injection hr with hr; have := (g3 _ he).1; simp only at this; omega), fun a ha => ⟨(g3 a ha).1, Nat.lt_of_lt_of_le (g3 a ha).2.1 hg.size, (g3 a ha).2.2⟩⟩
abbrev rowOf (L : Option Addr) (t d : Nat) : Nat → Prop := fun g => Value.ownBlock (.slice L t d) = some g

theorem RowsAt.lower {w : World} {base base' : Nat} {v : Value} {l : List (List Int)} (h : RowsAt w base v l) (hb : base' ≤ base) : RowsAt w base' v l := by
  obtain ⟨vals, h1, h2, h3⟩ := h
  refine ⟨vals, own_base h1 hb, h2, fun i hi => ?_⟩
  obtain ⟨A, c, g1, g2, g3⟩ := h3 i hi
  exact ⟨A, c, g1, g2, fun a ha => ⟨Nat.le_trans hb (g3 a ha).1, (g3 a ha).2⟩⟩
/-- What has been taken, and is appended. -/
theorem joined {w w1 W w4 w5 : World} {dd bm n t f d c4 : Nat} {M : Lrn.Map} {zs : List Int} {L L4 A5 : Option Addr} {c5 : Nat} {vals ws : List Value} (hM : M = Lrn.know zs) (hd : dd < w1.heap.size) (hbm : bm < w1.heap.size) (hBw : Below w.heap.size w w1) (hB1 : Below w.heap.size w W) (h1W : w1.heap.size ≤ W.heap.size)
    (hdw : w.heap.size ≤ dd)
    (v1 : W.ownsRow w1.heap.size 22 1 (.slice L t d) t vals) (hv : vals.length = t)
    (h3 : ∀ i, i < (Lrn.vals Lrn.V 0 t).length → ∃ A c, vals[i]? = some (.slice A ((Lrn.vals Lrn.V 0 t).getD i []).length c) ∧ Reads W A (bys ((Lrn.vals Lrn.V 0 t).getD i [])) ∧ ∀ a, A = some a → w1.heap.size ≤ a.block ∧ a.block < W.heap.size ∧ Value.ownBlock (.slice L t d) ≠ some a.block)
    (htf : t ≤ f) (hf : ∀ j : Nat, j < f → (M j).isSome = true)
    (u2 : ws.length = (Lrn.vals M t f).length)
    (u3 : ∀ i, i < (Lrn.vals M t f).length → ∃ A c, ws[i]? = some (.slice A ((Lrn.vals M t f).getD i []).length c) ∧ Reads w4 A (bys ((Lrn.vals M t f).getD i [])) ∧ ∀ a, A = some a → W.heap.size ≤ a.block ∧ a.block < w4.heap.size ∧ Value.ownBlock (.slice L4 (Lrn.vals M t f).length c4) ≠ some a.block)
    (hL4 : LAt w4 dd bm n M f (rowOf L t d)) (hg4 : W.grownBy w4 (some dd))
    (n5 : w5.ownsRow w1.heap.size 22 1 (.slice A5 f c5) f (vals ++ ws)) (g5 : w4.grownBy w5 (Value.ownBlock (.slice L t d))) (t5 : Value.ownBlock (.slice A5 f c5) = Value.ownBlock (.slice L t d) ∨ Value.ownBlock (.slice A5 f c5) = some w4.heap.size) :
    RowsAt w5 w1.heap.size (.slice A5 f c5) (Lrn.vals Lrn.V 0 f) ∧ LAt w5 dd bm n M f (rowOf A5 f c5) ∧ Below w.heap.size w w5 ∧ w1.heap.size ≤ w5.heap.size := by
  have hvt : (Lrn.vals Lrn.V 0 t).length = t := Lrn.vals_len0
  have hk := (Lrn.vals_know (zs := zs) (a := t) (b := f) (by rw [← hM]; exact hf))
  rw [← hM] at hk
  have hown : ∀ r, Value.ownBlock (.slice L t d) = some r → w1.heap.size ≤ r ∧ r < W.heap.size := fun r hr => v1.lt r hr
  refine ⟨?_, ?_, ?_, Nat.le_trans h1W (Nat.le_trans hg4.size g5.size)⟩
  · rw [Lrn.vals_join htf, ← hk]
    refine RowsAt.join (w := w4) (v := .slice L t d) (vals := vals) (ws := ws) (by rw [hvt]; exact hv) u2 (fun i hi => ?_) (fun i hi => ?_) ?_ g5 t5
    · obtain ⟨A, c, k1, k2, k3⟩ := h3 i hi
      exact ⟨A, c, k1, k2.grown hg4 (fun b off he hr => by injection hr with hr; have := (k3 _ he).1; simp only at this; omega), fun a ha => ⟨(k3 a ha).1, Nat.lt_of_lt_of_le (k3 a ha).2.1 hg4.size, (k3 a ha).2.2⟩⟩
    · obtain ⟨A, c, k1, k2, k3⟩ := u3 i hi
      exact ⟨A, c, k1, k2, fun a ha => ⟨Nat.le_trans h1W (k3 a ha).1, (k3 a ha).2.1, fun he => by have := (hown _ he).2; have := (k3 a ha).1; omega⟩⟩
    · have e : (Lrn.vals Lrn.V 0 t).length + (Lrn.vals M t f).length = f := by rw [hvt, Lrn.vals_len htf]; omega
      rw [e]
      exact n5
  · refine hL4.grown g5 (fun h => by have := (hown dd h.symm).1; omega) (fun h => by have := (hown bm h.symm).1; omega) (fun r hr => hr) (fun g hg => ?_)
    rcases t5 with h | h
    · exact .inl (h.symm.trans hg)
    · right
      have := h.symm.trans hg
      injection this with this
      omega
  · exact (hB1.grown hg4 hB1.size (fun j hj => by cases hj; exact hdw)).grown g5 (Nat.le_trans hB1.size hg4.size) (fun r hr => Nat.le_trans hBw.size (hown r hr).1)

set_option maxRecDepth 100000 in
set_option maxHeartbeats 8000000 in
theorem taken_law (A : Option Addr) (c : Nat) (zs : List Int) (ev : Int) (j : Nat) (w : World) (hR : Reads w A (bys zs)) (hz : okRow zs) (hev0 : 0 ≤ ev) (hev1 : ev ≤ 255) (hj : ev % 5 = (j : Int)) (hm : zs.length ≤ 140737488351232) :
    Calls Try.prog 10 #[.slice A zs.length c, .int .u8 ev] w fun e w' => ∃ L d, e = .returned (.slice L (Lrn.frontOf (zs.take 300)) d) ∧ RowsAt w' w.heap.size (.slice L (Lrn.frontOf (zs.take 300)) d) (Lrn.vals Lrn.V 0 (Lrn.frontOf (zs.take 300))) ∧ Below w.heap.size w w' := by
  obtain ⟨i0, hi, hz0, hz1, hz2⟩ := info_parts info22
  have HR := hide hR; have HZ := hide hz
  clear hR hz
  go_enter Try.func10, Try.ntmps10
  go_wp2_with fail
  refine (new_any _).mono ?_
  rintro e w1 ⟨dd, bm, rfl, hd, hbm, hL, hb1⟩
  have HB1 := hide hb1
  have hdl := (hL (fun _ => False)).lt
  have hd1 := hdl.1; have hd2 := hdl.2
  have HL0 := hide (hL (rowOf none 0 0))
  clear hL hb1 hdl
  go_wp2_with fail
  go_loopw [6, 7] (fun v s wr => ∃ (i t : Nat) (L : Option Addr) (d : Nat), s = .int .i64 i ∧ v = .slice L t d ∧ i ≤ zs.length ∧ i ≤ 300 ∧ RowsAt wr w1.heap.size (.slice L t d) (Lrn.vals Lrn.V 0 t) ∧ LAt wr dd bm i (Lrn.know (zs.take i)) t (rowOf L t d) ∧ Below w.heap.size w wr ∧ w1.heap.size ≤ wr.heap.size) (fun _ s _ => 300 - (intOf s).toNat)
  case atStart => exact ⟨0, 0, none, 0, rfl, rfl, Nat.zero_le _, by omega, rowsAt_nil _ _, by rw [List.take_zero, Lrn.know_nil]; exact HL0.out, HB1.out, Nat.le_refl _⟩
  case round =>
    obtain ⟨i, t, L, d, rfl, rfl, hi1, hi2, hrow, hL, hB, h1w⟩ := hrel
    have HROW := hide hrow; have HL := hide hL; have HB := hide hB
    clear hrow hL hB
    by_cases hlt : i < zs.length ∧ i < 300
    · obtain ⟨hlt1, hlt2⟩ := hlt
      obtain ⟨b, off, rfl, hb, hc⟩ := (HR.out.below HB.out).at_ (k := i) (by simpa using hlt1)
      have hck := hc i (by simpa using hlt1)
      rw [getD_map_int _ _ hlt1] at hck
      have hzi := HZ.out (zs.getD i 0) (by rw [List.getD_eq_getElem?_getD, List.getElem?_eq_getElem hlt1]; exact List.getElem_mem hlt1)
      obtain ⟨p, hp⟩ : ∃ p : Nat, zs.getD i 0 = p := ⟨(zs.getD i 0).toNat, by omega⟩
      rw [hp] at hck hzi
      have HTK := hide (show zs.take (i + 1) = zs.take i ++ [(p : Int)] by rw [take_snoc zs 0 i hlt1, hp])
      have HPK := hide (put_know (zs := zs.take i) (z := (p : Int)) (by omega) (by omega))
      have HKW := hide (WalkArith.wf_i64 (n := (p : Int)) (by omega))
      have hp255 : (p : Int) ≤ 255 := hzi.2
      have hb0 : b < w.heap.size := by
        obtain ⟨b', off', he, hb', _⟩ := HR.out.at_ (k := i) (by simpa using hlt1)
        cases he; exact hb'
      have hVR := Lrn.valueRow_len (p : Int)
      have HVO : Hid (okRow (Lrn.valueRow (p : Int))) := hide (Lrn.valueRow_ok (p : Int))
      have HOWN : Hid (∀ g, rowOf L t d g → w1.heap.size ≤ g ∧ g < wr.heap.size) := hide (fun g hg => by obtain ⟨vals, h1, _⟩ := HROW.out; exact h1.lt g hg)
      have h2w : w.heap.size ≤ w1.heap.size := HB1.out.size
      clear hp hzi hc
      generalize hk : zs.take i = ks at *
      have HK := hide hk
      clear hk
      have hp4 : p ≤ 4096 := by omega
      have hi3 : i < 1000000 := by omega
      have HNE : Hid (some b ≠ some bm) := hide (fun h => by injection h with h; omega)
      have wp : IntKind.i64.wrap (p : Int) = (p : Int) := IntWalk.i64_in _ (by omega)
      go_wp2_with fail
      go_region_held3 (fun W => W.cell? ⟨b, off + i, none⟩ = some (.int .u8 (p : Int))) (first | assumption | go_keep) (first
        | (go_at_call 11; (with_reducible refine (value_any p hp4 _).mono ?_); rintro e w2 ⟨A2, c2, rfl, hR2, hb2⟩; have q2 : w2.cell? ⟨b, off + i, none⟩ = some (.int .u8 (p : Int)) := (hb2.cell (p := ⟨b, off + i, none⟩) hb).trans hck; have R2 := hide hR2; have B2 : Hid (Below wr.heap.size wr w2) := hide ((Below.refl _ wr).drew.trans hb2); clear hR2 hb2)
        | (go_at_call 14; (with_reducible refine (put_any dd bm i (Lrn.know ks) t (rowOf L t d) (p : Int) HKW.out A2 _ c2 (Lrn.valueRow (p : Int)) _ (HL.out.below B2.out) hi3 (fun g hg => Nat.lt_of_lt_of_le (HOWN.out g hg).2 B2.out.size) R2.out rfl HVO.out).mono ?_); rintro e w3 ⟨rfl, hL3, hg3⟩; rw [HPK.out, ← HTK.out] at hL3; have q3 : w3.cell? ⟨b, off + i, none⟩ = some (.int .u8 (p : Int)) := (World.cell?_of_block (w := w2) (a := ⟨b, off + i, none⟩) (hg3.block _ (Nat.lt_of_lt_of_le hb B2.out.size) HNE.out)).trans q2; have L3 := hide hL3; have G3 := hide hg3; clear hL3 hg3))
      clear wp
      have HB3 := hide (HB.out.trans (B2.out.mono HB.out.size))
      have HB3 := hide (HB3.out.grown G3.out HB3.out.size (fun g hg => by cases hg; exact hbm))
      have h13 : Hid (w1.heap.size ≤ w3.heap.size) := hide (Nat.le_trans h1w (Nat.le_trans B2.out.size G3.out.size))
      have HROW3 := hide ((HROW.out.below B2.out).old G3.out hd2)
      clear q2 q3
      have hej : ev % 5 = (j : Int) := hj
      by_cases hmod : (i : Int) % (1 + (j : Int)) = 0
      · go_wp2_with fail
        refine (take_any dd bm _ _ t (rowOf L t d) w3 L3.out).mono ?_
        rintro e w4 ⟨L4, c4, rfl, hr4, hL4, hg4⟩
        obtain ⟨f, hf⟩ : ∃ f, f = Lrn.front (Lrn.know (zs.take (i + 1))) := ⟨_, rfl⟩
        have HFA := hide (fun (q : Nat) h => Lrn.front_all (Lrn.know (zs.take (i + 1))) (j := q) h)
        have hfl := Lrn.front_le (Lrn.know (zs.take (i + 1)))
        have htf := front_ge (L3.out).done (L3.out).le
        rw [← hf] at hr4 hL4 HFA hfl htf
        rw [← hf]
        obtain ⟨ws, u1, u2, u3⟩ := hr4
        have HU1 := hide u1; have HU2 := hide u2; have HU3 := hide u3; have HL4 := hide hL4; have HG4 := hide hg4; have HF := hide hf
        obtain ⟨vals, v1, v2, v3⟩ := HROW3.out
        rw [Lrn.vals_len0] at v1 v2
        have HV1 := hide v1; have HV2 := hide v2; have HV3 := hide v3
        have HO4 : Hid (w4.ownsRow w1.heap.size 22 1 (.slice L t d) t vals) := hide (v1.kept hg4 (.inr fun he => by have := (v1.lt dd he).1; omega))
        have hml : (Lrn.vals (Lrn.know (zs.take (i + 1))) t f).length = f - t := Lrn.vals_len htf
        have hsz : w1.heap.size ≤ w4.heap.size := Nat.le_trans h13.out hg4.size
        have HR4 := hide (Reads.of_own u1)
        have hall : ∀ u ∈ ws, u.oneCell' = true := fun u hu => by
          obtain ⟨q, hq, hqe⟩ := List.getElem_of_mem hu
          obtain ⟨B, r, g1, _⟩ := u3 q (by rw [← u2]; exact hq)
          rw [List.getElem?_eq_getElem hq] at g1
          injection g1 with g1
          rw [← hqe, g1]
          rfl
        have HALL := hide hall
        have HML := hide (show t + (Lrn.vals (Lrn.know (zs.take (i + 1))) t f).length = f by rw [hml]; omega)
        generalize hmm : (Lrn.vals (Lrn.know (zs.take (i + 1))) t f).length = mm at *
        have HMM := hide hmm
        clear u1 u2 u3 hL4 hg4 hf v1 v2 v3 hall hmm hml
        go_wp2_with (at_builtin; apply halted)
        refine unhalt (wpList_append_reads rfl (.tmp 39) (.tmp 41) 24 rfl w1.heap.size 22 i0 (.slice none 0 0) 24 Try.underlying24 hi hz0 hz1 hz2 rfl _ t vals rfl HO4.out L4 mm c4 ws rfl HR4.out HU2.out HALL.out (by have := HML.out; unfold maxLen; omega) (by have := HML.out; omega) hsz ?_)
        intro A5 c5 w5 n5 g5 t5
        rw [HML.out] at n5 t5
        rw [HML.out]
        have J5 := hide (joined (zs := zs.take (i + 1)) rfl hd1 hd2 HB1.out HB3.out h13.out hd HV1.out HV2.out HV3.out htf HFA.out (by rw [HMM.out]; exact HU2.out) (by rw [HMM.out]; exact HU3.out) HL4.out HG4.out n5 g5 t5)
        clear n5 g5 t5

        go_wp2
        go_roundw
        case rel => exact ⟨i + 1, f, A5, c5, by go_num, rfl, by omega, by omega, J5.out.1, J5.out.2.1.mono (by omega), J5.out.2.2.1, J5.out.2.2.2⟩
        case measure => simp [intOf]; omega
      · have hm2 : ((i : Int) % (1 + (j : Int)) == 0) = false := by rw [beq_eq_false_iff_ne]; exact hmod
        clear hmod
        go_wp2
        go_roundw
        case rel => exact ⟨i + 1, t, L, d, by go_num, rfl, by omega, by omega, HROW3.out, L3.out, HB3.out, h13.out⟩
        case measure => simp [intOf]; omega
    · have HTI := hide (show zs.take i = zs.take 300 by
        by_cases h : i = 300
        · rw [h]
        · rw [List.take_of_length_le (by omega), List.take_of_length_le (by omega)])
      have HROW3 := HROW
      have HB3 := HB
      have h13 := hide h1w
      have hzz : Hid (i < zs.length → (300 : Int) ≤ (i : Int)) := hide (fun h => by omega)
      clear HROW HB h1w hlt
      by_cases hl1 : i < zs.length
      · have hl2 := hzz.out hl1
        go_wp2_with fail
        refine (take_any dd bm _ _ t (rowOf L t d) wr HL.out).mono ?_
        rintro e w4 ⟨L4, c4, rfl, hr4, hL4, hg4⟩
        obtain ⟨f, hf⟩ : ∃ f, f = Lrn.front (Lrn.know (zs.take i)) := ⟨_, rfl⟩
        have HFA := hide (fun (q : Nat) h => Lrn.front_all (Lrn.know (zs.take i)) (j := q) h)
        have hfl := Lrn.front_le (Lrn.know (zs.take i))
        have htf := front_ge (HL.out).done (HL.out).le
        rw [← hf] at hr4 hL4 HFA hfl htf
        rw [← hf]
        obtain ⟨ws, u1, u2, u3⟩ := hr4
        have HU1 := hide u1; have HU2 := hide u2; have HU3 := hide u3; have HL4 := hide hL4; have HG4 := hide hg4; have HF := hide hf
        obtain ⟨vals, v1, v2, v3⟩ := HROW3.out
        rw [Lrn.vals_len0] at v1 v2
        have HV1 := hide v1; have HV2 := hide v2; have HV3 := hide v3
        have HO4 : Hid (w4.ownsRow w1.heap.size 22 1 (.slice L t d) t vals) := hide (v1.kept hg4 (.inr fun he => by have := (v1.lt dd he).1; omega))
        have hml : (Lrn.vals (Lrn.know (zs.take i)) t f).length = f - t := Lrn.vals_len htf
        have hsz : w1.heap.size ≤ w4.heap.size := Nat.le_trans h13.out hg4.size
        have HR4 := hide (Reads.of_own u1)
        have hall : ∀ u ∈ ws, u.oneCell' = true := fun u hu => by
          obtain ⟨q, hq, hqe⟩ := List.getElem_of_mem hu
          obtain ⟨B, r, g1, _⟩ := u3 q (by rw [← u2]; exact hq)
          rw [List.getElem?_eq_getElem hq] at g1
          injection g1 with g1
          rw [← hqe, g1]
          rfl
        have HALL := hide hall
        have HML := hide (show t + (Lrn.vals (Lrn.know (zs.take i)) t f).length = f by rw [hml]; omega)
        generalize hmm : (Lrn.vals (Lrn.know (zs.take i)) t f).length = mm at *
        have HMM := hide hmm
        clear u1 u2 u3 hL4 hg4 hf v1 v2 v3 hall hmm hml
        go_wp2_with (at_builtin; apply halted)
        refine unhalt (wpList_append_reads rfl (.tmp 43) (.tmp 45) 24 rfl w1.heap.size 22 i0 (.slice none 0 0) 24 Try.underlying24 hi hz0 hz1 hz2 rfl _ t vals rfl HO4.out L4 mm c4 ws rfl HR4.out HU2.out HALL.out (by have := HML.out; unfold maxLen; omega) (by have := HML.out; omega) hsz ?_)
        intro A5 c5 w5 n5 g5 t5
        rw [HML.out] at n5 t5
        rw [HML.out]
        have J5 := hide (joined (zs := zs.take i) rfl hd1 hd2 HB1.out HB3.out h13.out hd HV1.out HV2.out HV3.out htf HFA.out (by rw [HMM.out]; exact HU2.out) (by rw [HMM.out]; exact HU3.out) HL4.out HG4.out n5 g5 t5)
        clear n5 g5 t5

        go_wp2
        go_ret
        rw [← HTI.out]
        unfold Lrn.frontOf
        rw [← HF.out]
        exact ⟨A5, c5, rfl, J5.out.1.lower HB1.out.size, J5.out.2.2.1⟩
      · have hl2 : (zs.length : Int) ≤ (i : Int) := by omega
        go_wp2_with fail
        refine (take_any dd bm _ _ t (rowOf L t d) wr HL.out).mono ?_
        rintro e w4 ⟨L4, c4, rfl, hr4, hL4, hg4⟩
        obtain ⟨f, hf⟩ : ∃ f, f = Lrn.front (Lrn.know (zs.take i)) := ⟨_, rfl⟩
        have HFA := hide (fun (q : Nat) h => Lrn.front_all (Lrn.know (zs.take i)) (j := q) h)
        have hfl := Lrn.front_le (Lrn.know (zs.take i))
        have htf := front_ge (HL.out).done (HL.out).le
        rw [← hf] at hr4 hL4 HFA hfl htf
        rw [← hf]
        obtain ⟨ws, u1, u2, u3⟩ := hr4
        have HU1 := hide u1; have HU2 := hide u2; have HU3 := hide u3; have HL4 := hide hL4; have HG4 := hide hg4; have HF := hide hf
        obtain ⟨vals, v1, v2, v3⟩ := HROW3.out
        rw [Lrn.vals_len0] at v1 v2
        have HV1 := hide v1; have HV2 := hide v2; have HV3 := hide v3
        have HO4 : Hid (w4.ownsRow w1.heap.size 22 1 (.slice L t d) t vals) := hide (v1.kept hg4 (.inr fun he => by have := (v1.lt dd he).1; omega))
        have hml : (Lrn.vals (Lrn.know (zs.take i)) t f).length = f - t := Lrn.vals_len htf
        have hsz : w1.heap.size ≤ w4.heap.size := Nat.le_trans h13.out hg4.size
        have HR4 := hide (Reads.of_own u1)
        have hall : ∀ u ∈ ws, u.oneCell' = true := fun u hu => by
          obtain ⟨q, hq, hqe⟩ := List.getElem_of_mem hu
          obtain ⟨B, r, g1, _⟩ := u3 q (by rw [← u2]; exact hq)
          rw [List.getElem?_eq_getElem hq] at g1
          injection g1 with g1
          rw [← hqe, g1]
          rfl
        have HALL := hide hall
        have HML := hide (show t + (Lrn.vals (Lrn.know (zs.take i)) t f).length = f by rw [hml]; omega)
        generalize hmm : (Lrn.vals (Lrn.know (zs.take i)) t f).length = mm at *
        have HMM := hide hmm
        clear u1 u2 u3 hL4 hg4 hf v1 v2 v3 hall hmm hml
        go_wp2_with (at_builtin; apply halted)
        refine unhalt (wpList_append_reads rfl (.tmp 43) (.tmp 45) 24 rfl w1.heap.size 22 i0 (.slice none 0 0) 24 Try.underlying24 hi hz0 hz1 hz2 rfl _ t vals rfl HO4.out L4 mm c4 ws rfl HR4.out HU2.out HALL.out (by have := HML.out; unfold maxLen; omega) (by have := HML.out; omega) hsz ?_)
        intro A5 c5 w5 n5 g5 t5
        rw [HML.out] at n5 t5
        rw [HML.out]
        have J5 := hide (joined (zs := zs.take i) rfl hd1 hd2 HB1.out HB3.out h13.out hd HV1.out HV2.out HV3.out htf HFA.out (by rw [HMM.out]; exact HU2.out) (by rw [HMM.out]; exact HU3.out) HL4.out HG4.out n5 g5 t5)
        clear n5 g5 t5

        go_wp2
        go_ret
        rw [← HTI.out]
        unfold Lrn.frontOf
        rw [← HF.out]
        exact ⟨A5, c5, rfl, J5.out.1.lower HB1.out.size, J5.out.2.2.1⟩

theorem taken_any' (A : Option Addr) (c : Nat) (zs : List Int) (ev : Int) (w : World) (hR : Reads w A (bys zs)) (hz : okRow zs) (hev : 0 ≤ ev ∧ ev ≤ 255) (hm : zs.length ≤ 140737488351232) :
    Calls Try.prog 10 #[.slice A zs.length c, .int .u8 ev] w fun e w' => ∃ L d, e = .returned (.slice L (Lrn.frontOf (zs.take 300)) d) ∧ RowsAt w' w.heap.size (.slice L (Lrn.frontOf (zs.take 300)) d) (Lrn.vals Lrn.V 0 (Lrn.frontOf (zs.take 300))) ∧ Below w.heap.size w w' :=
  taken_law A c zs ev (ev % 5).toNat w hR hz hev.1 hev.2 (by omega) hm

end Go.Proofs.Ytodlabpgjgbbpae
