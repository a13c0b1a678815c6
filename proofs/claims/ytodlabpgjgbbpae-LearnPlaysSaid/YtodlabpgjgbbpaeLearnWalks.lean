/-
  What each function of learn does.
-/
import Derived.Test.YtodlabpgjgbbpaeLearnAt
import Derived.Test.YtodlabpgjgbbpaeEqual
import Derived.Test.YtodlabpgjgbbpaeStep
import Derived.Test.YtodlabpgjgbbpaeRowsAt
import Derived.Test.YtodlabpgjgbbpaeCollect
import Derived.Deep.RegionHeld3
namespace Go.Proofs.Ytodlabpgjgbbpae
open Go.RowKit Go.Agio

theorem keyI {k : Int} (h : (Lit.int .i64 k).wf = true) : keyOf Try.prog 3 (.int .i64 k) = some (.int .i64 k) := Maps.keyOf_int_mk Try.underlying3 h

set_option maxHeartbeats 1000000 in
theorem new_any (w : World) : Calls Try.prog 13 #[] w fun e w' => ∃ d bm, e = .returned (.pointer (some ⟨d, 0, none⟩)) ∧ w.heap.size ≤ d ∧ w.heap.size ≤ bm ∧ (∀ G, LAt w' d bm 0 Lrn.empty 0 G) ∧ Below w.heap.size w w' := by
  have hmm := @run_makeMap Try.prog
  go_enter Try.func13, Try.ntmps13
  go_wp2
  go_ret
  have ho := (World.ownsMap_made w Try.prog 3 RV).alloc (.cells #[.map (some w.heap.size), .int .i64 0] 57)
  have hk := heap_new (w.alloc (.map #[] 0)) (.cells #[.map (some w.heap.size), .int .i64 0] 57)
  rw [World.size_alloc] at hk
  refine ⟨w.heap.size + 1, w.heap.size, rfl, by omega, Nat.le_refl _, fun G => ⟨hk, Lrn.fine_empty, ⟨_, ho, ho.tidy lawI, fun k _ => ?_⟩, fun j hj => absurd hj (Nat.not_lt_zero _), by omega⟩, ((Below.refl _ w).alloc (Nat.le_refl _) _).alloc (by simp) _⟩
  exact ⟨rfl, none, 0, rfl, Reads.nil _ _, by simp [Lrn.empty], fun z hz => by simp [Lrn.empty] at hz, fun a ha => by cases ha⟩

/-- What Put answers, and what is known behind it. -/
def badPut (k : Int) (xs : List Int) : Prop := k < 0 ∨ 4095 < k ∨ 2048 < xs.length
def putCode (M : Lrn.Map) (k : Int) (xs : List Int) : Int :=
  if 0 ≤ k ∧ k ≤ 4095 ∧ xs.length ≤ 2048 then (match M k with | some old => if old = xs then 0 else 7 | none => 0) else 1
def putMap (M : Lrn.Map) (k : Int) (xs : List Int) : Lrn.Map :=
  if 0 ≤ k ∧ k ≤ 4095 ∧ xs.length ≤ 2048 then (match M k with | some _ => M | none => Lrn.put M k xs) else M
theorem put_bad {M : Lrn.Map} {k : Int} {xs : List Int} (h : ¬ (0 ≤ k ∧ k ≤ 4095 ∧ xs.length ≤ 2048)) : putCode M k xs = 1 ∧ putMap M k xs = M := by
  unfold putCode putMap; rw [if_neg h, if_neg h]; exact ⟨rfl, rfl⟩
theorem put_had {M : Lrn.Map} {k : Int} {xs old : List Int} (h : 0 ≤ k ∧ k ≤ 4095 ∧ xs.length ≤ 2048) (hm : M k = some old) : putCode M k xs = (if old = xs then 0 else 7) ∧ putMap M k xs = M := by
  unfold putCode putMap; rw [if_pos h, if_pos h, hm]; exact ⟨rfl, rfl⟩
theorem put_new {M : Lrn.Map} {k : Int} {xs : List Int} (h : 0 ≤ k ∧ k ≤ 4095 ∧ xs.length ≤ 2048) (hm : M k = none) : putCode M k xs = 0 ∧ putMap M k xs = Lrn.put M k xs := by
  unfold putCode putMap; rw [if_pos h, if_pos h, hm]; exact ⟨rfl, rfl⟩

/-- Behind a Put. -/
def Put (w : World) (d bm n : Nat) (M : Lrn.Map) (t : Nat) (G : Nat → Prop) (k : Int) (xs : List Int) (e : Ending) (w' : World) : Prop :=
  e = .returned (.int .i64 (putCode M k xs)) ∧ LAt w' d bm (n + 1) (putMap M k xs) t G ∧ w.grownBy w' (some bm)

set_option maxRecDepth 100000 in
set_option maxHeartbeats 2000000 in
theorem put_any (d bm n : Nat) (M : Lrn.Map) (t : Nat) (G : Nat → Prop) (k : Int) (hk : (Lit.int .i64 k).wf = true) (A : Option Addr) (m c : Nat) (xs : List Int) (w : World) (hL : LAt w d bm n M t G) (hn : n < 1000000) (hG : ∀ g, G g → g < w.heap.size) (hR : Reads w A (bys xs)) (hm : xs.length = m) (hx : okRow xs) :
    Calls Try.prog 14 #[.pointer (some ⟨d, 0, none⟩), .int .i64 k, .slice A m c] w (Put w d bm n M t G k xs) := by
  have gr : w.grownBy w (some bm) := World.grownBy.refl w _
  by_cases hbad : ¬ (0 ≤ k ∧ k ≤ 4095 ∧ xs.length ≤ 2048)
  · have hp := put_bad (M := M) hbad
    rw [hm] at hbad
    have F : Hid (Put w d bm n M t G k xs (.returned (.int .i64 1)) w) := hide ⟨by rw [hp.1], by rw [hp.2]; exact hL.mono (by omega), gr⟩
    clear hp hL hR hm hx hn hG gr
    by_cases h1 : k < 0
    · clear hbad
      go_enter Try.func14, Try.ntmps14
      go_wp2
      go_ret
      exact F.out
    · by_cases h2 : 4096 ≤ k
      · clear hbad
        go_enter Try.func14, Try.ntmps14
        go_wp2
        go_ret
        exact F.out
      · have h3 : (2048 : Int) < (m : Int) := by omega
        clear hbad
        go_enter Try.func14, Try.ntmps14
        go_wp2
        go_ret
        exact F.out
  · have hgood := Decidable.not_not.1 hbad
    clear hbad
    obtain ⟨c0, _⟩ := hL.cells
    obtain ⟨D, hD, hT, hE⟩ := hL.map
    have HD := hide hD
    have HE := hide (hE k hk)
    have HL := hide hL
    have HR := hide hR
    have HX := hide hx
    have HKW := hide hk
    have h1 : 0 ≤ k := hgood.1
    have h2 : k ≤ 4095 := hgood.2.1
    have h3 : m ≤ 2048 := by have := hgood.2.2; omega
    cases hMk : M k with
    | some old =>
      have hp := put_had hgood hMk
      rw [hMk] at HE
      obtain ⟨e1, B, q, e2, e3, e4, e5, e6⟩ := HE.out
      simp only [Option.getD_some] at e2 e3 e4 e5
      have E1 := hide e1; have E2 := hide e2
      obtain ⟨ol, hol⟩ : ∃ ol, old.length = ol := ⟨_, rfl⟩
      rw [hol] at E2
      have HEQ := hide (equal_any B A ol m q c old xs w e3 hR hol hm e5 hx)
      by_cases he : old = xs
      · have F : Hid (Put w d bm n M t G k xs (.returned (.int .i64 0)) w) := hide ⟨by rw [hp.1, if_pos he], by rw [hp.2]; exact hL.mono (by omega), gr⟩
        rw [decide_eq_true he] at HEQ
        clear hp hMk e1 e2 e3 e4 e5 e6 hol he hE hD hT hL hR hx hgood hm hn hG gr HE hk
        go_enter Try.func14, Try.ntmps14
        go_wp2_with (at_lookup; refine wpList_lookup_is rfl _ _ 55 rfl 3 22 lawI Try.underlying55 (zeroS _) bm n D rfl HD.out _ _ rfl (keyI HKW.out) B ol q true E2.out E1.out ?_)
        refine HEQ.out.mono ?_
        rintro e w' ⟨rfl, rfl⟩
        go_wp2
        go_ret
        exact F.out
      · have F : Hid (Put w d bm n M t G k xs (.returned (.int .i64 7)) w) := hide ⟨by rw [hp.1, if_neg he], by rw [hp.2]; exact hL.mono (by omega), gr⟩
        rw [decide_eq_false he] at HEQ
        clear hp hMk e1 e2 e3 e4 e5 e6 hol he hE hD hT hL hR hx hgood hm hn hG gr HE hk
        go_enter Try.func14, Try.ntmps14
        go_wp2_with (at_lookup; refine wpList_lookup_is rfl _ _ 55 rfl 3 22 lawI Try.underlying55 (zeroS _) bm n D rfl HD.out _ _ rfl (keyI HKW.out) B ol q true E2.out E1.out ?_)
        refine HEQ.out.mono ?_
        rintro e w' ⟨rfl, rfl⟩
        go_wp2
        go_ret
        exact F.out
    | none =>
      have hp := put_new hgood hMk
      rw [hMk] at HE
      obtain ⟨e1, B, q, e2, e3, e4, e5, e6⟩ := HE.out
      simp only [Option.getD_none, List.length_nil] at e2
      have E1 := hide e1; have E2 := hide e2
      have HT := hide hT; have HEA := hide hE; have HG := hide hG; have HM := hide hm; have HP := hide hp
      have hs0 : w.cell? ⟨d, 0, none⟩ = some (.map (some bm)) := c0
      have hne : d ≠ bm := hL.ne
      have HNE := hide hne
      clear hp hMk e1 e2 e3 e4 e5 e6 hE hD hT hL hR hx hm hG gr HE hk hne
      go_enter Try.func14, Try.ntmps14
      go_wp2_with (at_lookup; refine wpList_lookup_is rfl _ _ 55 rfl 3 22 lawI Try.underlying55 (zeroS _) bm n D rfl HD.out _ _ rfl (keyI HKW.out) B 0 q false E2.out E1.out ?_)
      go_region_held3 (fun W => W.cell? ⟨d, 0, none⟩ = some (.map (some bm))) (first | assumption | go_keep) ((go_at_call 29; (with_reducible refine (clone_any A m c xs _ (by first | exact HR.out | exact HR.out.drew) HM.out (by omega)).mono ?_); rintro e w2 ⟨A2, c2, rfl, hown2, hb2⟩; have N2 := hide hown2; have q2 : w2.cell? ⟨d, 0, none⟩ = some (.map (some bm)) := (hb2.cell (p := ⟨d, 0, none⟩) HL.out.lt.1).trans c0; have HB2 := hide hb2; obtain ⟨w3, hr3, hm3, hg3⟩ := (map_below (w' := w2) (by first | exact HD.out | exact HD.out.drew) hb2).update lawI Try.underlying55 (by unfold maxLen; omega) (keyI HKW.out) (rv_sl A2 m c2); have q3 : w3.cell? ⟨d, 0, none⟩ = some (.map (some bm)) := (World.cell?_of_block (w := w2) (a := ⟨d, 0, none⟩) (hg3.block _ (Nat.lt_of_lt_of_le HL.out.lt.1 hb2.size) (by have := HNE.out; simpa using this))).trans q2; have M3 := hide hm3; have G3 := hide hg3; clear hown2 hb2 hm3 hg3))
      go_wp2
      go_ret
      have hbw : Below w.heap.size w w2 := (Below.refl _ w).drew.trans HB2.out
      have hlt := HL.out.lt
      have hA : ∀ a, A2 = some a → w.heap.size ≤ a.block ∧ a.block < w2.heap.size := fun a ha => by subst ha; exact N2.out.lt a.block rfl
      refine ⟨by rw [HP.out.1]; rfl, ?_, ((grown_below hbw).but (some bm)).trans G3.out⟩
      rw [HP.out.2]
      refine (HL.out.below hbw).stored G3.out ⟨h1, h2⟩ HT.out (fun j hj => (HEA.out j hj).below hbw) HM.out h3 HX.out ((Reads.of_own N2.out).grown G3.out (fun b off he hr => by injection hr with hr; have h5 := (hA _ he).1; simp only at h5; omega)) (fun a ha => ?_) M3.out
      have h5 := hA a ha
      refine ⟨by omega, by omega, fun hg => ?_, Nat.lt_of_lt_of_le h5.2 G3.out.size⟩
      have := HG.out a.block hg
      omega

set_option maxHeartbeats 1000000 in
theorem get_any (d bm n : Nat) (M : Lrn.Map) (t : Nat) (G : Nat → Prop) (k : Int) (hk : (Lit.int .i64 k).wf = true) (w : World) (hL : LAt w d bm n M t G) :
    Calls Try.prog 15 #[.pointer (some ⟨d, 0, none⟩), .int .i64 k] w fun e w' => ∃ A c, e = .returned (.tuple #[.slice A ((M k).getD []).length c, .bool (M k).isSome]) ∧ Reads w' A (bys ((M k).getD [])) ∧ Below w.heap.size w w' := by
  obtain ⟨c0, _⟩ := hL.cells
  obtain ⟨D, hD, _, hE⟩ := hL.map
  obtain ⟨e1, B, q, e2, e3, e4, e5, e6⟩ := hE k hk
  have HD := hide hD
  have HKW := hide hk
  have HR := hide e3
  have E1 := hide e1; have E2 := hide e2
  have HLN := hide (rfl : ((M k).getD []).length = ((M k).getD []).length)
  generalize hxs : (M k).getD [] = xs at *
  generalize (M k).isSome = y at *
  generalize hol : xs.length = ol at *
  have HM := hide hol
  clear hxs hol e1 e2 e3 e5 e6 hE hD hL hk HLN
  go_enter Try.func15, Try.ntmps15
  go_wp2_with (at_lookup; refine wpList_lookup_is rfl _ _ 55 rfl 3 22 lawI Try.underlying55 (zeroS _) bm n D rfl HD.out _ _ rfl (keyI HKW.out) B ol q y E2.out E1.out ?_)
  refine (clone_any B ol q xs _ HR.out HM.out (by omega)).mono ?_
  rintro e w2 ⟨A2, c2, rfl, hown2, hb2⟩
  go_wp2
  go_ret2
  exact ⟨A2, c2, rfl, Reads.of_own hown2, hb2⟩

set_option maxHeartbeats 1000000 in
theorem taken_any (d bm n : Nat) (M : Lrn.Map) (t : Nat) (G : Nat → Prop) (w : World) (hL : LAt w d bm n M t G) :
    Calls Try.prog 27 #[.pointer (some ⟨d, 0, none⟩)] w fun e w' => e = .returned (.int .i64 (t : Int)) ∧ w = w' := by
  obtain ⟨_, c1⟩ := hL.cells
  clear hL
  go_enter Try.func27, Try.ntmps27
  go_wp2
  go_ret
  exact ⟨rfl, rfl⟩

set_option maxRecDepth 100000 in
set_option maxHeartbeats 2000000 in
theorem front_any (d bm n : Nat) (M : Lrn.Map) (t : Nat) (G : Nat → Prop) (w : World) (hL : LAt w d bm n M t G) :
    Calls Try.prog 17 #[.pointer (some ⟨d, 0, none⟩)] w fun e w' => e = .returned (.int .i64 (Lrn.front M : Int)) ∧ w = w' := by
  obtain ⟨c0, c1⟩ := hL.cells
  obtain ⟨D, hD, _, hE⟩ := hL.map
  have HD := hide hD
  have HE := hide hE
  have HDN := hide hL.done
  have hle := hL.le
  clear hE hD hL
  go_enter Try.func17, Try.ntmps17
  go_wp2_with fail
  go_loop [3] (fun s => ∃ p : Nat, s = .int .i64 p ∧ p ≤ 4096 ∧ Hid (∀ j : Nat, j < p → (M j).isSome = true)) (fun s => 4096 - (intOf s).toNat)
  case atStart => exact ⟨t, rfl, hle, HDN⟩
  case round =>
    obtain ⟨p, rfl, hp, HP⟩ := hrel
    by_cases hlt : p < 4096
    · have hlt' : (p : Int) < 4096 := by omega
      have HKW := hide (WalkArith.wf_i64 (n := (p : Int)) (by omega))
      obtain ⟨e1, B, q, e2, _⟩ := HE.out (p : Int) HKW.out
      have E1 := hide e1; have E2 := hide e2
      obtain ⟨y, hy⟩ : ∃ y, y = (M p).isSome := ⟨_, rfl⟩
      rw [← hy] at E1
      have HY := hide hy
      clear e1 e2 hy
      cases y with
      | true =>
        go_wp2_with (at_lookup; refine wpList_lookup_is rfl _ _ 55 rfl 3 22 lawI Try.underlying55 (zeroS _) bm n D rfl HD.out _ _ rfl (keyI HKW.out) B _ q true E2.out E1.out ?_)
        go_round
        case rel => exact ⟨p + 1, by go_num, by omega, hide (fun j hj => by
          by_cases e : j = p
          · subst e; exact HY.out.symm
          · exact HP.out j (by omega))⟩
        case measure => simp [intOf]; omega
      | false =>
        have HF := hide (Lrn.front_is hp HP.out (fun _ => HY.out.symm))
        go_wp2_with (at_lookup; refine wpList_lookup_is rfl _ _ 55 rfl 3 22 lawI Try.underlying55 (zeroS _) bm n D rfl HD.out _ _ rfl (keyI HKW.out) B _ q false E2.out E1.out ?_)
        go_ret
        exact ⟨by rw [HF.out]; rfl, rfl⟩
    · obtain rfl : p = 4096 := by omega
      have HF := hide (Lrn.front_is hp HP.out (fun h => by omega))
      go_wp2
      go_ret
      exact ⟨by rw [HF.out]; rfl, rfl⟩

/-- What has come of a walk over the map. -/
def TopSo (M : Lrn.Map) (left : Lit → Bool) (r : Nat) : Prop :=
  (∀ k : Int, (M k).isSome = true → left (.int .i64 k) = false → k < r) ∧ (0 < r → (M ((r : Int) - 1)).isSome = true)
theorem TopSo.step {M : Lrn.Map} {left : Lit → Bool} {r r' p : Nat} (h : TopSo M left r) (hp : (M (p : Int)).isSome = true) (hr : r' = max r (p + 1)) : TopSo M (fun z => left z && !z.sameKey (.int .i64 (p : Int))) r' := by
  refine ⟨fun k hk hl => ?_, fun h0 => ?_⟩
  · simp only [Bool.and_eq_false_iff, Bool.not_eq_false'] at hl
    rcases hl with hl | hl
    · have := h.1 k hk hl; omega
    · have := WideAt.sameKey_eq hl
      injection this with _ e
      omega
  · by_cases hlt : r < p + 1
    · rw [show (r' : Int) - 1 = p by omega]; exact hp
    · rw [show (r' : Int) - 1 = (r : Int) - 1 by omega]; exact h.2 (by omega)

set_option maxRecDepth 100000 in
set_option maxHeartbeats 2000000 in
theorem top_any (d bm n : Nat) (M : Lrn.Map) (t : Nat) (G : Nat → Prop) (w : World) (hL : LAt w d bm n M t G) :
    Calls Try.prog 16 #[.pointer (some ⟨d, 0, none⟩)] w fun e w' => e = .returned (.int .i64 (Lrn.top M : Int)) ∧ Below w.heap.size w w' := by
  obtain ⟨c0, _⟩ := hL.cells
  obtain ⟨D, hD, hT, hE⟩ := hL.map
  have HD := hide hD
  have HF := hide hL.fine
  have HE := hide (fun k hk => (hE k hk).1)
  have hbm := hL.lt.2
  clear hE hD hL hT
  go_enter Try.func16, Try.ntmps16
  go_wp2_with (at_range; refine wpList_range_own _ rfl _ 55 rfl 3 22 lawI Try.underlying55 RV bm n D rfl HD.out ?_; intro w0 hrg0 hg0 hs0; go_frame)
  go_loopw [3] (fun s wr => ∃ (left : Lit → Bool) (cnt r : Nat), s = .int .i64 r ∧ wr.ranges Try.prog 3 RV bm w.heap.size n D left cnt ∧ TopSo M left r ∧ r ≤ 4096 ∧ Below w.heap.size w wr) (fun _ wr => wr.rangeLeft bm w.heap.size)
  case atStart =>
    have hs : TopSo M (Maps.has D) 0 := by
      refine ⟨fun k hk hl => ?_, fun h => by omega⟩
      have hf := HF.out k hk
      rw [HE.out k (WalkArith.wf_i64 (by omega)), hk] at hl
      cases hl
    exact ⟨_, _, 0, rfl, hrg0, hs, by omega, (Below.refl _ w).grown hg0 (Nat.le_refl _) (fun j hj => by cases hj)⟩
  case round =>
    obtain ⟨left, cnt, r, rfl, hrg, hso, hr, hbr⟩ := hrel
    have HSO := hide hso
    have HBR := hide hbr
    clear hso hbr
    go_wp2_with (at_next; refine wpList_next_ranges _ rfl _ rfl 3 lawI RV (Value.int .i64) (fun x : Option Addr × Nat × Nat => .slice x.1 x.2.1 x.2.2) (fun key kl hk => by obtain ⟨x, rfl, _⟩ := Maps.keyOf_int_inv Try.underlying3 hk; exact ⟨x, rfl⟩) (fun v y hv => rv_form hv) bm w.heap.size n _ _ _ rfl hrg ?_ ?_)
    · intro _ hl0
      have HT := hide (Lrn.top_is HF.out (fun k hk => HSO.out.1 k hk (hl0 _)) HSO.out.2)
      clear hl0
      go_wp2
      go_ret
      exact ⟨by rw [HT.out]; rfl, HBR.out⟩
    · intro x A0 n0 c2 kl y1 y2 w1 cnt1 hkey hlk hv hat hrg1 hlt hg1 hs1 hen
      obtain ⟨x', hx', rfl, hwx⟩ := Maps.keyOf_int_inv Try.underlying3 hkey
      injection hx' with _ hx'
      subst hx'
      have hsome : (M x).isSome = true := by rw [← HE.out x hwx]; exact Maps.has_true_of_atKey hat
      obtain ⟨h0, h1⟩ := HF.out x hsome
      obtain ⟨p, rfl⟩ : ∃ p : Nat, x = p := ⟨x.toNat, by omega⟩
      have HS := hide hsome
      have HRG1 := hide hrg1
      have hB1 := hide (HBR.out.grown hg1 HBR.out.size (fun j hj => by cases hj; exact Nat.le_refl _))
      have HM := hide (show w1.rangeLeft bm w.heap.size < wr.rangeLeft bm w.heap.size by rw [hrg1.left_eq, hrg.left_eq]; exact hlt)
      clear hkey hlk hv hat hrg1 hlt hg1 hs1 hsome hwx
      by_cases hmx : (r : Int) < (p : Int) + 1
      · go_wp2
        go_roundw
        case rel => exact ⟨_, cnt1, p + 1, by go_num, HRG1.out, HSO.out.step HS.out (by omega), by omega, hB1.out⟩
        case measure => exact HM.out
      · go_wp2
        go_roundw
        case rel => exact ⟨_, cnt1, r, rfl, HRG1.out, HSO.out.step HS.out (by omega), by omega, hB1.out⟩
        case measure => exact HM.out

end Go.Proofs.Ytodlabpgjgbbpae
