/-
  What the document's number, Take do.
-/
import Derived.Test.YtodlabpgjgbbpafFrmTorn
import Derived.Test.YtodlabpgjgbbpafFrmTake
namespace Go.Proofs.Ytodlabpgjgbbpaf
open Go.RowKit Go.Agio

set_option maxRecDepth 100000 in
set_option maxHeartbeats 4000000 in
theorem number_any (A : Option Addr) (c m : Nat) (xs : List Int) (w : World) (hR : Reads w A (bys xs)) (hx : Frm.ok xs) (hm : xs.length = m) (h4 : 4 ≤ m) (hml : m ≤ 4611686018427387904) :
    Calls Try.prog 26 #[.slice A m c] w fun e w' => e = .returned (.int .u32 (Frm.num xs)) ∧ w = w' := by
  obtain ⟨b, off, rfl, hb, hcell⟩ := hR.at_ (k := 0) (by simp; omega)
  have hk : ∀ i, i < xs.length → w.cell? ⟨b, off + i, none⟩ = some (.int .u8 (xs.getD i 0)) := fun i hi => by
    rw [hcell i (by simpa using hi), getD_map_int _ _ hi]
  have g := fun i => (show 0 ≤ xs.getD i 0 ∧ xs.getD i 0 ≤ 255 by
    rcases Nat.lt_or_ge i xs.length with h | h
    · rw [List.getD_eq_getElem?_getD, List.getElem?_eq_getElem h]; exact hx _ (List.getElem_mem h)
    · rw [List.getD_eq_getElem?_getD, List.getElem?_eq_none h]; simp)
  have k0 := hk 0 (by omega)
  have k1 := hk 1 (by omega)
  have k2 := hk 2 (by omega)
  have k3 := hk 3 (by omega)
  obtain ⟨g00, g01⟩ := g 0
  obtain ⟨g10, g11⟩ := g 1
  obtain ⟨g20, g21⟩ := g 2
  obtain ⟨g30, g31⟩ := g 3
  have HN := hide (show Frm.num xs = xs.getD 0 0 + 256 * xs.getD 1 0 + 65536 * xs.getD 2 0 + 16777216 * xs.getD 3 0 from rfl)
  generalize xs.getD 0 0 = b0 at *
  generalize xs.getD 1 0 = b1 at *
  generalize xs.getD 2 0 = b2 at *
  generalize xs.getD 3 0 = b3 at *
  have HK := hide (And.intro k0 (And.intro k1 (And.intro k2 k3)))
  clear hcell g hk hR k0 k1 k2 k3
  go_enter Try.func26, Try.ntmps26
  go_wp2_with fail
  go_loop [3, 4] (fun n i => (i = .int .i64 3 ∧ n = .int .u32 0) ∨ (i = .int .i64 2 ∧ n = .int .u32 b3) ∨ (i = .int .i64 1 ∧ n = .int .u32 (b3 * 256 + b2)) ∨ (i = .int .i64 0 ∧ n = .int .u32 ((b3 * 256 + b2) * 256 + b1)) ∨ (i = .int .i64 (-1) ∧ n = .int .u32 (((b3 * 256 + b2) * 256 + b1) * 256 + b0))) (fun _ i => (intOf i + 1).toNat)
  case atStart => exact .inl ⟨rfl, rfl⟩
  case round =>
    rcases hrel with ⟨rfl, rfl⟩ | ⟨rfl, rfl⟩ | ⟨rfl, rfl⟩ | ⟨rfl, rfl⟩ | ⟨rfl, rfl⟩
    · have k := HK.out.2.2.2
      go_wp2
      go_round
      case rel => exact .inr (.inl ⟨by go_num, by go_num⟩)
      case measure => simp [intOf]
    · have k := HK.out.2.2.1
      go_wp2
      go_round
      case rel => exact .inr (.inr (.inl ⟨by go_num, by go_num⟩))
      case measure => simp [intOf]
    · have k := HK.out.2.1
      go_wp2
      go_round
      case rel => exact .inr (.inr (.inr (.inl ⟨by go_num, by go_num⟩)))
      case measure => simp [intOf]
    · have k := HK.out.1
      rw [Nat.add_zero] at k
      go_wp2
      go_round
      case rel => exact .inr (.inr (.inr (.inr ⟨by go_num, by go_num⟩)))
      case measure => simp [intOf]
    · go_wp2
      go_ret
      exact ⟨by rw [HN.out, show b0 + 256 * b1 + 65536 * b2 + 16777216 * b3 = ((b3 * 256 + b2) * 256 + b1) * 256 + b0 by omega]; rfl, rfl⟩

theorem rsum_n {n : Nat} (A : Option Addr) (cap : Nat) (zs : List Int) (w : World) (hR : Reads w A (bys zs)) (hz : ∀ z ∈ zs, 0 ≤ z ∧ z < 256) (hn : zs.length = n) (hm : n ≤ 9223372036854775807) :
    Calls Try.prog 23 #[.slice A n cap] w fun e w' => e = .returned (.int .u32 (Crc.nm (Crc.more 0 (zs.map Crc.bv)))) ∧ w = w' := by
  subst hn; exact rsum_any A cap zs w hR hz hm
theorem rmore_n {n : Nat} (s : BitVec 32) (A : Option Addr) (cap : Nat) (zs : List Int) (w : World) (hR : Reads w A (bys zs)) (hz : ∀ z ∈ zs, 0 ≤ z ∧ z < 256) (hn : zs.length = n) (hm : n ≤ 9223372036854775807) :
    Calls Try.prog 22 #[.int .u32 (Crc.nm s), .slice A n cap] w fun e w' => e = .returned (.int .u32 (Crc.nm (Crc.more s (zs.map Crc.bv)))) ∧ w = w' := by
  subst hn; exact rmore_any s A cap zs w hR hz hm
/-- Take of the document: what it says, and where the body and the rest lie. -/
def RTake (A : Option Addr) (xs : List Int) (w : World) (e : Ending) (w' : World) : Prop :=
  Below w.heap.size w w' ∧ ((Frm.code xs ≠ 0 ∧ e = .returned (.tuple #[.slice none 0 0, .slice none 0 0, .int .i64 (Frm.code xs)])) ∨
    (Frm.code xs = 0 ∧ ∃ A1 c1 A2 c2, e = .returned (.tuple #[.slice A1 (Frm.body xs).length c1, .slice A2 (Frm.rest xs).length c2, .int .i64 0]) ∧ ∀ W, Reads W A (bys xs) → Reads W A1 (bys (Frm.body xs)) ∧ Reads W A2 (bys (Frm.rest xs))))
theorem rtake_bad {A : Option Addr} {xs : List Int} {w w' : World} {k : Int} (h : Frm.code xs = k) (hk : k ≠ 0) (hb : Below w.heap.size w w') : RTake A xs w (.returned (.tuple #[.slice none 0 0, .slice none 0 0, .int .i64 k])) w' :=
  ⟨hb, .inl ⟨by rw [h]; exact hk, by rw [h]⟩⟩

set_option maxRecDepth 100000 in
set_option maxHeartbeats 4000000 in
theorem rtake_any (A : Option Addr) (c : Nat) (xs : List Int) (w : World) (hR : Reads w A (bys xs)) (hx : Frm.ok xs) (hl : xs.length ≤ 4611686018427387904) (hc : xs.length ≤ c) :
    Calls Try.prog 17 #[.slice A xs.length c] w (RTake A xs w) := by
  have HR := hide hR; have HX := hide hx
  by_cases h1 : xs.length < 8
  · have HC := hide (show Frm.code xs = 3 by unfold Frm.code; rw [if_pos h1])
    clear hR hx
    go_enter Try.func17, Try.ntmps17
    go_wp2_with fail
    go_ret3
    exact rtake_bad HC.out (by decide) (Below.refl _ _)
  · have CN := hide (number_any A c xs.length xs w hR hx rfl (by omega) hl)
    obtain ⟨hn0, hn1⟩ := Frm.num_bd hx
    have HBD := hide (show (Frm.bodyN xs : Int) = Frm.num xs from by unfold Frm.bodyN; omega)
    by_cases h2 : 4096 < Frm.num xs
    · have HC := hide (show Frm.code xs = 5 by unfold Frm.code; rw [if_neg h1, if_pos h2])
      generalize Frm.num xs = N at *
      clear hR hx
      go_enter Try.func17, Try.ntmps17
      go_wp2_with fail
      refine CN.out.mono ?_
      rintro e w1 ⟨rfl, rfl⟩
      go_wp2_with fail
      go_ret3
      exact rtake_bad HC.out (by decide) (Below.refl _ _)
    · by_cases h3 : (xs.length : Int) - 8 < Frm.num xs
      · have HC := hide (show Frm.code xs = 3 by unfold Frm.code; rw [if_neg h1, if_neg h2, if_pos h3])
        generalize Frm.num xs = N at *
        clear hR hx
        go_enter Try.func17, Try.ntmps17
        go_wp2_with fail
        refine CN.out.mono ?_
        rintro e w1 ⟨rfl, rfl⟩
        go_wp2_with fail
        go_ret3
        exact rtake_bad HC.out (by decide) (Below.refl _ _)
      · obtain ⟨m, hm⟩ : ∃ m : Nat, Frm.num xs = (m : Int) := ⟨(Frm.num xs).toNat, by omega⟩
        have hbn : Frm.bodyN xs = m := by unfold Frm.bodyN; omega
        have HBO := hide (show Frm.body xs = (xs.drop 8).take m by rw [← hbn]; rfl)
        have HRE := hide (show Frm.rest xs = xs.drop (8 + m) by rw [← hbn]; rfl)
        have hs1 := cut_h 22 elem8 size8 A xs.length c 4 (by omega)
        obtain ⟨A3, n3, c3, hn3, hc3, hs3, hr3⟩ := cut_lh 22 elem8 size8 A xs.length c 8 (8 + m) (by omega) (by omega) hc
        obtain ⟨A4, n4, c4, hn4, hc4, hs4, hr4⟩ := cut_l 22 elem8 size8 A xs.length c (8 + m) (by omega) hc
        obtain ⟨A5, n5, c5, hn5, hc5, hs5, hr5⟩ := cut_l 22 elem8 size8 A xs.length c 4 (by omega) hc
        have LB := hide (show (Frm.body xs).length = n3 from by rw [HBO.out, List.length_take, List.length_drop]; omega)
        have LR := hide (show (Frm.rest xs).length = n4 from by rw [HRE.out, List.length_drop]; omega)
        have R1 := hide (show Reads w A (bys (xs.take 4)) from by rw [bys_take']; exact hR.take 4)
        have R3A : Hid (∀ W, Reads W A (bys xs) → Reads W A3 (bys (Frm.body xs))) := hide (fun W hRW => by
          have := hr3 W _ hRW (by rw [List.length_map])
          rw [← List.map_drop, ← List.map_take, show n3 = m by omega, ← HBO.out] at this
          exact this)
        have R3 := hide (R3A.out w hR)
        have R4 : Hid (∀ W, Reads W A (bys xs) → Reads W A4 (bys (Frm.rest xs))) := hide (fun W hRW => by
          have := hr4 W _ hRW (by rw [List.length_map])
          rw [← List.map_drop, ← HRE.out] at this
          exact this)
        have R5 : Hid (Reads w A5 (bys (xs.drop 4))) := hide (by
          have := hr5 w _ hR (by rw [List.length_map])
          rw [← List.map_drop] at this
          exact this)
        have hokb : Frm.ok (Frm.body xs) := by rw [HBO.out]; exact Frm.ok_take (Frm.ok_drop hx _) _
        have CS := hide (fun (W : World) (hb : Below w.heap.size w W) => rsum_n (n := 4) A c (xs.take 4) W (R1.out.below hb) (fun z hz => by have := Frm.ok_take hx 4 z hz; omega) (by rw [List.length_take]; omega) (by omega))
        have CM := hide (fun (W : World) (hb : Below w.heap.size w W) => rmore_n (n := n3) (Crc.more 0 ((xs.take 4).map Crc.bv)) A3 c3 (Frm.body xs) W (R3.out.below hb) (fun z hz => by have := hokb z hz; omega) LB.out (by omega))
        have CQ := hide (fun (W : World) (hb : Below w.heap.size w W) => number_any A5 c5 n5 (xs.drop 4) W (R5.out.below hb) (Frm.ok_drop hx 4) (by rw [List.length_drop]; omega) (by omega) (by omega))
        have HCE := hide (show Frm.code xs = if (xs.drop 4).take 4 = Frm.four (Frm.chk (xs.take 4) (Frm.body xs)) then 0 else 4 by unfold Frm.code; rw [if_neg h1, if_neg h2, if_neg h3, hbn, HBO.out])
        have hck := Frm.chk_bd (xs.take 4) (Frm.body xs)
        have hqd := Frm.num_bd (Frm.ok_drop hx 4)
        have hfn := Frm.four_num (Frm.ok_drop hx 4) (by rw [List.length_drop]; omega)
        rw [← hfn] at HCE
        change Hid (∀ W : World, _ → Calls _ _ _ _ fun e w' => e = Ending.returned (.int .u32 (Frm.chk (xs.take 4) (Frm.body xs))) ∧ _) at CM
        have HCC := hide (show (Frm.code xs = 0 ↔ Frm.chk (xs.take 4) (Frm.body xs) = Frm.num (xs.drop 4)) ∧ (Frm.code xs = 0 ∨ Frm.code xs = 4) from by
          by_cases he : Frm.four (Frm.num (xs.drop 4)) = Frm.four (Frm.chk (xs.take 4) (Frm.body xs))
          · rw [HCE.out, if_pos he]
            exact ⟨⟨fun _ => (Frm.four_inj hqd hck he).symm, fun _ => rfl⟩, .inl rfl⟩
          · rw [HCE.out, if_neg he]
            exact ⟨⟨fun h => (by cases h), fun h => absurd (by rw [h]) he⟩, .inr rfl⟩)
        have F0 := hide (show Frm.code xs = 0 → ∀ W, Below w.heap.size w W → RTake A xs w (.returned (.tuple #[.slice A3 n3 c3, .slice A4 n4 c4, .int .i64 0])) W from fun h W hb => ⟨hb, .inr ⟨h, A3, c3, A4, c4, by rw [LB.out, LR.out], fun W hRW => ⟨R3A.out W hRW, R4.out W hRW⟩⟩⟩)
        have F4 := hide (show Frm.code xs = 4 → ∀ W, Below w.heap.size w W → RTake A xs w (.returned (.tuple #[.slice none 0 0, .slice none 0 0, .int .i64 4])) W from fun h W hb => rtake_bad h (by decide) hb)
        replace hs3 : ∀ W : World, (Instr.slice 22 (.slice A xs.length c) (some (.int .i64 8)) (some (.int .i64 ((8 + m : Nat) : Int))) none).run Try.prog W = .ok (.slice A3 n3 c3) W := hs3
        replace hs1 : ∀ W : World, (Instr.slice 22 (.slice A xs.length c) none (some (.int .i64 4)) none).run Try.prog W = .ok (.slice A 4 c) W := hs1
        replace hs5 : ∀ W : World, (Instr.slice 22 (.slice A xs.length c) (some (.int .i64 4)) none none).run Try.prog W = .ok (.slice A5 n5 c5) W := hs5
        rw [show ((8 + m : Nat) : Int) = 8 + (m : Int) by omega] at hs3 hs4
        have hm8 : (m : Int) ≤ (xs.length : Int) - 8 := by omega
        have hm4 : (m : Int) ≤ 4096 := by omega
        generalize Frm.chk (xs.take 4) (Frm.body xs) = q1 at *
        generalize Frm.num (xs.drop 4) = q2 at *
        generalize Crc.nm (Crc.more 0 ((xs.take 4).map Crc.bv)) = q0 at *
        rw [hm] at CN
        clear hr3 hr4 hr5 hn3 hn4 hn5 hc3 hc4 hc5 hR hx hfn hck hqd HCE hokb h2 h3 hn0 hn1 HBD hbn hm
        by_cases hq : q1 = q2
        · subst hq
          have HF := hide (F0.out (HCC.out.1.2 rfl))
          go_enter Try.func17, Try.ntmps17
          go_wp2_with fail
          refine CN.out.mono ?_
          rintro e w1 ⟨rfl, rfl⟩
          go_wp2_with fail
          have hw1 : IntKind.i64.wrap (8 + (m : Int)) = 8 + (m : Int) := IntWalk.i64_in _ (by omega)
          go_region_held3 (fun _ => True) (trivial) (first
            | (go_at_call 23; (with_reducible refine (CS.out _ (by first | exact Below.refl _ _ | exact (Below.refl _ _).drew)).mono ?_); rintro e w5 ⟨rfl, rfl⟩)
            | (go_at_call 22; (with_reducible refine (CM.out _ (by first | exact Below.refl _ _ | exact (Below.refl _ _).drew)).mono ?_); rintro e w5 ⟨rfl, rfl⟩)
            | (go_at_call 26; (with_reducible refine (CQ.out _ (by first | exact Below.refl _ _ | exact (Below.refl _ _).drew)).mono ?_); rintro e w5 ⟨rfl, rfl⟩))
          go_wp2
          have hw2 : IntKind.i64.wrap (m : Int) = (m : Int) := IntWalk.i64_in _ (by omega)
          go_region_held3 (fun _ => True) (trivial) (fail)
          all_goals clear hw1 hw2
          all_goals go_wp2
          all_goals go_ret3
          all_goals exact HF.out _ (by first | exact Below.refl _ _ | exact (Below.refl _ _).drew | exact (Below.refl _ _).drew.drew)
        · have HF := hide (F4.out (HCC.out.2.resolve_left (fun h => hq (HCC.out.1.1 h))))
          have hq' : (q1 == q2) = false := by simpa using hq
          go_enter Try.func17, Try.ntmps17
          go_wp2_with fail
          refine CN.out.mono ?_
          rintro e w1 ⟨rfl, rfl⟩
          go_wp2_with fail
          have hw1 : IntKind.i64.wrap (8 + (m : Int)) = 8 + (m : Int) := IntWalk.i64_in _ (by omega)
          go_region_held3 (fun _ => True) (trivial) (first
            | (go_at_call 23; (with_reducible refine (CS.out _ (by first | exact Below.refl _ _ | exact (Below.refl _ _).drew)).mono ?_); rintro e w5 ⟨rfl, rfl⟩)
            | (go_at_call 22; (with_reducible refine (CM.out _ (by first | exact Below.refl _ _ | exact (Below.refl _ _).drew)).mono ?_); rintro e w5 ⟨rfl, rfl⟩)
            | (go_at_call 26; (with_reducible refine (CQ.out _ (by first | exact Below.refl _ _ | exact (Below.refl _ _).drew)).mono ?_); rintro e w5 ⟨rfl, rfl⟩))
          all_goals clear hw1
          all_goals go_wp2
          all_goals go_ret3
          all_goals exact HF.out _ (by first | exact Below.refl _ _ | exact (Below.refl _ _).drew)

/-- Rows that read wherever the whole does. -/
def CutRows (A : Option Addr) (xs : List Int) (vs : List Value) (l : List (List Int)) : Prop := vs.length = l.length ∧ ∀ i, i < l.length → ∃ B q, vs.getD i undef = .slice B (l.getD i []).length q ∧ ∀ W, Reads W A (bys xs) → Reads W B (bys (l.getD i []))
theorem CutRows.snoc {A : Option Addr} {xs : List Int} {vs : List Value} {l : List (List Int)} (h : CutRows A xs vs l) {B : Option Addr} {q m : Nat} {x : List Int} (hm : x.length = m) (hR : ∀ W, Reads W A (bys xs) → Reads W B (bys x)) : CutRows A xs (vs ++ [.slice B m q]) (l ++ [x]) := by
  subst hm
  obtain ⟨h1, h2⟩ := h
  refine ⟨by simp [h1], fun i hi => ?_⟩
  rcases Nat.lt_or_ge i l.length with hlt | hge
  · obtain ⟨B', q', g1, g2⟩ := h2 i hlt
    rw [show (l ++ [x]).getD i [] = l.getD i [] by simp [List.getD_eq_getElem?_getD, List.getElem?_append_left hlt]]
    exact ⟨B', q', by rw [← g1]; simp [List.getD_eq_getElem?_getD, List.getElem?_append_left (show i < vs.length by omega)], g2⟩
  · obtain rfl : i = l.length := by simp at hi; omega
    rw [show (l ++ [x]).getD l.length [] = x by simp [List.getD_eq_getElem?_getD]]
    exact ⟨B, q, by rw [List.getD_eq_getElem?_getD, ← h1]; simp, hR⟩
theorem CutRows.rd {A L : Option Addr} {w' : World} {base c : Nat} {xs : List Int} {vs : List Value} {l : List (List Int)} (h : CutRows A xs vs l) (ho : w'.ownsRow base 22 1 (.slice L l.length c) l.length vs) (hR : Reads w' A (bys xs)) : RowsRd w' L l :=
  ⟨vs, Reads.of_own ho, h.1, fun i hi => by obtain ⟨B, q, g1, g2⟩ := h.2 i hi; exact ⟨B, q, g1, g2 _ hR⟩⟩

def RScan (xs : List Int) (w : World) (e : Ending) (w' : World) : Prop := ∃ L d, e = .returned (.tuple #[.slice L (Frm.scan xs).1.length d, .int .i64 ((Frm.scan xs).2 : Int)]) ∧ RowsRd w' L (Frm.scan xs).1 ∧ Below w.heap.size w w'

set_option maxRecDepth 100000 in
set_option maxHeartbeats 4000000 in
theorem rscan_any (A : Option Addr) (c : Nat) (xs : List Int) (w : World) (hR : Reads w A (bys xs)) (hx : Frm.ok xs) (hl : xs.length ≤ 46912496000000) (hc : xs.length ≤ c) :
    Calls Try.prog 18 #[.slice A xs.length c] w (RScan xs w) := by
  obtain ⟨i0, hi, hz0, hz1, hz2⟩ := info_parts info22
  have HR := hide hR; have HX := hide hx
  clear hR hx
  go_enter Try.func18, Try.ntmps18
  go_wp2_with fail
  go_loopw [4, 5] (fun v i wr => ∃ (a : Nat) (l : List (List Int)) (L : Option Addr) (q : Nat) (vs : List Value), a ≤ xs.length ∧ 8 * l.length ≤ a ∧ i = .int .i64 a ∧ v = .slice L l.length q ∧ wr.ownsRow w.heap.size 22 1 (.slice L l.length q) l.length vs ∧ CutRows A xs vs l ∧ Frm.Upto xs l a ∧ Below w.heap.size w wr) (fun _ i _ => xs.length - (intOf i).toNat)
  case atStart => exact ⟨0, [], none, 0, [], Nat.zero_le _, by simp, rfl, rfl, World.ownsRow_nil _ _ _ _, ⟨rfl, fun i hi => by simp at hi⟩, Frm.upto_zero xs, Below.refl _ _⟩
  case round =>
    obtain ⟨a, l, L, q, vs, ha, hla, rfl, rfl, ho, hcr, hup, hb⟩ := hrel
    have HO := hide ho; have HCR := hide hcr; have HUP := hide hup; have HB := hide hb
    clear ho hcr hup hb
    obtain ⟨A2, n2, c2, hn2, hc2, hs2, hr2⟩ := cut_l 22 elem8 size8 A xs.length c a ha hc
    have R2 := hide (fun (W : World) (h : Reads W A (bys xs)) => show Reads W A2 (bys (xs.drop a)) from by
      have := hr2 W _ h (by rw [List.length_map])
      rw [← List.map_drop] at this
      exact this)
    obtain ⟨y, hy⟩ : ∃ y, y = xs.drop a := ⟨_, rfl⟩
    have hyl : y.length = n2 := by rw [hy, List.length_drop]; omega
    rw [← hy] at R2
    have HY := hide hy
    have CT := rtake_any A2 c2 y wr (R2.out wr (HR.out.below HB.out)) (by rw [hy]; exact Frm.ok_drop HX.out a) (by omega) (by omega)
    rw [hyl] at CT
    have CT := hide CT
    have hn2' : n2 ≤ xs.length := by omega
    have hna : n2 + a = xs.length := by omega
    clear hr2 hc2 hn2 hy
    go_wp2_with fail
    refine CT.out.mono ?_
    rintro e w1 ⟨hb1, hr⟩
    have HB1 := hide (HB.out.trans (hb1.mono HB.out.size))
    rcases hr with ⟨hcd, rfl⟩ | ⟨hcd, A3, c3, A4, c4, rfl, hrr⟩
    · have HEND := hide (Frm.upto_end HUP.out (by rw [← HY.out]; exact hcd))
      have F : Hid (RScan xs w (.returned (.tuple #[.slice L l.length q, .int .i64 (a : Int)])) w1) := hide ⟨L, q, by rw [HEND.out], by rw [HEND.out]; exact (HCR.out.rd HO.out (HR.out.below HB.out)).below hb1, HB1.out⟩
      have hcd' : (Frm.code y == 0) = false := by simpa using hcd
      generalize Frm.code y = cd at *
      clear hb1 HEND hcd CT
      go_wp2
      go_ret2
      exact F.out
    · have hcz := Frm.code_zero (b := y) (by rw [HY.out]; exact Frm.ok_drop HX.out a) hcd
      have HNX := hide (Frm.upto_next HX.out HUP.out (by rw [← HY.out]; exact hcd))
      rw [← HY.out] at HNX
      obtain ⟨z1, z2, z3, _⟩ := hcz
      have hrl : (Frm.rest y).length + (8 + Frm.bodyN y) = n2 := by unfold Frm.rest; rw [List.length_drop]; omega
      have HRB := hide (fun (W : World) (h : Reads W A (bys xs)) => (hrr W (R2.out W h)).1)
      have HCR' := hide (HCR.out.snoc (B := A3) (q := c3) (x := Frm.body y) rfl HRB.out)
      have HO1 := hide (own_below HO.out hb1)
      have hs1 := HB1.out.size
      generalize Frm.rest y = rs at *
      generalize Frm.body y = bd at *
      generalize Frm.bodyN y = bn at *
      clear hrr hb1 hcd HRB CT z3
      go_wp2_with (at_builtin; apply halted)
      refine unhalt (wpList_append_reads rfl (.tmp 21) (.tmp 23) 30 rfl w.heap.size 22 i0 (.slice none 0 0) 24 Try.underlying30 hi hz0 hz1 hz2 rfl _ l.length vs rfl (HO1.out.alloc _) (some ⟨w1.heap.size, 0, none⟩) 1 1 [.slice A3 bd.length c3] rfl (Reads.new_at _ _ _ _ _ rfl) rfl (one_one _ rfl) (by unfold maxLen; omega) (by omega) (by simp; omega) ?_)
      intro L4 q4 w4 n4 g4 t4
      have HB4 := hide ((HB1.out.alloc HB1.out.size _).grown g4 (by simp; omega) (fun g hg => (HO1.out.lt g hg).1))
      have N4 := hide n4
      clear n4 g4 t4
      go_wp2
      go_roundw
      case rel => exact ⟨a + (8 + bn), l ++ [bd], L4, q4, vs ++ [.slice A3 bd.length c3], by omega, by rw [List.length_append]; simp; omega, by go_num, by simp, by rw [List.length_append]; exact N4.out, HCR'.out, HNX.out, HB4.out⟩
      case measure => simp [intOf]; omega

end Go.Proofs.Ytodlabpgjgbbpaf
