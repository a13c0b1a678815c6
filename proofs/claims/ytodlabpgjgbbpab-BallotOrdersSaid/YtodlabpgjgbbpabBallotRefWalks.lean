/-
  What the reference's functions of ballots do, each by a contract.
-/
import Derived.Test.YtodlabpgjgbbpabProg
import Derived.Test.YtodlabpgjgbbpabWords
import Derived.Test.YtodlabpgjgbbpabBallotWords
import Derived.WalkKit
import Derived.WalkSpells
import Derived.WalkLawsBesides
import Derived.Handy
import Derived.Deep.RegionHeld3
import Derived.BigQuiet
import Derived.Deep.QuietTactic
namespace Go.Bal

/-- Whether a place's site is none of those at the first j places. -/
def freshTo (n : Int) (l : List Int) (i j : Nat) : Bool := inr n (l.getD i 0) && (l.take j).all (fun x => x != l.getD i 0)
theorem freshTo_zero (n : Int) (l : List Int) (i : Nat) : freshTo n l i 0 = inr n (l.getD i 0) := by simp [freshTo]
theorem freshTo_self (n : Int) (l : List Int) (i : Nat) : freshTo n l i i = fresh n l i := by
  unfold freshTo fresh inr
  rw [Bool.decide_and]
theorem freshTo_succ (n : Int) (l : List Int) (i j : Nat) (h : j < l.length) : freshTo n l i (j + 1) = (freshTo n l i j && (l.getD j 0 != l.getD i 0)) := by
  unfold freshTo
  rw [take_snoc l j h, List.all_append, Bool.and_assoc]
  simp
theorem count_one {n : Int} {l : List Int} {k : Nat} (h : fresh n l k = true) : count n l (k + 1) = count n l k + 1 := by rw [count, h]; rfl
theorem count_none {n : Int} {l : List Int} {k : Nat} (h : fresh n l k = false) : count n l (k + 1) = count n l k := by rw [count, h]; rfl
theorem count_le (n : Int) (l : List Int) : ∀ k, count n l k ≤ k
  | 0 => Nat.le_refl _
  | k + 1 => by rw [count]; have := count_le n l k; split <;> omega
theorem most_count (n : Int) (l : List Int) : most l n = (decide (1 ≤ n) && decide (major n ≤ (count n l l.length : Nat))) := by
  rw [count_eq n l l.length (Nat.le_refl _), List.take_length]; rfl

end Go.Bal

namespace Go.Proofs.Ytodlabpgjgbbpab
open Go.RowKit Go.Agio

theorem below_drawn {B : Nat} {a w : World} (h : Below B a w) (n : Nat) : Below B a (w.drewN n) := ⟨h.os, h.tape, h.output, h.size, h.block⟩

theorem rsite_any (x n : Int) (w : World) : Calls Try.prog 24 #[.int .i64 x, .int .i64 n] w fun e w' => e = .returned (.bool (Bal.inr n x)) ∧ w = w' := by
  unfold Bal.inr
  by_cases h1 : 0 ≤ x
  · by_cases h2 : x < n
    all_goals
      go_enter Try.func24, Try.ntmps24
      go_wp2
      go_ret
      exact ⟨by simp [h1, h2], rfl⟩
  · have h3 : decide (0 ≤ x) = false := by simpa using h1
    go_enter Try.func24, Try.ntmps24
    go_wp2
    go_ret
    exact ⟨by simp, rfl⟩

theorem rmajor_any (n : Int) (w : World) (h : n ≤ 9223372036854775807) : Calls Try.prog 11 #[.int .i64 n] w fun e w' => e = .returned (.int .i64 (Bal.major n)) ∧ w = w' := by
  by_cases h1 : n < 1
  · have hf := hide (show Bal.major n = 0 by unfold Bal.major; rw [if_pos h1])
    go_enter Try.func11, Try.ntmps11
    go_wp2
    go_ret
    exact ⟨by rw [hf.out]; rfl, rfl⟩
  · have hf := hide (show Bal.major n = n / 2 + 1 by unfold Bal.major; rw [if_neg h1])
    go_enter Try.func11, Try.ntmps11
    go_wp2
    go_ret
    exact ⟨by rw [hf.out]; go_num, rfl⟩

set_option maxHeartbeats 1000000 in
theorem rcount_any (A : Option Addr) (cap : Nat) (zs : List Int) (n : Int) (w : World) (hR : Reads w A (zs.map (Value.int .i64))) (hm : zs.length ≤ 4611686018427387904) :
    Calls Try.prog 21 #[.slice A zs.length cap, .int .i64 n] w fun e w' => e = .returned (.int .i64 (Bal.count n zs zs.length : Nat)) ∧ Below w.heap.size w w' := by
  have HR := hide hR
  clear hR
  go_enter Try.func21, Try.ntmps21
  go_wp2
  go_loopw [5, 6] (fun v i wr => ∃ k : Nat, k ≤ zs.length ∧ i = .int .i64 k ∧ v = .int .i64 (Bal.count n zs k : Nat) ∧ Below w.heap.size w wr) (fun _ i _ => zs.length - (intOf i).toNat)
  case atStart => exact ⟨0, Nat.zero_le _, rfl, rfl, Below.refl _ _⟩
  case round =>
    obtain ⟨k, hk, rfl, rfl, hbr⟩ := hrel
    have HC1 := hide (@Bal.count_one n zs k)
    have HC0 := hide (@Bal.count_none n zs k)
    have HB := Bal.count_le n zs k
    by_cases hlt : k < zs.length
    · generalize Bal.count n zs k = m at *
      obtain ⟨b, off, rfl, hb, hc⟩ := (HR.out.below hbr).at_ (k := k) (by simpa using hlt)
      have hck := hc k (by simpa using hlt)
      rw [getD_map_int _ _ hlt] at hck
      have HcD := hide (HR.out.at_ (k := k) (by simpa using hlt))
      have F0 := hide (Bal.freshTo_zero n zs k)
      have F1 := hide (fun j h => Bal.freshTo_succ n zs k j h)
      have F2 := hide (Bal.freshTo_self n zs k)
      generalize zs.getD k 0 = c at *
      clear hc
      go_wp2_with fail
      refine (rsite_any c n _).mono ?_
      rintro e w1 ⟨rfl, rfl⟩
      rw [← F0.out]
      go_wp2
      obtain ⟨wo, hwo⟩ : ∃ wo : World, wo = wr := ⟨_, rfl⟩
      rw [← hwo]
      rw [← hwo] at hbr hck
      clear hwo
      go_loopw [7, 8] (fun f j wr => ∃ i : Nat, i ≤ k ∧ j = .int .i64 i ∧ f = .bool (Bal.freshTo n zs k i) ∧ Below w.heap.size w wr ∧ wr.cell? ⟨b, off + k, none⟩ = some (.int .i64 c)) (fun _ j _ => k - (intOf j).toNat)
      case atStart => exact ⟨0, Nat.zero_le _, rfl, rfl, hbr, hck⟩
      case round =>
        obtain ⟨i, hi, rfl, rfl, hbq, hcq⟩ := hrel
        clear hck
        by_cases hlt2 : i < k
        · obtain ⟨b', off', hA', hb', hc'⟩ := HcD.out
          cases hA'
          have hci := (hbq.cell (p := ⟨b, off + i, none⟩) hb').trans (hc' i (by simpa using (by omega : i < zs.length)))
          rw [getD_map_int _ _ (by omega : i < zs.length)] at hci
          clear hc'
          have G := hide (F1.out i (by omega))
          generalize zs.getD i 0 = d at *
          have b1 : (0 : Int) ≤ (k : Int) := by omega
          have b2 : (k : Int) < (zs.length : Int) := by omega
          have b3 : (0 : Int) ≤ (i : Int) := by omega
          have b4 : (i : Int) < (zs.length : Int) := by omega
          cases hf : Bal.freshTo n zs k i
          · have HF := hide hf
            clear hf
            rw [HF.out] at G
            go_wp2_with fail
            go_quiet (fail)
            go_wp2
            go_roundw
            case rel => exact ⟨i + 1, by omega, by go_num, by rw [G.out]; rfl, below_drawn hbq _, hcq⟩
            case measure => simp [intOf]; omega
          · have HF := hide hf
            clear hf
            rw [HF.out] at G
            by_cases hdc : d = c
            · have G' := hide (show Bal.freshTo n zs k (i + 1) = false by rw [G.out, hdc]; simp)
              subst hdc
              go_wp2_with fail
              go_quiet (fail)
              go_wp2
              go_roundw
              case rel => exact ⟨i + 1, by omega, by go_num, by rw [G'.out], below_drawn hbq _, hcq⟩
              case measure => simp [intOf]; omega
            · have G' := hide (show Bal.freshTo n zs k (i + 1) = true by rw [G.out]; simp [hdc])
              have f1 : (d == c) = false := by rw [beq_eq_false_iff_ne]; exact hdc
              clear hdc
              go_wp2_with fail
              go_quiet (fail)
              go_wp2
              go_roundw
              case rel => exact ⟨i + 1, by omega, by go_num, by rw [G'.out]; show Value.bool (!(d == c)) = _; rw [f1]; rfl, below_drawn hbq _, hcq⟩
              case measure => simp [intOf]; omega
        · obtain rfl : i = k := by omega
          cases hf : Bal.freshTo n zs i i
          · have g := hide (HC0.out (F2.out ▸ hf))
            clear hf
            go_wp2
            go_roundw
            case rel => exact ⟨i + 1, by omega, by go_num, by rw [g.out], hbq⟩
            case measure => simp [intOf]; omega
          · have g := hide (HC1.out (F2.out ▸ hf))
            clear hf
            go_wp2
            go_roundw
            case rel => exact ⟨i + 1, by omega, by go_num, by rw [g.out]; go_num, hbq⟩
            case measure => simp [intOf]; omega
    · obtain rfl : k = zs.length := by omega
      go_wp2
      go_ret
      exact ⟨rfl, hbr⟩

theorem rmost_any (A : Option Addr) (cap : Nat) (zs : List Int) (n : Int) (w : World) (hR : Reads w A (zs.map (Value.int .i64))) (hm : zs.length ≤ 4611686018427387904) (hn : n ≤ 9223372036854775807) :
    Calls Try.prog 13 #[.slice A zs.length cap, .int .i64 n] w fun e w' => e = .returned (.bool (Bal.most zs n)) ∧ Below w.heap.size w w' := by
  have HF := hide (Bal.most_count n zs)
  by_cases h1 : 1 ≤ n
  · have HC := hide (rcount_any A cap zs n w hR hm)
    clear hR
    go_enter Try.func13, Try.ntmps13
    go_wp2_with fail
    refine HC.out.mono ?_
    rintro e w1 ⟨rfl, hb1⟩
    go_wp2_with fail
    refine (rmajor_any n _ hn).mono ?_
    rintro e w2 ⟨rfl, rfl⟩
    go_wp2
    go_ret
    exact ⟨by rw [HF.out]; simp [h1], hb1⟩
  · have h2 : decide (1 ≤ n) = false := by simpa using h1
    clear hR
    go_enter Try.func13, Try.ntmps13
    go_wp2
    go_ret
    exact ⟨by rw [HF.out, h2]; rfl, Below.refl _ _⟩

set_option maxHeartbeats 1000000 in
theorem rcompare_any (r s r' s' : Int) (w : World) : Calls Try.prog 16 #[.agg #[.int .i64 r, .int .i64 s], .agg #[.int .i64 r', .int .i64 s']] w fun e w' => e = .returned (.int .i64 (Bal.compare r s r' s')) ∧ Below w.heap.size w w' := by
  have HF := hide (show Bal.compare r s r' s' = if r < r' then -1 else if r = r' then (if s < s' then -1 else if s = s' then 0 else 1) else 1 from rfl)
  rcases Int.lt_trichotomy r r' with h | h | h
  · have hf := hide (show Bal.compare r s r' s' = -1 by rw [HF.out, if_pos h])
    go_enter Try.func16, Try.ntmps16
    go_wp2
    go_ret
    exact ⟨by rw [hf.out]; rfl, by go_grown⟩
  · subst h
    rcases Int.lt_trichotomy s s' with g | g | g
    · have hf := hide (show Bal.compare r s r s' = -1 by rw [HF.out, if_neg (by omega), if_pos rfl, if_pos g])
      go_enter Try.func16, Try.ntmps16
      go_wp2
      go_ret
      exact ⟨by rw [hf.out]; rfl, by go_grown⟩
    · subst g
      have hf := hide (show Bal.compare r s r s = 0 by rw [HF.out, if_neg (by omega), if_pos rfl, if_neg (by omega), if_pos rfl])
      go_enter Try.func16, Try.ntmps16
      go_wp2
      go_ret
      exact ⟨by rw [hf.out]; rfl, by go_grown⟩
    · have hf := hide (show Bal.compare r s r s' = 1 by rw [HF.out, if_neg (by omega), if_pos rfl, if_neg (by omega), if_neg (by omega)])
      have g1 : (s == s') = false := by rw [beq_eq_false_iff_ne]; omega
      go_enter Try.func16, Try.ntmps16
      go_wp2
      go_ret
      exact ⟨by rw [hf.out]; rfl, by go_grown⟩
  · have hf := hide (show Bal.compare r s r' s' = 1 by rw [HF.out, if_neg (by omega), if_neg (by omega)])
    have g1 : (r == r') = false := by rw [beq_eq_false_iff_ne]; omega
    go_enter Try.func16, Try.ntmps16
    go_wp2
    go_ret
    exact ⟨by rw [hf.out]; rfl, by go_grown⟩

set_option maxHeartbeats 1000000 in
theorem rnext_any (r s t : Int) (w : World) : Calls Try.prog 19 #[.agg #[.int .i64 r, .int .i64 s], .int .i64 t] w fun e w' => e = .returned (.agg #[.int .i64 (Bal.nextRound r), .int .i64 t]) ∧ Below w.heap.size w w' := by
  by_cases h1 : r < 0
  · rw [Bal.next_neg h1]
    go_enter Try.func19, Try.ntmps19
    go_wp2
    go_returns
    exact ⟨rfl, by go_grown⟩
  · have h0 : 0 ≤ r := by omega
    by_cases h2 : r < 1099511627776
    · rw [Bal.next_mid h1 h2]
      have h3 : ¬ 1099511627776 ≤ r := by omega
      go_enter Try.func19, Try.ntmps19
      go_wp2
      go_returns
      exact ⟨rfl, by go_grown⟩
    · rw [Bal.next_top h1 h2]
      have h3 : 1099511627776 ≤ r := by omega
      go_enter Try.func19, Try.ntmps19
      go_wp2
      go_returns
      exact ⟨rfl, by go_grown⟩

set_option maxHeartbeats 1000000 in
theorem rmay_any (r s n : Int) (w : World) : Calls Try.prog 18 #[.agg #[.int .i64 r, .int .i64 s], .int .i64 n] w fun e w' => e = .returned (.bool (Bal.may r s n)) ∧ Below w.heap.size w w' := by
  by_cases h1 : 0 ≤ r
  · by_cases h2 : r ≤ 1099511627776
    · have hf := hide (show Bal.may r s n = Bal.inr n s by simp [Bal.may, h1, h2])
      rw [hf.out]
      go_enter Try.func18, Try.ntmps18
      go_wp2_with fail
      refine (rsite_any s n _).mono ?_
      rintro e w1 ⟨rfl, rfl⟩
      go_wp2
      go_ret
      exact ⟨rfl, by go_grown⟩
    · have hf := hide (show Bal.may r s n = false by simp [Bal.may, h2])
      rw [hf.out]
      have h3 : decide (r ≤ 1099511627776) = false := by simpa using h2
      go_enter Try.func18, Try.ntmps18
      go_wp2
      go_ret
      exact ⟨rfl, by go_grown⟩
  · have hf := hide (show Bal.may r s n = false by simp [Bal.may, h1])
    rw [hf.out]
    have h3 : decide (0 ≤ r) = false := by simpa using h1
    go_enter Try.func18, Try.ntmps18
    go_wp2
    go_ret
    exact ⟨rfl, by go_grown⟩

theorem rmajor_at {w0 : World} (n : Int) (w : World) (hb : Below w0.heap.size w0 w) (h : n ≤ 9223372036854775807) : Calls Try.prog 11 #[.int .i64 n] w fun e w' => e = .returned (.int .i64 (Bal.major n)) ∧ Below w0.heap.size w0 w' :=
  (rmajor_any n w h).mono fun _ _ g => ⟨g.1, g.2 ▸ hb⟩
theorem rmost_at {w0 : World} (A : Option Addr) (cap m : Nat) (zs : List Int) (n : Int) (w : World) (hl : zs.length = m) (hR : Reads w0 A (zs.map (Value.int .i64))) (hb : Below w0.heap.size w0 w) (hm : zs.length ≤ 4611686018427387904) (hn : n ≤ 9223372036854775807) :
    Calls Try.prog 13 #[.slice A m cap, .int .i64 n] w fun e w' => e = .returned (.bool (Bal.most zs n)) ∧ Below w0.heap.size w0 w' := by
  subst hl
  exact (rmost_any A cap zs n w (hR.below hb) hm hn).mono fun _ _ h => ⟨h.1, below_next hb h.2⟩
theorem rcompare_at {w0 : World} (r s r' s' : Int) (w : World) (hb : Below w0.heap.size w0 w) : Calls Try.prog 16 #[.agg #[.int .i64 r, .int .i64 s], .agg #[.int .i64 r', .int .i64 s']] w fun e w' => e = .returned (.int .i64 (Bal.compare r s r' s')) ∧ Below w0.heap.size w0 w' :=
  (rcompare_any r s r' s' w).mono fun _ _ h => ⟨h.1, below_next hb h.2⟩
theorem rnext_at {w0 : World} (r s t : Int) (w : World) (hb : Below w0.heap.size w0 w) : Calls Try.prog 19 #[.agg #[.int .i64 r, .int .i64 s], .int .i64 t] w fun e w' => e = .returned (.agg #[.int .i64 (Bal.nextRound r), .int .i64 t]) ∧ Below w0.heap.size w0 w' :=
  (rnext_any r s t w).mono fun _ _ h => ⟨h.1, below_next hb h.2⟩
theorem rmay_at {w0 : World} (r s n : Int) (w : World) (hb : Below w0.heap.size w0 w) : Calls Try.prog 18 #[.agg #[.int .i64 r, .int .i64 s], .int .i64 n] w fun e w' => e = .returned (.bool (Bal.may r s n)) ∧ Below w0.heap.size w0 w' :=
  (rmay_any r s n w).mono fun _ _ h => ⟨h.1, below_next hb h.2⟩

end Go.Proofs.Ytodlabpgjgbbpab
