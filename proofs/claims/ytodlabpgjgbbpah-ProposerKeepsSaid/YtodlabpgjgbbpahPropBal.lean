/-
  What ballots' order does, and most of the sites, each by a contract (the proposer's seat).
-/
import Derived.Test.YtodlabpgjgbbpahProg
import Derived.Test.YtodlabpgjgbbpahWords
import Derived.Test.YtodlabpgjgbbpahBallotWords
import Derived.WalkKit
import Derived.WalkSpells
import Derived.WalkLawsBesides
import Derived.Handy
import Derived.Deep.RegionHeld3
import Derived.BigQuiet
import Derived.Deep.QuietTactic
namespace Go.Proofs.Ytodlabpgjgbbpah
open Go.RowKit Go.Agio

set_option maxHeartbeats 400000 in
theorem major_any (n : Int) (w : World) (h : n ≤ 9223372036854775807) : Calls Try.prog 34 #[.int .i64 n] w fun e w' => e = .returned (.int .i64 (Bal.major n)) ∧ w = w' := by
  by_cases h1 : n < 1
  · have hf : Bal.major n = 0 := by unfold Bal.major; rw [if_pos h1]
    rw [hf]
    clear hf
    go_enter Try.func34, Try.ntmps34
    go_wp2
    go_ret
    exact ⟨rfl, rfl⟩
  · have hf : Bal.major n = n / 2 + 1 := by unfold Bal.major; rw [if_neg h1]
    rw [hf]
    clear hf
    have h2 : 1 ≤ n := by omega
    go_enter Try.func34, Try.ntmps34
    go_wp2
    go_ret
    exact ⟨rfl, rfl⟩

set_option maxHeartbeats 400000 in
theorem site_any (x n : Int) (w : World) : Calls Try.prog 33 #[.int .i64 x, .int .i64 n] w fun e w' => e = .returned (.bool (Bal.inr n x)) ∧ w = w' := by
  unfold Bal.inr
  by_cases h1 : 0 ≤ x
  · by_cases h2 : x < n
    all_goals
      go_enter Try.func33, Try.ntmps33
      go_wp2
      go_ret
      exact ⟨by simp [h1, h2], rfl⟩
  · have h3 : decide (0 ≤ x) = false := by simpa using h1
    go_enter Try.func33, Try.ntmps33
    go_wp2
    go_ret
    exact ⟨by simp, rfl⟩

set_option maxHeartbeats 1000000 in
theorem most_any (A : Option Addr) (cap : Nat) (zs : List Int) (n : Int) (w : World) (hR : Reads w A (zs.map (Value.int .i64))) (hz : ∀ z ∈ zs, (Lit.int .i64 z).wf = true) (hm : zs.length ≤ 4611686018427387904) (hn : n ≤ 9223372036854775807) :
    Calls Try.prog 22 #[.slice A zs.length cap, .int .i64 n] w fun e w' => e = .returned (.bool (Bal.most zs n)) ∧ Below w.heap.size w w' := by
  by_cases h1 : n < 1
  · have hf : Bal.most zs n = false := by unfold Bal.most; simp; omega
    rw [hf]
    clear hf
    go_enter Try.func22, Try.ntmps22
    go_wp2
    go_ret
    exact ⟨rfl, Below.refl _ _⟩
  · have HF := hide (show Bal.most zs n = decide (Bal.major n ≤ ((Bal.sites n zs).length : Int)) by unfold Bal.most; simp; omega)
    have hmm := @run_makeMap Try.prog
    have HR := hide hR
    have Hz := hide hz
    clear hR hz
    go_enter Try.func22, Try.ntmps22
    go_wp2
    go_loopw [13] (fun i wr => ∃ k : Nat, k ≤ zs.length ∧ i = .int .i64 k ∧ wr.ownsMap Try.prog 3 unitElem w.heap.size k (Bal.seen (H := Unit) n (zs.take k)) ∧ Below w.heap.size w wr) (fun i _ => zs.length - (intOf i).toNat)
    case atStart => exact ⟨0, Nat.zero_le _, rfl, by rw [List.take_zero, Bal.seen_nil]; exact World.ownsMap_made _ _ _ _, (Below.refl _ _).alloc (Nat.le_refl _) _⟩
    case round =>
      obtain ⟨k, hk, rfl, hown, hbr⟩ := hrel
      by_cases hlt : k < zs.length
      · obtain ⟨b, off, rfl, hb, hc⟩ := (HR.out.below hbr).at_ (k := k) (by simpa using hlt)
        have hck := hc k (by simpa using hlt)
        rw [getD_map_int _ _ hlt] at hck
        have hzk := Hz.out (zs.getD k 0) (by simp [List.getD_eq_getElem?_getD, hlt])
        have hs := hide (take_snoc zs 0 k hlt)
        generalize zs.getD k 0 = c at *
        clear hc
        have hkey := Maps.keyOf_int_mk Try.underlying3 hzk
        cases hin : Bal.inr n c
        · have hin2 := hide hin
          clear hin
          go_wp2_with fail
          refine (site_any c n _).mono ?_
          rintro e w1 ⟨rfl, rfl⟩
          rw [hin2.out]
          go_wp2
          go_roundw
          case rel => exact ⟨k + 1, by omega, by go_num, by rw [hs.out, Bal.seen_out _ hin2.out]; exact hown.mono (Nat.le_succ _), hbr⟩
          case measure => simp [intOf]; omega
        · have hin2 := hide hin
          clear hin
          go_wp2_with fail
          refine (site_any c n _).mono ?_
          rintro e w1 ⟨rfl, rfl⟩
          rw [hin2.out]
          go_wp2_with (at_mapUpdate; apply halted)
          refine unhalt (wpList_mapUpdate_own _ rfl _ _ _ 78 rfl 3 79 (Maps.int_keyed Try.underlying3) Try.underlying78 (unitElem (H := Unit)) w.heap.size k _ rfl hown (by unfold maxLen; omega) _ _ _ rfl rfl hkey _ [] unitElem_mk ?_)
          intro w1 hown1 hgrow1
          go_wp2
          go_roundw
          case rel => exact ⟨k + 1, by omega, by go_num, by rw [hs.out, Bal.seen_in _ hin2.out]; exact hown1, hbr.grown hgrow1 hbr.size (fun j hj => by cases hj; exact Nat.le_refl _)⟩
          case measure => simp [intOf]; omega
      · obtain rfl : k = zs.length := by omega
        have hsz := hide (Bal.size_seen (H := Unit) n zs)
        have hown' := hown
        rw [List.take_length] at hown'
        have Hown := hide hown'
        have hle := Bal.length_sites_le' n zs
        clear hown hown'
        go_wp2_with (at_len; apply halted)
        refine unhalt (wpList_len_own _ rfl _ 78 rfl 3 79 Try.underlying78 _ w.heap.size zs.length _ rfl Hown.out ?_)
        rw [hsz.out]
        go_wp2_with fail
        refine (major_any n _ hn).mono ?_
        rintro e w1 ⟨rfl, rfl⟩
        go_wp2
        go_ret
        exact ⟨by rw [HF.out]; rfl, hbr⟩

/-- The same, at a length by name, behind whatever has kept what was there. -/
theorem most_at {w0 : World} (A : Option Addr) (cap m : Nat) (zs : List Int) (n : Int) (w : World) (hl : zs.length = m) (hR : Reads w0 A (zs.map (Value.int .i64))) (hb : Below w0.heap.size w0 w) (hz : ∀ z ∈ zs, (Lit.int .i64 z).wf = true) (hm : zs.length ≤ 4611686018427387904) (hn : n ≤ 9223372036854775807) :
    Calls Try.prog 22 #[.slice A m cap, .int .i64 n] w fun e w' => e = .returned (.bool (Bal.most zs n)) ∧ Below w0.heap.size w0 w' := by
  subst hl
  exact (most_any A cap zs n w (hR.below hb) hz hm hn).mono fun _ _ h => ⟨h.1, below_next hb h.2⟩

set_option maxHeartbeats 400000 in
theorem cmp_any (a b : Int) (w : World) : Calls Try.prog 40 #[.int .i64 a, .int .i64 b] w fun e w' => e = .returned (.int .i64 (Bal.cmp a b)) ∧ w = w' := by
  by_cases h1 : a < b
  · have hf : Bal.cmp a b = -1 := by simp [Bal.cmp, h1]
    rw [hf]; clear hf
    go_enter Try.func40, Try.ntmps40
    go_wp2
    go_ret
    exact ⟨rfl, rfl⟩
  · by_cases h2 : a = b
    · have hf : Bal.cmp a b = 0 := by simp [Bal.cmp, h2]
      rw [hf]; clear hf
      subst h2
      go_enter Try.func40, Try.ntmps40
      go_wp2
      go_ret
      exact ⟨rfl, rfl⟩
    · have hf : Bal.cmp a b = 1 := by simp [Bal.cmp, h1, h2]
      rw [hf]; clear hf
      have h3 : b < a := by omega
      clear h2
      go_enter Try.func40, Try.ntmps40
      go_wp2
      go_ret
      exact ⟨rfl, rfl⟩

set_option maxHeartbeats 400000 in
theorem or_any (b : Nat) (x y : Int) (w : World) (h0 : w.cell? ⟨b, 0, none⟩ = some (.int .i64 x)) (h1 : w.cell? ⟨b, 1, none⟩ = some (.int .i64 y)) :
    Calls Try.prog 39 #[.slice (some ⟨b, 0, none⟩) 2 2] w fun e w' => e = .returned (.int .i64 (Bal.orr x y)) ∧ w = w' := by
  by_cases hx : x = 0
  · subst hx
    rw [show Bal.orr 0 y = y from rfl]
    by_cases hy : y = 0
    · subst hy
      go_enter Try.func39, Try.ntmps39
      go_wp2
      go_rounds 3
      go_ret
      exact ⟨rfl, rfl⟩
    · have hy2 : (y != 0) = true := by simpa using hy
      go_enter Try.func39, Try.ntmps39
      go_wp2
      go_rounds 2
      go_ret
      exact ⟨rfl, rfl⟩
  · rw [show Bal.orr x y = x from if_neg hx]
    have hx2 : (x != 0) = true := by simpa using hx
    go_enter Try.func39, Try.ntmps39
    go_wp2
    go_rounds 1
    go_ret
    exact ⟨rfl, rfl⟩

set_option maxHeartbeats 1000000 in
theorem compare_any (r s r' s' : Int) (w : World) : Calls Try.prog 35 #[.agg #[.int .i64 r, .int .i64 s], .agg #[.int .i64 r', .int .i64 s']] w fun e w' => e = .returned (.int .i64 (Bal.compare r s r' s')) ∧ Below w.heap.size w w' := by
  have HF := hide (Bal.compare_eq r s r' s')
  go_enter Try.func35, Try.ntmps35
  go_wp2_with fail
  have k0 : ((w.alloc (.cells #[.int .i64 r, .int .i64 s] 32)).alloc (.cells #[.int .i64 r', .int .i64 s'] 32)).cell? ⟨w.heap.size, 0, none⟩ = some (.int .i64 r) := by
    rw [World.cell?_alloc_past _ _ _ (by simp), World.cell?_alloc_at _ _ _ _ rfl]; rfl
  have k1 : ((w.alloc (.cells #[.int .i64 r, .int .i64 s] 32)).alloc (.cells #[.int .i64 r', .int .i64 s'] 32)).cell? ⟨w.heap.size, 1, none⟩ = some (.int .i64 s) := by
    rw [World.cell?_alloc_past _ _ _ (by simp), World.cell?_alloc_at _ _ _ _ rfl]; rfl
  have k2 : ((w.alloc (.cells #[.int .i64 r, .int .i64 s] 32)).alloc (.cells #[.int .i64 r', .int .i64 s'] 32)).cell? ⟨w.heap.size + 1, 0, none⟩ = some (.int .i64 r') := by
    rw [World.cell?_alloc_at _ _ _ _ (by simp)]; rfl
  have k3 : ((w.alloc (.cells #[.int .i64 r, .int .i64 s] 32)).alloc (.cells #[.int .i64 r', .int .i64 s'] 32)).cell? ⟨w.heap.size + 1, 1, none⟩ = some (.int .i64 s') := by
    rw [World.cell?_alloc_at _ _ _ _ (by simp)]; rfl
  have hb0 := (((Below.refl w.heap.size w).alloc (Nat.le_refl _) (.cells #[.int .i64 r, .int .i64 s] 32)).alloc (by simp) (.cells #[.int .i64 r', .int .i64 s'] 32))
  generalize (w.alloc (.cells #[.int .i64 r, .int .i64 s] 32)).alloc (.cells #[.int .i64 r', .int .i64 s'] 32) = W at *
  go_region_held3 (fun W' => W'.cell? ⟨w.heap.size, 0, none⟩ = some (.int .i64 r) ∧ W'.cell? ⟨w.heap.size, 1, none⟩ = some (.int .i64 s) ∧ W'.cell? ⟨w.heap.size + 1, 0, none⟩ = some (.int .i64 r') ∧ W'.cell? ⟨w.heap.size + 1, 1, none⟩ = some (.int .i64 s')) (go_keep) (first
    | (go_at_call 40; (with_reducible refine (cmp_any _ _ _).mono ?_); rintro e w1 ⟨rfl, rfl⟩)
    | (go_at_call 39; refine (or_any _ (Bal.cmp r r') (Bal.cmp s s') _ (by simp [World.cell?_alloc_at]) (by simp [World.cell?_alloc_at])).mono ?_; rintro e w1 ⟨rfl, rfl⟩))
  go_wp2
  go_ret
  exact ⟨by rw [HF.out]; rfl, hb0.drew.alloc hb0.size _⟩

theorem compare_at {w0 : World} (r s r' s' : Int) (w : World) (hb : Below w0.heap.size w0 w) : Calls Try.prog 35 #[.agg #[.int .i64 r, .int .i64 s], .agg #[.int .i64 r', .int .i64 s']] w fun e w' => e = .returned (.int .i64 (Bal.compare r s r' s')) ∧ Below w0.heap.size w0 w' :=
  (compare_any r s r' s' w).mono fun _ _ h => ⟨h.1, below_next hb h.2⟩
end Go.Proofs.Ytodlabpgjgbbpah
namespace Go.Bal

/-- Whether a place's site is none of those at the first j places. -/
def freshTo (n : Int) (l : List Int) (i j : Nat) : Bool := inr n (l.getD i 0) && (l.take j).all (fun x => x != l.getD i 0)
theorem freshTo_zero (n : Int) (l : List Int) (i : Nat) : freshTo n l i 0 = inr n (l.getD i 0) := by simp [freshTo]
theorem freshTo_self (n : Int) (l : List Int) (i : Nat) : freshTo n l i i = fresh n l i := by
  unfold freshTo fresh inr
  rw [Bool.decide_and]
theorem freshTo_succ (n : Int) (l : List Int) (i j : Nat) (h : j < l.length) : freshTo n l i (j + 1) = (freshTo n l i j && (l.getD j 0 != l.getD i 0)) := by
  unfold freshTo
  rw [take_snoc l j h, List.all_append, Bool.and_assoc]
  simp
theorem count_one {n : Int} {l : List Int} {k : Nat} (h : fresh n l k = true) : count n l (k + 1) = count n l k + 1 := by rw [count, h]; rfl
theorem count_none {n : Int} {l : List Int} {k : Nat} (h : fresh n l k = false) : count n l (k + 1) = count n l k := by rw [count, h]; rfl
theorem count_le (n : Int) (l : List Int) : ∀ k, count n l k ≤ k
  | 0 => Nat.le_refl _
  | k + 1 => by rw [count]; have := count_le n l k; split <;> omega
theorem most_count (n : Int) (l : List Int) : most l n = (decide (1 ≤ n) && decide (major n ≤ (count n l l.length : Nat))) := by
  rw [count_eq n l l.length (Nat.le_refl _), List.take_length]; rfl

end Go.Bal

namespace Go.Proofs.Ytodlabpgjgbbpah
open Go.RowKit Go.Agio

theorem below_drawn {B : Nat} {a w : World} (h : Below B a w) (n : Nat) : Below B a (w.drewN n) := ⟨h.os, h.tape, h.output, h.size, h.block⟩

theorem rsite_any (x n : Int) (w : World) : Calls Try.prog 26 #[.int .i64 x, .int .i64 n] w fun e w' => e = .returned (.bool (Bal.inr n x)) ∧ w = w' := by
  unfold Bal.inr
  by_cases h1 : 0 ≤ x
  · by_cases h2 : x < n
    all_goals
      go_enter Try.func26, Try.ntmps26
      go_wp2
      go_ret
      exact ⟨by simp [h1, h2], rfl⟩
  · have h3 : decide (0 ≤ x) = false := by simpa using h1
    go_enter Try.func26, Try.ntmps26
    go_wp2
    go_ret
    exact ⟨by simp, rfl⟩

theorem rmajor_any (n : Int) (w : World) (h : n ≤ 9223372036854775807) : Calls Try.prog 37 #[.int .i64 n] w fun e w' => e = .returned (.int .i64 (Bal.major n)) ∧ w = w' := by
  by_cases h1 : n < 1
  · have hf := hide (show Bal.major n = 0 by unfold Bal.major; rw [if_pos h1])
    go_enter Try.func37, Try.ntmps37
    go_wp2
    go_ret
    exact ⟨by rw [hf.out]; rfl, rfl⟩
  · have hf := hide (show Bal.major n = n / 2 + 1 by unfold Bal.major; rw [if_neg h1])
    go_enter Try.func37, Try.ntmps37
    go_wp2
    go_ret
    exact ⟨by rw [hf.out]; go_num, rfl⟩

set_option maxHeartbeats 1000000 in
theorem rcount_any (A : Option Addr) (cap : Nat) (zs : List Int) (n : Int) (w : World) (hR : Reads w A (zs.map (Value.int .i64))) (hm : zs.length ≤ 4611686018427387904) :
    Calls Try.prog 36 #[.slice A zs.length cap, .int .i64 n] w fun e w' => e = .returned (.int .i64 (Bal.count n zs zs.length : Nat)) ∧ Below w.heap.size w w' := by
  have HR := hide hR
  clear hR
  go_enter Try.func36, Try.ntmps36
  go_wp2
  go_loopw [5, 6] (fun v i wr => ∃ k : Nat, k ≤ zs.length ∧ i = .int .i64 k ∧ v = .int .i64 (Bal.count n zs k : Nat) ∧ Below w.heap.size w wr) (fun _ i _ => zs.length - (intOf i).toNat)
  case atStart => exact ⟨0, Nat.zero_le _, rfl, rfl, Below.refl _ _⟩
  case round =>
    obtain ⟨k, hk, rfl, rfl, hbr⟩ := hrel
    have HC1 := hide (@Bal.count_one n zs k)
    have HC0 := hide (@Bal.count_none n zs k)
    have HB := Bal.count_le n zs k
    by_cases hlt : k < zs.length
    · generalize Bal.count n zs k = m at *
      obtain ⟨b, off, rfl, hb, hc⟩ := (HR.out.below hbr).at_ (k := k) (by simpa using hlt)
      have hck := hc k (by simpa using hlt)
      rw [getD_map_int _ _ hlt] at hck
      have HcD := hide (HR.out.at_ (k := k) (by simpa using hlt))
      have F0 := hide (Bal.freshTo_zero n zs k)
      have F1 := hide (fun j h => Bal.freshTo_succ n zs k j h)
      have F2 := hide (Bal.freshTo_self n zs k)
      generalize zs.getD k 0 = c at *
      clear hc
      go_wp2_with fail
      refine (rsite_any c n _).mono ?_
      rintro e w1 ⟨rfl, rfl⟩
      rw [← F0.out]
      go_wp2
      obtain ⟨wo, hwo⟩ : ∃ wo : World, wo = wr := ⟨_, rfl⟩
      rw [← hwo]
      rw [← hwo] at hbr hck
      clear hwo
      go_loopw [7, 8] (fun f j wr => ∃ i : Nat, i ≤ k ∧ j = .int .i64 i ∧ f = .bool (Bal.freshTo n zs k i) ∧ Below w.heap.size w wr ∧ wr.cell? ⟨b, off + k, none⟩ = some (.int .i64 c)) (fun _ j _ => k - (intOf j).toNat)
      case atStart => exact ⟨0, Nat.zero_le _, rfl, rfl, hbr, hck⟩
      case round =>
        obtain ⟨i, hi, rfl, rfl, hbq, hcq⟩ := hrel
        clear hck
        by_cases hlt2 : i < k
        · obtain ⟨b', off', hA', hb', hc'⟩ := HcD.out
          cases hA'
          have hci := (hbq.cell (p := ⟨b, off + i, none⟩) hb').trans (hc' i (by simpa using (by omega : i < zs.length)))
          rw [getD_map_int _ _ (by omega : i < zs.length)] at hci
          clear hc'
          have G := hide (F1.out i (by omega))
          generalize zs.getD i 0 = d at *
          have b1 : (0 : Int) ≤ (k : Int) := by omega
          have b2 : (k : Int) < (zs.length : Int) := by omega
          have b3 : (0 : Int) ≤ (i : Int) := by omega
          have b4 : (i : Int) < (zs.length : Int) := by omega
          cases hf : Bal.freshTo n zs k i
          · have HF := hide hf
            clear hf
            rw [HF.out] at G
            go_wp2_with fail
            go_quiet (fail)
            go_wp2
            go_roundw
            case rel => exact ⟨i + 1, by omega, by go_num, by rw [G.out]; rfl, below_drawn hbq _, hcq⟩
            case measure => simp [intOf]; omega
          · have HF := hide hf
            clear hf
            rw [HF.out] at G
            by_cases hdc : d = c
            · have G' := hide (show Bal.freshTo n zs k (i + 1) = false by rw [G.out, hdc]; simp)
              subst hdc
              go_wp2_with fail
              go_quiet (fail)
              go_wp2
              go_roundw
              case rel => exact ⟨i + 1, by omega, by go_num, by rw [G'.out], below_drawn hbq _, hcq⟩
              case measure => simp [intOf]; omega
            · have G' := hide (show Bal.freshTo n zs k (i + 1) = true by rw [G.out]; simp [hdc])
              have f1 : (d == c) = false := by rw [beq_eq_false_iff_ne]; exact hdc
              clear hdc
              go_wp2_with fail
              go_quiet (fail)
              go_wp2
              go_roundw
              case rel => exact ⟨i + 1, by omega, by go_num, by rw [G'.out]; show Value.bool (!(d == c)) = _; rw [f1]; rfl, below_drawn hbq _, hcq⟩
              case measure => simp [intOf]; omega
        · obtain rfl : i = k := by omega
          cases hf : Bal.freshTo n zs i i
          · have g := hide (HC0.out (F2.out ▸ hf))
            clear hf
            go_wp2
            go_roundw
            case rel => exact ⟨i + 1, by omega, by go_num, by rw [g.out], hbq⟩
            case measure => simp [intOf]; omega
          · have g := hide (HC1.out (F2.out ▸ hf))
            clear hf
            go_wp2
            go_roundw
            case rel => exact ⟨i + 1, by omega, by go_num, by rw [g.out]; go_num, hbq⟩
            case measure => simp [intOf]; omega
    · obtain rfl : k = zs.length := by omega
      go_wp2
      go_ret
      exact ⟨rfl, hbr⟩

theorem rmost_any (A : Option Addr) (cap : Nat) (zs : List Int) (n : Int) (w : World) (hR : Reads w A (zs.map (Value.int .i64))) (hm : zs.length ≤ 4611686018427387904) (hn : n ≤ 9223372036854775807) :
    Calls Try.prog 27 #[.slice A zs.length cap, .int .i64 n] w fun e w' => e = .returned (.bool (Bal.most zs n)) ∧ Below w.heap.size w w' := by
  have HF := hide (Bal.most_count n zs)
  by_cases h1 : 1 ≤ n
  · have HC := hide (rcount_any A cap zs n w hR hm)
    clear hR
    go_enter Try.func27, Try.ntmps27
    go_wp2_with fail
    refine HC.out.mono ?_
    rintro e w1 ⟨rfl, hb1⟩
    go_wp2_with fail
    refine (rmajor_any n _ hn).mono ?_
    rintro e w2 ⟨rfl, rfl⟩
    go_wp2
    go_ret
    exact ⟨by rw [HF.out]; simp [h1], hb1⟩
  · have h2 : decide (1 ≤ n) = false := by simpa using h1
    clear hR
    go_enter Try.func27, Try.ntmps27
    go_wp2
    go_ret
    exact ⟨by rw [HF.out, h2]; rfl, Below.refl _ _⟩

set_option maxHeartbeats 1000000 in
theorem rcompare_any (r s r' s' : Int) (w : World) : Calls Try.prog 18 #[.agg #[.int .i64 r, .int .i64 s], .agg #[.int .i64 r', .int .i64 s']] w fun e w' => e = .returned (.int .i64 (Bal.compare r s r' s')) ∧ Below w.heap.size w w' := by
  have HF := hide (show Bal.compare r s r' s' = if r < r' then -1 else if r = r' then (if s < s' then -1 else if s = s' then 0 else 1) else 1 from rfl)
  rcases Int.lt_trichotomy r r' with h | h | h
  · have hf := hide (show Bal.compare r s r' s' = -1 by rw [HF.out, if_pos h])
    go_enter Try.func18, Try.ntmps18
    go_wp2
    go_ret
    exact ⟨by rw [hf.out]; rfl, by go_grown⟩
  · subst h
    rcases Int.lt_trichotomy s s' with g | g | g
    · have hf := hide (show Bal.compare r s r s' = -1 by rw [HF.out, if_neg (by omega), if_pos rfl, if_pos g])
      go_enter Try.func18, Try.ntmps18
      go_wp2
      go_ret
      exact ⟨by rw [hf.out]; rfl, by go_grown⟩
    · subst g
      have hf := hide (show Bal.compare r s r s = 0 by rw [HF.out, if_neg (by omega), if_pos rfl, if_neg (by omega), if_pos rfl])
      go_enter Try.func18, Try.ntmps18
      go_wp2
      go_ret
      exact ⟨by rw [hf.out]; rfl, by go_grown⟩
    · have hf := hide (show Bal.compare r s r s' = 1 by rw [HF.out, if_neg (by omega), if_pos rfl, if_neg (by omega), if_neg (by omega)])
      have g1 : (s == s') = false := by rw [beq_eq_false_iff_ne]; omega
      go_enter Try.func18, Try.ntmps18
      go_wp2
      go_ret
      exact ⟨by rw [hf.out]; rfl, by go_grown⟩
  · have hf := hide (show Bal.compare r s r' s' = 1 by rw [HF.out, if_neg (by omega), if_neg (by omega)])
    have g1 : (r == r') = false := by rw [beq_eq_false_iff_ne]; omega
    go_enter Try.func18, Try.ntmps18
    go_wp2
    go_ret
    exact ⟨by rw [hf.out]; rfl, by go_grown⟩

theorem rmost_at {w0 : World} (A : Option Addr) (cap m : Nat) (zs : List Int) (n : Int) (w : World) (hl : zs.length = m) (hR : Reads w0 A (zs.map (Value.int .i64))) (hb : Below w0.heap.size w0 w) (hm : zs.length ≤ 4611686018427387904) (hn : n ≤ 9223372036854775807) :
    Calls Try.prog 27 #[.slice A m cap, .int .i64 n] w fun e w' => e = .returned (.bool (Bal.most zs n)) ∧ Below w0.heap.size w0 w' := by
  subst hl
  exact (rmost_any A cap zs n w (hR.below hb) hm hn).mono fun _ _ h => ⟨h.1, below_next hb h.2⟩
theorem rcompare_at {w0 : World} (r s r' s' : Int) (w : World) (hb : Below w0.heap.size w0 w) : Calls Try.prog 18 #[.agg #[.int .i64 r, .int .i64 s], .agg #[.int .i64 r', .int .i64 s']] w fun e w' => e = .returned (.int .i64 (Bal.compare r s r' s')) ∧ Below w0.heap.size w0 w' :=
  (rcompare_any r s r' s' w).mono fun _ _ h => ⟨h.1, below_next hb h.2⟩
end Go.Proofs.Ytodlabpgjgbbpah
