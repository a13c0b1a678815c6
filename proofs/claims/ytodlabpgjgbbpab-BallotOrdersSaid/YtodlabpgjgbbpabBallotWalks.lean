/-
  What the functions of ballots do, each by a contract.
-/
import Derived.Test.YtodlabpgjgbbpabProg
import Derived.Test.YtodlabpgjgbbpabWords
import Derived.Test.YtodlabpgjgbbpabBallotWords
import Derived.WalkKit
import Derived.WalkSpells
import Derived.WalkLawsBesides
import Derived.Handy
import Derived.Deep.RegionHeld3
import Derived.BigQuiet
import Derived.Deep.QuietTactic
namespace Go.Proofs.Ytodlabpgjgbbpab
open Go.RowKit Go.Agio

set_option maxHeartbeats 400000 in
theorem major_any (n : Int) (w : World) (h : n ≤ 9223372036854775807) : Calls Try.prog 10 #[.int .i64 n] w fun e w' => e = .returned (.int .i64 (Bal.major n)) ∧ w = w' := by
  by_cases h1 : n < 1
  · have hf : Bal.major n = 0 := by unfold Bal.major; rw [if_pos h1]
    rw [hf]
    clear hf
    go_enter Try.func10, Try.ntmps10
    go_wp2
    go_ret
    exact ⟨rfl, rfl⟩
  · have hf : Bal.major n = n / 2 + 1 := by unfold Bal.major; rw [if_neg h1]
    rw [hf]
    clear hf
    have h2 : 1 ≤ n := by omega
    go_enter Try.func10, Try.ntmps10
    go_wp2
    go_ret
    exact ⟨rfl, rfl⟩

set_option maxHeartbeats 400000 in
theorem site_any (x n : Int) (w : World) : Calls Try.prog 20 #[.int .i64 x, .int .i64 n] w fun e w' => e = .returned (.bool (Bal.inr n x)) ∧ w = w' := by
  unfold Bal.inr
  by_cases h1 : 0 ≤ x
  · by_cases h2 : x < n
    all_goals
      go_enter Try.func20, Try.ntmps20
      go_wp2
      go_ret
      exact ⟨by simp [h1, h2], rfl⟩
  · have h3 : decide (0 ≤ x) = false := by simpa using h1
    go_enter Try.func20, Try.ntmps20
    go_wp2
    go_ret
    exact ⟨by simp, rfl⟩

set_option maxHeartbeats 1000000 in
theorem most_any (A : Option Addr) (cap : Nat) (zs : List Int) (n : Int) (w : World) (hR : Reads w A (zs.map (Value.int .i64))) (hz : ∀ z ∈ zs, (Lit.int .i64 z).wf = true) (hm : zs.length ≤ 4611686018427387904) (hn : n ≤ 9223372036854775807) :
    Calls Try.prog 12 #[.slice A zs.length cap, .int .i64 n] w fun e w' => e = .returned (.bool (Bal.most zs n)) ∧ Below w.heap.size w w' := by
  by_cases h1 : n < 1
  · have hf : Bal.most zs n = false := by unfold Bal.most; simp; omega
    rw [hf]
    clear hf
    go_enter Try.func12, Try.ntmps12
    go_wp2
    go_ret
    exact ⟨rfl, Below.refl _ _⟩
  · have HF := hide (show Bal.most zs n = decide (Bal.major n ≤ ((Bal.sites n zs).length : Int)) by unfold Bal.most; simp; omega)
    have hmm := @run_makeMap Try.prog
    have HR := hide hR
    have Hz := hide hz
    clear hR hz
    go_enter Try.func12, Try.ntmps12
    go_wp2
    go_loopw [13] (fun i wr => ∃ k : Nat, k ≤ zs.length ∧ i = .int .i64 k ∧ wr.ownsMap Try.prog 3 unitElem w.heap.size k (Bal.seen (H := Unit) n (zs.take k)) ∧ Below w.heap.size w wr) (fun i _ => zs.length - (intOf i).toNat)
    case atStart => exact ⟨0, Nat.zero_le _, rfl, by rw [List.take_zero, Bal.seen_nil]; exact World.ownsMap_made _ _ _ _, (Below.refl _ _).alloc (Nat.le_refl _) _⟩
    case round =>
      obtain ⟨k, hk, rfl, hown, hbr⟩ := hrel
      by_cases hlt : k < zs.length
      · obtain ⟨b, off, rfl, hb, hc⟩ := (HR.out.below hbr).at_ (k := k) (by simpa using hlt)
        have hck := hc k (by simpa using hlt)
        rw [getD_map_int _ _ hlt] at hck
        have hzk := Hz.out (zs.getD k 0) (by simp [List.getD_eq_getElem?_getD, hlt])
        have hs := hide (take_snoc zs 0 k hlt)
        generalize zs.getD k 0 = c at *
        clear hc
        have hkey := Maps.keyOf_int_mk Try.underlying3 hzk
        cases hin : Bal.inr n c
        · have hin2 := hide hin
          clear hin
          go_wp2_with fail
          refine (site_any c n _).mono ?_
          rintro e w1 ⟨rfl, rfl⟩
          rw [hin2.out]
          go_wp2
          go_roundw
          case rel => exact ⟨k + 1, by omega, by go_num, by rw [hs.out, Bal.seen_out _ hin2.out]; exact hown.mono (Nat.le_succ _), hbr⟩
          case measure => simp [intOf]; omega
        · have hin2 := hide hin
          clear hin
          go_wp2_with fail
          refine (site_any c n _).mono ?_
          rintro e w1 ⟨rfl, rfl⟩
          rw [hin2.out]
          go_wp2_with (at_mapUpdate; apply halted)
          refine unhalt (wpList_mapUpdate_own _ rfl _ _ _ 36 rfl 3 38 (Maps.int_keyed Try.underlying3) Try.underlying36 (unitElem (H := Unit)) w.heap.size k _ rfl hown (by unfold maxLen; omega) _ _ _ rfl rfl hkey _ [] unitElem_mk ?_)
          intro w1 hown1 hgrow1
          go_wp2
          go_roundw
          case rel => exact ⟨k + 1, by omega, by go_num, by rw [hs.out, Bal.seen_in _ hin2.out]; exact hown1, hbr.grown hgrow1 hbr.size (fun j hj => by cases hj; exact Nat.le_refl _)⟩
          case measure => simp [intOf]; omega
      · obtain rfl : k = zs.length := by omega
        have hsz := hide (Bal.size_seen (H := Unit) n zs)
        have hown' := hown
        rw [List.take_length] at hown'
        have Hown := hide hown'
        have hle := Bal.length_sites_le' n zs
        clear hown hown'
        go_wp2_with (at_len; apply halted)
        refine unhalt (wpList_len_own _ rfl _ 36 rfl 3 38 Try.underlying36 _ w.heap.size zs.length _ rfl Hown.out ?_)
        rw [hsz.out]
        go_wp2_with fail
        refine (major_any n _ hn).mono ?_
        rintro e w1 ⟨rfl, rfl⟩
        go_wp2
        go_ret
        exact ⟨by rw [HF.out]; rfl, hbr⟩

/-- The same, at a length by name, behind whatever has kept what was there. -/
theorem most_at {w0 : World} (A : Option Addr) (cap m : Nat) (zs : List Int) (n : Int) (w : World) (hl : zs.length = m) (hR : Reads w0 A (zs.map (Value.int .i64))) (hb : Below w0.heap.size w0 w) (hz : ∀ z ∈ zs, (Lit.int .i64 z).wf = true) (hm : zs.length ≤ 4611686018427387904) (hn : n ≤ 9223372036854775807) :
    Calls Try.prog 12 #[.slice A m cap, .int .i64 n] w fun e w' => e = .returned (.bool (Bal.most zs n)) ∧ Below w0.heap.size w0 w' := by
  subst hl
  exact (most_any A cap zs n w (hR.below hb) hz hm hn).mono fun _ _ h => ⟨h.1, below_next hb h.2⟩

set_option maxHeartbeats 400000 in
theorem cmp_any (a b : Int) (w : World) : Calls Try.prog 23 #[.int .i64 a, .int .i64 b] w fun e w' => e = .returned (.int .i64 (Bal.cmp a b)) ∧ w = w' := by
  by_cases h1 : a < b
  · have hf : Bal.cmp a b = -1 := by simp [Bal.cmp, h1]
    rw [hf]; clear hf
    go_enter Try.func23, Try.ntmps23
    go_wp2
    go_ret
    exact ⟨rfl, rfl⟩
  · by_cases h2 : a = b
    · have hf : Bal.cmp a b = 0 := by simp [Bal.cmp, h2]
      rw [hf]; clear hf
      subst h2
      go_enter Try.func23, Try.ntmps23
      go_wp2
      go_ret
      exact ⟨rfl, rfl⟩
    · have hf : Bal.cmp a b = 1 := by simp [Bal.cmp, h1, h2]
      rw [hf]; clear hf
      have h3 : b < a := by omega
      clear h2
      go_enter Try.func23, Try.ntmps23
      go_wp2
      go_ret
      exact ⟨rfl, rfl⟩

set_option maxHeartbeats 400000 in
theorem or_any (b : Nat) (x y : Int) (w : World) (h0 : w.cell? ⟨b, 0, none⟩ = some (.int .i64 x)) (h1 : w.cell? ⟨b, 1, none⟩ = some (.int .i64 y)) :
    Calls Try.prog 22 #[.slice (some ⟨b, 0, none⟩) 2 2] w fun e w' => e = .returned (.int .i64 (Bal.orr x y)) ∧ w = w' := by
  by_cases hx : x = 0
  · subst hx
    rw [show Bal.orr 0 y = y from rfl]
    by_cases hy : y = 0
    · subst hy
      go_enter Try.func22, Try.ntmps22
      go_wp2
      go_rounds 3
      go_ret
      exact ⟨rfl, rfl⟩
    · have hy2 : (y != 0) = true := by simpa using hy
      go_enter Try.func22, Try.ntmps22
      go_wp2
      go_rounds 2
      go_ret
      exact ⟨rfl, rfl⟩
  · rw [show Bal.orr x y = x from if_neg hx]
    have hx2 : (x != 0) = true := by simpa using hx
    go_enter Try.func22, Try.ntmps22
    go_wp2
    go_rounds 1
    go_ret
    exact ⟨rfl, rfl⟩

set_option maxHeartbeats 1000000 in
theorem compare_any (r s r' s' : Int) (w : World) : Calls Try.prog 14 #[.agg #[.int .i64 r, .int .i64 s], .agg #[.int .i64 r', .int .i64 s']] w fun e w' => e = .returned (.int .i64 (Bal.compare r s r' s')) ∧ Below w.heap.size w w' := by
  have HF := hide (Bal.compare_eq r s r' s')
  go_enter Try.func14, Try.ntmps14
  go_wp2_with fail
  have k0 : ((w.alloc (.cells #[.int .i64 r, .int .i64 s] 29)).alloc (.cells #[.int .i64 r', .int .i64 s'] 29)).cell? ⟨w.heap.size, 0, none⟩ = some (.int .i64 r) := by
    rw [World.cell?_alloc_past _ _ _ (by simp), World.cell?_alloc_at _ _ _ _ rfl]; rfl
  have k1 : ((w.alloc (.cells #[.int .i64 r, .int .i64 s] 29)).alloc (.cells #[.int .i64 r', .int .i64 s'] 29)).cell? ⟨w.heap.size, 1, none⟩ = some (.int .i64 s) := by
    rw [World.cell?_alloc_past _ _ _ (by simp), World.cell?_alloc_at _ _ _ _ rfl]; rfl
  have k2 : ((w.alloc (.cells #[.int .i64 r, .int .i64 s] 29)).alloc (.cells #[.int .i64 r', .int .i64 s'] 29)).cell? ⟨w.heap.size + 1, 0, none⟩ = some (.int .i64 r') := by
    rw [World.cell?_alloc_at _ _ _ _ (by simp)]; rfl
  have k3 : ((w.alloc (.cells #[.int .i64 r, .int .i64 s] 29)).alloc (.cells #[.int .i64 r', .int .i64 s'] 29)).cell? ⟨w.heap.size + 1, 1, none⟩ = some (.int .i64 s') := by
    rw [World.cell?_alloc_at _ _ _ _ (by simp)]; rfl
  have hb0 := (((Below.refl w.heap.size w).alloc (Nat.le_refl _) (.cells #[.int .i64 r, .int .i64 s] 29)).alloc (by simp) (.cells #[.int .i64 r', .int .i64 s'] 29))
  generalize (w.alloc (.cells #[.int .i64 r, .int .i64 s] 29)).alloc (.cells #[.int .i64 r', .int .i64 s'] 29) = W at *
  go_region_held3 (fun W' => W'.cell? ⟨w.heap.size, 0, none⟩ = some (.int .i64 r) ∧ W'.cell? ⟨w.heap.size, 1, none⟩ = some (.int .i64 s) ∧ W'.cell? ⟨w.heap.size + 1, 0, none⟩ = some (.int .i64 r') ∧ W'.cell? ⟨w.heap.size + 1, 1, none⟩ = some (.int .i64 s')) (go_keep) (first
    | (go_at_call 23; (with_reducible refine (cmp_any _ _ _).mono ?_); rintro e w1 ⟨rfl, rfl⟩)
    | (go_at_call 22; refine (or_any _ (Bal.cmp r r') (Bal.cmp s s') _ (by simp [World.cell?_alloc_at]) (by simp [World.cell?_alloc_at])).mono ?_; rintro e w1 ⟨rfl, rfl⟩))
  go_wp2
  go_ret
  exact ⟨by rw [HF.out]; rfl, hb0.drew.alloc hb0.size _⟩

set_option maxHeartbeats 1000000 in
theorem next_any (r s t : Int) (w : World) : Calls Try.prog 15 #[.agg #[.int .i64 r, .int .i64 s], .int .i64 t] w fun e w' => e = .returned (.agg #[.int .i64 (Bal.nextRound r), .int .i64 t]) ∧ Below w.heap.size w w' := by
  by_cases h1 : r < 0
  · rw [Bal.next_neg h1]
    go_enter Try.func15, Try.ntmps15
    go_wp2
    go_returns
    exact ⟨rfl, by go_grown⟩
  · have h0 : 0 ≤ r := by omega
    by_cases h2 : r < 1099511627776
    · rw [Bal.next_mid h1 h2]
      go_enter Try.func15, Try.ntmps15
      go_wp2
      go_returns
      exact ⟨rfl, by go_grown⟩
    · rw [Bal.next_top h1 h2]
      go_enter Try.func15, Try.ntmps15
      go_wp2
      go_returns
      exact ⟨rfl, by go_grown⟩

set_option maxHeartbeats 1000000 in
theorem may_any (r s n : Int) (w : World) : Calls Try.prog 17 #[.agg #[.int .i64 r, .int .i64 s], .int .i64 n] w fun e w' => e = .returned (.bool (Bal.may r s n)) ∧ Below w.heap.size w w' := by
  by_cases h1 : 0 ≤ r
  · by_cases h2 : r ≤ 1099511627776
    · have hf := hide (show Bal.may r s n = Bal.inr n s by simp [Bal.may, h1, h2])
      rw [hf.out]
      go_enter Try.func17, Try.ntmps17
      go_wp2_with fail
      refine (site_any s n _).mono ?_
      rintro e w1 ⟨rfl, rfl⟩
      go_wp2
      go_ret
      exact ⟨rfl, by go_grown⟩
    · have hf := hide (show Bal.may r s n = false by simp [Bal.may, h2])
      rw [hf.out]
      have h3 : decide (r ≤ 1099511627776) = false := by simpa using h2
      go_enter Try.func17, Try.ntmps17
      go_wp2
      go_ret
      exact ⟨rfl, by go_grown⟩
  · have hf := hide (show Bal.may r s n = false by simp [Bal.may, h1])
    rw [hf.out]
    have h3 : decide (0 ≤ r) = false := by simpa using h1
    go_enter Try.func17, Try.ntmps17
    go_wp2
    go_ret
    exact ⟨rfl, by go_grown⟩

theorem compare_at {w0 : World} (r s r' s' : Int) (w : World) (hb : Below w0.heap.size w0 w) : Calls Try.prog 14 #[.agg #[.int .i64 r, .int .i64 s], .agg #[.int .i64 r', .int .i64 s']] w fun e w' => e = .returned (.int .i64 (Bal.compare r s r' s')) ∧ Below w0.heap.size w0 w' :=
  (compare_any r s r' s' w).mono fun _ _ h => ⟨h.1, below_next hb h.2⟩
theorem next_at {w0 : World} (r s t : Int) (w : World) (hb : Below w0.heap.size w0 w) : Calls Try.prog 15 #[.agg #[.int .i64 r, .int .i64 s], .int .i64 t] w fun e w' => e = .returned (.agg #[.int .i64 (Bal.nextRound r), .int .i64 t]) ∧ Below w0.heap.size w0 w' :=
  (next_any r s t w).mono fun _ _ h => ⟨h.1, below_next hb h.2⟩
theorem may_at {w0 : World} (r s n : Int) (w : World) (hb : Below w0.heap.size w0 w) : Calls Try.prog 17 #[.agg #[.int .i64 r, .int .i64 s], .int .i64 n] w fun e w' => e = .returned (.bool (Bal.may r s n)) ∧ Below w0.heap.size w0 w' :=
  (may_any r s n w).mono fun _ _ h => ⟨h.1, below_next hb h.2⟩

end Go.Proofs.Ytodlabpgjgbbpab
