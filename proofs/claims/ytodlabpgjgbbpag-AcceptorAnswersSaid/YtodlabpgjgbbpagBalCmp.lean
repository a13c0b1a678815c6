/-
  What ballots' order does, each by a contract.
-/
import Derived.Test.YtodlabpgjgbbpagProg
import Derived.Test.YtodlabpgjgbbpagWords
import Derived.Test.YtodlabpgjgbbpagBallotWords
import Derived.WalkKit
import Derived.WalkSpells
import Derived.WalkLawsBesides
import Derived.Handy
import Derived.Deep.RegionHeld3
import Derived.BigQuiet
import Derived.Deep.QuietTactic
namespace Go.Proofs.Ytodlabpgjgbbpag
open Go.RowKit Go.Agio

set_option maxHeartbeats 400000 in
set_option maxHeartbeats 400000 in
theorem site_any (x n : Int) (w : World) : Calls Try.prog 29 #[.int .i64 x, .int .i64 n] w fun e w' => e = .returned (.bool (Bal.inr n x)) ∧ w = w' := by
  unfold Bal.inr
  by_cases h1 : 0 ≤ x
  · by_cases h2 : x < n
    all_goals
      go_enter Try.func29, Try.ntmps29
      go_wp2
      go_ret
      exact ⟨by simp [h1, h2], rfl⟩
  · have h3 : decide (0 ≤ x) = false := by simpa using h1
    go_enter Try.func29, Try.ntmps29
    go_wp2
    go_ret
    exact ⟨by simp, rfl⟩

set_option maxHeartbeats 400000 in
theorem cmp_any (a b : Int) (w : World) : Calls Try.prog 31 #[.int .i64 a, .int .i64 b] w fun e w' => e = .returned (.int .i64 (Bal.cmp a b)) ∧ w = w' := by
  by_cases h1 : a < b
  · have hf : Bal.cmp a b = -1 := by simp [Bal.cmp, h1]
    rw [hf]; clear hf
    go_enter Try.func31, Try.ntmps31
    go_wp2
    go_ret
    exact ⟨rfl, rfl⟩
  · by_cases h2 : a = b
    · have hf : Bal.cmp a b = 0 := by simp [Bal.cmp, h2]
      rw [hf]; clear hf
      subst h2
      go_enter Try.func31, Try.ntmps31
      go_wp2
      go_ret
      exact ⟨rfl, rfl⟩
    · have hf : Bal.cmp a b = 1 := by simp [Bal.cmp, h1, h2]
      rw [hf]; clear hf
      have h3 : b < a := by omega
      clear h2
      go_enter Try.func31, Try.ntmps31
      go_wp2
      go_ret
      exact ⟨rfl, rfl⟩

set_option maxHeartbeats 400000 in
theorem or_any (b : Nat) (x y : Int) (w : World) (h0 : w.cell? ⟨b, 0, none⟩ = some (.int .i64 x)) (h1 : w.cell? ⟨b, 1, none⟩ = some (.int .i64 y)) :
    Calls Try.prog 30 #[.slice (some ⟨b, 0, none⟩) 2 2] w fun e w' => e = .returned (.int .i64 (Bal.orr x y)) ∧ w = w' := by
  by_cases hx : x = 0
  · subst hx
    rw [show Bal.orr 0 y = y from rfl]
    by_cases hy : y = 0
    · subst hy
      go_enter Try.func30, Try.ntmps30
      go_wp2
      go_rounds 3
      go_ret
      exact ⟨rfl, rfl⟩
    · have hy2 : (y != 0) = true := by simpa using hy
      go_enter Try.func30, Try.ntmps30
      go_wp2
      go_rounds 2
      go_ret
      exact ⟨rfl, rfl⟩
  · rw [show Bal.orr x y = x from if_neg hx]
    have hx2 : (x != 0) = true := by simpa using hx
    go_enter Try.func30, Try.ntmps30
    go_wp2
    go_rounds 1
    go_ret
    exact ⟨rfl, rfl⟩

set_option maxHeartbeats 1000000 in
theorem compare_any (r s r' s' : Int) (w : World) : Calls Try.prog 25 #[.agg #[.int .i64 r, .int .i64 s], .agg #[.int .i64 r', .int .i64 s']] w fun e w' => e = .returned (.int .i64 (Bal.compare r s r' s')) ∧ Below w.heap.size w w' := by
  have HF := hide (Bal.compare_eq r s r' s')
  go_enter Try.func25, Try.ntmps25
  go_wp2_with fail
  have k0 : ((w.alloc (.cells #[.int .i64 r, .int .i64 s] 24)).alloc (.cells #[.int .i64 r', .int .i64 s'] 24)).cell? ⟨w.heap.size, 0, none⟩ = some (.int .i64 r) := by
    rw [World.cell?_alloc_past _ _ _ (by simp), World.cell?_alloc_at _ _ _ _ rfl]; rfl
  have k1 : ((w.alloc (.cells #[.int .i64 r, .int .i64 s] 24)).alloc (.cells #[.int .i64 r', .int .i64 s'] 24)).cell? ⟨w.heap.size, 1, none⟩ = some (.int .i64 s) := by
    rw [World.cell?_alloc_past _ _ _ (by simp), World.cell?_alloc_at _ _ _ _ rfl]; rfl
  have k2 : ((w.alloc (.cells #[.int .i64 r, .int .i64 s] 24)).alloc (.cells #[.int .i64 r', .int .i64 s'] 24)).cell? ⟨w.heap.size + 1, 0, none⟩ = some (.int .i64 r') := by
    rw [World.cell?_alloc_at _ _ _ _ (by simp)]; rfl
  have k3 : ((w.alloc (.cells #[.int .i64 r, .int .i64 s] 24)).alloc (.cells #[.int .i64 r', .int .i64 s'] 24)).cell? ⟨w.heap.size + 1, 1, none⟩ = some (.int .i64 s') := by
    rw [World.cell?_alloc_at _ _ _ _ (by simp)]; rfl
  have hb0 := (((Below.refl w.heap.size w).alloc (Nat.le_refl _) (.cells #[.int .i64 r, .int .i64 s] 24)).alloc (by simp) (.cells #[.int .i64 r', .int .i64 s'] 24))
  generalize (w.alloc (.cells #[.int .i64 r, .int .i64 s] 24)).alloc (.cells #[.int .i64 r', .int .i64 s'] 24) = W at *
  go_region_held3 (fun W' => W'.cell? ⟨w.heap.size, 0, none⟩ = some (.int .i64 r) ∧ W'.cell? ⟨w.heap.size, 1, none⟩ = some (.int .i64 s) ∧ W'.cell? ⟨w.heap.size + 1, 0, none⟩ = some (.int .i64 r') ∧ W'.cell? ⟨w.heap.size + 1, 1, none⟩ = some (.int .i64 s')) (go_keep) (first
    | (go_at_call 31; (with_reducible refine (cmp_any _ _ _).mono ?_); rintro e w1 ⟨rfl, rfl⟩)
    | (go_at_call 30; refine (or_any _ (Bal.cmp r r') (Bal.cmp s s') _ (by simp [World.cell?_alloc_at]) (by simp [World.cell?_alloc_at])).mono ?_; rintro e w1 ⟨rfl, rfl⟩))
  go_wp2
  go_ret
  exact ⟨by rw [HF.out]; rfl, hb0.drew.alloc hb0.size _⟩

set_option maxHeartbeats 1000000 in
theorem may_any (r s n : Int) (w : World) : Calls Try.prog 24 #[.agg #[.int .i64 r, .int .i64 s], .int .i64 n] w fun e w' => e = .returned (.bool (Bal.may r s n)) ∧ Below w.heap.size w w' := by
  by_cases h1 : 0 ≤ r
  · by_cases h2 : r ≤ 1099511627776
    · have hf := hide (show Bal.may r s n = Bal.inr n s by simp [Bal.may, h1, h2])
      rw [hf.out]
      go_enter Try.func24, Try.ntmps24
      go_wp2_with fail
      refine (site_any s n _).mono ?_
      rintro e w1 ⟨rfl, rfl⟩
      go_wp2
      go_ret
      exact ⟨rfl, by go_grown⟩
    · have hf := hide (show Bal.may r s n = false by simp [Bal.may, h2])
      rw [hf.out]
      have h3 : decide (r ≤ 1099511627776) = false := by simpa using h2
      go_enter Try.func24, Try.ntmps24
      go_wp2
      go_ret
      exact ⟨rfl, by go_grown⟩
  · have hf := hide (show Bal.may r s n = false by simp [Bal.may, h1])
    rw [hf.out]
    have h3 : decide (0 ≤ r) = false := by simpa using h1
    go_enter Try.func24, Try.ntmps24
    go_wp2
    go_ret
    exact ⟨rfl, by go_grown⟩

theorem compare_at {w0 : World} (r s r' s' : Int) (w : World) (hb : Below w0.heap.size w0 w) : Calls Try.prog 25 #[.agg #[.int .i64 r, .int .i64 s], .agg #[.int .i64 r', .int .i64 s']] w fun e w' => e = .returned (.int .i64 (Bal.compare r s r' s')) ∧ Below w0.heap.size w0 w' :=
  (compare_any r s r' s' w).mono fun _ _ h => ⟨h.1, below_next hb h.2⟩

theorem may_at {w0 : World} (r s n : Int) (w : World) (hb : Below w0.heap.size w0 w) : Calls Try.prog 24 #[.agg #[.int .i64 r, .int .i64 s], .int .i64 n] w fun e w' => e = .returned (.bool (Bal.may r s n)) ∧ Below w0.heap.size w0 w' :=
  (may_any r s n w).mono fun _ _ h => ⟨h.1, below_next hb h.2⟩

theorem rsite_any (x n : Int) (w : World) : Calls Try.prog 26 #[.int .i64 x, .int .i64 n] w fun e w' => e = .returned (.bool (Bal.inr n x)) ∧ w = w' := by
  unfold Bal.inr
  by_cases h1 : 0 ≤ x
  · by_cases h2 : x < n
    all_goals
      go_enter Try.func26, Try.ntmps26
      go_wp2
      go_ret
      exact ⟨by simp [h1, h2], rfl⟩
  · have h3 : decide (0 ≤ x) = false := by simpa using h1
    go_enter Try.func26, Try.ntmps26
    go_wp2
    go_ret
    exact ⟨by simp, rfl⟩

set_option maxHeartbeats 1000000 in
theorem rcompare_any (r s r' s' : Int) (w : World) : Calls Try.prog 13 #[.agg #[.int .i64 r, .int .i64 s], .agg #[.int .i64 r', .int .i64 s']] w fun e w' => e = .returned (.int .i64 (Bal.compare r s r' s')) ∧ Below w.heap.size w w' := by
  have HF := hide (show Bal.compare r s r' s' = if r < r' then -1 else if r = r' then (if s < s' then -1 else if s = s' then 0 else 1) else 1 from rfl)
  rcases Int.lt_trichotomy r r' with h | h | h
  · have hf := hide (show Bal.compare r s r' s' = -1 by rw [HF.out, if_pos h])
    go_enter Try.func13, Try.ntmps13
    go_wp2
    go_ret
    exact ⟨by rw [hf.out]; rfl, by go_grown⟩
  · subst h
    rcases Int.lt_trichotomy s s' with g | g | g
    · have hf := hide (show Bal.compare r s r s' = -1 by rw [HF.out, if_neg (by omega), if_pos rfl, if_pos g])
      go_enter Try.func13, Try.ntmps13
      go_wp2
      go_ret
      exact ⟨by rw [hf.out]; rfl, by go_grown⟩
    · subst g
      have hf := hide (show Bal.compare r s r s = 0 by rw [HF.out, if_neg (by omega), if_pos rfl, if_neg (by omega), if_pos rfl])
      go_enter Try.func13, Try.ntmps13
      go_wp2
      go_ret
      exact ⟨by rw [hf.out]; rfl, by go_grown⟩
    · have hf := hide (show Bal.compare r s r s' = 1 by rw [HF.out, if_neg (by omega), if_pos rfl, if_neg (by omega), if_neg (by omega)])
      have g1 : (s == s') = false := by rw [beq_eq_false_iff_ne]; omega
      go_enter Try.func13, Try.ntmps13
      go_wp2
      go_ret
      exact ⟨by rw [hf.out]; rfl, by go_grown⟩
  · have hf := hide (show Bal.compare r s r' s' = 1 by rw [HF.out, if_neg (by omega), if_neg (by omega)])
    have g1 : (r == r') = false := by rw [beq_eq_false_iff_ne]; omega
    go_enter Try.func13, Try.ntmps13
    go_wp2
    go_ret
    exact ⟨by rw [hf.out]; rfl, by go_grown⟩

set_option maxHeartbeats 1000000 in
theorem rmay_any (r s n : Int) (w : World) : Calls Try.prog 15 #[.agg #[.int .i64 r, .int .i64 s], .int .i64 n] w fun e w' => e = .returned (.bool (Bal.may r s n)) ∧ Below w.heap.size w w' := by
  by_cases h1 : 0 ≤ r
  · by_cases h2 : r ≤ 1099511627776
    · have hf := hide (show Bal.may r s n = Bal.inr n s by simp [Bal.may, h1, h2])
      rw [hf.out]
      go_enter Try.func15, Try.ntmps15
      go_wp2_with fail
      refine (rsite_any s n _).mono ?_
      rintro e w1 ⟨rfl, rfl⟩
      go_wp2
      go_ret
      exact ⟨rfl, by go_grown⟩
    · have hf := hide (show Bal.may r s n = false by simp [Bal.may, h2])
      rw [hf.out]
      have h3 : decide (r ≤ 1099511627776) = false := by simpa using h2
      go_enter Try.func15, Try.ntmps15
      go_wp2
      go_ret
      exact ⟨rfl, by go_grown⟩
  · have hf := hide (show Bal.may r s n = false by simp [Bal.may, h1])
    rw [hf.out]
    have h3 : decide (0 ≤ r) = false := by simpa using h1
    go_enter Try.func15, Try.ntmps15
    go_wp2
    go_ret
    exact ⟨rfl, by go_grown⟩

theorem rcompare_at {w0 : World} (r s r' s' : Int) (w : World) (hb : Below w0.heap.size w0 w) : Calls Try.prog 13 #[.agg #[.int .i64 r, .int .i64 s], .agg #[.int .i64 r', .int .i64 s']] w fun e w' => e = .returned (.int .i64 (Bal.compare r s r' s')) ∧ Below w0.heap.size w0 w' :=
  (rcompare_any r s r' s' w).mono fun _ _ h => ⟨h.1, below_next hb h.2⟩

theorem rmay_at {w0 : World} (r s n : Int) (w : World) (hb : Below w0.heap.size w0 w) : Calls Try.prog 15 #[.agg #[.int .i64 r, .int .i64 s], .int .i64 n] w fun e w' => e = .returned (.bool (Bal.may r s n)) ∧ Below w0.heap.size w0 w' :=
  (rmay_any r s n w).mono fun _ _ h => ⟨h.1, below_next hb h.2⟩

end Go.Proofs.Ytodlabpgjgbbpag
