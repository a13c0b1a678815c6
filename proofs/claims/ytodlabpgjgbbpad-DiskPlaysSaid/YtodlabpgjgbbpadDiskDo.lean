/-
  What one deed does to a disk, and to the reference's.
-/
import Derived.Test.YtodlabpgjgbbpadDiskDeeds
import Derived.Test.YtodlabpgjgbbpadHeld
namespace Go.Proofs.Ytodlabpgjgbbpad
open Go.RowKit Go.Agio

/-- What a deed leaves: the bytes, how many are synced, the answer. -/
inductive Does (kind num : Int) (bs xs : List Int) (s : Nat) : List Int → Nat → Int → Prop
  | app : kind = 0 → xs.length + bs.length ≤ 1048576 → Does kind num bs xs s (xs ++ bs) s 0
  | appFull : kind = 0 → 1048576 < xs.length + bs.length → Does kind num bs xs s xs s 5
  | sync : kind = 1 → Does kind num bs xs s xs xs.length 0
  | crash (k : Nat) : kind = 2 → (k : Int) = max 0 (min num ((xs.length : Int) - s)) → Does kind num bs xs s (xs.take (s + k)) (s + k) 0
  | cut (k : Nat) : kind = 3 → num = (k : Int) → k ≤ xs.length → Does kind num bs xs s (xs.take k) (min s k) 0
  | cutBad : kind = 3 → (num < 0 ∨ (xs.length : Int) < num) → Does kind num bs xs s xs s 1
  | inst : kind ≠ 0 → kind ≠ 1 → kind ≠ 2 → kind ≠ 3 → bs.length ≤ 1048576 → Does kind num bs xs s bs bs.length 0
  | instFull : kind ≠ 0 → kind ≠ 1 → kind ≠ 2 → kind ≠ 3 → 1048576 < bs.length → Does kind num bs xs s xs s 5

theorem does_some (kind num : Int) (bs xs : List Int) (s : Nat) : ∃ xs' s' e, Does kind num bs xs s xs' s' e := by
  by_cases h0 : kind = 0
  · by_cases h : xs.length + bs.length ≤ 1048576
    · exact ⟨_, _, _, .app h0 h⟩
    · exact ⟨_, _, _, .appFull h0 (by omega)⟩
  · by_cases h1 : kind = 1
    · exact ⟨_, _, _, .sync h1⟩
    · by_cases h2 : kind = 2
      · exact ⟨_, _, _, .crash (max 0 (min num ((xs.length : Int) - s))).toNat h2 (by omega)⟩
      · by_cases h3 : kind = 3
        · by_cases h : 0 ≤ num ∧ num ≤ (xs.length : Int)
          · exact ⟨_, _, _, .cut num.toNat h3 (by omega) (by omega)⟩
          · exact ⟨_, _, _, .cutBad h3 (by omega)⟩
        · by_cases h : bs.length ≤ 1048576
          · exact ⟨_, _, _, .inst h0 h1 h2 h3 h⟩
          · exact ⟨_, _, _, .instFull h0 h1 h2 h3 (by omega)⟩

set_option maxHeartbeats 2000000 in
theorem do_any (base d : Nat) (kind num : Int) (bs xs xs' : List Int) (s s' : Nat) (er : Int) (A : Option Addr) (c : Nat) (B : Option Addr) (cb : Nat) (w : World)
    (h : Does kind num bs xs s xs' s' er) (hD : Disk base w d xs s A c) (hR : Reads w B (bys bs)) (hm : bs.length ≤ 140737488351232) :
    Calls Try.prog 17 #[.pointer (some ⟨d, 0, none⟩), .agg #[.int .i64 kind, .int .i64 num, .slice B bs.length cb]] w fun e w' => e = .returned (.int .i64 er) ∧ ∃ A' c', Disk base w' d xs' s' A' c' ∧ Moved d A A' w w' := by
  have D := hide hD; have HR := hide hR
  have hb := hide ((Below.refl w.heap.size w).alloc (Nat.le_refl _) (.cells #[.int .i64 kind, .int .i64 num, .slice B bs.length cb] 29))
  have M0 := hide (Moved.of_below (d := d) (A := A) hb.out)
  clear hD hR
  cases h with
  | app h0 h =>
    subst h0
    go_enter Try.func17, Try.ntmps17
    go_wp2_with fail
    refine (append_any base d xs s A c B bs.length cb bs _ (D.out.moved hb.out) (HR.out.below hb.out) rfl h).mono ?_
    rintro e w1 ⟨rfl, A', c', D1, M1⟩
    go_wp2
    go_ret
    exact ⟨rfl, A', c', D1, M0.out.trans M1⟩
  | appFull h0 h =>
    subst h0
    go_enter Try.func17, Try.ntmps17
    go_wp2_with fail
    refine (append_full base d xs s A c B bs.length cb _ (D.out.moved hb.out) h).mono ?_
    rintro e w1 ⟨rfl, rfl⟩
    go_wp2
    go_ret
    exact ⟨rfl, A, c, D.out.moved hb.out, M0.out⟩
  | sync h0 =>
    subst h0
    go_enter Try.func17, Try.ntmps17
    go_wp2_with fail
    refine (sync_any base d xs s A c _ (D.out.moved hb.out)).mono ?_
    rintro e w1 ⟨rfl, D1, M1⟩
    go_wp2
    go_ret
    exact ⟨rfl, A, c, D1, M0.out.trans M1⟩
  | crash k h0 h =>
    subst h0
    have H := hide h
    clear h
    go_enter Try.func17, Try.ntmps17
    go_wp2_with fail
    refine (crash_any base d xs s k num A c _ (D.out.moved hb.out) H.out).mono ?_
    rintro e w1 ⟨rfl, c', D1, M1⟩
    go_wp2
    go_ret
    exact ⟨rfl, A, c', D1, M0.out.trans M1⟩
  | cut k h0 h h' =>
    subst h0 h
    go_enter Try.func17, Try.ntmps17
    go_wp2_with fail
    refine (cut_any base d xs s k A c _ (D.out.moved hb.out) h').mono ?_
    rintro e w1 ⟨rfl, c', D1, M1⟩
    go_wp2
    go_ret
    exact ⟨rfl, A, c', D1, M0.out.trans M1⟩
  | cutBad h0 h =>
    subst h0
    have H := hide h
    clear h
    go_enter Try.func17, Try.ntmps17
    go_wp2_with fail
    refine (cut_bad base d xs s num A c _ (D.out.moved hb.out) H.out).mono ?_
    rintro e w1 ⟨rfl, rfl⟩
    go_wp2
    go_ret
    exact ⟨rfl, A, c, D.out.moved hb.out, M0.out⟩
  | inst h0 h1 h2 h3 h =>
    have f0 : (kind == 0) = false := by rw [beq_eq_false_iff_ne]; exact h0
    have f1 : (kind == 1) = false := by rw [beq_eq_false_iff_ne]; exact h1
    have f2 : (kind == 2) = false := by rw [beq_eq_false_iff_ne]; exact h2
    have f3 : (kind == 3) = false := by rw [beq_eq_false_iff_ne]; exact h3
    clear h0 h1 h2 h3
    go_enter Try.func17, Try.ntmps17
    go_wp2_with fail
    refine (install_any base d xs s A c B bs.length cb bs _ (D.out.moved hb.out) (HR.out.below hb.out) rfl h).mono ?_
    rintro e w1 ⟨rfl, A', c', D1, M1⟩
    go_wp2
    go_ret
    exact ⟨rfl, A', c', D1, M0.out.trans M1⟩
  | instFull h0 h1 h2 h3 h =>
    have f0 : (kind == 0) = false := by rw [beq_eq_false_iff_ne]; exact h0
    have f1 : (kind == 1) = false := by rw [beq_eq_false_iff_ne]; exact h1
    have f2 : (kind == 2) = false := by rw [beq_eq_false_iff_ne]; exact h2
    have f3 : (kind == 3) = false := by rw [beq_eq_false_iff_ne]; exact h3
    clear h0 h1 h2 h3
    go_enter Try.func17, Try.ntmps17
    go_wp2_with fail
    refine (install_full d B bs.length cb _ (by omega) h).mono ?_
    rintro e w1 ⟨rfl, rfl⟩
    go_wp2
    go_ret
    exact ⟨rfl, A, c, D.out.moved hb.out, M0.out⟩

/-- A struct of the reference's: a slice that reads as bytes, and how many are synced. -/
abbrev rdk (A : Option Addr) (n c : Nat) (s : Nat) : Value := .agg #[.slice A n c, .int .i64 s]

end Go.Proofs.Ytodlabpgjgbbpad
