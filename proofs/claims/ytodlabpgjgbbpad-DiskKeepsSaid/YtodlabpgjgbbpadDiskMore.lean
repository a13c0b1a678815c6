/-
  The disk's other functions, and what a disk that is nil does.
-/
import Derived.Test.YtodlabpgjgbbpadDiskWalks
namespace Go.Proofs.Ytodlabpgjgbbpad
open Go.RowKit Go.Agio

theorem own_lower {w : World} {base b : Nat} {e : TypeId} {v : Value} {n : Nat} {xs : List Value} (h : w.ownsRow base e 1 v n xs) (hb : b ≤ base) : w.ownsRow b e 1 v n xs := by
  refine ⟨h.1, ?_⟩
  rcases h.2 with h | ⟨g, cap, cur, he, hg, r⟩
  · exact .inl h
  · exact .inr ⟨g, cap, cur, he, Nat.le_trans hb hg, r⟩

set_option maxHeartbeats 1000000 in
theorem cut_any (base d : Nat) (xs : List Int) (s k : Nat) (A : Option Addr) (c : Nat) (w : World) (hD : Disk base w d xs s A c) (hk : k ≤ xs.length) :
    Calls Try.prog 16 #[.pointer (some ⟨d, 0, none⟩), .int .i64 k] w fun e w' => e = .returned (.int .i64 0) ∧ ∃ c', Disk base w' d (xs.take k) (min s k) A c' ∧ Moved d A A w w' := by
  have hle := hD.2.2.2.1
  have hr := hD.2.2.2.2.1
  have hlow := hD.1
  have C := hide (first_any base d xs s k A c w hD hk)
  have H2 := hide hD.2.1
  obtain ⟨a0, a1⟩ := two_cells (Below.refl _ w) H2.out
  have hlen := hide (show (xs.take k).length = k by rw [List.length_take]; omega)
  have FIN : Hid (∀ (w1 w2 : World) (z : Int), (w1.heap[d]? = some (.cells #[.slice A k k, .int .i64 s] 50) ∧ Rowed w1 base 5 A k k (bys (xs.take k)) ∧ ∀ a, A = some a → a.block ≠ d) → Moved d A A w w1 → w2 = w1.setCell ⟨d, 1, none⟩ (.int .i64 z) → z = ((min s k : Nat) : Int) → ∃ c', Disk base w2 d (xs.take k) (min s k) A c' ∧ Moved d A A w w2) := hide (fun w1 w2 z hx hM e e' => by
    subst e e'
    obtain ⟨g1, g2, g3⟩ := hx
    refine ⟨k, ⟨hlow, ?_, ?_, ?_, ?_, g3⟩, hM.set 1 _⟩
    · rw [hlen.out]; exact two_set1 g1 _
    · rw [hlen.out]; exact g2.same (by simp [World.setCell]) (fun a ha => Below.heap_setCell _ _ _ _ (g3 a ha))
    · rw [hlen.out]; omega
    · rw [hlen.out]; omega)
  have b1 : (0 : Int) ≤ (k : Int) := by omega
  have b2 : (k : Int) ≤ (xs.length : Int) := by omega
  clear hD
  by_cases hsk : (s : Int) ≤ (k : Int)
  all_goals go_enter Try.func16, Try.ntmps16
  all_goals go_wp2_with fail
  all_goals refine Calls.mono C.out ?_
  all_goals rintro e w1 ⟨rfl, hx, hM⟩
  all_goals obtain ⟨b0, b1⟩ := two_cells (Below.refl _ w1) hx.1
  all_goals have f1 := live_blk hx.1 1
  all_goals have HX := hide hx
  all_goals clear hx
  all_goals go_wp2
  all_goals go_ret
  all_goals refine ⟨rfl, FIN.out _ _ _ HX.out hM rfl ?_⟩
  all_goals omega

set_option maxHeartbeats 1000000 in
theorem cut_bad (base d : Nat) (xs : List Int) (s : Nat) (n : Int) (A : Option Addr) (c : Nat) (w : World) (hD : Disk base w d xs s A c) (hn : n < 0 ∨ (xs.length : Int) < n) :
    Calls Try.prog 16 #[.pointer (some ⟨d, 0, none⟩), .int .i64 n] w fun e w' => e = .returned (.int .i64 1) ∧ w = w' := by
  obtain ⟨a0, a1⟩ := two_cells (Below.refl _ w) hD.2.1
  have hr := hD.2.2.2.2.1
  clear hD
  rcases hn with h | h
  · go_enter Try.func16, Try.ntmps16
    go_wp2
    go_ret
    exact ⟨rfl, rfl⟩
  · have h0 : ¬ n < 0 := by omega
    go_enter Try.func16, Try.ntmps16
    go_wp2
    go_ret
    exact ⟨rfl, rfl⟩

set_option maxHeartbeats 1000000 in
theorem install_any (base d : Nat) (xs : List Int) (s : Nat) (A : Option Addr) (c : Nat) (B : Option Addr) (m cb : Nat) (ys : List Int) (w : World) (hD : Disk base w d xs s A c) (hR : Reads w B (bys ys)) (hm : ys.length = m) (hroom : m ≤ 1048576) :
    Calls Try.prog 23 #[.pointer (some ⟨d, 0, none⟩), .slice B m cb] w fun e w' => e = .returned (.int .i64 0) ∧ ∃ A' c', Disk base w' d ys m A' c' ∧ Moved d A A' w w' := by
  obtain ⟨h1, h2, h3, h4, h5, h6⟩ := hD
  have hlt := blk_lt h2
  have C := hide (clone_any B m cb ys w hR hm (by omega))
  have H2 := hide h2; have H3 := hide h3; have H6 := hide h6
  clear h2 h3 h6 hR
  go_enter Try.func23, Try.ntmps23
  go_wp2_with fail
  refine Calls.mono C.out ?_
  rintro e w1 ⟨A', c', rfl, n1, hb1⟩
  have k1 := (hb1.block d hlt).trans H2.out
  obtain ⟨b0, b1⟩ := two_cells (Below.refl _ w1) k1
  have f0 := live_blk k1 0; have f1 := live_blk k1 1
  have k2 := two_set0 k1 (.slice A' m c')
  have f2 := live_blk k2 1
  have K2 := hide k2; have N1 := hide n1
  clear k1 k2 n1
  go_wp2
  go_ret
  have hfresh : ∀ a, A' = some a → w.heap.size ≤ a.block := fun a ha => by subst ha; exact (N1.out.lt a.block rfl).1
  have hne : ∀ a, A' = some a → a.block ≠ d := fun a ha => by have := hfresh a ha; omega
  subst hm
  refine ⟨rfl, A', c', ⟨h1, two_set1 K2.out _, ?_, Nat.le_refl _, hroom, hne⟩, ?_⟩
  · refine Rowed.same (w := w1) (.inl (own_lower N1.out (by omega))) (by simp [World.setCell]) (fun a ha => ?_)
    rw [Below.heap_setCell _ _ _ _ (hne a ha), Below.heap_setCell _ _ _ _ (hne a ha)]
  · have hM : Moved d A A' w w1 := ⟨hb1.os, hb1.tape, hb1.output, hb1.size, fun j hj _ _ => hb1.block j hj, fun a ha => .inr (hfresh a ha)⟩
    exact (hM.set 0 _).set 1 _

set_option maxHeartbeats 1000000 in
theorem install_full (d : Nat) (B : Option Addr) (m cb : Nat) (w : World) (hm : m ≤ 9223372036854775807) (hroom : 1048576 < m) :
    Calls Try.prog 23 #[.pointer (some ⟨d, 0, none⟩), .slice B m cb] w fun e w' => e = .returned (.int .i64 5) ∧ w = w' := by
  go_enter Try.func23, Try.ntmps23
  go_wp2
  go_ret
  exact ⟨rfl, rfl⟩

theorem append_nobody (B : Option Addr) (m cb : Nat) (w : World) : Calls Try.prog 12 #[.pointer none, .slice B m cb] w fun e w' => e = .returned (.int .i64 6) ∧ w = w' := by
  go_enter Try.func12, Try.ntmps12
  go_wp2
  go_ret
  exact ⟨rfl, rfl⟩
theorem install_nobody (B : Option Addr) (m cb : Nat) (w : World) : Calls Try.prog 23 #[.pointer none, .slice B m cb] w fun e w' => e = .returned (.int .i64 6) ∧ w = w' := by
  go_enter Try.func23, Try.ntmps23
  go_wp2
  go_ret
  exact ⟨rfl, rfl⟩
theorem cut_nobody (n : Int) (w : World) : Calls Try.prog 16 #[.pointer none, .int .i64 n] w fun e w' => e = .returned (.int .i64 6) ∧ w = w' := by
  go_enter Try.func16, Try.ntmps16
  go_wp2
  go_ret
  exact ⟨rfl, rfl⟩
theorem bytes_nobody (w : World) : Calls Try.prog 11 #[.pointer none] w fun e w' => e = .returned (.slice none 0 0) ∧ w = w' := by
  go_enter Try.func11, Try.ntmps11
  go_wp2
  go_ret
  exact ⟨rfl, rfl⟩
theorem synced_nobody (w : World) : Calls Try.prog 15 #[.pointer none] w fun e w' => e = .returned (.int .i64 0) ∧ w = w' := by
  go_enter Try.func15, Try.ntmps15
  go_wp2
  go_ret
  exact ⟨rfl, rfl⟩
theorem sync_nobody (w : World) : Calls Try.prog 13 #[.pointer none] w fun e w' => e = .returned (.tuple #[]) ∧ w = w' := by
  go_enter Try.func13, Try.ntmps13
  go_wp2
  refine bodyPost_end (v := .tuple #[]) (by simp [results, Try.results13, go_sem]) rfl ?_
  exact ⟨rfl, rfl⟩
theorem crash_nobody (n : Int) (w : World) : Calls Try.prog 14 #[.pointer none, .int .i64 n] w fun e w' => e = .returned (.tuple #[]) ∧ w = w' := by
  go_enter Try.func14, Try.ntmps14
  go_wp2
  refine bodyPost_ret (v := .tuple #[]) (by simp [results, Try.results14, go_sem]) rfl ?_
  exact ⟨rfl, rfl⟩

end Go.Proofs.Ytodlabpgjgbbpad
