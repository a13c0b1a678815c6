/-
  What the reference's functions of a disk do, each by a contract.
-/
import Derived.Test.YtodlabpgjgbbpadDiskDo
import Derived.Test.YtodlabpgjgbbpadStep
namespace Go.Proofs.Ytodlabpgjgbbpad
open Go.RowKit Go.Agio

/-- What the reference's functions hand back: a slice that reads as bytes, a number. -/
def RDisk (w : World) (A A' : Option Addr) (w' : World) (xs : List Int) : Prop := Reads w' A' (bys xs) ∧ Fresh w.heap.size w'.heap.size A A' ∧ Below w.heap.size w w'
def RGot (w : World) (A : Option Addr) (xs : List Int) (n s : Nat) (ret : Value → Value) (e : Ending) (w' : World) : Prop := ∃ A' c', n ≤ c' ∧ e = .returned (ret (rdk A' n c' s)) ∧ RDisk w A A' w' xs
abbrev alone (v : Value) : Value := v
abbrev with_ (er : Int) (v : Value) : Value := .tuple #[v, .int .i64 er]
theorem own_cap {w : World} {base : Nat} {e : TypeId} {A : Option Addr} {n c : Nat} {xs : List Value} (h : w.ownsRow base e 1 (.slice A n c) n xs) : n ≤ c := Rowed.cap (.inl h)

set_option maxHeartbeats 1000000 in
theorem rsync_any (A : Option Addr) (n c : Nat) (xs : List Int) (s : Nat) (w : World) (hc : n ≤ c) (hR : Reads w A (bys xs)) :
    Calls Try.prog 19 #[rdk A n c s] w (RGot w A xs n n alone) := by
  have HR := hide hR
  clear hR
  go_enter Try.func19, Try.ntmps19
  go_wp2
  refine bodyPost_ret (v := rdk A n c n) (by simp [results, Try.results19, go_sem]) rfl ?_
  exact ⟨A, c, hc, rfl, (HR.out.alloc _).alloc _, .same _ _ _, ((Below.refl _ _).alloc (Nat.le_refl _) _).alloc (by simp) _⟩

set_option maxHeartbeats 1000000 in
theorem rinstall_any (A : Option Addr) (n c : Nat) (s : Nat) (B : Option Addr) (m cb : Nat) (ys : List Int) (w : World) (hR : Reads w B (bys ys)) (hm : ys.length = m) (hroom : m ≤ 1048576) :
    Calls Try.prog 22 #[rdk A n c s, .slice B m cb] w (RGot w A ys m m (with_ 0)) := by
  obtain ⟨i0, hi, hz0, hz1, hz2⟩ := info_parts info8
  have HR := hide hR
  clear hR
  go_enter Try.func22, Try.ntmps22
  go_wp2_with (at_builtin; apply halted)
  have hb0 := hide (below_two (w := w) (.cells #[.slice A n c, .int .i64 s] 41) (.cells #[.slice none 0 0, .int .i64 0] 41))
  have kx := heap_new (w.alloc (.cells #[.slice A n c, .int .i64 s] 41)) (.cells #[.slice none 0 0, .int .i64 0] 41)
  rw [World.size_alloc] at kx
  have hsz : ((w.alloc (.cells #[.slice A n c, .int .i64 s] 41)).alloc (.cells #[.slice none 0 0, .int .i64 0] 41)).heap.size = w.heap.size + 1 + 1 := by simp
  have KX := hide kx; have HZ := hide hsz
  clear kx hsz
  generalize (w.alloc (.cells #[.slice A n c, .int .i64 s] 41)).alloc (.cells #[.slice none 0 0, .int .i64 0] 41) = W0 at *
  have hb1 := hide (hb0.out.alloc hb0.out.size (.cells #[] 5))
  refine unhalt (wpList_append_reads rfl (.tmp 10) (.tmp 11) 26 rfl (w.heap.size + 1 + 1) 5 i0 (.int .u8 0) 1 Try.underlying26 hi hz0 hz1 hz2 rfl _ 0 [] rfl (own_new_at W0 _ _ [] 0 _ HZ.out (Nat.le_refl _) rfl (by unfold maxLen; omega)) B m cb (bys ys) rfl (HR.out.below hb1.out) (by rw [List.length_map]; exact hm) (ints_one _ _) (by unfold maxLen; omega) (by omega) (by simp [HZ.out]) ?_)
  intro A' c' w1 n1 g1 t1
  rw [Nat.zero_add] at n1
  rw [List.nil_append] at n1
  rw [Nat.zero_add]
  have k1 : w1.heap[w.heap.size + 1]? = _ := (g1.block _ (by have := HZ.out; simp; omega) (fun he => by injection he with he; simp only at he; omega)).trans ((Below.heap_alloc W0 _ _ (by have := HZ.out; omega)).trans KX.out)
  obtain ⟨b0, b1⟩ := two_cells (Below.refl _ w1) k1
  have f0 := live_blk k1 0; have f1 := live_blk k1 1
  have N1 := hide n1; have K1 := hide k1
  have hb2 := hide (hb1.out.grown g1 hb1.out.size (fun g hg => by injection hg with hg; simp only at hg; omega))
  clear n1 g1 t1 k1
  go_wp2
  refine bodyPost_ret (v := .tuple #[rdk A' m c' m, .int .i64 0]) (by simp [results, Try.results22, go_sem, b0, b1]) rfl ?_
  refine ⟨A', c', own_cap N1.out, rfl, ?_, .inr fun a ha => ?_, ?_⟩
  · exact ((Reads.of_own N1.out).keepset _ _ _ (fun a ha => by subst ha; have := (N1.out.lt a.block rfl).1; omega)).keepset _ _ _ (fun a ha => by subst ha; have := (N1.out.lt a.block rfl).1; omega)
  · subst ha; have := N1.out.lt a.block rfl; exact ⟨by omega, by simpa [World.setCell] using this.2⟩
  · exact (hb2.out.setCell (p := ⟨w.heap.size + 1, 0, none⟩) (by simp) _).setCell (p := ⟨w.heap.size + 1, 1, none⟩) (by simp) _

set_option maxHeartbeats 1000000 in
theorem rinstall_full (A : Option Addr) (n c : Nat) (xs : List Int) (s : Nat) (B : Option Addr) (m cb : Nat) (w : World) (hc : n ≤ c) (hR : Reads w A (bys xs)) (hm : m ≤ 9223372036854775807) (hroom : 1048576 < m) :
    Calls Try.prog 22 #[rdk A n c s, .slice B m cb] w (RGot w A xs n s (with_ 5)) := by
  have HR := hide hR
  clear hR
  go_enter Try.func22, Try.ntmps22
  go_wp2
  refine bodyPost_ret (v := .tuple #[rdk A n c s, .int .i64 5]) (by simp [results, Try.results22, go_sem]) rfl ?_
  exact ⟨A, c, hc, rfl, (HR.out.alloc _).alloc _, .same _ _ _, below_two _ _⟩

set_option maxHeartbeats 1000000 in
theorem rappend_full (A : Option Addr) (n c : Nat) (xs : List Int) (s : Nat) (B : Option Addr) (m cb : Nat) (w : World) (hc : n ≤ c) (hR : Reads w A (bys xs)) (hn : n ≤ 1048576) (hm : m ≤ 140737488355328) (hroom : 1048576 < n + m) :
    Calls Try.prog 18 #[rdk A n c s, .slice B m cb] w (RGot w A xs n s (with_ 5)) := by
  have HR := hide hR
  clear hR
  go_enter Try.func18, Try.ntmps18
  go_wp2
  refine bodyPost_ret (v := .tuple #[rdk A n c s, .int .i64 5]) (by simp [results, Try.results18, go_sem]) rfl ?_
  exact ⟨A, c, hc, rfl, (HR.out.alloc _).alloc _, .same _ _ _, below_two _ _⟩

set_option maxHeartbeats 1000000 in
theorem rappend_any (A : Option Addr) (n c : Nat) (xs : List Int) (s : Nat) (B : Option Addr) (m cb : Nat) (ys : List Int) (w : World) (hR : Reads w A (bys xs)) (hn : xs.length = n) (hS : Reads w B (bys ys)) (hm : ys.length = m) (hroom : n + m ≤ 1048576) :
    Calls Try.prog 18 #[rdk A n c s, .slice B m cb] w (RGot w A (xs ++ ys) (n + m) s (with_ 0)) := by
  obtain ⟨i0, hi, hz0, hz1, hz2⟩ := info_parts info8
  have HR := hide hR; have HS := hide hS
  clear hR hS
  go_enter Try.func18, Try.ntmps18
  go_wp2_with (at_builtin; apply halted)
  have hb0 := hide (below_two (w := w) (.cells #[.slice A n c, .int .i64 s] 41) (.cells #[.slice none 0 0, .int .i64 0] 41))
  have kx := heap_new (w.alloc (.cells #[.slice A n c, .int .i64 s] 41)) (.cells #[.slice none 0 0, .int .i64 0] 41)
  have ky := (Below.heap_alloc (w.alloc (.cells #[.slice A n c, .int .i64 s] 41)) (.cells #[.slice none 0 0, .int .i64 0] 41) w.heap.size (by simp)).trans (heap_new w _)
  rw [World.size_alloc] at kx
  have hsz : ((w.alloc (.cells #[.slice A n c, .int .i64 s] 41)).alloc (.cells #[.slice none 0 0, .int .i64 0] 41)).heap.size = w.heap.size + 1 + 1 := by simp
  have KX := hide kx; have HZ := hide hsz; have KY := hide ky
  clear kx hsz ky
  generalize (w.alloc (.cells #[.slice A n c, .int .i64 s] 41)).alloc (.cells #[.slice none 0 0, .int .i64 0] 41) = W0 at *
  have hb1 := hide (hb0.out.alloc hb0.out.size (.cells #[] 5))
  refine unhalt (wpList_append_reads rfl (.tmp 15) (.tmp 17) 26 rfl (w.heap.size + 1 + 1) 5 i0 (.int .u8 0) 1 Try.underlying26 hi hz0 hz1 hz2 rfl _ 0 [] rfl (own_new_at W0 _ _ [] 0 _ HZ.out (Nat.le_refl _) rfl (by unfold maxLen; omega)) A n c (bys xs) rfl (HR.out.below hb1.out) (by rw [List.length_map]; exact hn) (ints_one _ _) (by unfold maxLen; omega) (by omega) (by simp [HZ.out]) ?_)
  intro A' c' w1 n1 g1 t1
  rw [Nat.zero_add] at n1
  rw [List.nil_append] at n1
  rw [Nat.zero_add]
  have k1 : w1.heap[w.heap.size + 1]? = _ := (g1.block _ (by have := HZ.out; simp; omega) (fun he => by injection he with he; simp only at he; omega)).trans ((Below.heap_alloc W0 _ _ (by have := HZ.out; omega)).trans KX.out)
  have k2 : w1.heap[w.heap.size]? = _ := (g1.block _ (by have := HZ.out; simp; omega) (fun he => by injection he with he; simp only at he; omega)).trans ((Below.heap_alloc W0 _ _ (by have := HZ.out; omega)).trans KY.out)
  have N1 := hide n1; have K1 := hide k1; have K2 := hide k2
  have hb2 := hide (hb1.out.grown g1 hb1.out.size (fun g hg => by injection hg with hg; simp only at hg; omega))
  clear n1 g1 t1 k1 k2
  have c0 := (two_cells (Below.refl _ w1) K2.out).2
  go_wp2_with fail
  have Z1 : Hid (w.heap.size + 1 + 1 ≤ w1.heap.size) := hide (by have := blk_lt K1.out; omega)
  have Y2 : Hid (∀ b, b < w.heap.size + 1 + 1 → some b ≠ Value.ownBlock (.slice A' n c')) := hide (fun b hlt he => by have := (N1.out.lt b he.symm).1; omega)
  go_region_held3 (fun W => W.cell? ⟨w.heap.size, 1, none⟩ = some (.int .i64 s)) (first | go_keep) ((refine step_append_own (by rfl) (.tmp 19) (.tmp 20) 26 (by rfl) (w.heap.size + 1 + 1) 5 i0 (.int .u8 0) 1 Try.underlying26 hi hz0 hz1 hz2 rfl _ n (bys xs) (by rfl) N1.out.drew B m cb (bys ys) (by rfl) ((HS.out.below hb2.out).drew) (by rw [List.length_map]; exact hm) (ints_one _ _) (by unfold maxLen; omega) (by omega) Z1.out ?_; intro A2 c2 w2 n2 g2 t2; have q2 : w2.cell? ⟨w.heap.size, 1, none⟩ = some (.int .i64 s) := (World.cell?_of_block (w := w1) (a := ⟨w.heap.size, 1, none⟩) (g2.block _ (by have := Z1.out; simp; omega) (Y2.out _ (by simp only; omega)))).trans c0; have k3 : w2.heap[w.heap.size + 1]? = _ := (g2.block _ (by have := Z1.out; simp; omega) (Y2.out _ (by omega))).trans K1.out; have b0 := (two_cells (Below.refl _ w2) k3).1; have b1 := (two_cells (Below.refl _ w2) k3).2; have f0 := live_blk k3 0; have f1 := live_blk k3 1; have K3 := hide k3; have hb3 := hide (hb2.out.drew.grown g2 hb2.out.size (fun g hg => by have := (N1.out.lt g hg).1; omega)); have N2 := hide n2; clear n2 g2 t2 k3))
  go_wp2
  refine bodyPost_ret (v := .tuple #[rdk A2 (n + m) c2 s, .int .i64 0]) (by simp [results, Try.results18, go_sem, b0, b1]) rfl ?_
  refine ⟨A2, c2, own_cap N2.out, rfl, ?_, .inr fun a ha => ?_, ?_⟩
  · rw [show bys (xs ++ ys) = bys xs ++ bys ys by simp]
    exact ((Reads.of_own N2.out).keepset _ _ _ (fun a ha => by subst ha; have := (N2.out.lt a.block rfl).1; omega)).keepset _ _ _ (fun a ha => by subst ha; have := (N2.out.lt a.block rfl).1; omega)
  · subst ha; have := N2.out.lt a.block rfl; exact ⟨by omega, by simpa [World.setCell] using this.2⟩
  · exact (hb3.out.setCell (p := ⟨w.heap.size + 1, 0, none⟩) (by simp) _).setCell (p := ⟨w.heap.size + 1, 1, none⟩) (by simp) _

set_option maxHeartbeats 1000000 in
theorem rcut_bad (A : Option Addr) (n c : Nat) (xs : List Int) (s : Nat) (k : Int) (w : World) (hc : n ≤ c) (hR : Reads w A (bys xs)) (hk : k < 0 ∨ (n : Int) < k) :
    Calls Try.prog 21 #[rdk A n c s, .int .i64 k] w (RGot w A xs n s (with_ 1)) := by
  have HR := hide hR
  clear hR
  by_cases h0 : k < 0
  · clear hk
    go_enter Try.func21, Try.ntmps21
    go_wp2
    refine bodyPost_ret (v := .tuple #[rdk A n c s, .int .i64 1]) (by simp [results, Try.results21, go_sem]) rfl ?_
    exact ⟨A, c, hc, rfl, (HR.out.alloc _).alloc _, .same _ _ _, below_two _ _⟩
  · have h1 : (n : Int) < k := by omega
    have h2 : decide (k < 0) = false := by simpa using h0
    clear hk
    go_enter Try.func21, Try.ntmps21
    go_wp2
    refine bodyPost_ret (v := .tuple #[rdk A n c s, .int .i64 1]) (by simp [results, Try.results21, go_sem]) rfl ?_
    exact ⟨A, c, hc, rfl, (HR.out.alloc _).alloc _, .same _ _ _, below_two _ _⟩

set_option maxHeartbeats 1000000 in
theorem rcut_any (A : Option Addr) (n c : Nat) (xs : List Int) (s k : Nat) (w : World) (hR : Reads w A (bys xs)) (hc : n ≤ c) (hk : k ≤ n) :
    Calls Try.prog 21 #[rdk A n c s, .int .i64 k] w (RGot w A (xs.take k) k (min s k) (with_ 0)) := by
  have HR := hide (hR.take k)
  rw [← List.map_take] at HR
  clear hR
  have hs1 := cut_h 26 elem8 size8 A n c k (by omega)
  have hkc : k ≤ c := by omega
  have b1 : (0 : Int) ≤ (k : Int) := by omega
  have b2 : (k : Int) ≤ (n : Int) := by omega
  rcases (show ((s : Int) ≤ (k : Int) ∧ min s k = s) ∨ (¬ (s : Int) ≤ (k : Int) ∧ min s k = k) by omega) with ⟨hsk, hmin⟩ | ⟨hsk, hmin⟩
  all_goals rw [hmin]
  all_goals clear hmin hc hk
  all_goals go_enter Try.func21, Try.ntmps21
  all_goals go_wp2_with fail
  · go_region_held3 (fun W => W.cell? ⟨w.heap.size, 0, none⟩ = some (.slice A n c) ∧ W.cell? ⟨w.heap.size, 1, none⟩ = some (.int .i64 s)) (go_keep) (fail)
    go_wp2
    refine bodyPost_ret (v := .tuple #[rdk A k c s, .int .i64 0]) (by simp [results, Try.results21, go_sem]) rfl ?_
    exact ⟨A, c, hkc, rfl, (HR.out.alloc _).alloc _, .same _ _ _, (below_two _ _).drew⟩
  · go_region_held3 (fun W => W.cell? ⟨w.heap.size, 0, none⟩ = some (.slice A n c) ∧ W.cell? ⟨w.heap.size, 1, none⟩ = some (.int .i64 s)) (go_keep) (fail)
    go_wp2
    refine bodyPost_ret (v := .tuple #[rdk A k c k, .int .i64 0]) (by simp [results, Try.results21, go_sem]) rfl ?_
    exact ⟨A, c, hkc, rfl, (HR.out.alloc _).alloc _, .same _ _ _, (below_two _ _).drew⟩

set_option maxHeartbeats 1000000 in
theorem rcrash_any (A : Option Addr) (n c : Nat) (xs : List Int) (s k : Nat) (keep : Int) (w : World) (hR : Reads w A (bys xs)) (hc : n ≤ c) (hs : s ≤ n) (hk : (k : Int) = max 0 (min keep ((n : Int) - s))) (hm : n ≤ 1048576) :
    Calls Try.prog 20 #[rdk A n c s, .int .i64 keep] w (RGot w A (xs.take (s + k)) (s + k) (s + k) alone) := by
  have HR := hide (hR.take (s + k))
  rw [← List.map_take] at HR
  clear hR
  have hsk : s + k ≤ n := by omega
  have hs1 := cut_h 26 elem8 size8 A n c (s + k) (by omega)
  have hkc : s + k ≤ c := by omega
  have H1 := hide hs1
  have HK := hide hk
  clear hk hs1 hc
  go_enter Try.func20, Try.ntmps20
  go_wp2
  go_loop [5, 6] (fun v i => ∃ j : Nat, j ≤ k ∧ i = .int .i64 j ∧ v = .int .i64 (s + j : Nat)) (fun _ i => k - (intOf i).toNat)
  case atStart => exact ⟨0, Nat.zero_le _, rfl, rfl⟩
  case round =>
    obtain ⟨j, hj, rfl, rfl⟩ := hrel
    by_cases hlt : j < k
    · have h1 : (j : Int) < keep := by have := HK.out; omega
      have h2 : ((s + j : Nat) : Int) < (n : Int) := by omega
      have h3 : (0 : Int) ≤ ((s + j : Nat) : Int) := by omega
      have h4 : ((s + j : Nat) : Int) ≤ 1048576 := by omega
      go_wp2
      go_round
      case rel => exact ⟨j + 1, by omega, by go_num, by go_num⟩
      case measure => simp [intOf]; omega
    · obtain rfl : j = k := by omega
      have hs1 := H1.out
      have h3 : (0 : Int) ≤ ((s + j : Nat) : Int) := by omega
      by_cases h1 : (j : Int) < keep
      · have h2 : ¬ ((s + j : Nat) : Int) < (n : Int) := by have := HK.out; omega
        go_wp2
        refine bodyPost_ret (v := rdk A (s + j) c (s + j)) (by simp [results, Try.results20, go_sem]) rfl ?_
        exact ⟨A, c, hkc, rfl, (HR.out.alloc _).alloc _, .same _ _ _, below_two _ _⟩
      · have h2 : decide ((j : Int) < keep) = false := by simpa using h1
        go_wp2
        refine bodyPost_ret (v := rdk A (s + j) c (s + j)) (by simp [results, Try.results20, go_sem]) rfl ?_
        exact ⟨A, c, hkc, rfl, (HR.out.alloc _).alloc _, .same _ _ _, below_two _ _⟩

theorem RGot.at_ {W w w' : World} {A : Option Addr} {xs : List Int} {n s : Nat} {ret : Value → Value} {e : Ending} (hb : Below W.heap.size W w) (h : RGot w A xs n s ret e w') : RGot W A xs n s ret e w' := by
  obtain ⟨A', c', h1, h2, h3, h4, h5⟩ := h
  refine ⟨A', c', h1, h2, h3, ?_, hb.trans (h5.mono hb.size)⟩
  rcases h4 with h | h
  · exact .inl h
  · exact .inr fun a ha => ⟨Nat.le_trans hb.size (h a ha).1, (h a ha).2⟩

end Go.Proofs.Ytodlabpgjgbbpad
