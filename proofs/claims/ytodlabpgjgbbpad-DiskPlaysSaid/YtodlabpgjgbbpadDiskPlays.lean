/-
  DiskPlays: whatever is appended, synced, cut, installed, and lost: the answers, all bytes, and how many are synced. No conditions.
-/
import Derived.Test.YtodlabpgjgbbpadDiskRef
import Derived.Test.YtodlabpgjgbbpadRows
import Derived.Deep.DeepCutAuto
import Derived.Deep.CutBlock
namespace Go.Proofs.Ytodlabpgjgbbpad
open Go.RowKit Go.Agio Go.ChangeShapes Go.WideShapes Go.ChangeAt

/-- A disk, and the reference's beside it, which may be behind by a deed. -/
def Both (w : World) (d Bx : Nat) (xs : List Int) (s : Nat) (ys : List Int) (t : Nat) (A : Option Addr) (c : Nat) (RA : Option Addr) (rc : Nat) (wr : World) : Prop :=
  Disk w.heap.size wr d xs s A c ∧ wr.heap[Bx]? = some (.cells #[.slice RA ys.length rc, .int .i64 t] 41) ∧ ys.length ≤ rc ∧ Reads wr RA (bys ys) ∧
    (∀ a, RA = some a → a.block < wr.heap.size ∧ a.block ≠ Bx ∧ a.block ≠ d ∧ ∀ b, A = some b → a.block ≠ b.block) ∧ (∀ b, A = some b → b.block ≠ Bx) ∧ d ≠ Bx ∧ w.heap.size ≤ Bx ∧ Below w.heap.size w wr
def Play (w : World) (d Bx : Nat) (xs : List Int) (s : Nat) (wr : World) : Prop := ∃ A c RA rc, Both w d Bx xs s xs s A c RA rc wr

theorem Both.do_ {w : World} {d Bx : Nat} {xs xs' ys : List Int} {s s' t : Nat} {A A' RA : Option Addr} {c c' rc : Nat} {wr w1 : World} (h : Both w d Bx xs s ys t A c RA rc wr) (hD : Disk w.heap.size w1 d xs' s' A' c') (hM : Moved d A A' wr w1) : Both w d Bx xs' s' ys t A' c' RA rc w1 := by
  obtain ⟨h1, h2, h3, h4, h5, h6, h7, h8, h9⟩ := h
  have hx := blk_lt h2
  refine ⟨hD, (hM.rest Bx hx (Ne.symm h7) (fun a ha => (h6 a ha).symm)).trans h2, h3, hM.reads h4 (fun a ha => (h5 a ha).2.2.1) (fun a b ha hb => (h5 a ha).2.2.2 b hb), fun a ha => ?_, fun b hb => ?_, h7, h8, hM.below h9 h1.1 (fun a ha => (h1.2.2.1.low a ha).1) h9.size⟩
  · obtain ⟨g1, g2, g3, g4⟩ := h5 a ha
    refine ⟨Nat.lt_of_lt_of_le g1 hM.size, g2, g3, fun b hb => ?_⟩
    rcases hM.next b hb with ⟨b0, k1, k2⟩ | k
    · rw [k2]; exact g4 b0 k1
    · omega
  · rcases hM.next b hb with ⟨b0, k1, k2⟩ | k
    · rw [k2]; exact h6 b0 k1
    · omega

theorem Both.below {w : World} {d Bx : Nat} {xs ys : List Int} {s t : Nat} {A RA : Option Addr} {c rc : Nat} {wr w1 : World} (h : Both w d Bx xs s ys t A c RA rc wr) (hb : Below wr.heap.size wr w1) : Both w d Bx xs s ys t A c RA rc w1 := by
  obtain ⟨h1, h2, h3, h4, h5, h6, h7, h8, h9⟩ := h
  exact ⟨h1.moved hb, (hb.block _ (blk_lt h2)).trans h2, h3, h4.below hb, fun a ha => ⟨Nat.lt_of_lt_of_le (h5 a ha).1 hb.size, (h5 a ha).2⟩, h6, h7, h8, h9.trans (hb.mono h9.size)⟩

/-- What the deed's switch leaves: the reference's next state in its own block. -/
def NextIs (w : World) (d Bx g8 : Nat) (xs : List Int) (s : Nat) (wx : World) : Prop :=
  ∃ A c RA rc RA2 rc2 ys t, Both w d Bx xs s ys t A c RA rc wx ∧ wx.heap[g8]? = some (.cells #[.slice RA2 xs.length rc2, .int .i64 s] 41) ∧ xs.length ≤ rc2 ∧ Reads wx RA2 (bys xs) ∧
    ∀ a, RA2 = some a → a.block < wx.heap.size ∧ a.block ≠ Bx ∧ a.block ≠ d ∧ ∀ b, A = some b → a.block ≠ b.block

theorem next_of {w : World} {d Bx g8 : Nat} {xs ys : List Int} {s t m : Nat} {A RA RA2 : Option Addr} {c rc rc2 : Nat} {w3 w4 w5 wx : World} (hP : Both w d Bx xs s ys t A c RA rc w3) (hg : w3.heap.size = g8)
    (hw : Below w3.heap.size w3 w4 ∧ g8 < w4.heap.size) {W : World} (hW : Below w4.heap.size w4 W) (hR : RDisk W RA RA2 w5 xs) (hc : m ≤ rc2) (hm : xs.length = m) (hs : w5.heap.size ≤ wx.heap.size) (hG : w4.grownBy wx (some g8)) (hgg : Reads w5 RA2 (bys xs) → (∀ a, RA2 = some a → a.block ≠ g8 ∧ (a.block < g8 ∨ W.heap.size ≤ a.block) ∧ a.block < w5.heap.size) → Reads wx RA2 (bys xs)) (hK : wx.heap[g8]? = some (.cells #[.slice RA2 m rc2, .int .i64 s] 41)) :
    NextIs w d Bx g8 xs s wx := by
  subst hm
  obtain ⟨gR, gF, gB⟩ := hR
  have hw5 : Below w3.heap.size w3 W := hw.1.trans (hW.mono hw.1.size)
  have hb5 : Below w3.heap.size w3 w5 := hw5.trans (gB.mono hw5.size)
  have hbx : Below w3.heap.size w3 wx := hw.1.grown hG hw.1.size (fun g h => by injection h with h; omega)
  have hsW := hW.size
  have hd := blk_lt hP.1.2.1
  have hx := blk_lt hP.2.1
  have key : ∀ a, RA2 = some a → (a.block ≠ g8 ∧ (a.block < g8 ∨ W.heap.size ≤ a.block)) ∧ a.block < w5.heap.size ∧ a.block ≠ Bx ∧ a.block ≠ d ∧ ∀ b, A = some b → a.block ≠ b.block := fun a ha => by
    rcases gF with h | h
    · rw [h] at ha
      obtain ⟨k1, k2, k3, k4⟩ := hP.2.2.2.2.1 a ha
      exact ⟨⟨by omega, by omega⟩, Nat.lt_of_lt_of_le k1 hb5.size, k2, k3, k4⟩
    · have h2 := h a ha
      have h3 := hw.2
      exact ⟨⟨by omega, .inr h2.1⟩, h2.2, by omega, by omega, fun b hb => by have := (hP.1.2.2.1.low b hb).2; omega⟩
  refine ⟨A, c, RA, rc, RA2, rc2, ys, t, hP.below hbx, hK, hc, hgg gR (fun a ha => ⟨(key a ha).1.1, (key a ha).1.2, (key a ha).2.1⟩), fun a ha => ?_⟩
  exact ⟨Nat.lt_of_lt_of_le (key a ha).2.1 hs, (key a ha).2.2⟩

theorem only_below {a w : World} (h : Below a.heap.size a w) (row : Option Nat) : a.grownBy w row := ⟨h.os, h.tape, h.output, h.size, fun i hi _ => h.block i hi⟩
theorem only_set {a w : World} {g : Nat} (h : a.grownBy w (some g)) (b o : Nat) (hp : b = g ∨ a.heap.size ≤ b) (u : Value) : a.grownBy (w.setCell ⟨b, o, none⟩ u) (some g) :=
  ⟨h.os, h.tape, h.output, by simpa [World.setCell] using h.size, fun i hi hne => (Below.heap_setCell w _ u i (by
    rintro rfl
    rcases hp with hp | hp
    · exact hne (by rw [← hp])
    · (try simp only at hi); omega)).trans (h.block i hi hne)⟩
theorem next_nil {w : World} {d Bx g8 : Nat} {xs ys : List Int} {s t m : Nat} {A RA RA2 : Option Addr} {c rc rc2 : Nat} {w3 w4 w5 W : World} {v1 v2 : Value} (hP : Both w d Bx xs s ys t A c RA rc w3) (hg : w3.heap.size = g8)
    (hw : Below w3.heap.size w3 w4 ∧ g8 < w4.heap.size) (hW : Below w4.heap.size w4 W) (hR : RDisk W RA RA2 w5 xs) (hc : m ≤ rc2) (hm : xs.length = m) (h5 : Below w4.heap.size w4 w5) (h8 : w5.heap[g8]? = some (.cells #[v1, v2] 41)) :
    NextIs w d Bx g8 xs s ((w5.setCell ⟨g8, 0, none⟩ (.slice RA2 m rc2)).setCell ⟨g8, 1, none⟩ (.int .i64 s)) :=
  next_of hP hg hw hW hR hc hm (by simp [World.setCell]) (only_set (only_set (only_below h5 _) _ _ (.inl rfl) _) _ _ (.inl rfl) _) (fun h k => (h.keepset _ _ _ (fun a ha => (k a ha).1)).keepset _ _ _ (fun a ha => (k a ha).1)) (two_set1 (two_set0 h8 _) _)
theorem next_one {w : World} {d Bx g8 : Nat} {xs ys : List Int} {s t m : Nat} {A RA RA2 : Option Addr} {c rc rc2 : Nat} {w3 w4 w5 W : World} {v1 v2 : Value} {o : Obj} (hP : Both w d Bx xs s ys t A c RA rc w3) (hg : w3.heap.size = g8)
    (hw : Below w3.heap.size w3 w4 ∧ g8 < w4.heap.size) (hW : Below w4.heap.size w4 W) (hR : RDisk W RA RA2 w5 xs) (hc : m ≤ rc2) (hm : xs.length = m) (h5 : Below w4.heap.size w4 w5) (h8 : w5.heap[g8]? = some (.cells #[v1, v2] 41)) :
    NextIs w d Bx g8 xs s (((w5.setCell ⟨g8, 0, none⟩ (.slice RA2 m rc2)).setCell ⟨g8, 1, none⟩ (.int .i64 s)).alloc o) :=
  next_of hP hg hw hW hR hc hm (by simp [World.setCell]) (only_alloc (only_set (only_set (only_below h5 _) _ _ (.inl rfl) _) _ _ (.inl rfl) _) _) (fun h k => ((h.keepset _ _ _ (fun a ha => (k a ha).1)).keepset _ _ _ (fun a ha => (k a ha).1)).alloc _) (blk_alloc (two_set1 (two_set0 h8 _) _) _)
theorem next_two {w : World} {d Bx g8 : Nat} {xs ys : List Int} {s t m : Nat} {A RA RA2 : Option Addr} {c rc rc2 : Nat} {w3 w4 w5 W : World} {v1 v2 : Value} {u v : Value} (hP : Both w d Bx xs s ys t A c RA rc w3) (hg : w3.heap.size = g8)
    (hw : Below w3.heap.size w3 w4 ∧ g8 < w4.heap.size) (hW : Below w4.heap.size w4 W) (hR : RDisk W RA RA2 w5 xs) (hc : m ≤ rc2) (hm : xs.length = m) (h5 : Below w4.heap.size w4 w5) (h8 : w5.heap[g8]? = some (.cells #[v1, v2] 41)) (hy : w4.heap.size < W.heap.size) :
    NextIs w d Bx g8 xs s ((((w5.setCell ⟨w4.heap.size, 0, none⟩ u).setCell ⟨w4.heap.size, 1, none⟩ v).setCell ⟨g8, 0, none⟩ (.slice RA2 m rc2)).setCell ⟨g8, 1, none⟩ (.int .i64 s)) :=
  next_of hP hg hw hW hR hc hm (by simp [World.setCell]) (only_set (only_set (only_set (only_set (only_below h5 _) _ _ (.inr (Nat.le_refl _)) _) _ _ (.inr (Nat.le_refl _)) _) _ _ (.inl rfl) _) _ _ (.inl rfl) _)
    (fun h k => (((h.keepset _ _ _ (fun a ha => by have := (k a ha).2.1; omega)).keepset _ _ _ (fun a ha => by have := (k a ha).2.1; omega)).keepset _ _ _ (fun a ha => (k a ha).1)).keepset _ _ _ (fun a ha => (k a ha).1))
    (two_set1 (two_set0 (by rw [Below.heap_setCell _ _ _ _ (by simp only; omega), Below.heap_setCell _ _ _ _ (by simp only; omega)]; exact h8) _) _)

theorem play_of {w : World} {d Bx : Nat} {xs ys : List Int} {s t : Nat} {A RA RA2 : Option Addr} {c rc rc2 : Nat} {wx : World} (h : Both w d Bx xs s ys t A c RA rc wx) (hc : xs.length ≤ rc2) (hR : Reads wx RA2 (bys xs))
    (ha : ∀ a, RA2 = some a → a.block < wx.heap.size ∧ a.block ≠ Bx ∧ a.block ≠ d ∧ ∀ b, A = some b → a.block ≠ b.block) :
    Both w d Bx xs s xs s A c RA2 rc2 ((wx.setCell ⟨Bx, 0, none⟩ (.slice RA2 xs.length rc2)).setCell ⟨Bx, 1, none⟩ (.int .i64 s)) := by
  obtain ⟨h1, h2, h3, h4, h5, h6, h7, h8, h9⟩ := h
  refine ⟨?_, two_set1 (two_set0 h2 _) _, hc, (hR.keepset _ _ _ (fun a h => (ha a h).2.1)).keepset _ _ _ (fun a h => (ha a h).2.1), fun a h => ⟨by simpa [World.setCell] using (ha a h).1, (ha a h).2⟩, h6, h7, h8, (h9.setCell (p := ⟨Bx, 0, none⟩) h8 _).setCell (p := ⟨Bx, 1, none⟩) h8 _⟩
  obtain ⟨g1, g2, g3, g4, g5, g6⟩ := h1
  refine ⟨g1, ?_, g3.same (by simp [World.setCell]) (fun a ha => ?_), g4, g5, g6⟩
  · rw [Below.heap_setCell _ _ _ _ h7, Below.heap_setCell _ _ _ _ h7]; exact g2
  · rw [Below.heap_setCell _ _ _ _ (h6 a ha), Below.heap_setCell _ _ _ _ (h6 a ha)]

theorem bytes_at (base d : Nat) (xs : List Int) (s : Nat) (A : Option Addr) (c m : Nat) (w : World) (hD : Disk base w d xs s A c) (hm : xs.length = m) :
    Calls Try.prog 11 #[.pointer (some ⟨d, 0, none⟩)] w fun e w' => ∃ A' c', e = .returned (.slice A' m c') ∧ (w'.ownsRow w.heap.size 5 1 (.slice A' m c') m (bys xs) ∧ (convert 26 9 (.slice A' m c')).run Try.prog w' = .ok (.string (strOfNums xs)) w') ∧ Below w.heap.size w w' := by
  subst hm
  refine (bytes_any base d xs s A c w hD).mono ?_
  rintro e w' ⟨A', c', h1, h2, h3⟩
  exact ⟨A', c', h1, ⟨h2, str_reads w' A' _ c' xs (Reads.of_own h2) rfl⟩, h3⟩
theorem bytes_next {base d : Nat} {xs : List Int} {s : Nat} {A : Option Addr} {c m : Nat} {W w : World} (hb : Below W.heap.size W w) (hD : Disk base W d xs s A c) (hm : xs.length = m) :
    Calls Try.prog 11 #[.pointer (some ⟨d, 0, none⟩)] w fun e w' => ∃ A' c', e = .returned (.slice A' m c') ∧ (w'.ownsRow w.heap.size 5 1 (.slice A' m c') m (bys xs) ∧ (convert 26 9 (.slice A' m c')).run Try.prog w' = .ok (.string (strOfNums xs)) w') ∧ Below W.heap.size W w' := by
  refine (bytes_at base d xs s A c m w (hD.moved hb) hm).mono ?_
  rintro e w' ⟨A', c', h1, h2, h3⟩
  exact ⟨A', c', h1, h2, below_next hb h3⟩

set_option maxRecDepth 100000 in
set_option maxHeartbeats 20000000 in
theorem diskPlays_walk (L : Option Addr) (n cap : Nat) (X : Nat → Deed) (w : World) (hR : Agio.Rows w L n 3 (fun i => (X i).cells)) (hX : ∀ i, i < n → (X i).fine w) :
    Calls Try.prog 7 #[.slice L n cap] w fun e w' => e = .returned (.bool true) ∧ Below w.heap.size w w' := by
  have HR := hide hR; have HX := hide hX
  clear hR hX
  go_enter Try.func7, Try.ntmps7
  go_wp2_with fail
  refine (awake_any _).mono ?_
  rintro e w1 ⟨rfl, hb1⟩
  go_wp2_with fail
  refine (new_any _).mono ?_
  rintro e w2 ⟨rfl, rfl⟩
  obtain ⟨d, hd⟩ : ∃ d, d = w1.heap.size := ⟨_, rfl⟩
  have D0 := disk_new w.heap.size w1 hb1.size
  have hb0 := hide (hb1.alloc hb1.size (.cells #[.slice none 0 0, .int .i64 0] 50))
  have hwd : w.heap.size ≤ d := by rw [hd]; exact hb1.size
  have hs0 : (w1.alloc (.cells #[.slice none 0 0, .int .i64 0] 50)).heap.size = d + 1 := by rw [hd]; simp
  rw [← hd] at D0 ⊢
  have D0 := hide D0; have HS0 := hide hs0
  generalize w1.alloc (.cells #[.slice none 0 0, .int .i64 0] 50) = W0 at *
  clear hd hb1 hs0
  have P0 : Hid (Play w d (d + 1) [] 0 (W0.alloc (.cells #[.slice none 0 0, .int .i64 0] 41))) := hide (by
    have hh := heap_new W0 (.cells #[.slice none 0 0, .int .i64 0] 41)
    rw [HS0.out] at hh
    exact ⟨none, 0, none, 0, D0.out.moved ((Below.refl _ _).alloc (Nat.le_refl _) _), hh, Nat.le_refl _, .nil _ _, by simp, by simp, by omega, by omega, hb0.out.alloc hb0.out.size _⟩)
  go_wp2_with fail
  rw [HS0.out]
  generalize W0.alloc (.cells #[.slice none 0 0, .int .i64 0] 41) = W1 at *
  obtain ⟨Bx, hBx⟩ : ∃ Bx, Bx = d + 1 := ⟨_, rfl⟩
  rw [← hBx] at P0 ⊢
  clear hBx D0 hb0 HS0
  go_loopw [6] (fun i wr => ∃ (p : Nat) (xs : List Int) (s : Nat), p ≤ n ∧ i = .int .i64 p ∧ Play w d Bx xs s wr) (fun i _ => n - (intOf i).toNat)
  case atStart => exact ⟨0, [], 0, Nat.zero_le _, rfl, P0.out⟩
  case round =>
    obtain ⟨p, xs, s, hp, rfl, A, c, RA, rc, hP⟩ := hrel
    have HP := hide hP
    clear hP P0
    by_cases h1 : p < n
    · by_cases h2 : p < 100
      · obtain ⟨b, off, rfl, hb, hc⟩ := HR.out.at_ (k := p) h1
        have HB := hide HP.out.2.2.2.2.2.2.2.2
        obtain ⟨x, hx⟩ : ∃ x, x = X p := ⟨_, rfl⟩
        have HF := HX.out p h1
        have hk0 := hc p h1 0 (by omega)
        have hk1 := hc p h1 1 (by omega)
        have hk2 := hc p h1 2 (by omega)
        rw [← hx] at HF hk0 hk1 hk2
        clear hx hc
        obtain ⟨kind, num, bs, B, cb⟩ := x
        obtain ⟨hRB, _, _, _, _, hlb⟩ := HF
        change Reads w B (bys bs) at hRB
        change bs.length ≤ _ at hlb
        replace hk0 : w.cell? ⟨b, off + p * 3, none⟩ = some (.int .i64 kind) := hk0
        replace hk1 : w.cell? ⟨b, off + p * 3 + 1, none⟩ = some (.int .i64 num) := hk1
        replace hk2 : w.cell? ⟨b, off + p * 3 + 2, none⟩ = some (.slice B bs.length cb) := hk2
        obtain ⟨xs', s', er, hDo⟩ := does_some kind num bs xs s
        have HDo := hide hDo; have HRB := hide hRB
        clear hDo hRB
        have c0 := (HB.out.cell (p := ⟨b, off + p * 3, none⟩) hb).trans hk0
        have c1 := (HB.out.cell (p := ⟨b, off + p * 3 + 1, none⟩) hb).trans hk1
        have c2 := (HB.out.cell (p := ⟨b, off + p * 3 + 2, none⟩) hb).trans hk2
        have a1 : (0 : Int) ≤ (p : Int) := by omega
        have a2 : (p : Int) < (n : Int) := by omega
        go_wp2_with fail
        clear c0 c1 c2
        refine (do_any w.heap.size d kind num bs xs xs' s s' er A c B cb wr HDo.out HP.out.1 (HRB.out.below HB.out) hlb).mono ?_
        rintro e w3 ⟨rfl, A', c', D3, M3⟩
        have HP3 := hide (HP.out.do_ D3 M3)
        obtain ⟨x0, x1⟩ := two_cells (Below.refl _ w3) HP3.out.2.1
        have HB3 := hide HP3.out.2.2.2.2.2.2.2.2
        have c0 := (HB3.out.cell (p := ⟨b, off + p * 3, none⟩) hb).trans hk0
        have c1 := (HB3.out.cell (p := ⟨b, off + p * 3 + 1, none⟩) hb).trans hk1
        have c2 := (HB3.out.cell (p := ⟨b, off + p * 3 + 2, none⟩) hb).trans hk2
        have hb3 : b < w3.heap.size := Nat.lt_of_lt_of_le hb HB3.out.size
        have hx3 : Bx < w3.heap.size := blk_lt HP3.out.2.1
        clear D3 M3
        go_upto_block 2 with fail
        obtain ⟨g8, hg8⟩ : ∃ g8, w3.heap.size = g8 := ⟨_, rfl⟩
        have HG := hide hg8
        have hw4 := (Below.refl w3.heap.size w3).alloc (Nat.le_refl _) (.cells #[.slice RA xs.length rc, .int .i64 s] 41)
        have k8 := heap_new w3 (.cells #[.slice RA xs.length rc, .int .i64 s] 41)
        rw [hg8] at k8 hb3 hx3 ⊢
        have K8 := hide k8; have W4 := hide hw4
        clear x0 x1 c0 c1 c2 hw4 k8
        generalize w3.alloc (.cells #[.slice RA xs.length rc, .int .i64 s] 41) = w4 at *
        have hg4 : g8 < w4.heap.size := blk_lt K8.out
        have HW4 : Hid (Below w3.heap.size w3 w4 ∧ g8 < w4.heap.size) := hide ⟨W4.out, hg4⟩
        have hx4 : Bx < w4.heap.size := by omega
        have hb4 : b < w4.heap.size := by omega
        have HP4 := hide (HP3.out.below W4.out)
        have HB4 := hide HP4.out.2.2.2.2.2.2.2.2
        obtain ⟨x0, x1⟩ := two_cells (Below.refl _ w4) HP4.out.2.1
        have c0 := (HB4.out.cell (p := ⟨b, off + p * 3, none⟩) hb).trans hk0
        have c1 := (HB4.out.cell (p := ⟨b, off + p * 3 + 1, none⟩) hb).trans hk1
        have c2 := (HB4.out.cell (p := ⟨b, off + p * 3 + 2, none⟩) hb).trans hk2
        have e0 := (two_cells (Below.refl _ w4) K8.out).1
        have e1 := (two_cells (Below.refl _ w4) K8.out).2
        have f0 := live_blk K8.out 0
        have f1 := live_blk K8.out 1
        have R4 := hide HP4.out.2.2.2.1
        have B4 := hide (HRB.out.below HB4.out)
        have hrc := HP.out.2.2.1
        have hsl := HP.out.1.2.2.2.1
        have hlx := HP.out.1.2.2.2.2.1
        have n1 : ¬ Bx = g8 := by omega
        have n2 : ¬ g8 = Bx := by omega
        have n3 : ¬ b = g8 := by omega
        have n4 : ¬ g8 = b := by omega
        have n5 : ¬ Bx = w4.heap.size := by omega
        have n6 : ¬ w4.heap.size = Bx := by omega
        have n7 : ¬ b = w4.heap.size := by omega
        have n8 : ¬ w4.heap.size = b := by omega
        clear hg8 hb3 hx3
        go_cut [9] (fun u9 wx => u9 = .int .i64 er ∧ NextIs w d Bx g8 xs' s' wx)
        case first =>
          have hdo := HDo.out
          clear HDo
          cases hdo with
          | app h0 h =>
            subst h0
            have CA : Hid (∀ W, Below w4.heap.size w4 W → Calls Try.prog 18 #[rdk RA xs.length rc s, .slice B bs.length cb] W (fun e w5 => RGot W RA (xs ++ bs) (xs.length + bs.length) s (with_ 0) e w5 ∧ Below w4.heap.size w4 W)) :=
              hide fun W hb => (rappend_any RA xs.length rc xs s B bs.length cb bs W (R4.out.below hb) rfl (B4.out.below hb) rfl h).mono fun _ _ g => ⟨g, hb⟩
            go_wp2_with fail
            go_region_held3 (fun W => W.cell? ⟨Bx, 0, none⟩ = some (.slice RA xs.length rc) ∧ W.cell? ⟨Bx, 1, none⟩ = some (.int .i64 s) ∧ W.cell? ⟨b, off + p * 3 + 2, none⟩ = some (.slice B bs.length cb)) (go_keep) ((go_at_call 18; refine (CA.out _ (by first | exact Below.refl _ _ | exact (Below.refl _ _).drew | exact ((Below.refl _ _).alloc (Nat.le_refl _) _).drew)).mono ?_; rintro e w5 ⟨⟨RA2, rc2, hc2, rfl, gR, gF, gB⟩, hW⟩; have gB4 := hW.trans (gB.mono hW.size); have q0 := (gB4.cell (p := ⟨Bx, 0, none⟩) hx4).trans x0; have q1 := (gB4.cell (p := ⟨Bx, 1, none⟩) hx4).trans x1; have q3 := (gB4.cell (p := ⟨b, off + p * 3 + 1, none⟩) hb4).trans c1; have q4 := (gB4.cell (p := ⟨b, off + p * 3 + 2, none⟩) hb4).trans c2; have k8 := (gB4.block g8 hg4).trans K8.out; have e0 := (two_cells (Below.refl _ w5) k8).1; have e1 := (two_cells (Below.refl _ w5) k8).2; have f0 := live_blk k8 0; have f1 := live_blk k8 1; have hg5 : g8 < w5.heap.size := blk_lt k8; have K9 := hide k8; have GB4 := hide gB4; (try (have k9 := (gB.block w4.heap.size (by simp)).trans (heap_new w4 (.cells #[.slice none 0 0, .int .i64 0] 41)); have e2 := (two_cells (Below.refl _ w5) k9).1; have e3 := (two_cells (Below.refl _ w5) k9).2; have f2 := live_blk k9 0; have f3 := live_blk k9 1; clear k9)); have HW := hide hW; have RD := hide (show RDisk _ RA RA2 w5 _ from ⟨gR, gF, gB⟩); clear gR gF gB k8 gB4 hW))
            all_goals go_wp2
            all_goals go_meet
            · case rel => exact ⟨rfl, next_one HP3.out HG.out HW4.out HW.out RD.out hc2 (by simp) GB4.out K9.out⟩
            · case rel => exact ⟨rfl, next_two HP3.out HG.out HW4.out HW.out RD.out hc2 (by simp) GB4.out K9.out (by simp)⟩
          | appFull h0 h =>
            subst h0
            have CA : Hid (∀ W, Below w4.heap.size w4 W → Calls Try.prog 18 #[rdk RA xs.length rc s, .slice B bs.length cb] W (fun e w5 => RGot W RA xs xs.length s (with_ 5) e w5 ∧ Below w4.heap.size w4 W)) :=
              hide fun W hb => (rappend_full RA xs.length rc xs s B bs.length cb W hrc (R4.out.below hb) hlx (by omega) h).mono fun _ _ g => ⟨g, hb⟩
            go_wp2_with fail
            go_region_held3 (fun W => W.cell? ⟨Bx, 0, none⟩ = some (.slice RA xs.length rc) ∧ W.cell? ⟨Bx, 1, none⟩ = some (.int .i64 s) ∧ W.cell? ⟨b, off + p * 3 + 2, none⟩ = some (.slice B bs.length cb)) (go_keep) ((go_at_call 18; refine (CA.out _ (by first | exact Below.refl _ _ | exact (Below.refl _ _).drew | exact ((Below.refl _ _).alloc (Nat.le_refl _) _).drew)).mono ?_; rintro e w5 ⟨⟨RA2, rc2, hc2, rfl, gR, gF, gB⟩, hW⟩; have gB4 := hW.trans (gB.mono hW.size); have q0 := (gB4.cell (p := ⟨Bx, 0, none⟩) hx4).trans x0; have q1 := (gB4.cell (p := ⟨Bx, 1, none⟩) hx4).trans x1; have q3 := (gB4.cell (p := ⟨b, off + p * 3 + 1, none⟩) hb4).trans c1; have q4 := (gB4.cell (p := ⟨b, off + p * 3 + 2, none⟩) hb4).trans c2; have k8 := (gB4.block g8 hg4).trans K8.out; have e0 := (two_cells (Below.refl _ w5) k8).1; have e1 := (two_cells (Below.refl _ w5) k8).2; have f0 := live_blk k8 0; have f1 := live_blk k8 1; have hg5 : g8 < w5.heap.size := blk_lt k8; have K9 := hide k8; have GB4 := hide gB4; (try (have k9 := (gB.block w4.heap.size (by simp)).trans (heap_new w4 (.cells #[.slice none 0 0, .int .i64 0] 41)); have e2 := (two_cells (Below.refl _ w5) k9).1; have e3 := (two_cells (Below.refl _ w5) k9).2; have f2 := live_blk k9 0; have f3 := live_blk k9 1; clear k9)); have HW := hide hW; have RD := hide (show RDisk _ RA RA2 w5 _ from ⟨gR, gF, gB⟩); clear gR gF gB k8 gB4 hW))
            all_goals go_wp2
            all_goals go_meet
            · case rel => exact ⟨rfl, next_one HP3.out HG.out HW4.out HW.out RD.out hc2 rfl GB4.out K9.out⟩
            · case rel => exact ⟨rfl, next_two HP3.out HG.out HW4.out HW.out RD.out hc2 rfl GB4.out K9.out (by simp)⟩
          | sync h0 =>
            subst h0
            have CA : Hid (∀ W, Below w4.heap.size w4 W → Calls Try.prog 19 #[rdk RA xs.length rc s] W (fun e w5 => RGot W RA xs xs.length xs.length alone e w5 ∧ Below w4.heap.size w4 W)) :=
              hide fun W hb => (rsync_any RA xs.length rc xs s W hrc (R4.out.below hb)).mono fun _ _ g => ⟨g, hb⟩
            go_wp2_with fail
            refine (CA.out _ (Below.refl _ _)).mono ?_
            rintro e w5 ⟨⟨RA2, rc2, hc2, rfl, gR, gF, gB⟩, hW⟩; have gB4 := hW.trans (gB.mono hW.size); have q0 := (gB4.cell (p := ⟨Bx, 0, none⟩) hx4).trans x0; have q1 := (gB4.cell (p := ⟨Bx, 1, none⟩) hx4).trans x1; have q3 := (gB4.cell (p := ⟨b, off + p * 3 + 1, none⟩) hb4).trans c1; have q4 := (gB4.cell (p := ⟨b, off + p * 3 + 2, none⟩) hb4).trans c2; have k8 := (gB4.block g8 hg4).trans K8.out; have e0 := (two_cells (Below.refl _ w5) k8).1; have e1 := (two_cells (Below.refl _ w5) k8).2; have f0 := live_blk k8 0; have f1 := live_blk k8 1; have hg5 : g8 < w5.heap.size := blk_lt k8; have K9 := hide k8; have GB4 := hide gB4; (try (have k9 := (gB.block w4.heap.size (by simp)).trans (heap_new w4 (.cells #[.slice none 0 0, .int .i64 0] 41)); have e2 := (two_cells (Below.refl _ w5) k9).1; have e3 := (two_cells (Below.refl _ w5) k9).2; have f2 := live_blk k9 0; have f3 := live_blk k9 1; clear k9)); have HW := hide hW; have RD := hide (show RDisk _ RA RA2 w5 _ from ⟨gR, gF, gB⟩); clear gR gF gB k8 gB4 hW
            go_wp2
            go_meet
            case rel => exact ⟨rfl, next_nil HP3.out HG.out HW4.out HW.out RD.out hc2 rfl GB4.out K9.out⟩
          | crash k h0 h =>
            subst h0
            have hlk : (xs.take (s + k)).length = s + k := by rw [List.length_take]; omega
            have HLK := hide hlk
            have Hk := hide h
            clear h hlk
            have CA : Hid (∀ W, Below w4.heap.size w4 W → Calls Try.prog 20 #[rdk RA xs.length rc s, .int .i64 num] W (fun e w5 => RGot W RA (xs.take (s + k)) (s + k) (s + k) alone e w5 ∧ Below w4.heap.size w4 W)) :=
              hide fun W hb => (rcrash_any RA xs.length rc xs s k num W (R4.out.below hb) hrc hsl Hk.out hlx).mono fun _ _ g => ⟨g, hb⟩
            go_wp2_with fail
            go_region_held3 (fun W => W.cell? ⟨Bx, 0, none⟩ = some (.slice RA xs.length rc) ∧ W.cell? ⟨Bx, 1, none⟩ = some (.int .i64 s) ∧ W.cell? ⟨b, off + p * 3 + 1, none⟩ = some (.int .i64 num)) (go_keep) ((go_at_call 20; refine (CA.out _ (by first | exact Below.refl _ _ | exact (Below.refl _ _).drew | exact ((Below.refl _ _).alloc (Nat.le_refl _) _).drew)).mono ?_; rintro e w5 ⟨⟨RA2, rc2, hc2, rfl, gR, gF, gB⟩, hW⟩; have gB4 := hW.trans (gB.mono hW.size); have q0 := (gB4.cell (p := ⟨Bx, 0, none⟩) hx4).trans x0; have q1 := (gB4.cell (p := ⟨Bx, 1, none⟩) hx4).trans x1; have q3 := (gB4.cell (p := ⟨b, off + p * 3 + 1, none⟩) hb4).trans c1; have q4 := (gB4.cell (p := ⟨b, off + p * 3 + 2, none⟩) hb4).trans c2; have k8 := (gB4.block g8 hg4).trans K8.out; have e0 := (two_cells (Below.refl _ w5) k8).1; have e1 := (two_cells (Below.refl _ w5) k8).2; have f0 := live_blk k8 0; have f1 := live_blk k8 1; have hg5 : g8 < w5.heap.size := blk_lt k8; have K9 := hide k8; have GB4 := hide gB4; (try (have k9 := (gB.block w4.heap.size (by simp)).trans (heap_new w4 (.cells #[.slice none 0 0, .int .i64 0] 41)); have e2 := (two_cells (Below.refl _ w5) k9).1; have e3 := (two_cells (Below.refl _ w5) k9).2; have f2 := live_blk k9 0; have f3 := live_blk k9 1; clear k9)); have HW := hide hW; have RD := hide (show RDisk _ RA RA2 w5 _ from ⟨gR, gF, gB⟩); clear gR gF gB k8 gB4 hW))
            go_wp2
            go_meet
            case rel => exact ⟨rfl, next_nil HP3.out HG.out HW4.out HW.out RD.out hc2 HLK.out GB4.out K9.out⟩
          | cut k h0 h h' =>
            subst h0 h
            have hlk : (xs.take k).length = k := by rw [List.length_take]; omega
            have HLK := hide hlk
            clear hlk
            have CA : Hid (∀ W, Below w4.heap.size w4 W → Calls Try.prog 21 #[rdk RA xs.length rc s, .int .i64 k] W (fun e w5 => RGot W RA (xs.take k) k (min s k) (with_ 0) e w5 ∧ Below w4.heap.size w4 W)) :=
              hide fun W hb => (rcut_any RA xs.length rc xs s k W (R4.out.below hb) hrc h').mono fun _ _ g => ⟨g, hb⟩
            go_wp2_with fail
            go_region_held3 (fun W => W.cell? ⟨Bx, 0, none⟩ = some (.slice RA xs.length rc) ∧ W.cell? ⟨Bx, 1, none⟩ = some (.int .i64 s) ∧ W.cell? ⟨b, off + p * 3 + 1, none⟩ = some (.int .i64 k)) (go_keep) ((go_at_call 21; refine (CA.out _ (by first | exact Below.refl _ _ | exact (Below.refl _ _).drew | exact ((Below.refl _ _).alloc (Nat.le_refl _) _).drew)).mono ?_; rintro e w5 ⟨⟨RA2, rc2, hc2, rfl, gR, gF, gB⟩, hW⟩; have gB4 := hW.trans (gB.mono hW.size); have q0 := (gB4.cell (p := ⟨Bx, 0, none⟩) hx4).trans x0; have q1 := (gB4.cell (p := ⟨Bx, 1, none⟩) hx4).trans x1; have q3 := (gB4.cell (p := ⟨b, off + p * 3 + 1, none⟩) hb4).trans c1; have q4 := (gB4.cell (p := ⟨b, off + p * 3 + 2, none⟩) hb4).trans c2; have k8 := (gB4.block g8 hg4).trans K8.out; have e0 := (two_cells (Below.refl _ w5) k8).1; have e1 := (two_cells (Below.refl _ w5) k8).2; have f0 := live_blk k8 0; have f1 := live_blk k8 1; have hg5 : g8 < w5.heap.size := blk_lt k8; have K9 := hide k8; have GB4 := hide gB4; (try (have k9 := (gB.block w4.heap.size (by simp)).trans (heap_new w4 (.cells #[.slice none 0 0, .int .i64 0] 41)); have e2 := (two_cells (Below.refl _ w5) k9).1; have e3 := (two_cells (Below.refl _ w5) k9).2; have f2 := live_blk k9 0; have f3 := live_blk k9 1; clear k9)); have HW := hide hW; have RD := hide (show RDisk _ RA RA2 w5 _ from ⟨gR, gF, gB⟩); clear gR gF gB k8 gB4 hW))
            all_goals go_wp2
            all_goals go_meet
            · case rel => exact ⟨rfl, next_one HP3.out HG.out HW4.out HW.out RD.out hc2 HLK.out GB4.out K9.out⟩
            · case rel => exact ⟨rfl, next_two HP3.out HG.out HW4.out HW.out RD.out hc2 HLK.out GB4.out K9.out (by simp)⟩
          | cutBad h0 h =>
            subst h0
            have Hk := hide h
            clear h
            have CA : Hid (∀ W, Below w4.heap.size w4 W → Calls Try.prog 21 #[rdk RA xs.length rc s, .int .i64 num] W (fun e w5 => RGot W RA xs xs.length s (with_ 1) e w5 ∧ Below w4.heap.size w4 W)) :=
              hide fun W hb => (rcut_bad RA xs.length rc xs s num W hrc (R4.out.below hb) Hk.out).mono fun _ _ g => ⟨g, hb⟩
            go_wp2_with fail
            go_region_held3 (fun W => W.cell? ⟨Bx, 0, none⟩ = some (.slice RA xs.length rc) ∧ W.cell? ⟨Bx, 1, none⟩ = some (.int .i64 s) ∧ W.cell? ⟨b, off + p * 3 + 1, none⟩ = some (.int .i64 num)) (go_keep) ((go_at_call 21; refine (CA.out _ (by first | exact Below.refl _ _ | exact (Below.refl _ _).drew | exact ((Below.refl _ _).alloc (Nat.le_refl _) _).drew)).mono ?_; rintro e w5 ⟨⟨RA2, rc2, hc2, rfl, gR, gF, gB⟩, hW⟩; have gB4 := hW.trans (gB.mono hW.size); have q0 := (gB4.cell (p := ⟨Bx, 0, none⟩) hx4).trans x0; have q1 := (gB4.cell (p := ⟨Bx, 1, none⟩) hx4).trans x1; have q3 := (gB4.cell (p := ⟨b, off + p * 3 + 1, none⟩) hb4).trans c1; have q4 := (gB4.cell (p := ⟨b, off + p * 3 + 2, none⟩) hb4).trans c2; have k8 := (gB4.block g8 hg4).trans K8.out; have e0 := (two_cells (Below.refl _ w5) k8).1; have e1 := (two_cells (Below.refl _ w5) k8).2; have f0 := live_blk k8 0; have f1 := live_blk k8 1; have hg5 : g8 < w5.heap.size := blk_lt k8; have K9 := hide k8; have GB4 := hide gB4; (try (have k9 := (gB.block w4.heap.size (by simp)).trans (heap_new w4 (.cells #[.slice none 0 0, .int .i64 0] 41)); have e2 := (two_cells (Below.refl _ w5) k9).1; have e3 := (two_cells (Below.refl _ w5) k9).2; have f2 := live_blk k9 0; have f3 := live_blk k9 1; clear k9)); have HW := hide hW; have RD := hide (show RDisk _ RA RA2 w5 _ from ⟨gR, gF, gB⟩); clear gR gF gB k8 gB4 hW))
            all_goals go_wp2
            all_goals go_meet
            · case rel => exact ⟨rfl, next_one HP3.out HG.out HW4.out HW.out RD.out hc2 rfl GB4.out K9.out⟩
            · case rel => exact ⟨rfl, next_two HP3.out HG.out HW4.out HW.out RD.out hc2 rfl GB4.out K9.out (by simp)⟩
          | inst h0 h1' h2' h3' h =>
            have t0 : (kind == 0) = false := by rw [beq_eq_false_iff_ne]; exact h0
            have t1 : (kind == 1) = false := by rw [beq_eq_false_iff_ne]; exact h1'
            have t2 : (kind == 2) = false := by rw [beq_eq_false_iff_ne]; exact h2'
            have t3 : (kind == 3) = false := by rw [beq_eq_false_iff_ne]; exact h3'
            clear h0 h1' h2' h3'
            have CA : Hid (∀ W, Below w4.heap.size w4 W → Calls Try.prog 22 #[rdk RA xs.length rc s, .slice B bs.length cb] W (fun e w5 => RGot W RA bs bs.length bs.length (with_ 0) e w5 ∧ Below w4.heap.size w4 W)) :=
              hide fun W hb => (rinstall_any RA xs.length rc s B bs.length cb bs W (B4.out.below hb) rfl h).mono fun _ _ g => ⟨g, hb⟩
            go_wp2_with fail
            go_region_held3 (fun W => W.cell? ⟨Bx, 0, none⟩ = some (.slice RA xs.length rc) ∧ W.cell? ⟨Bx, 1, none⟩ = some (.int .i64 s) ∧ W.cell? ⟨b, off + p * 3 + 2, none⟩ = some (.slice B bs.length cb)) (go_keep) ((go_at_call 22; refine (CA.out _ (by first | exact Below.refl _ _ | exact (Below.refl _ _).drew | exact ((Below.refl _ _).alloc (Nat.le_refl _) _).drew)).mono ?_; rintro e w5 ⟨⟨RA2, rc2, hc2, rfl, gR, gF, gB⟩, hW⟩; have gB4 := hW.trans (gB.mono hW.size); have q0 := (gB4.cell (p := ⟨Bx, 0, none⟩) hx4).trans x0; have q1 := (gB4.cell (p := ⟨Bx, 1, none⟩) hx4).trans x1; have q3 := (gB4.cell (p := ⟨b, off + p * 3 + 1, none⟩) hb4).trans c1; have q4 := (gB4.cell (p := ⟨b, off + p * 3 + 2, none⟩) hb4).trans c2; have k8 := (gB4.block g8 hg4).trans K8.out; have e0 := (two_cells (Below.refl _ w5) k8).1; have e1 := (two_cells (Below.refl _ w5) k8).2; have f0 := live_blk k8 0; have f1 := live_blk k8 1; have hg5 : g8 < w5.heap.size := blk_lt k8; have K9 := hide k8; have GB4 := hide gB4; (try (have k9 := (gB.block w4.heap.size (by simp)).trans (heap_new w4 (.cells #[.slice none 0 0, .int .i64 0] 41)); have e2 := (two_cells (Below.refl _ w5) k9).1; have e3 := (two_cells (Below.refl _ w5) k9).2; have f2 := live_blk k9 0; have f3 := live_blk k9 1; clear k9)); have HW := hide hW; have RD := hide (show RDisk _ RA RA2 w5 _ from ⟨gR, gF, gB⟩); clear gR gF gB k8 gB4 hW))
            all_goals go_wp2
            all_goals go_meet
            · case rel => exact ⟨rfl, next_one HP3.out HG.out HW4.out HW.out RD.out hc2 rfl GB4.out K9.out⟩
            · case rel => exact ⟨rfl, next_two HP3.out HG.out HW4.out HW.out RD.out hc2 rfl GB4.out K9.out (by simp)⟩
          | instFull h0 h1' h2' h3' h =>
            have t0 : (kind == 0) = false := by rw [beq_eq_false_iff_ne]; exact h0
            have t1 : (kind == 1) = false := by rw [beq_eq_false_iff_ne]; exact h1'
            have t2 : (kind == 2) = false := by rw [beq_eq_false_iff_ne]; exact h2'
            have t3 : (kind == 3) = false := by rw [beq_eq_false_iff_ne]; exact h3'
            clear h0 h1' h2' h3'
            have CA : Hid (∀ W, Below w4.heap.size w4 W → Calls Try.prog 22 #[rdk RA xs.length rc s, .slice B bs.length cb] W (fun e w5 => RGot W RA xs xs.length s (with_ 5) e w5 ∧ Below w4.heap.size w4 W)) :=
              hide fun W hb => (rinstall_full RA xs.length rc xs s B bs.length cb W hrc (R4.out.below hb) (by omega) h).mono fun _ _ g => ⟨g, hb⟩
            go_wp2_with fail
            go_region_held3 (fun W => W.cell? ⟨Bx, 0, none⟩ = some (.slice RA xs.length rc) ∧ W.cell? ⟨Bx, 1, none⟩ = some (.int .i64 s) ∧ W.cell? ⟨b, off + p * 3 + 2, none⟩ = some (.slice B bs.length cb)) (go_keep) ((go_at_call 22; refine (CA.out _ (by first | exact Below.refl _ _ | exact (Below.refl _ _).drew | exact ((Below.refl _ _).alloc (Nat.le_refl _) _).drew)).mono ?_; rintro e w5 ⟨⟨RA2, rc2, hc2, rfl, gR, gF, gB⟩, hW⟩; have gB4 := hW.trans (gB.mono hW.size); have q0 := (gB4.cell (p := ⟨Bx, 0, none⟩) hx4).trans x0; have q1 := (gB4.cell (p := ⟨Bx, 1, none⟩) hx4).trans x1; have q3 := (gB4.cell (p := ⟨b, off + p * 3 + 1, none⟩) hb4).trans c1; have q4 := (gB4.cell (p := ⟨b, off + p * 3 + 2, none⟩) hb4).trans c2; have k8 := (gB4.block g8 hg4).trans K8.out; have e0 := (two_cells (Below.refl _ w5) k8).1; have e1 := (two_cells (Below.refl _ w5) k8).2; have f0 := live_blk k8 0; have f1 := live_blk k8 1; have hg5 : g8 < w5.heap.size := blk_lt k8; have K9 := hide k8; have GB4 := hide gB4; (try (have k9 := (gB.block w4.heap.size (by simp)).trans (heap_new w4 (.cells #[.slice none 0 0, .int .i64 0] 41)); have e2 := (two_cells (Below.refl _ w5) k9).1; have e3 := (two_cells (Below.refl _ w5) k9).2; have f2 := live_blk k9 0; have f3 := live_blk k9 1; clear k9)); have HW := hide hW; have RD := hide (show RDisk _ RA RA2 w5 _ from ⟨gR, gF, gB⟩); clear gR gF gB k8 gB4 hW))
            all_goals go_wp2
            all_goals go_meet
            · case rel => exact ⟨rfl, next_one HP3.out HG.out HW4.out HW.out RD.out hc2 rfl GB4.out K9.out⟩
            · case rel => exact ⟨rfl, next_two HP3.out HG.out HW4.out HW.out RD.out hc2 rfl GB4.out K9.out (by simp)⟩
        obtain ⟨rfl, hN⟩ := hcut
        clear x0 x1 c0 c1 c2 e0 e1 f0 f1
        obtain ⟨A6, c6, RA6, rc6, RA2, rc2, ys, t, hB6, k8, hc2, gR, gA⟩ := hN
        obtain ⟨x0, x1⟩ := two_cells (Below.refl _ wc) hB6.2.1
        have y0 := live_blk hB6.2.1 0
        have y1 := live_blk hB6.2.1 1
        obtain ⟨e0, e1⟩ := two_cells (Below.refl _ wc) k8
        have HP9 := hide (play_of hB6 hc2 gR gA)
        have hbx := hB6.2.2.2.2.2.2.2.1
        clear hB6 k8 gR gA
        go_wp2_with fail
        generalize (wc.setCell ⟨Bx, 0, none⟩ (.slice RA2 xs'.length rc2)).setCell ⟨Bx, 1, none⟩ (.int .i64 s') = w9 at *
        clear x0 x1 y0 y1 e0 e1
        have BY := hide (fun (W : World) (hb : Below w9.heap.size w9 W) => bytes_next hb HP9.out.1 (m := xs'.length) rfl)
        have SY := hide (fun (W : World) (hb : Below w9.heap.size w9 W) => synced_any _ _ _ _ _ _ W (HP9.out.1.moved hb))
        have hd9 := (Below.refl w9.heap.size w9).drew
        have SS : Hid (∀ W, Below w9.heap.size w9 W → (Below w9.heap.size w9 W ∧ W.cell? ⟨Bx, 0, none⟩ = some (.slice RA2 xs'.length rc2) ∧ W.cell? ⟨Bx, 1, none⟩ = some (.int .i64 s') ∧ (convert 26 9 (.slice RA2 xs'.length rc2)).run Try.prog W = .ok (.string (strOfNums xs')) W)) := hide (fun W hb => ⟨hb, (two_cells hb HP9.out.2.1).1, (two_cells hb HP9.out.2.1).2, str_reads W RA2 _ rc2 xs' (HP9.out.2.2.2.1.below hb) rfl⟩)
        refine wp_region_held_drew (S := fun W => Below w9.heap.size w9 W ∧ W.cell? ⟨Bx, 0, none⟩ = some (.slice RA2 xs'.length rc2) ∧ W.cell? ⟨Bx, 1, none⟩ = some (.int .i64 s') ∧ (convert 26 9 (.slice RA2 xs'.length rc2)).run Try.prog W = .ok (.string (strOfNums xs')) W) (by kernel_rfl) (SS.out _ hd9) (fun hH => ?_)
        refine wpAnyH_take (i := 0) (v := ?v0) rfl (by kernel_rfl) (by kernel_rfl) (by kernel_rfl) (fun _ _ _ h => h) (Or.inl ⟨by rfl, ?y0⟩) hH ?r0
        case y0 => (intro W hSw; (try dsimp only at hSw); (try simp only [List.getElem_toArray, List.getElem_cons_zero]); go_simp; first | done | with_reducible rfl)
        try simp only [Act.put, List.getElem_toArray, List.getElem_cons_zero, List.setIfInBounds_toArray, List.set_cons_zero, List.set_cons_succ]
        refine wpAnyH_take (i := 1) (v := ?v1) rfl (by kernel_rfl) (by kernel_rfl) (by kernel_rfl) (fun _ _ _ h => h) (Or.inl ⟨by rfl, ?y1⟩) hH ?r1
        case y1 => (intro W hSw; (try dsimp only at hSw); (try simp only [List.getElem_toArray, List.getElem_cons_succ, List.getElem_cons_zero]); go_simp; first | done | with_reducible rfl)
        try simp only [Act.put, List.getElem_toArray, List.getElem_cons_succ, List.getElem_cons_zero, List.setIfInBounds_toArray, List.set_cons_zero, List.set_cons_succ]
        refine wpAnyH_take (i := 2) (v := ?v2) rfl (by kernel_rfl) (by kernel_rfl) (by kernel_rfl) (fun _ _ _ h => h) (Or.inl ⟨by rfl, ?y2⟩) hH ?r2
        case y2 => (intro W hSw; (try dsimp only at hSw); (try simp only [List.getElem_toArray, List.getElem_cons_succ, List.getElem_cons_zero]); go_simp; first | done | with_reducible rfl)
        try simp only [Act.put, List.getElem_toArray, List.getElem_cons_succ, List.getElem_cons_zero, List.setIfInBounds_toArray, List.set_cons_zero, List.set_cons_succ]
        refine wpAnyH_take (i := 3) (v := ?v3) rfl (by kernel_rfl) (by kernel_rfl) (by kernel_rfl) (fun _ _ _ h => h) (Or.inl ⟨by rfl, ?y3⟩) hH ?r3
        case y3 => (intro W hSw; (try dsimp only at hSw); (try simp only [List.getElem_toArray, List.getElem_cons_succ, List.getElem_cons_zero]); go_simp; first | done | with_reducible rfl)
        try simp only [Act.put, List.getElem_toArray, List.getElem_cons_succ, List.getElem_cons_zero, List.setIfInBounds_toArray, List.set_cons_zero, List.set_cons_succ]
        refine wpAnyH_take (i := 4) (v := ?v4) rfl (by kernel_rfl) (by kernel_rfl) (by kernel_rfl) (fun _ _ _ h => h) (Or.inl ⟨by rfl, ?y4⟩) hH ?r4
        case y4 => (intro W hSw; (try dsimp only at hSw); (try simp only [List.getElem_toArray, List.getElem_cons_succ, List.getElem_cons_zero]); go_simp; first | done | with_reducible rfl)
        try simp only [Act.put, List.getElem_toArray, List.getElem_cons_succ, List.getElem_cons_zero, List.setIfInBounds_toArray, List.set_cons_zero, List.set_cons_succ]
        refine wpAnyH_take (i := 7) (v := ?v7) rfl (by kernel_rfl) (by kernel_rfl) (by kernel_rfl) (fun _ _ _ h => h) (Or.inl ⟨by rfl, ?y7⟩) hH ?r7
        case y7 => (intro W hSw; (try dsimp only at hSw); (try simp only [List.getElem_toArray, List.getElem_cons_succ, List.getElem_cons_zero]); go_simp; first | done | with_reducible rfl)
        try simp only [Act.put, List.getElem_toArray, List.getElem_cons_succ, List.getElem_cons_zero, List.setIfInBounds_toArray, List.set_cons_zero, List.set_cons_succ]
        refine wpAnyH_take (i := 8) (v := ?v8) rfl (by kernel_rfl) (by kernel_rfl) (by kernel_rfl) (fun _ _ _ h => h) (Or.inl ⟨by rfl, ?y8⟩) hH ?r8
        case y8 => (intro W hSw; (try dsimp only at hSw); (try simp only [List.getElem_toArray, List.getElem_cons_succ, List.getElem_cons_zero]); go_simp; first | done | with_reducible rfl)
        try simp only [Act.put, List.getElem_toArray, List.getElem_cons_succ, List.getElem_cons_zero, List.setIfInBounds_toArray, List.set_cons_zero, List.set_cons_succ]
        refine wpAnyH_take (i := 9) (v := ?v9) rfl (by kernel_rfl) (by kernel_rfl) (by kernel_rfl) (fun _ _ _ h => h) (Or.inl ⟨by rfl, ?y9⟩) hH ?r9
        case y9 => (intro W hSw; (try dsimp only at hSw); (try simp only [List.getElem_toArray, List.getElem_cons_succ, List.getElem_cons_zero]); go_simp; first | done | with_reducible rfl)
        try simp only [Act.put, List.getElem_toArray, List.getElem_cons_succ, List.getElem_cons_zero, List.setIfInBounds_toArray, List.set_cons_zero, List.set_cons_succ]
        refine wpAnyH_ready (rs := [5]) (by kernel_rfl) (by simp) ?_
        refine AllReadyH.cons rfl (fun K hK => ?_) AllReadyH.nil
        simp only [List.getElem_toArray, List.getElem_cons_succ, List.getElem_cons_zero]
        go_simp
        refine (BY.out _ hd9).mono ?_
        rintro e w10 ⟨A10, c10, rfl, ⟨O10, q10⟩, hb10⟩
        clear O10
        refine hK.out _ _ (SS.out _ hb10) (fun hH2 => ?_)
        clear hK
        refine held_less (S' := fun W => W = w10) (fun W h => by subst h; exact SS.out _ hb10) ?_
        have hS3 : (fun W => W = w10) w10 := rfl
        refine wpAnyH_take (i := 6) (v := ?v6) rfl (by kernel_rfl) (by kernel_rfl) (by kernel_rfl) (fun _ _ _ h => h) (Or.inl ⟨by rfl, ?y6⟩) hS3 ?r6
        case y6 => (intro W hSw; ((try dsimp only at hSw); cases hSw); (try simp only [List.getElem_toArray, List.getElem_cons_succ, List.getElem_cons_zero]); go_simp; first | done | with_reducible rfl)
        try simp only [Act.put, List.getElem_toArray, List.getElem_cons_succ, List.getElem_cons_zero, List.setIfInBounds_toArray, List.set_cons_zero, List.set_cons_succ]
        refine wpAnyH_take (i := 10) (v := ?v10) rfl (by kernel_rfl) (by kernel_rfl) (by kernel_rfl) (fun _ _ _ h => h) (Or.inl ⟨by rfl, ?y10⟩) hS3 ?r10
        case y10 => (intro W hSw; ((try dsimp only at hSw); cases hSw); (try simp only [List.getElem_toArray, List.getElem_cons_succ, List.getElem_cons_zero]); go_simp; first | done | with_reducible rfl)
        try simp only [Act.put, List.getElem_toArray, List.getElem_cons_succ, List.getElem_cons_zero, List.setIfInBounds_toArray, List.set_cons_zero, List.set_cons_succ]
        refine wpAnyH_take (i := 11) (v := ?v11) rfl (by kernel_rfl) (by kernel_rfl) (by kernel_rfl) (fun _ _ _ h => h) (Or.inl ⟨by rfl, ?y11⟩) hS3 ?r11
        case y11 => (intro W hSw; ((try dsimp only at hSw); cases hSw); (try simp only [List.getElem_toArray, List.getElem_cons_succ, List.getElem_cons_zero]); go_simp; first | done | with_reducible rfl)
        try simp only [Act.put, List.getElem_toArray, List.getElem_cons_succ, List.getElem_cons_zero, List.setIfInBounds_toArray, List.set_cons_zero, List.set_cons_succ]
        refine wpAnyH_take (i := 12) (v := ?v12) rfl (by kernel_rfl) (by kernel_rfl) (by kernel_rfl) (fun _ _ _ h => h) (Or.inl ⟨by rfl, ?y12⟩) hS3 ?r12
        case y12 => (intro W hSw; ((try dsimp only at hSw); cases hSw); (try simp only [List.getElem_toArray, List.getElem_cons_succ, List.getElem_cons_zero]); go_simp; first | done | with_reducible rfl)
        try simp only [Act.put, List.getElem_toArray, List.getElem_cons_succ, List.getElem_cons_zero, List.setIfInBounds_toArray, List.set_cons_zero, List.set_cons_succ]
        refine wpAnyH_take (i := 13) (v := ?v13) rfl (by kernel_rfl) (by kernel_rfl) (by kernel_rfl) (fun _ _ _ h => h) (Or.inl ⟨by rfl, ?y13⟩) hS3 ?r13
        case y13 => (intro W hSw; ((try dsimp only at hSw); cases hSw); (try simp only [List.getElem_toArray, List.getElem_cons_succ, List.getElem_cons_zero]); go_simp; first | done | with_reducible rfl)
        try simp only [Act.put, List.getElem_toArray, List.getElem_cons_succ, List.getElem_cons_zero, List.setIfInBounds_toArray, List.set_cons_zero, List.set_cons_succ]
        refine wpAnyH_take (i := 15) (v := ?v15) rfl (by kernel_rfl) (by kernel_rfl) (by kernel_rfl) (fun _ _ _ h => h) (Or.inl ⟨by rfl, ?y15⟩) hS3 ?r15
        case y15 => (intro W hSw; ((try dsimp only at hSw); cases hSw); (try simp only [List.getElem_toArray, List.getElem_cons_succ, List.getElem_cons_zero]); go_simp; first | done | with_reducible rfl)
        try simp only [Act.put, List.getElem_toArray, List.getElem_cons_succ, List.getElem_cons_zero, List.setIfInBounds_toArray, List.set_cons_zero, List.set_cons_succ]
        refine wpAnyH_take (i := 16) (v := ?v16) rfl (by kernel_rfl) (by kernel_rfl) (by kernel_rfl) (fun _ _ _ h => h) (Or.inl ⟨by rfl, ?y16⟩) hS3 ?r16
        case y16 => (intro W hSw; ((try dsimp only at hSw); cases hSw); (try simp only [List.getElem_toArray, List.getElem_cons_succ, List.getElem_cons_zero]); go_simp; first | done | with_reducible rfl)
        try simp only [Act.put, List.getElem_toArray, List.getElem_cons_succ, List.getElem_cons_zero, List.setIfInBounds_toArray, List.set_cons_zero, List.set_cons_succ]
        refine wpAnyH_ready (rs := [14]) (by kernel_rfl) (by simp) ?_
        refine AllReadyH.cons rfl (fun K hK => ?_) AllReadyH.nil
        simp only [List.getElem_toArray, List.getElem_cons_succ, List.getElem_cons_zero]
        go_simp
        refine (SY.out _ hb10).mono ?_
        rintro e w11 ⟨rfl, rfl⟩
        refine hK.out _ _ rfl (fun hH3 => ?_)
        clear hK
        refine wpAnyH_take (i := 17) (v := ?v17) rfl (by kernel_rfl) (by kernel_rfl) (by kernel_rfl) (fun _ _ _ h => h) (Or.inl ⟨by rfl, ?y17⟩) hS3 ?r17
        case y17 => (intro W hSw; ((try dsimp only at hSw); cases hSw); (try simp only [List.getElem_toArray, List.getElem_cons_succ, List.getElem_cons_zero]); go_simp; first | done | with_reducible rfl)
        try simp only [Act.put, List.getElem_toArray, List.getElem_cons_succ, List.getElem_cons_zero, List.setIfInBounds_toArray, List.set_cons_zero, List.set_cons_succ]
        refine wpAnyH_take (i := 18) (v := ?v18) rfl (by kernel_rfl) (by kernel_rfl) (by kernel_rfl) (fun _ _ _ h => h) (Or.inl ⟨by rfl, ?y18⟩) hS3 ?r18
        case y18 => (intro W hSw; ((try dsimp only at hSw); cases hSw); (try simp only [List.getElem_toArray, List.getElem_cons_succ, List.getElem_cons_zero]); go_simp; first | done | with_reducible rfl)
        try simp only [Act.put, List.getElem_toArray, List.getElem_cons_succ, List.getElem_cons_zero, List.setIfInBounds_toArray, List.set_cons_zero, List.set_cons_succ]
        refine wpAnyH_done (by kernel_rfl) ?_ _
        have FIN := hide (HP9.out.below hb10)
        go_wp2
        go_roundw
        case rel => exact ⟨p + 1, xs', s', by omega, by go_num, _, _, _, _, FIN.out⟩
        case measure => simp [intOf]; omega
      · have h3 : ¬ (p : Int) < 100 := by omega
        have HB := hide HP.out.2.2.2.2.2.2.2.2
        go_wp2
        go_ret
        exact ⟨rfl, HB.out⟩
    · have h3 : decide ((p : Int) < (n : Int)) = false := by simp; omega
      have HB := hide HP.out.2.2.2.2.2.2.2.2
      go_wp2
      go_ret
      exact ⟨rfl, HB.out⟩

set_option maxRecDepth 100000 in
theorem diskPlays_lifted (os : Os) (started : os.Started) (H : Type) (enc : TypeId × Value → H) :
    ReturnsInHanded {} Try.checked os 7 .any (Rows.diskPlaysSpec.pre6 enc Try.prog Try.f7 Rows.diskPlaysRow.domain false) (Rows.diskPlaysSpec.post enc Try.prog Try.f7 false true false false) := by
  refine returnsInHanded_of_change_sized (C := Try.checked) (by kernel_rfl) started (by kernel_rfl) Try.func7
    (ChangeSpec.witness6 (enc := enc) (C := Try.checked) false ⟨#[], #[.slice none 0 0], []⟩ 8 (by kernel_rfl) (by kernel_rfl) (by kernel_rfl) (by kernel_rfl)) ?_
  intro W base args ds gs before hval0 hW _ hsz0 _
  have hval : ∀ (j : Nat) t v, Try.f7.params[j]? = some t → args[j]? = some v → Value.okWide Try.prog W .any base t v := hval0
  have hW' := hW
  obtain ⟨p, q, hA0, hV, rfl, _, _⟩ := hW
  have hA : DataW.TrodAll enc Try.prog W 0 (fun _ => true) true Try.f7.params.toList args.toList ds p := hA0
  have hsz : (DataW.weightsEach Try.prog (Try.f7.params.toList ++ Rows.diskPlaysSpec.plain.varTypes Try.prog) (ds ++ gs)).all (· ≤ reachBytes) = true := hsz0
  rw [Try.params7] at hA hval hsz
  obtain ⟨v0, d0, rfl, rfl, h0⟩ := trodAll_one hA
  obtain ⟨A0, cap0, n0, V, fuel, D, rfl, _, _, hR0, hel, hn0⟩ := open_rows Try.underlying22 (C := 3) (by kernel_rfl) (by omega) (hval 0 22 v0 rfl rfl) h0
  have hS0 : Sized Try.prog 22 d0 := sized_arg hsz (j := 0) rfl rfl
  have hSE : ∀ i, i < n0 → Sized Try.prog 29 (D i) := fun i hi => by rcases hn0 with h | ⟨el, sp, h1, _, h3⟩; omega; rw [h1] at hS0; exact hS0.elem Try.underlying22 (h3 i hi)
  obtain ⟨X, hV⟩ := chooseD (n := n0) (p := fun i (x : Deed) => V i = x.cells ∧ x.fine W) (fun i hi => deed_cells (hel i hi).1 (hel i hi).2.choose_spec (hSE i hi))
  have hR3 := hR0.congr (fun i hi => (hV i hi).1)
  refine (diskPlays_walk A0 n0 cap0 X W hR3 (fun i hi => (hV i hi).2)).mono fun e W' ⟨he, hb⟩ => ?_
  subst he
  exact ⟨_, rfl, post_law (by kernel_rfl) (by kernel_rfl) rfl hW' (by rintro _ rfl; rfl) rfl Try.underlying4 hb⟩

theorem diskPlays_holds : Rows.DiskPlaysSaid :=
  OpenClaim.holds_of_wide 7 Try.f7 rfl rfl rfl rfl rfl rfl rfl ⟨rfl, rfl, rfl, rfl, rfl⟩ rfl rfl rfl rfl rfl (by kernel_rfl) Try.func7 (by kernel_rfl)
    (of_decide_eq_true (by kernel_rfl)) (by unfold Func.isWrapper; first | (rw [if_pos (by decide +kernel)]; kernel_rfl) | (rw [if_neg (by decide +kernel)]; exact ⟨rfl, rfl⟩))
    (fun os started H enc _ => diskPlays_lifted os started H enc)

end Go.Proofs.Ytodlabpgjgbbpad
