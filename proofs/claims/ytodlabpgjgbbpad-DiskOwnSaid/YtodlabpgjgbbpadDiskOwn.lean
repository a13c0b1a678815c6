/-
  DiskOwn: what is told, and what is handed in, may be written over; the disk stays.
-/
import Derived.Test.YtodlabpgjgbbpadDiskAwake
import Derived.Test.YtodlabpgjgbbpadLaw
import Derived.Test.YtodlabpgjgbbpadRows
namespace Go.Proofs.Ytodlabpgjgbbpad
open Go.RowKit Go.Agio Go.ChangeShapes Go.WideShapes Go.ChangeAt

theorem bytes_at (base d : Nat) (xs : List Int) (s : Nat) (A : Option Addr) (c m : Nat) (w : World) (hD : Disk base w d xs s A c) (hm : xs.length = m) :
    Calls Try.prog 11 #[.pointer (some ⟨d, 0, none⟩)] w fun e w' => ∃ A' c', e = .returned (.slice A' m c') ∧ (w'.ownsRow w.heap.size 5 1 (.slice A' m c') m (bys xs) ∧ (convert 26 9 (.slice A' m c')).run Try.prog w' = .ok (.string (strOfNums xs)) w') ∧ Below w.heap.size w w' := by
  subst hm
  refine (bytes_any base d xs s A c w hD).mono ?_
  rintro e w' ⟨A', c', h1, h2, h3⟩
  exact ⟨A', c', h1, ⟨h2, str_reads w' A' _ c' xs (Reads.of_own h2) rfl⟩, h3⟩

theorem bytes_next {base d : Nat} {xs : List Int} {s : Nat} {A : Option Addr} {c m : Nat} {W w : World} (hb : Below W.heap.size W w) (hD : Disk base W d xs s A c) (hm : xs.length = m) :
    Calls Try.prog 11 #[.pointer (some ⟨d, 0, none⟩)] w fun e w' => ∃ A' c', e = .returned (.slice A' m c') ∧ (w'.ownsRow w.heap.size 5 1 (.slice A' m c') m (bys xs) ∧ (convert 26 9 (.slice A' m c')).run Try.prog w' = .ok (.string (strOfNums xs)) w') ∧ Below W.heap.size W w' := by
  refine (bytes_at base d xs s A c m w (hD.moved hb) hm).mono ?_
  rintro e w' ⟨A', c', h1, h2, h3⟩
  exact ⟨A', c', h1, h2, below_next hb h3⟩

/-- What holds of fewer worlds is more. -/
theorem wpAnyH_mono {P : Program} {md : Region.Mode} {ops : Array Oper} {Q : Exit → Act → World → Prop} {S S' : World → Prop} (hs : ∀ w, S' w → S w) : ∀ {fuel : Nat} {listed : Array Bool} {a : Act} {w : World}, wpAnyH P md ops Q S' fuel listed a w → wpAnyH P md ops Q S fuel listed a w
  | 0, _, _, _, h => h
  | _ + 1, _, _, _, h => ⟨h.1, fun i hi => wpOp_mono (fun _ _ h' => ⟨hs _ h'.1, wpAnyH_mono hs h'.2⟩) (h.2 i hi)⟩

/-- A row of bytes that may be written over. -/
def Cells8 (w : World) (A : Option Addr) (n : Nat) : Prop :=
  n = 0 ∨ ∃ g cur, A = some ⟨g, 0, none⟩ ∧ w.heap[g]? = some (.cells cur 5) ∧ ∀ j, j < n → ∃ v, cur[j]? = some (.int .u8 v)

theorem Cells8.of_own {w : World} {base : Nat} {A : Option Addr} {n c : Nat} {xs : List Int} (h : w.ownsRow base 5 1 (.slice A n c) n (bys xs)) : Cells8 w A n := by
  rcases h.2 with ⟨_, h0⟩ | ⟨g, cap, cur, he, _, hh, hnc, _, hcs, htake⟩
  · exact .inl h0
  · right
    injection he with he
    refine ⟨g, cur, he, hh, fun j hj => ?_⟩
    have hl : xs.length = n := by have := h.1; rw [List.length_map] at this; omega
    have h1 : (bys xs)[j]? = some (.int .u8 (xs.getD j 0)) := by
      have : j < xs.length := by omega
      simp [List.getD_eq_getElem?_getD, this]
    rw [← htake, List.getElem?_take, if_pos (by omega)] at h1
    exact ⟨xs.getD j 0, by simpa using h1⟩

theorem Cells8.set {w : World} {A : Option Addr} {n : Nat} (h : Cells8 w A n) (b o : Nat) (v : Int) : Cells8 (w.setCell ⟨b, o, none⟩ (.int .u8 v)) A n := by
  rcases h with h | ⟨g, cur, rfl, hh, hc⟩
  · exact .inl h
  · right
    by_cases hb : g = b
    · subst hb
      refine ⟨g, cur.setIfInBounds o (.int .u8 v), rfl, ?_, fun j hj => ?_⟩
      · simp [World.setCell, Array.getElem?_modify, hh]
      · rw [Array.getElem?_setIfInBounds]
        obtain ⟨u, hu⟩ := hc j hj
        by_cases he : o = j
        · subst he
          have : o < cur.size := (Array.getElem?_eq_some_iff.1 hu).1
          exact ⟨v, by simp [this]⟩
        · exact ⟨u, by simp [he, hu]⟩
    · exact ⟨g, cur, rfl, by rw [Below.heap_setCell _ _ _ _ hb]; exact hh, hc⟩

theorem Cells8.at_ {w : World} {A : Option Addr} {n : Nat} (h : Cells8 w A n) {k : Nat} (hk : k < n) : ∃ g v, A = some ⟨g, 0, none⟩ ∧ w.cell? ⟨g, k, none⟩ = some (.int .u8 v) ∧ w.frozen? ⟨g, k, none⟩ = false := by
  rcases h with h | ⟨g, cur, rfl, hh, hc⟩
  · omega
  · obtain ⟨v, hv⟩ := hc k hk
    exact ⟨g, v, rfl, by rw [cell_blk hh k, hv], by simp [World.frozen?, hh]⟩

theorem Cells8.moved {w w' : World} {A : Option Addr} {n : Nat} (h : Cells8 w A n) (hk : ∀ a : Addr, A = some a → w'.heap[a.block]? = w.heap[a.block]?) : Cells8 w' A n := by
  rcases h with h | ⟨g, cur, rfl, hh, hc⟩
  · exact .inl h
  · exact .inr ⟨g, cur, rfl, (hk ⟨g, 0, none⟩ rfl).trans hh, hc⟩

theorem Disk.set {base d : Nat} {w : World} {xs : List Int} {s c : Nat} {A : Option Addr} (h : Disk base w d xs s A c) {b : Nat} (hb : b ≠ d) (hA : ∀ a, A = some a → b ≠ a.block) (o : Nat) (v : Value) : Disk base (w.setCell ⟨b, o, none⟩ v) d xs s A c := by
  obtain ⟨h1, h2, h3, h4, h5, h6⟩ := h
  exact ⟨h1, (Below.heap_setCell _ _ _ _ (Ne.symm hb)).trans h2, h3.same (by simp [World.setCell]) (fun a ha => Below.heap_setCell _ _ _ _ (Ne.symm (hA a ha))), h4, h5, h6⟩

set_option maxRecDepth 100000 in
set_option maxHeartbeats 2000000 in
theorem diskOwn_walk (A : Option Addr) (cap : Nat) (zs : List Int) (w : World) (hR : Reads w A (bys zs)) (hm : zs.length ≤ 140737488351232) :
    Calls Try.prog 5 #[.slice A zs.length cap] w fun e w' => e = .returned (.bool true) ∧ Below w.heap.size w w' := by
  obtain ⟨i0, hi, hz0, hz1, hz2⟩ := info_parts info8
  have HR := hide hR
  clear hR
  by_cases hbig : 100000 < zs.length
  · go_enter Try.func5, Try.ntmps5
    go_wp2_with fail
    refine (awake_any _).mono ?_
    rintro e w1 ⟨rfl, hb1⟩
    go_wp2_with fail
    refine (new_any _).mono ?_
    rintro e w2 ⟨rfl, rfl⟩
    have hb0 := hb1.alloc hb1.size (.cells #[.slice none 0 0, .int .i64 0] 50)
    go_wp2
    go_ret
    exact ⟨rfl, hb0⟩
  · go_enter Try.func5, Try.ntmps5
    go_wp2_with fail
    refine (awake_any _).mono ?_
    rintro e w1 ⟨rfl, hb1⟩
    go_wp2_with fail
    refine (new_any _).mono ?_
    rintro e w2 ⟨rfl, rfl⟩
    obtain ⟨d, hd⟩ : ∃ d, d = w1.heap.size := ⟨_, rfl⟩
    have D0 := hide (disk_new w.heap.size w1 hb1.size)
    have hb0 := hide (hb1.alloc hb1.size (.cells #[.slice none 0 0, .int .i64 0] 50))
    have hwd : w.heap.size ≤ d := by rw [hd]; exact hb1.size
    generalize w1.alloc (.cells #[.slice none 0 0, .int .i64 0] 50) = W0 at *
    rw [← hd] at D0 ⊢
    clear hd hb1
    go_wp2_with (at_builtin; apply halted)
    refine unhalt (wpList_append_reads rfl (.tmp 23) (.tmp 24) 26 rfl W0.heap.size 5 i0 (.int .u8 0) 1 Try.underlying26 hi hz0 hz1 hz2 rfl _ 0 [] rfl (own_new W0 _ _ [] 0 (Nat.le_refl _) rfl (by unfold maxLen; omega)) A zs.length cap (bys zs) rfl ((HR.out.below hb0.out).alloc _) (by rw [List.length_map]) (ints_one _ _) (by unfold maxLen; omega) (by omega) (by simp) ?_)
    intro A5 c5 w5 n5 g5 t5
    rw [Nat.zero_add] at n5
    rw [Nat.zero_add]
    rw [List.nil_append] at n5
    have hW05 := hide (((Below.refl W0.heap.size W0).alloc (Nat.le_refl _) _).grown g5 (by simp) (fun g hg => by cases hg; exact Nat.le_refl _))
    have N5 := hide n5
    clear n5 g5 t5
    have hb5 := hide (below_next hb0.out hW05.out)
    have D5 := hide (D0.out.moved hW05.out)
    have R5 := hide (Reads.of_own N5.out)
    have P5 : Hid (∀ a : Addr, A5 = some a → W0.heap.size ≤ a.block ∧ a.block < w5.heap.size) := hide (fun a ha => by subst ha; exact ⟨(N5.out.lt a.block rfl).1, (N5.out.lt a.block rfl).2⟩)
    have hd0 := hide (blk_lt D0.out.2.1)
    go_wp2_with fail
    have X := append_any w.heap.size d [] 0 none 0 A5 zs.length c5 zs w5 D5.out R5.out rfl (by simp; omega)
    refine X.mono ?_
    clear X
    rintro e w7 ⟨rfl, A7, c7, D7, M7⟩
    have D7 : Hid (Disk w.heap.size w7 d zs 0 A7 c7) := hide D7
    have hb7 := hide (M7.below hb5.out hwd (by simp) hb5.out.size)
    have P7 : Hid (∀ a : Addr, A7 = some a → w5.heap.size ≤ a.block) := hide (fun a ha => by
      rcases M7.next a ha with ⟨a0, h, _⟩ | h
      · cases h
      · exact h)
    have C7 : Hid (Cells8 w7 A5 zs.length) := hide ((Cells8.of_own N5.out).moved (fun a ha => M7.rest _ (P5.out a ha).2 (by have := (P5.out a ha).1; have := hd0.out; omega) (by simp)))
    have Q7 := hide M7.size
    clear M7
    go_wp2_with fail
    refine (bytes_any _ _ _ _ _ _ _ D7.out).mono ?_
    rintro e w8 ⟨A8, c8, rfl, O8, hb8⟩
    have D8 := hide (D7.out.moved hb8)
    have hb8' := hide (below_next hb7.out hb8)
    have C8 := hide (C7.out.moved (fun a ha => hb8.block _ (Nat.lt_of_lt_of_le (P5.out a ha).2 Q7.out)))
    have E8 := hide (Cells8.of_own O8)
    have P8 : Hid (∀ a : Addr, A8 = some a → w7.heap.size ≤ a.block) := hide (fun a ha => by subst ha; exact (O8.lt a.block rfl).1)
    have L7 : Hid (∀ a : Addr, A7 = some a → a.block < w7.heap.size) := hide (fun a ha => (D7.out.2.2.1.low a ha).2)
    have hd7 := hide (blk_lt D7.out.2.1)
    have S0 := hide hb0.out.size
    clear O8 hb8
    go_wp2
    go_loopw [7] (fun i wr => ∃ p : Nat, p ≤ zs.length ∧ i = .int .i64 p ∧ Below w.heap.size w wr ∧ Disk w.heap.size wr d zs 0 A7 c7 ∧ Cells8 wr A5 zs.length ∧ Cells8 wr A8 zs.length) (fun i _ => zs.length - (intOf i).toNat)
    case atStart => exact ⟨0, Nat.zero_le _, rfl, hb8'.out, D8.out, C8.out, E8.out⟩
    case round =>
      obtain ⟨p, hp, rfl, hbr, hDr, hCr, hEr⟩ := hrel
      have HB := hide hbr; have HD := hide hDr; have HC := hide hCr; have HE := hide hEr
      clear hbr hDr hCr hEr
      by_cases hlt : p < zs.length
      · obtain ⟨g, v, rfl, hc, hf⟩ := HC.out.at_ hlt
        have C1 := fun o u => HC.out.set g o u
        have E1 := fun o u => HE.out.set g o u
        have hg := P5.out _ rfl
        have D1 := fun o u => HD.out.set (b := g) (by have := hd0.out; simp at hg; omega) (fun a ha => by have := P7.out a ha; simp at hg; omega) o u
        have B1 := fun o u => HB.out.setCell (p := ⟨g, o, none⟩) (by have := S0.out; simp at hg ⊢; omega) u
        obtain ⟨g', v', hA8, hc', hf'⟩ := (E1 p ((v + 1) % 256)).at_ hlt
        subst hA8
        have hg' := P8.out _ rfl
        have hne : g ≠ g' := by have := Q7.out; simp at hg hg'; omega
        have FIN : Hid (∀ u : Int, Below w.heap.size w ((wr.setCell ⟨g, p, none⟩ (.int .u8 ((v + 1) % 256))).setCell ⟨g', p, none⟩ (.int .u8 u)) ∧ Disk w.heap.size ((wr.setCell ⟨g, p, none⟩ (.int .u8 ((v + 1) % 256))).setCell ⟨g', p, none⟩ (.int .u8 u)) d zs 0 A7 c7 ∧ Cells8 ((wr.setCell ⟨g, p, none⟩ (.int .u8 ((v + 1) % 256))).setCell ⟨g', p, none⟩ (.int .u8 u)) (some ⟨g, 0, none⟩) zs.length ∧ Cells8 ((wr.setCell ⟨g, p, none⟩ (.int .u8 ((v + 1) % 256))).setCell ⟨g', p, none⟩ (.int .u8 u)) (some ⟨g', 0, none⟩) zs.length) := hide (fun u =>
          ⟨(B1 p _).setCell (p := ⟨g', p, none⟩) (by have := S0.out; have := Q7.out; simp at hg hg' ⊢; omega) _, (D1 p _).set (b := g') (by have := hd7.out; simp at hg'; omega) (fun a ha => by have := L7.out a ha; simp at hg'; omega) _ _, (C1 p _).set g' p u, (E1 p _).set g' p u⟩)
        clear C1 E1 D1 B1
        go_wp2
        go_roundw
        case rel => exact ⟨p + 1, by omega, by go_num, (FIN.out _).1, (FIN.out _).2.1, (FIN.out _).2.2.1, (FIN.out _).2.2.2⟩
        case measure => simp [intOf]; omega
      · obtain rfl : p = zs.length := by omega
        go_wp2_with fail
        refine (bytes_any _ _ _ _ _ _ _ HD.out).mono ?_
        rintro e w9 ⟨A9, c9, rfl, O9, hb9⟩
        have D9 := hide (HD.out.moved hb9)
        have hb9' := hide (below_next HB.out hb9)
        have N9 := hide (own_lower O9 (b := 0) (by omega))
        have P9 : Hid (∀ a : Addr, A9 = some a → wr.heap.size ≤ a.block) := hide (fun a ha => by subst ha; exact (O9.lt a.block rfl).1)
        have L9 := hide (show (∀ a : Addr, A7 = some a → a.block < wr.heap.size) ∧ d < wr.heap.size from ⟨fun a ha => (HD.out.2.2.1.low a ha).2, blk_lt HD.out.2.1⟩)
        clear O9 hb9
        go_wp2_with (at_builtin; apply halted)
        refine unhalt (wpList_append_reads rfl (.tmp 54) (.tmp 55) 26 rfl 0 5 i0 (.int .u8 0) 1 Try.underlying26 hi hz0 hz1 hz2 rfl _ zs.length (bys zs) rfl (N9.out.alloc _) (some ⟨w9.heap.size, 0, none⟩) 1 1 [.int .u8 7] rfl (Reads.new_at _ _ _ _ _ rfl) rfl (one_one _ rfl) (by unfold maxLen; omega) (by omega) (by simp) ?_)
        intro A10 c10 w10 n10 g10 t10
        have hbA := hide (hb9'.out.alloc hb9'.out.size (.cells #[.int .u8 7] 5))
        have hb10 := hide (hbA.out.grown g10 hbA.out.size (fun g hg => by
          cases A9 with
          | none => cases hg
          | some a => injection hg with hg; subst hg; have := P9.out a rfl; have := HB.out.size; omega))
        have D10 : Hid (Disk w.heap.size w10 d zs 0 A7 c7) := hide (by
          have DA := D9.out.moved ((Below.refl _ w9).alloc (Nat.le_refl _) (.cells #[.int .u8 7] 5))
          obtain ⟨h1, h2, h3, h4, h5, h6⟩ := DA
          have hx : ∀ j, j < wr.heap.size → some j ≠ Value.ownBlock (.slice A9 zs.length c9) := fun j hj he => by
            cases A9 with
            | none => cases he
            | some a => injection he with he; have := P9.out a rfl; omega
          exact ⟨h1, (g10.block d (blk_lt h2) (hx d L9.out.2)).trans h2, h3.same g10.size (fun a ha => g10.block _ (h3.low a ha).2 (hx _ (L9.out.1 a ha))), h4, h5, h6⟩)
        clear n10 g10 t10
        go_wp2_with fail
        have RA := HR.out.below hb10.out
        have q1 := str_reads w10.drew A zs.length cap zs RA rfl
        have HRB := hide RA
        clear RA
        have BY := hide (fun (W : World) (hb : Below w10.heap.size w10 W) => bytes_next hb D10.out (m := zs.length) rfl)
        have hd10 := (Below.refl w10.heap.size w10).drew
        refine wp_region_held_drew (S := fun W => Below w10.heap.size w10 W ∧ (convert 26 9 (.slice A zs.length cap)).run Try.prog W = .ok (.string (strOfNums zs)) W) (by kernel_rfl) ⟨hd10, q1⟩ (fun hH => ?_)
        refine wpAnyH_take (i := 0) (v := ?v0) rfl (by kernel_rfl) (by kernel_rfl) (by kernel_rfl) (fun _ _ _ h => h) (Or.inl ⟨by rfl, ?y0⟩) hH ?r0
        case y0 => (intro W hSw; (try dsimp only at hSw); (try simp only [List.getElem_toArray, List.getElem_cons_zero]); go_simp; first | done | with_reducible rfl)
        try simp only [Act.put, List.getElem_toArray, List.getElem_cons_zero, List.setIfInBounds_toArray, List.set_cons_zero, List.set_cons_succ]
        refine wpAnyH_take (i := 1) (v := ?v1) rfl (by kernel_rfl) (by kernel_rfl) (by kernel_rfl) (fun _ _ _ h => h) (Or.inl ⟨by rfl, ?y1⟩) hH ?r1
        case y1 => (intro W hSw; (try dsimp only at hSw); (try simp only [List.getElem_toArray, List.getElem_cons_succ, List.getElem_cons_zero]); go_simp; first | done | with_reducible rfl)
        try simp only [Act.put, List.getElem_toArray, List.getElem_cons_succ, List.getElem_cons_zero, List.setIfInBounds_toArray, List.set_cons_zero, List.set_cons_succ]
        refine wpAnyH_take (i := 2) (v := ?v2) rfl (by kernel_rfl) (by kernel_rfl) (by kernel_rfl) (fun _ _ _ h => h) (Or.inl ⟨by rfl, ?y2⟩) hH ?r2
        case y2 => (intro W hSw; (try dsimp only at hSw); (try simp only [List.getElem_toArray, List.getElem_cons_succ, List.getElem_cons_zero]); go_simp; first | done | with_reducible rfl)
        try simp only [Act.put, List.getElem_toArray, List.getElem_cons_succ, List.getElem_cons_zero, List.setIfInBounds_toArray, List.set_cons_zero, List.set_cons_succ]
        refine wpAnyH_take (i := 5) (v := ?v5) rfl (by kernel_rfl) (by kernel_rfl) (by kernel_rfl) (fun _ _ _ h => h) (Or.inl ⟨by rfl, ?y5⟩) hH ?r5
        case y5 => (intro W hSw; (try dsimp only at hSw); (try simp only [List.getElem_toArray, List.getElem_cons_succ, List.getElem_cons_zero]); go_simp; first | done | with_reducible rfl)
        try simp only [Act.put, List.getElem_toArray, List.getElem_cons_succ, List.getElem_cons_zero, List.setIfInBounds_toArray, List.set_cons_zero, List.set_cons_succ]
        refine wpAnyH_take (i := 6) (v := ?v6) rfl (by kernel_rfl) (by kernel_rfl) (by kernel_rfl) (fun _ _ _ h => h) (Or.inl ⟨by rfl, ?y6⟩) hH ?r6
        case y6 => (intro W hSw; (try dsimp only at hSw); (try simp only [List.getElem_toArray, List.getElem_cons_succ, List.getElem_cons_zero]); go_simp; first | done | with_reducible rfl)
        try simp only [Act.put, List.getElem_toArray, List.getElem_cons_succ, List.getElem_cons_zero, List.setIfInBounds_toArray, List.set_cons_zero, List.set_cons_succ]
        have hw : IntKind.i64.wrap ((zs.length : Int) + 1) = (zs.length : Int) + 1 := by
          have h0 := hbig
          simp [IntKind.wrap, IntKind.bits, IntKind.signed]
          omega
        refine wpAnyH_ready (rs := [3]) (by kernel_rfl) (by simp) ?_
        refine AllReadyH.cons rfl (fun K hK => ?_) AllReadyH.nil
        simp only [List.getElem_toArray, List.getElem_cons_succ, List.getElem_cons_zero]
        go_simp
        refine (BY.out _ hd10).mono ?_
        rintro e w11 ⟨A11, c11, rfl, ⟨O11, q11⟩, hb11⟩
        clear O11
        have q4 := str_reads w11 A zs.length cap zs (HRB.out.below hb11) rfl
        refine hK.out _ _ ⟨hb11, q4⟩ (fun hH2 => ?_)
        clear hK
        refine wpAnyH_mono (S' := fun W => W = w11) (fun W h => by subst h; exact ⟨hb11, q4⟩) ?_
        have hS3 : (fun W => W = w11) w11 := rfl
        refine wpAnyH_take (i := 4) (v := ?v4) rfl (by kernel_rfl) (by kernel_rfl) (by kernel_rfl) (fun _ _ _ h => h) (Or.inl ⟨by rfl, ?y4⟩) hS3 ?r4
        case y4 => (intro W hSw; ((try dsimp only at hSw); cases hSw); (try simp only [List.getElem_toArray, List.getElem_cons_succ, List.getElem_cons_zero]); go_simp; first | done | with_reducible rfl)
        try simp only [Act.put, List.getElem_toArray, List.getElem_cons_succ, List.getElem_cons_zero, List.setIfInBounds_toArray, List.set_cons_zero, List.set_cons_succ]
        refine wpAnyH_take (i := 7) (v := ?v7) rfl (by kernel_rfl) (by kernel_rfl) (by kernel_rfl) (fun _ _ _ h => h) (Or.inl ⟨by rfl, ?y7⟩) hS3 ?r7
        case y7 => (intro W hSw; ((try dsimp only at hSw); cases hSw); (try simp only [List.getElem_toArray, List.getElem_cons_succ, List.getElem_cons_zero]); go_simp; first | done | with_reducible rfl)
        try simp only [Act.put, List.getElem_toArray, List.getElem_cons_succ, List.getElem_cons_zero, List.setIfInBounds_toArray, List.set_cons_zero, List.set_cons_succ]
        refine wpAnyH_take (i := 8) (v := ?v8) rfl (by kernel_rfl) (by kernel_rfl) (by kernel_rfl) (fun _ _ _ h => h) (Or.inl ⟨by rfl, ?y8⟩) hS3 ?r8
        case y8 => (intro W hSw; ((try dsimp only at hSw); cases hSw); (try simp only [List.getElem_toArray, List.getElem_cons_succ, List.getElem_cons_zero]); go_simp; first | done | with_reducible rfl)
        try simp only [Act.put, List.getElem_toArray, List.getElem_cons_succ, List.getElem_cons_zero, List.setIfInBounds_toArray, List.set_cons_zero, List.set_cons_succ]
        refine wpAnyH_take (i := 9) (v := ?v9) rfl (by kernel_rfl) (by kernel_rfl) (by kernel_rfl) (fun _ _ _ h => h) (Or.inl ⟨by rfl, ?y9⟩) hS3 ?r9
        case y9 => (intro W hSw; ((try dsimp only at hSw); cases hSw); (try simp only [List.getElem_toArray, List.getElem_cons_succ, List.getElem_cons_zero]); go_simp; first | done | with_reducible rfl)
        try simp only [Act.put, List.getElem_toArray, List.getElem_cons_succ, List.getElem_cons_zero, List.setIfInBounds_toArray, List.set_cons_zero, List.set_cons_succ]
        refine wpAnyH_take (i := 10) (v := ?v10) rfl (by kernel_rfl) (by kernel_rfl) (by kernel_rfl) (fun _ _ _ h => h) (Or.inl ⟨by rfl, ?y10⟩) hS3 ?r10
        case y10 => (intro W hSw; ((try dsimp only at hSw); cases hSw); (try simp only [List.getElem_toArray, List.getElem_cons_succ, List.getElem_cons_zero]); go_simp; first | done | with_reducible rfl)
        try simp only [Act.put, List.getElem_toArray, List.getElem_cons_succ, List.getElem_cons_zero, List.setIfInBounds_toArray, List.set_cons_zero, List.set_cons_succ]
        refine wpAnyH_take (i := 11) (v := ?v11) rfl (by kernel_rfl) (by kernel_rfl) (by kernel_rfl) (fun _ _ _ h => h) (Or.inl ⟨by rfl, ?y11⟩) hS3 ?r11
        case y11 => (intro W hSw; ((try dsimp only at hSw); cases hSw); (try simp only [List.getElem_toArray, List.getElem_cons_succ, List.getElem_cons_zero]); go_simp; first | done | with_reducible rfl)
        try simp only [Act.put, List.getElem_toArray, List.getElem_cons_succ, List.getElem_cons_zero, List.setIfInBounds_toArray, List.set_cons_zero, List.set_cons_succ]
        refine wpAnyH_take (i := 12) (v := ?v12) rfl (by kernel_rfl) (by kernel_rfl) (by kernel_rfl) (fun _ _ _ h => h) (Or.inl ⟨by rfl, ?y12⟩) hS3 ?r12
        case y12 => (intro W hSw; ((try dsimp only at hSw); cases hSw); (try simp only [List.getElem_toArray, List.getElem_cons_succ, List.getElem_cons_zero]); go_simp; first | done | with_reducible rfl)
        try simp only [Act.put, List.getElem_toArray, List.getElem_cons_succ, List.getElem_cons_zero, List.setIfInBounds_toArray, List.set_cons_zero, List.set_cons_succ]
        refine wpAnyH_take (i := 13) (v := ?v13) rfl (by kernel_rfl) (by kernel_rfl) (by kernel_rfl) (fun _ _ _ h => h) (Or.inl ⟨by rfl, ?y13⟩) hS3 ?r13
        case y13 => (intro W hSw; ((try dsimp only at hSw); cases hSw); (try simp only [List.getElem_toArray, List.getElem_cons_succ, List.getElem_cons_zero]); go_simp; first | done | with_reducible rfl)
        try simp only [Act.put, List.getElem_toArray, List.getElem_cons_succ, List.getElem_cons_zero, List.setIfInBounds_toArray, List.set_cons_zero, List.set_cons_succ]
        refine wpAnyH_take (i := 14) (v := ?v14) rfl (by kernel_rfl) (by kernel_rfl) (by kernel_rfl) (fun _ _ _ h => h) (Or.inl ⟨by rfl, ?y14⟩) hS3 ?r14
        case y14 => (intro W hSw; ((try dsimp only at hSw); cases hSw); (try simp only [List.getElem_toArray, List.getElem_cons_succ, List.getElem_cons_zero]); go_simp; first | done | with_reducible rfl)
        try simp only [Act.put, List.getElem_toArray, List.getElem_cons_succ, List.getElem_cons_zero, List.setIfInBounds_toArray, List.set_cons_zero, List.set_cons_succ]
        refine wpAnyH_take (i := 15) (v := ?v15) rfl (by kernel_rfl) (by kernel_rfl) (by kernel_rfl) (fun _ _ _ h => h) (Or.inl ⟨by rfl, ?y15⟩) hS3 ?r15
        case y15 => (intro W hSw; ((try dsimp only at hSw); cases hSw); (try simp only [List.getElem_toArray, List.getElem_cons_succ, List.getElem_cons_zero]); go_simp; first | done | with_reducible rfl)
        try simp only [Act.put, List.getElem_toArray, List.getElem_cons_succ, List.getElem_cons_zero, List.setIfInBounds_toArray, List.set_cons_zero, List.set_cons_succ]
        refine wpAnyH_take (i := 16) (v := ?v16) rfl (by kernel_rfl) (by kernel_rfl) (by kernel_rfl) (fun _ _ _ h => h) (Or.inl ⟨by rfl, ?y16⟩) hS3 ?r16
        case y16 => (intro W hSw; ((try dsimp only at hSw); cases hSw); (try simp only [List.getElem_toArray, List.getElem_cons_succ, List.getElem_cons_zero]); go_simp; first | done | with_reducible rfl)
        try simp only [Act.put, List.getElem_toArray, List.getElem_cons_succ, List.getElem_cons_zero, List.setIfInBounds_toArray, List.set_cons_zero, List.set_cons_succ]
        refine wpAnyH_take (i := 17) (v := ?v17) rfl (by kernel_rfl) (by kernel_rfl) (by kernel_rfl) (fun _ _ _ h => h) (Or.inl ⟨by rfl, ?y17⟩) hS3 ?r17
        case y17 => (intro W hSw; ((try dsimp only at hSw); cases hSw); (try simp only [List.getElem_toArray, List.getElem_cons_succ, List.getElem_cons_zero]); go_simp; first | done | with_reducible rfl)
        try simp only [Act.put, List.getElem_toArray, List.getElem_cons_succ, List.getElem_cons_zero, List.setIfInBounds_toArray, List.set_cons_zero, List.set_cons_succ]
        refine wpAnyH_done (by kernel_rfl) ?_ _
        go_wp2
        go_ret
        exact ⟨by simp, below_next hb10.out hb11⟩

set_option maxRecDepth 100000 in
theorem diskOwn_lifted (os : Os) (started : os.Started) (H : Type) (enc : TypeId × Value → H) :
    ReturnsInHanded {} Try.checked os 5 .any (Rows.diskOwnSpec.pre6 enc Try.prog Try.f5 Rows.diskOwnRow.domain false) (Rows.diskOwnSpec.post enc Try.prog Try.f5 false true false false) := by
  refine returnsInHanded_of_change_sized (C := Try.checked) (by kernel_rfl) started (by kernel_rfl) Try.func5
    (ChangeSpec.witness6 (enc := enc) (C := Try.checked) false ⟨#[], #[.slice none 0 0], []⟩ 8 (by kernel_rfl) (by kernel_rfl) (by kernel_rfl) (by kernel_rfl)) ?_
  intro W base args ds gs before hval0 hW _ hsz0 _
  have hval : ∀ (j : Nat) t v, Try.f5.params[j]? = some t → args[j]? = some v → Value.okWide Try.prog W .any base t v := hval0
  have hW' := hW
  obtain ⟨p, q, hA0, hV, rfl, _, _⟩ := hW
  have hA : DataW.TrodAll enc Try.prog W 0 (fun _ => true) true Try.f5.params.toList args.toList ds p := hA0
  have hsz : (DataW.weightsEach Try.prog (Try.f5.params.toList ++ Rows.diskOwnSpec.plain.varTypes Try.prog) (ds ++ gs)).all (· ≤ reachBytes) = true := hsz0
  rw [Try.params5] at hA hval hsz
  obtain ⟨v0, d0, rfl, rfl, h0⟩ := trodAll_one hA
  obtain ⟨A0, cap0, z0, rfl, hcap0, hm0, hR0, hwf0, hn0⟩ := open_nums Try.underlying26 Try.underlying5 (by kernel_rfl) (hval 0 26 v0 rfl rfl) h0
  have hreach0 := reach_nums (m := 1) hsz (j := 0) (t := 26) rfl rfl Try.underlying26 hn0 (by kernel_rfl)
  have bd0 := fun z hz => bounds_u8 (hwf0 z hz)
  refine (diskOwn_walk _ _ _ _ hR0 (by have := hm0; omega)).mono fun e W' ⟨he, hb⟩ => ?_
  subst he
  exact ⟨_, rfl, post_law (by kernel_rfl) (by kernel_rfl) rfl hW' (by rintro _ rfl; rfl) rfl Try.underlying4 hb⟩

theorem diskOwn_holds : Rows.DiskOwnSaid :=
  OpenClaim.holds_of_wide 5 Try.f5 rfl rfl rfl rfl rfl rfl rfl ⟨rfl, rfl, rfl, rfl, rfl⟩ rfl rfl rfl rfl rfl (by kernel_rfl) Try.func5 (by kernel_rfl)
    (of_decide_eq_true (by kernel_rfl)) (by unfold Func.isWrapper; first | (rw [if_pos (by decide +kernel)]; kernel_rfl) | (rw [if_neg (by decide +kernel)]; exact ⟨rfl, rfl⟩))
    (fun os started H enc _ => diskOwn_lifted os started H enc)
end Go.Proofs.Ytodlabpgjgbbpad
