/-
  DiskCuts: what is cut is gone, what is left is as it was; appended again it stands as it did.
-/
import Derived.Test.YtodlabpgjgbbpadDiskAwake
import Derived.Test.YtodlabpgjgbbpadHeld
import Derived.Test.YtodlabpgjgbbpadLaw
import Derived.Test.YtodlabpgjgbbpadRows
namespace Go.Proofs.Ytodlabpgjgbbpad
open Go.RowKit Go.Agio Go.ChangeShapes Go.WideShapes Go.ChangeAt

theorem bytes_at (base d : Nat) (xs : List Int) (s : Nat) (A : Option Addr) (c m : Nat) (w : World) (hD : Disk base w d xs s A c) (hm : xs.length = m) :
    Calls Try.prog 11 #[.pointer (some ⟨d, 0, none⟩)] w fun e w' => ∃ A' c', e = .returned (.slice A' m c') ∧ (w'.ownsRow w.heap.size 5 1 (.slice A' m c') m (bys xs) ∧ (convert 26 9 (.slice A' m c')).run Try.prog w' = .ok (.string (strOfNums xs)) w') ∧ Below w.heap.size w w' := by
  subst hm
  refine (bytes_any base d xs s A c w hD).mono ?_
  rintro e w' ⟨A', c', h1, h2, h3⟩
  exact ⟨A', c', h1, ⟨h2, str_reads w' A' _ c' xs (Reads.of_own h2) rfl⟩, h3⟩

theorem bytes_next {base d : Nat} {xs : List Int} {s : Nat} {A : Option Addr} {c m : Nat} {W w : World} (hb : Below W.heap.size W w) (hD : Disk base W d xs s A c) (hm : xs.length = m) :
    Calls Try.prog 11 #[.pointer (some ⟨d, 0, none⟩)] w fun e w' => ∃ A' c', e = .returned (.slice A' m c') ∧ (w'.ownsRow w.heap.size 5 1 (.slice A' m c') m (bys xs) ∧ (convert 26 9 (.slice A' m c')).run Try.prog w' = .ok (.string (strOfNums xs)) w') ∧ Below W.heap.size W w' := by
  refine (bytes_at base d xs s A c m w (hD.moved hb) hm).mono ?_
  rintro e w' ⟨A', c', h1, h2, h3⟩
  exact ⟨A', c', h1, h2, below_next hb h3⟩

/-- What the last question reads of memory. -/
theorem two_strs {W w1 : World} {A B : Option Addr} {n c m k : Nat} {xs ys : List Int} (hA : Reads W A (bys xs)) (hB : Reads W B (bys ys)) (hn : xs.length = n) (hm : ys.length = m) (hb : Below W.heap.size W w1) :
    Below W.heap.size W w1 ∧ (convert 26 9 (.slice A n c)).run Try.prog w1 = .ok (.string (strOfNums xs)) w1 ∧ (convert 26 9 (.slice B m k)).run Try.prog w1 = .ok (.string (strOfNums ys)) w1 :=
  ⟨hb, str_reads w1 A n c xs (hA.below hb) hn, str_reads w1 B m k ys (hB.below hb) hm⟩

theorem three_strs {W w1 : World} {A B C : Option Addr} {n c m k p j : Nat} {xs ys zs : List Int} (hA : Reads W A (bys xs)) (hB : Reads W B (bys ys)) (hC : Reads W C (bys zs)) (hn : xs.length = n) (hm : ys.length = m) (hp : zs.length = p) (hb : Below W.heap.size W w1) :
    Below W.heap.size W w1 ∧ (convert 26 9 (.slice A n c)).run Try.prog w1 = .ok (.string (strOfNums xs)) w1 ∧ (convert 26 9 (.slice B m k)).run Try.prog w1 = .ok (.string (strOfNums ys)) w1 ∧ (convert 26 9 (.slice C p j)).run Try.prog w1 = .ok (.string (strOfNums zs)) w1 :=
  ⟨hb, str_reads w1 A n c xs (hA.below hb) hn, str_reads w1 B m k ys (hB.below hb) hm, str_reads w1 C p j zs (hC.below hb) hp⟩

set_option maxRecDepth 100000 in
set_option maxHeartbeats 2000000 in
theorem diskCuts_walk (A : Option Addr) (cap : Nat) (zs : List Int) (n : Int) (k : Nat) (w : World) (hn : 0 ≤ n ∧ n ≤ 65535) (hk : n % ((zs.length : Int) + 1) = (k : Int)) (hkn : k ≤ zs.length) (hcap : zs.length ≤ cap) (hR : Reads w A (bys zs)) (hm : zs.length ≤ 140737488351232) :
    Calls Try.prog 6 #[.slice A zs.length cap, .int .u16 n] w fun e w' => e = .returned (.bool true) ∧ Below w.heap.size w w' := by
  obtain ⟨hn0, hn1⟩ := hn
  obtain ⟨A3, m3, k3, hm3, hk3, hs3, c3⟩ := cut_l 26 elem8 size8 A zs.length cap k hkn hcap
  have hs1 := cut_h 26 elem8 size8 A zs.length cap k (by omega)
  have R3 := hide (c3 w _ hR (by simp))
  rw [← List.map_drop] at R3
  have R1 := hide (hR.take k)
  rw [← List.map_take] at R1
  have L1 := hide (show (zs.take k).length = k by simp; omega)
  have L3 := hide (show (zs.drop k).length = m3 by simp; omega)
  have LT := hide (List.take_append_drop k zs)
  have HR := hide hR
  have hm3' := hide (show k + m3 = zs.length by omega)
  clear hR c3 hm3 hk3
  by_cases hbig : 100000 < zs.length
  · go_enter Try.func6, Try.ntmps6
    go_wp2_with fail
    refine (awake_any _).mono ?_
    rintro e w1 ⟨rfl, hb1⟩
    go_wp2_with fail
    refine (new_any _).mono ?_
    rintro e w2 ⟨rfl, rfl⟩
    have hb0 := hb1.alloc hb1.size (.cells #[.slice none 0 0, .int .i64 0] 50)
    go_wp2
    go_ret
    exact ⟨rfl, hb0⟩
  · go_enter Try.func6, Try.ntmps6
    go_wp2_with fail
    refine (awake_any _).mono ?_
    rintro e w1 ⟨rfl, hb1⟩
    go_wp2_with fail
    refine (new_any _).mono ?_
    rintro e w2 ⟨rfl, rfl⟩
    obtain ⟨d, hd⟩ : ∃ d, d = w1.heap.size := ⟨_, rfl⟩
    have D0 := hide (disk_new w.heap.size w1 hb1.size)
    have hb0 := hide (hb1.alloc hb1.size (.cells #[.slice none 0 0, .int .i64 0] 50))
    have hwd : w.heap.size ≤ d := by rw [hd]; exact hb1.size
    generalize w1.alloc (.cells #[.slice none 0 0, .int .i64 0] 50) = W0 at *
    rw [← hd] at D0 ⊢
    clear hd hb1
    go_wp2_with fail
    rw [hk]
    clear hk
    have hroom : ([] : List Int).length + zs.length ≤ 1048576 := by simp; omega
    have X := append_any w.heap.size d [] 0 none 0 A zs.length cap zs W0 D0.out (HR.out.below hb0.out) rfl hroom
    refine X.mono ?_
    clear X
    rintro e w2 ⟨rfl, A2, c2, D2, M2⟩
    have hb2 := hide (M2.below hb0.out hwd (by simp) hb0.out.size)
    have D2 : Hid (Disk w.heap.size w2 d zs 0 A2 c2) := hide D2
    go_wp2_with fail
    refine (sync_any _ _ _ _ _ _ _ D2.out).mono ?_
    rintro e w3 ⟨rfl, D3, M3⟩
    have hb3 := hide (M3.below hb2.out hwd (fun a ha => (D2.out.2.2.1.low a ha).1) hb2.out.size)
    have D3 := hide D3
    go_wp2_with fail
    refine (cut_any _ _ _ _ k _ _ _ D3.out hkn).mono ?_
    rintro e w4 ⟨rfl, c4, D4, M4⟩
    have hb4 := hide (M4.below hb3.out hwd (fun a ha => (D3.out.2.2.1.low a ha).1) hb3.out.size)
    rw [Nat.min_eq_right hkn] at D4
    have D4 := hide D4
    go_wp2_with fail
    refine (bytes_at _ _ _ _ _ _ k _ D4.out L1.out).mono ?_
    rintro e w5 ⟨A5, c5, rfl, O5, hb5⟩
    have hb5' := hide (below_next hb4.out hb5)
    have D5 := hide (D4.out.moved hb5)
    have R5 := hide (Reads.of_own O5.1)
    have P5 : Hid (∀ a, A5 = some a → w4.heap.size ≤ a.block) := hide (fun a ha => by subst ha; exact (O5.1.lt a.block rfl).1)
    have Q5 : Hid (d < w4.heap.size ∧ ∀ a, A2 = some a → a.block < w4.heap.size) := hide ⟨blk_lt D4.out.2.1, fun a ha => (D4.out.2.2.1.low a ha).2⟩
    clear O5 hb5
    go_wp2_with fail
    refine (synced_any _ _ _ _ _ _ _ D5.out).mono ?_
    rintro e w6 ⟨rfl, rfl⟩
    go_wp2_with fail
    have hroom : (zs.take k).length + m3 ≤ 1048576 := by rw [L1.out]; have := hm3'.out; omega
    have X := append_any _ _ _ _ _ _ A3 m3 k3 (zs.drop k) _ D5.out (R3.out.below hb5'.out) L3.out hroom
    refine X.mono ?_
    clear X
    rintro e w7 ⟨rfl, A7, c7, D7, M7⟩
    rw [LT.out] at D7
    have hb7 := hide (M7.below hb5'.out hwd (fun a ha => (D5.out.2.2.1.low a ha).1) hb5'.out.size)
    have R7 := hide (M7.reads R5.out (fun a ha => by have := P5.out a ha; have := Q5.out.1; omega) (fun a b ha hb => by have := P5.out a ha; have := Q5.out.2 b hb; omega))
    have D7 := hide D7
    have RB := hide (HR.out.below hb7.out)
    have RK := hide (R1.out.below hb7.out)
    clear M2 M3 M4 M7
    go_wp2_with fail
    have X := cut_bad _ _ _ _ ((zs.length : Int) + 1) _ _ _ D7.out (.inr (by omega))
    refine X.mono ?_
    clear X
    rintro e w8 ⟨rfl, rfl⟩
    have BY := hide (fun (W : World) (hb : Below w7.heap.size w7 W) => bytes_next hb D7.out (m := zs.length) rfl)
    have SY := hide (fun (W : World) (hb : Below w7.heap.size w7 W) => synced_any _ _ _ _ _ _ W (D7.out.moved hb))
    go_wp2_with fail
    have hd7 := (Below.refl w7.heap.size w7).drew
    refine wp_region_held_drew (S := fun W => Below w7.heap.size w7 W ∧ (convert 26 9 (.slice A5 k c5)).run Try.prog W = .ok (.string (strOfNums (zs.take k))) W ∧ (convert 26 9 (.slice A k cap)).run Try.prog W = .ok (.string (strOfNums (zs.take k))) W ∧ (convert 26 9 (.slice A zs.length cap)).run Try.prog W = .ok (.string (strOfNums zs)) W) (by kernel_rfl) (three_strs R7.out RK.out RB.out L1.out L1.out rfl hd7) (fun hH => ?_)
    refine wpAnyH_take (i := 0) (v := ?v0) rfl (by kernel_rfl) (by kernel_rfl) (by kernel_rfl) (fun _ _ _ h => h) (Or.inl ⟨by rfl, ?y0⟩) hH ?r0
    case y0 => (intro W hSw; (try dsimp only at hSw); (try simp only [List.getElem_toArray, List.getElem_cons_zero]); go_simp; first | done | with_reducible rfl)
    try simp only [Act.put, List.getElem_toArray, List.getElem_cons_zero, List.setIfInBounds_toArray, List.set_cons_zero, List.set_cons_succ]
    refine wpAnyH_take (i := 1) (v := ?v1) rfl (by kernel_rfl) (by kernel_rfl) (by kernel_rfl) (fun _ _ _ h => h) (Or.inl ⟨by rfl, ?y1⟩) hH ?r1
    case y1 => (intro W hSw; (try dsimp only at hSw); (try simp only [List.getElem_toArray, List.getElem_cons_succ, List.getElem_cons_zero]); go_simp; first | done | with_reducible rfl)
    try simp only [Act.put, List.getElem_toArray, List.getElem_cons_succ, List.getElem_cons_zero, List.setIfInBounds_toArray, List.set_cons_zero, List.set_cons_succ]
    refine wpAnyH_take (i := 2) (v := ?v2) rfl (by kernel_rfl) (by kernel_rfl) (by kernel_rfl) (fun _ _ _ h => h) (Or.inl ⟨by rfl, ?y2⟩) hH ?r2
    case y2 => (intro W hSw; (try dsimp only at hSw); (try simp only [List.getElem_toArray, List.getElem_cons_succ, List.getElem_cons_zero]); go_simp; first | done | with_reducible rfl)
    try simp only [Act.put, List.getElem_toArray, List.getElem_cons_succ, List.getElem_cons_zero, List.setIfInBounds_toArray, List.set_cons_zero, List.set_cons_succ]
    refine wpAnyH_take (i := 3) (v := ?v3) rfl (by kernel_rfl) (by kernel_rfl) (by kernel_rfl) (fun _ _ _ h => h) (Or.inl ⟨by rfl, ?y3⟩) hH ?r3
    case y3 => (intro W hSw; (try dsimp only at hSw); (try simp only [List.getElem_toArray, List.getElem_cons_succ, List.getElem_cons_zero]); go_simp; first | done | with_reducible rfl)
    try simp only [Act.put, List.getElem_toArray, List.getElem_cons_succ, List.getElem_cons_zero, List.setIfInBounds_toArray, List.set_cons_zero, List.set_cons_succ]
    refine wpAnyH_take (i := 4) (v := ?v4) rfl (by kernel_rfl) (by kernel_rfl) (by kernel_rfl) (fun _ _ _ h => h) (Or.inl ⟨by rfl, ?y4⟩) hH ?r4
    case y4 => (intro W hSw; (try dsimp only at hSw); (try simp only [List.getElem_toArray, List.getElem_cons_succ, List.getElem_cons_zero]); go_simp; first | done | with_reducible rfl)
    try simp only [Act.put, List.getElem_toArray, List.getElem_cons_succ, List.getElem_cons_zero, List.setIfInBounds_toArray, List.set_cons_zero, List.set_cons_succ]
    refine wpAnyH_take (i := 5) (v := ?v5) rfl (by kernel_rfl) (by kernel_rfl) (by kernel_rfl) (fun _ _ _ h => h) (Or.inl ⟨by rfl, ?y5⟩) hH ?r5
    case y5 => (intro W hSw; (try dsimp only at hSw); (try simp only [List.getElem_toArray, List.getElem_cons_succ, List.getElem_cons_zero]); go_simp; first | done | with_reducible rfl)
    try simp only [Act.put, List.getElem_toArray, List.getElem_cons_succ, List.getElem_cons_zero, List.setIfInBounds_toArray, List.set_cons_zero, List.set_cons_succ]
    refine wpAnyH_take (i := 6) (v := ?v6) rfl (by kernel_rfl) (by kernel_rfl) (by kernel_rfl) (fun _ _ _ h => h) (Or.inl ⟨by rfl, ?y6⟩) hH ?r6
    case y6 => (intro W hSw; (try dsimp only at hSw); (try simp only [List.getElem_toArray, List.getElem_cons_succ, List.getElem_cons_zero]); go_simp; first | done | with_reducible rfl)
    try simp only [Act.put, List.getElem_toArray, List.getElem_cons_succ, List.getElem_cons_zero, List.setIfInBounds_toArray, List.set_cons_zero, List.set_cons_succ]
    refine wpAnyH_take (i := 7) (v := ?v7) rfl (by kernel_rfl) (by kernel_rfl) (by kernel_rfl) (fun _ _ _ h => h) (Or.inl ⟨by rfl, ?y7⟩) hH ?r7
    case y7 => (intro W hSw; (try dsimp only at hSw); (try simp only [List.getElem_toArray, List.getElem_cons_succ, List.getElem_cons_zero]); go_simp; first | done | with_reducible rfl)
    try simp only [Act.put, List.getElem_toArray, List.getElem_cons_succ, List.getElem_cons_zero, List.setIfInBounds_toArray, List.set_cons_zero, List.set_cons_succ]
    refine wpAnyH_take (i := 8) (v := ?v8) rfl (by kernel_rfl) (by kernel_rfl) (by kernel_rfl) (fun _ _ _ h => h) (Or.inl ⟨by rfl, ?y8⟩) hH ?r8
    case y8 => (intro W hSw; (try dsimp only at hSw); (try simp only [List.getElem_toArray, List.getElem_cons_succ, List.getElem_cons_zero]); go_simp; first | done | with_reducible rfl)
    try simp only [Act.put, List.getElem_toArray, List.getElem_cons_succ, List.getElem_cons_zero, List.setIfInBounds_toArray, List.set_cons_zero, List.set_cons_succ]
    refine wpAnyH_take (i := 9) (v := ?v9) rfl (by kernel_rfl) (by kernel_rfl) (by kernel_rfl) (fun _ _ _ h => h) (Or.inl ⟨by rfl, ?y9⟩) hH ?r9
    case y9 => (intro W hSw; (try dsimp only at hSw); (try simp only [List.getElem_toArray, List.getElem_cons_succ, List.getElem_cons_zero]); go_simp; first | done | with_reducible rfl)
    try simp only [Act.put, List.getElem_toArray, List.getElem_cons_succ, List.getElem_cons_zero, List.setIfInBounds_toArray, List.set_cons_zero, List.set_cons_succ]
    refine wpAnyH_take (i := 10) (v := ?v10) rfl (by kernel_rfl) (by kernel_rfl) (by kernel_rfl) (fun _ _ _ h => h) (Or.inl ⟨by rfl, ?y10⟩) hH ?r10
    case y10 => (intro W hSw; (try dsimp only at hSw); (try simp only [List.getElem_toArray, List.getElem_cons_succ, List.getElem_cons_zero]); go_simp; first | done | with_reducible rfl)
    try simp only [Act.put, List.getElem_toArray, List.getElem_cons_succ, List.getElem_cons_zero, List.setIfInBounds_toArray, List.set_cons_zero, List.set_cons_succ]
    refine wpAnyH_take (i := 11) (v := ?v11) rfl (by kernel_rfl) (by kernel_rfl) (by kernel_rfl) (fun _ _ _ h => h) (Or.inl ⟨by rfl, ?y11⟩) hH ?r11
    case y11 => (intro W hSw; (try dsimp only at hSw); (try simp only [List.getElem_toArray, List.getElem_cons_succ, List.getElem_cons_zero]); go_simp; first | done | with_reducible rfl)
    try simp only [Act.put, List.getElem_toArray, List.getElem_cons_succ, List.getElem_cons_zero, List.setIfInBounds_toArray, List.set_cons_zero, List.set_cons_succ]
    refine wpAnyH_take (i := 12) (v := ?v12) rfl (by kernel_rfl) (by kernel_rfl) (by kernel_rfl) (fun _ _ _ h => h) (Or.inl ⟨by rfl, ?y12⟩) hH ?r12
    case y12 => (intro W hSw; (try dsimp only at hSw); (try simp only [List.getElem_toArray, List.getElem_cons_succ, List.getElem_cons_zero]); go_simp; first | done | with_reducible rfl)
    try simp only [Act.put, List.getElem_toArray, List.getElem_cons_succ, List.getElem_cons_zero, List.setIfInBounds_toArray, List.set_cons_zero, List.set_cons_succ]
    refine wpAnyH_take (i := 13) (v := ?v13) rfl (by kernel_rfl) (by kernel_rfl) (by kernel_rfl) (fun _ _ _ h => h) (Or.inl ⟨by rfl, ?y13⟩) hH ?r13
    case y13 => (intro W hSw; (try dsimp only at hSw); (try simp only [List.getElem_toArray, List.getElem_cons_succ, List.getElem_cons_zero]); go_simp; first | done | with_reducible rfl)
    try simp only [Act.put, List.getElem_toArray, List.getElem_cons_succ, List.getElem_cons_zero, List.setIfInBounds_toArray, List.set_cons_zero, List.set_cons_succ]
    refine wpAnyH_take (i := 14) (v := ?v14) rfl (by kernel_rfl) (by kernel_rfl) (by kernel_rfl) (fun _ _ _ h => h) (Or.inl ⟨by rfl, ?y14⟩) hH ?r14
    case y14 => (intro W hSw; (try dsimp only at hSw); (try simp only [List.getElem_toArray, List.getElem_cons_succ, List.getElem_cons_zero]); go_simp; first | done | with_reducible rfl)
    try simp only [Act.put, List.getElem_toArray, List.getElem_cons_succ, List.getElem_cons_zero, List.setIfInBounds_toArray, List.set_cons_zero, List.set_cons_succ]
    refine wpAnyH_take (i := 15) (v := ?v15) rfl (by kernel_rfl) (by kernel_rfl) (by kernel_rfl) (fun _ _ _ h => h) (Or.inl ⟨by rfl, ?y15⟩) hH ?r15
    case y15 => (intro W hSw; (try dsimp only at hSw); (try simp only [List.getElem_toArray, List.getElem_cons_succ, List.getElem_cons_zero]); go_simp; first | done | with_reducible rfl)
    try simp only [Act.put, List.getElem_toArray, List.getElem_cons_succ, List.getElem_cons_zero, List.setIfInBounds_toArray, List.set_cons_zero, List.set_cons_succ]
    refine wpAnyH_take (i := 16) (v := ?v16) rfl (by kernel_rfl) (by kernel_rfl) (by kernel_rfl) (fun _ _ _ h => h) (Or.inl ⟨by rfl, ?y16⟩) hH ?r16
    case y16 => (intro W hSw; (try dsimp only at hSw); (try simp only [List.getElem_toArray, List.getElem_cons_succ, List.getElem_cons_zero]); go_simp; first | done | with_reducible rfl)
    try simp only [Act.put, List.getElem_toArray, List.getElem_cons_succ, List.getElem_cons_zero, List.setIfInBounds_toArray, List.set_cons_zero, List.set_cons_succ]
    refine wpAnyH_take (i := 17) (v := ?v17) rfl (by kernel_rfl) (by kernel_rfl) (by kernel_rfl) (fun _ _ _ h => h) (Or.inl ⟨by rfl, ?y17⟩) hH ?r17
    case y17 => (intro W hSw; (try dsimp only at hSw); (try simp only [List.getElem_toArray, List.getElem_cons_succ, List.getElem_cons_zero]); go_simp; first | done | with_reducible rfl)
    try simp only [Act.put, List.getElem_toArray, List.getElem_cons_succ, List.getElem_cons_zero, List.setIfInBounds_toArray, List.set_cons_zero, List.set_cons_succ]
    refine wpAnyH_take (i := 18) (v := ?v18) rfl (by kernel_rfl) (by kernel_rfl) (by kernel_rfl) (fun _ _ _ h => h) (Or.inl ⟨by rfl, ?y18⟩) hH ?r18
    case y18 => (intro W hSw; (try dsimp only at hSw); (try simp only [List.getElem_toArray, List.getElem_cons_succ, List.getElem_cons_zero]); go_simp; first | done | with_reducible rfl)
    try simp only [Act.put, List.getElem_toArray, List.getElem_cons_succ, List.getElem_cons_zero, List.setIfInBounds_toArray, List.set_cons_zero, List.set_cons_succ]
    refine wpAnyH_take (i := 19) (v := ?v19) rfl (by kernel_rfl) (by kernel_rfl) (by kernel_rfl) (fun _ _ _ h => h) (Or.inl ⟨by rfl, ?y19⟩) hH ?r19
    case y19 => (intro W hSw; (try dsimp only at hSw); (try simp only [List.getElem_toArray, List.getElem_cons_succ, List.getElem_cons_zero]); go_simp; first | done | with_reducible rfl)
    try simp only [Act.put, List.getElem_toArray, List.getElem_cons_succ, List.getElem_cons_zero, List.setIfInBounds_toArray, List.set_cons_zero, List.set_cons_succ]
    refine wpAnyH_take (i := 20) (v := ?v20) rfl (by kernel_rfl) (by kernel_rfl) (by kernel_rfl) (fun _ _ _ h => h) (Or.inl ⟨by rfl, ?y20⟩) hH ?r20
    case y20 => (intro W hSw; (try dsimp only at hSw); (try simp only [List.getElem_toArray, List.getElem_cons_succ, List.getElem_cons_zero]); go_simp; first | done | with_reducible rfl)
    try simp only [Act.put, List.getElem_toArray, List.getElem_cons_succ, List.getElem_cons_zero, List.setIfInBounds_toArray, List.set_cons_zero, List.set_cons_succ]
    refine wpAnyH_take (i := 21) (v := ?v21) rfl (by kernel_rfl) (by kernel_rfl) (by kernel_rfl) (fun _ _ _ h => h) (Or.inl ⟨by rfl, ?y21⟩) hH ?r21
    case y21 => (intro W hSw; (try dsimp only at hSw); (try simp only [List.getElem_toArray, List.getElem_cons_succ, List.getElem_cons_zero]); go_simp; first | done | with_reducible rfl)
    try simp only [Act.put, List.getElem_toArray, List.getElem_cons_succ, List.getElem_cons_zero, List.setIfInBounds_toArray, List.set_cons_zero, List.set_cons_succ]
    refine wpAnyH_take (i := 22) (v := ?v22) rfl (by kernel_rfl) (by kernel_rfl) (by kernel_rfl) (fun _ _ _ h => h) (Or.inl ⟨by rfl, ?y22⟩) hH ?r22
    case y22 => (intro W hSw; (try dsimp only at hSw); (try simp only [List.getElem_toArray, List.getElem_cons_succ, List.getElem_cons_zero]); go_simp; first | done | with_reducible rfl)
    try simp only [Act.put, List.getElem_toArray, List.getElem_cons_succ, List.getElem_cons_zero, List.setIfInBounds_toArray, List.set_cons_zero, List.set_cons_succ]
    refine wpAnyH_take (i := 23) (v := ?v23) rfl (by kernel_rfl) (by kernel_rfl) (by kernel_rfl) (fun _ _ _ h => h) (Or.inl ⟨by rfl, ?y23⟩) hH ?r23
    case y23 => (intro W hSw; (try dsimp only at hSw); (try simp only [List.getElem_toArray, List.getElem_cons_succ, List.getElem_cons_zero]); go_simp; first | done | with_reducible rfl)
    try simp only [Act.put, List.getElem_toArray, List.getElem_cons_succ, List.getElem_cons_zero, List.setIfInBounds_toArray, List.set_cons_zero, List.set_cons_succ]
    refine wpAnyH_take (i := 24) (v := ?v24) rfl (by kernel_rfl) (by kernel_rfl) (by kernel_rfl) (fun _ _ _ h => h) (Or.inl ⟨by rfl, ?y24⟩) hH ?r24
    case y24 => (intro W hSw; (try dsimp only at hSw); (try simp only [List.getElem_toArray, List.getElem_cons_succ, List.getElem_cons_zero]); go_simp; first | done | with_reducible rfl)
    try simp only [Act.put, List.getElem_toArray, List.getElem_cons_succ, List.getElem_cons_zero, List.setIfInBounds_toArray, List.set_cons_zero, List.set_cons_succ]
    refine wpAnyH_take (i := 25) (v := ?v25) rfl (by kernel_rfl) (by kernel_rfl) (by kernel_rfl) (fun _ _ _ h => h) (Or.inl ⟨by rfl, ?y25⟩) hH ?r25
    case y25 => (intro W hSw; (try dsimp only at hSw); (try simp only [List.getElem_toArray, List.getElem_cons_succ, List.getElem_cons_zero]); go_simp; first | done | with_reducible rfl)
    try simp only [Act.put, List.getElem_toArray, List.getElem_cons_succ, List.getElem_cons_zero, List.setIfInBounds_toArray, List.set_cons_zero, List.set_cons_succ]
    refine wpAnyH_take (i := 26) (v := ?v26) rfl (by kernel_rfl) (by kernel_rfl) (by kernel_rfl) (fun _ _ _ h => h) (Or.inl ⟨by rfl, ?y26⟩) hH ?r26
    case y26 => (intro W hSw; (try dsimp only at hSw); (try simp only [List.getElem_toArray, List.getElem_cons_succ, List.getElem_cons_zero]); go_simp; first | done | with_reducible rfl)
    try simp only [Act.put, List.getElem_toArray, List.getElem_cons_succ, List.getElem_cons_zero, List.setIfInBounds_toArray, List.set_cons_zero, List.set_cons_succ]
    refine wpAnyH_take (i := 27) (v := ?v27) rfl (by kernel_rfl) (by kernel_rfl) (by kernel_rfl) (fun _ _ _ h => h) (Or.inl ⟨by rfl, ?y27⟩) hH ?r27
    case y27 => (intro W hSw; (try dsimp only at hSw); (try simp only [List.getElem_toArray, List.getElem_cons_succ, List.getElem_cons_zero]); go_simp; first | done | with_reducible rfl)
    try simp only [Act.put, List.getElem_toArray, List.getElem_cons_succ, List.getElem_cons_zero, List.setIfInBounds_toArray, List.set_cons_zero, List.set_cons_succ]
    refine wpAnyH_take (i := 28) (v := ?v28) rfl (by kernel_rfl) (by kernel_rfl) (by kernel_rfl) (fun _ _ _ h => h) (Or.inl ⟨by rfl, ?y28⟩) hH ?r28
    case y28 => (intro W hSw; (try dsimp only at hSw); (try simp only [List.getElem_toArray, List.getElem_cons_succ, List.getElem_cons_zero]); go_simp; first | done | with_reducible rfl)
    try simp only [Act.put, List.getElem_toArray, List.getElem_cons_succ, List.getElem_cons_zero, List.setIfInBounds_toArray, List.set_cons_zero, List.set_cons_succ]
    refine wpAnyH_take (i := 31) (v := ?v31) rfl (by kernel_rfl) (by kernel_rfl) (by kernel_rfl) (fun _ _ _ h => h) (Or.inl ⟨by rfl, ?y31⟩) hH ?r31
    case y31 => (intro W hSw; (try dsimp only at hSw); (try simp only [List.getElem_toArray, List.getElem_cons_succ, List.getElem_cons_zero]); go_simp; first | done | with_reducible rfl)
    try simp only [Act.put, List.getElem_toArray, List.getElem_cons_succ, List.getElem_cons_zero, List.setIfInBounds_toArray, List.set_cons_zero, List.set_cons_succ]
    refine wpAnyH_take (i := 32) (v := ?v32) rfl (by kernel_rfl) (by kernel_rfl) (by kernel_rfl) (fun _ _ _ h => h) (Or.inl ⟨by rfl, ?y32⟩) hH ?r32
    case y32 => (intro W hSw; (try dsimp only at hSw); (try simp only [List.getElem_toArray, List.getElem_cons_succ, List.getElem_cons_zero]); go_simp; first | done | with_reducible rfl)
    try simp only [Act.put, List.getElem_toArray, List.getElem_cons_succ, List.getElem_cons_zero, List.setIfInBounds_toArray, List.set_cons_zero, List.set_cons_succ]
    refine wpAnyH_ready (rs := [29]) (by kernel_rfl) (by simp) ?_
    refine AllReadyH.cons rfl (fun K hK => ?_) AllReadyH.nil
    simp only [List.getElem_toArray, List.getElem_cons_succ, List.getElem_cons_zero]
    go_simp
    refine (BY.out _ hd7).mono ?_
    rintro e w9 ⟨A9, c9, rfl, ⟨O9, q9⟩, hb9⟩
    clear O9
    refine hK.out _ _ (three_strs R7.out RK.out RB.out L1.out L1.out rfl hb9) (fun hH2 => ?_)
    clear hK
    refine held_less (S' := fun W => W = w9) (fun W h => by subst h; exact three_strs R7.out RK.out RB.out L1.out L1.out rfl hb9) ?_
    have hS3 : (fun W => W = w9) w9 := rfl
    refine wpAnyH_take (i := 30) (v := ?v30) rfl (by kernel_rfl) (by kernel_rfl) (by kernel_rfl) (fun _ _ _ h => h) (Or.inl ⟨by rfl, ?y30⟩) hS3 ?r30
    case y30 => (intro W hSw; ((try dsimp only at hSw); cases hSw); (try simp only [List.getElem_toArray, List.getElem_cons_succ, List.getElem_cons_zero]); go_simp; first | done | with_reducible rfl)
    try simp only [Act.put, List.getElem_toArray, List.getElem_cons_succ, List.getElem_cons_zero, List.setIfInBounds_toArray, List.set_cons_zero, List.set_cons_succ]
    refine wpAnyH_take (i := 33) (v := ?v33) rfl (by kernel_rfl) (by kernel_rfl) (by kernel_rfl) (fun _ _ _ h => h) (Or.inl ⟨by rfl, ?y33⟩) hS3 ?r33
    case y33 => (intro W hSw; ((try dsimp only at hSw); cases hSw); (try simp only [List.getElem_toArray, List.getElem_cons_succ, List.getElem_cons_zero]); go_simp; first | done | with_reducible rfl)
    try simp only [Act.put, List.getElem_toArray, List.getElem_cons_succ, List.getElem_cons_zero, List.setIfInBounds_toArray, List.set_cons_zero, List.set_cons_succ]
    refine wpAnyH_take (i := 34) (v := ?v34) rfl (by kernel_rfl) (by kernel_rfl) (by kernel_rfl) (fun _ _ _ h => h) (Or.inl ⟨by rfl, ?y34⟩) hS3 ?r34
    case y34 => (intro W hSw; ((try dsimp only at hSw); cases hSw); (try simp only [List.getElem_toArray, List.getElem_cons_succ, List.getElem_cons_zero]); go_simp; first | done | with_reducible rfl)
    try simp only [Act.put, List.getElem_toArray, List.getElem_cons_succ, List.getElem_cons_zero, List.setIfInBounds_toArray, List.set_cons_zero, List.set_cons_succ]
    refine wpAnyH_take (i := 35) (v := ?v35) rfl (by kernel_rfl) (by kernel_rfl) (by kernel_rfl) (fun _ _ _ h => h) (Or.inl ⟨by rfl, ?y35⟩) hS3 ?r35
    case y35 => (intro W hSw; ((try dsimp only at hSw); cases hSw); (try simp only [List.getElem_toArray, List.getElem_cons_succ, List.getElem_cons_zero]); go_simp; first | done | with_reducible rfl)
    try simp only [Act.put, List.getElem_toArray, List.getElem_cons_succ, List.getElem_cons_zero, List.setIfInBounds_toArray, List.set_cons_zero, List.set_cons_succ]
    refine wpAnyH_take (i := 36) (v := ?v36) rfl (by kernel_rfl) (by kernel_rfl) (by kernel_rfl) (fun _ _ _ h => h) (Or.inl ⟨by rfl, ?y36⟩) hS3 ?r36
    case y36 => (intro W hSw; ((try dsimp only at hSw); cases hSw); (try simp only [List.getElem_toArray, List.getElem_cons_succ, List.getElem_cons_zero]); go_simp; first | done | with_reducible rfl)
    try simp only [Act.put, List.getElem_toArray, List.getElem_cons_succ, List.getElem_cons_zero, List.setIfInBounds_toArray, List.set_cons_zero, List.set_cons_succ]
    refine wpAnyH_take (i := 38) (v := ?v38) rfl (by kernel_rfl) (by kernel_rfl) (by kernel_rfl) (fun _ _ _ h => h) (Or.inl ⟨by rfl, ?y38⟩) hS3 ?r38
    case y38 => (intro W hSw; ((try dsimp only at hSw); cases hSw); (try simp only [List.getElem_toArray, List.getElem_cons_succ, List.getElem_cons_zero]); go_simp; first | done | with_reducible rfl)
    try simp only [Act.put, List.getElem_toArray, List.getElem_cons_succ, List.getElem_cons_zero, List.setIfInBounds_toArray, List.set_cons_zero, List.set_cons_succ]
    refine wpAnyH_ready (rs := [37]) (by kernel_rfl) (by simp) ?_
    refine AllReadyH.cons rfl (fun K hK => ?_) AllReadyH.nil
    simp only [List.getElem_toArray, List.getElem_cons_succ, List.getElem_cons_zero]
    go_simp
    refine (SY.out _ hb9).mono ?_
    rintro e w10 ⟨rfl, rfl⟩
    refine hK.out _ _ rfl (fun hH3 => ?_)
    clear hK
    refine wpAnyH_take (i := 39) (v := ?v39) rfl (by kernel_rfl) (by kernel_rfl) (by kernel_rfl) (fun _ _ _ h => h) (Or.inl ⟨by rfl, ?y39⟩) hS3 ?r39
    case y39 => (intro W hSw; ((try dsimp only at hSw); cases hSw); (try simp only [List.getElem_toArray, List.getElem_cons_succ, List.getElem_cons_zero]); go_simp; first | done | with_reducible rfl)
    try simp only [Act.put, List.getElem_toArray, List.getElem_cons_succ, List.getElem_cons_zero, List.setIfInBounds_toArray, List.set_cons_zero, List.set_cons_succ]
    refine wpAnyH_take (i := 40) (v := ?v40) rfl (by kernel_rfl) (by kernel_rfl) (by kernel_rfl) (fun _ _ _ h => h) (Or.inl ⟨by rfl, ?y40⟩) hS3 ?r40
    case y40 => (intro W hSw; ((try dsimp only at hSw); cases hSw); (try simp only [List.getElem_toArray, List.getElem_cons_succ, List.getElem_cons_zero]); go_simp; first | done | with_reducible rfl)
    try simp only [Act.put, List.getElem_toArray, List.getElem_cons_succ, List.getElem_cons_zero, List.setIfInBounds_toArray, List.set_cons_zero, List.set_cons_succ]
    refine wpAnyH_take (i := 41) (v := ?v41) rfl (by kernel_rfl) (by kernel_rfl) (by kernel_rfl) (fun _ _ _ h => h) (Or.inl ⟨by rfl, ?y41⟩) hS3 ?r41
    case y41 => (intro W hSw; ((try dsimp only at hSw); cases hSw); (try simp only [List.getElem_toArray, List.getElem_cons_succ, List.getElem_cons_zero]); go_simp; first | done | with_reducible rfl)
    try simp only [Act.put, List.getElem_toArray, List.getElem_cons_succ, List.getElem_cons_zero, List.setIfInBounds_toArray, List.set_cons_zero, List.set_cons_succ]
    refine wpAnyH_done (by kernel_rfl) ?_ _
    go_wp2
    go_ret
    exact ⟨rfl, below_next hb7.out hb9⟩

theorem diskCuts_walk' (A : Option Addr) (cap : Nat) (zs : List Int) (n : Int) (w : World) (hn : 0 ≤ n ∧ n ≤ 65535) (hcap : zs.length ≤ cap) (hR : Reads w A (bys zs)) (hm : zs.length ≤ 140737488351232) :
    Calls Try.prog 6 #[.slice A zs.length cap, .int .u16 n] w fun e w' => e = .returned (.bool true) ∧ Below w.heap.size w w' := by
  have h1 := Int.emod_nonneg n (b := (zs.length : Int) + 1) (by omega)
  have h2 := Int.emod_lt_of_pos n (b := (zs.length : Int) + 1) (by omega)
  exact diskCuts_walk A cap zs n (n % ((zs.length : Int) + 1)).toNat w hn (by omega) (by omega) hcap hR hm

set_option maxRecDepth 100000 in
theorem diskCuts_lifted (os : Os) (started : os.Started) (H : Type) (enc : TypeId × Value → H) :
    ReturnsInHanded {} Try.checked os 6 .any (Rows.diskCutsSpec.pre6 enc Try.prog Try.f6 Rows.diskCutsRow.domain false) (Rows.diskCutsSpec.post enc Try.prog Try.f6 false true false false) := by
  refine returnsInHanded_of_change_sized (C := Try.checked) (by kernel_rfl) started (by kernel_rfl) Try.func6
    (ChangeSpec.witness6 (enc := enc) (C := Try.checked) false ⟨#[], #[.slice none 0 0, .int .u16 0], []⟩ 8 (by kernel_rfl) (by kernel_rfl) (by kernel_rfl) (by kernel_rfl)) ?_
  intro W base args ds gs before hval0 hW _ hsz0 _
  have hval : ∀ (j : Nat) t v, Try.f6.params[j]? = some t → args[j]? = some v → Value.okWide Try.prog W .any base t v := hval0
  have hW' := hW
  obtain ⟨p, q, hA0, hV, rfl, _, _⟩ := hW
  have hA : DataW.TrodAll enc Try.prog W 0 (fun _ => true) true Try.f6.params.toList args.toList ds p := hA0
  have hsz : (DataW.weightsEach Try.prog (Try.f6.params.toList ++ Rows.diskCutsSpec.plain.varTypes Try.prog) (ds ++ gs)).all (· ≤ reachBytes) = true := hsz0
  rw [Try.params6] at hA hval hsz
  obtain ⟨v0, v1, d0, d1, p0, p1, rfl, rfl, rfl, h0, h1⟩ := trodAll_two hA
  obtain ⟨A0, cap0, z0, rfl, hcap0, hm0, hR0, hwf0, hn0⟩ := open_nums Try.underlying26 Try.underlying5 (by kernel_rfl) (hval 0 26 v0 rfl rfl) h0
  have hreach0 := reach_nums (m := 1) hsz (j := 0) (t := 26) rfl rfl Try.underlying26 hn0 (by kernel_rfl)
  have bd0 := fun z hz => bounds_u8 (hwf0 z hz)
  obtain ⟨x1, rfl, rfl, rfl, wf1⟩ := open_int Try.underlying37 (hval 1 37 v1 rfl rfl) h1
  have bd1 := bounds_u16 wf1
  refine (diskCuts_walk' _ _ _ _ _ bd1 (by have := hcap0; omega) hR0 (by have := hm0; omega)).mono fun e W' ⟨he, hb⟩ => ?_
  subst he
  exact ⟨_, rfl, post_law (by kernel_rfl) (by kernel_rfl) rfl hW' (by rintro _ rfl; rfl) rfl Try.underlying4 hb⟩

theorem diskCuts_holds : Rows.DiskCutsSaid :=
  OpenClaim.holds_of_wide 6 Try.f6 rfl rfl rfl rfl rfl rfl rfl ⟨rfl, rfl, rfl, rfl, rfl⟩ rfl rfl rfl rfl rfl (by kernel_rfl) Try.func6 (by kernel_rfl)
    (of_decide_eq_true (by kernel_rfl)) (by unfold Func.isWrapper; first | (rw [if_pos (by decide +kernel)]; kernel_rfl) | (rw [if_neg (by decide +kernel)]; exact ⟨rfl, rfl⟩))
    (fun os started H enc _ => diskCuts_lifted os started H enc)
end Go.Proofs.Ytodlabpgjgbbpad
