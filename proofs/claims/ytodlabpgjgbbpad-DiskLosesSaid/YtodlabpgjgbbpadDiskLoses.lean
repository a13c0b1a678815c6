/-
  DiskLoses: a crash keeps just as many bytes as it says of those that weren't synced; a crash more changes nothing.
-/
import Derived.Test.YtodlabpgjgbbpadDiskAwake
import Derived.Test.YtodlabpgjgbbpadHeld
import Derived.Test.YtodlabpgjgbbpadLaw
import Derived.Test.YtodlabpgjgbbpadRows
namespace Go.Proofs.Ytodlabpgjgbbpad
open Go.RowKit Go.Agio Go.ChangeShapes Go.WideShapes Go.ChangeAt

theorem bytes_at (base d : Nat) (xs : List Int) (s : Nat) (A : Option Addr) (c m : Nat) (w : World) (hD : Disk base w d xs s A c) (hm : xs.length = m) :
    Calls Try.prog 11 #[.pointer (some ⟨d, 0, none⟩)] w fun e w' => ∃ A' c', e = .returned (.slice A' m c') ∧ (w'.ownsRow w.heap.size 5 1 (.slice A' m c') m (bys xs) ∧ (convert 26 9 (.slice A' m c')).run Try.prog w' = .ok (.string (strOfNums xs)) w') ∧ Below w.heap.size w w' := by
  subst hm
  refine (bytes_any base d xs s A c w hD).mono ?_
  rintro e w' ⟨A', c', h1, h2, h3⟩
  exact ⟨A', c', h1, ⟨h2, str_reads w' A' _ c' xs (Reads.of_own h2) rfl⟩, h3⟩

theorem bytes_next {base d : Nat} {xs : List Int} {s : Nat} {A : Option Addr} {c m : Nat} {W w : World} (hb : Below W.heap.size W w) (hD : Disk base W d xs s A c) (hm : xs.length = m) :
    Calls Try.prog 11 #[.pointer (some ⟨d, 0, none⟩)] w fun e w' => ∃ A' c', e = .returned (.slice A' m c') ∧ (w'.ownsRow w.heap.size 5 1 (.slice A' m c') m (bys xs) ∧ (convert 26 9 (.slice A' m c')).run Try.prog w' = .ok (.string (strOfNums xs)) w') ∧ Below W.heap.size W w' := by
  refine (bytes_at base d xs s A c m w (hD.moved hb) hm).mono ?_
  rintro e w' ⟨A', c', h1, h2, h3⟩
  exact ⟨A', c', h1, h2, below_next hb h3⟩

/-- What the last question reads of memory. -/
theorem two_strs {W w1 : World} {A B : Option Addr} {n c m k : Nat} {xs ys : List Int} (hA : Reads W A (bys xs)) (hB : Reads W B (bys ys)) (hn : xs.length = n) (hm : ys.length = m) (hb : Below W.heap.size W w1) :
    Below W.heap.size W w1 ∧ (convert 26 9 (.slice A n c)).run Try.prog w1 = .ok (.string (strOfNums xs)) w1 ∧ (convert 26 9 (.slice B m k)).run Try.prog w1 = .ok (.string (strOfNums ys)) w1 :=
  ⟨hb, str_reads w1 A n c xs (hA.below hb) hn, str_reads w1 B m k ys (hB.below hb) hm⟩

theorem three_strs {W w1 : World} {A B C : Option Addr} {n c m k p j : Nat} {xs ys zs : List Int} (hA : Reads W A (bys xs)) (hB : Reads W B (bys ys)) (hC : Reads W C (bys zs)) (hn : xs.length = n) (hm : ys.length = m) (hp : zs.length = p) (hb : Below W.heap.size W w1) :
    Below W.heap.size W w1 ∧ (convert 26 9 (.slice A n c)).run Try.prog w1 = .ok (.string (strOfNums xs)) w1 ∧ (convert 26 9 (.slice B m k)).run Try.prog w1 = .ok (.string (strOfNums ys)) w1 ∧ (convert 26 9 (.slice C p j)).run Try.prog w1 = .ok (.string (strOfNums zs)) w1 :=
  ⟨hb, str_reads w1 A n c xs (hA.below hb) hn, str_reads w1 B m k ys (hB.below hb) hm, str_reads w1 C p j zs (hC.below hb) hp⟩

/-- An append as one step of a region that is walked by hand. -/
theorem step_append_reads {P : Program} {w : World} {o : Oper} {a : Act} {K : Act → World → Prop} {Q : Exit → Act → World → Prop} (s x : Operand) (t : TypeId)
    (ho : o.op = .call { callee := .builtin .append, args := #[s, x], argTypes := #[t, t] })
    (base : Nat) (e : TypeId) (i : TypeInfo) (z : Value) (bytes : Nat) (ht : P.underlying t = some (.slice e)) (hi : P.info? e = some i) (hz : i.zero = some z)
    (hsize : i.size = 1) (hby : i.bytes = bytes) (hzs : z.cells.size = 1)
    (v : Value) (n : Nat) (xs : List Value) (hs : a.eval s = v) (hown : w.ownsRow base e 1 v n xs)
    (A : Option Addr) (m c : Nat) (news : List Value) (hx : a.eval x = .slice A m c) (hR : Reads w A news) (hm : news.length = m) (h1 : ∀ u ∈ news, u.oneCell' = true)
    (h63 : n + m ≤ maxLen) (hbytes : (n + m) * bytes ≤ 140737488355328) (hbase : base ≤ w.heap.size)
    (h : ∀ A' c' w', w'.ownsRow base e 1 (.slice A' (n + m) c') (n + m) (xs ++ news) → w.grownBy w' v.ownBlock →
      (Value.ownBlock (.slice A' (n + m) c') = v.ownBlock ∨ Value.ownBlock (.slice A' (n + m) c') = some w.heap.size) → K (a.put o.dst (.slice A' (n + m) c')) w') :
    Oper.wp P o a w K Q := by
  obtain ⟨A', c', w', hr, h2, h3, h5⟩ := run_append_reads (P := P) w base t o.type e i z bytes ht hi hz hsize hby hzs v n xs hown A m c news hR hm h1 h63 hbytes hbase
  unfold Oper.wp execOp
  simp only [ho, resolve, invoke, builtin, Sem.run_bind, Sem.run_pure, Result.andThen_ok, List.map_toArray, List.map_cons, List.map_nil, hs, hx, hr]
  exact h A' c' w' h2 h3 h5

set_option maxRecDepth 100000 in
set_option maxHeartbeats 2000000 in
theorem diskLoses_walk (A : Option Addr) (cap : Nat) (xs : List Int) (B : Option Addr) (cb : Nat) (ys : List Int) (keep : Int) (k : Nat) (w : World)
    (hkk : (keep < 0 ∧ k = 0) ∨ (0 ≤ keep ∧ keep = (k : Int) ∧ (k : Int) ≤ (ys.length : Int)) ∨ (0 ≤ keep ∧ (ys.length : Int) < keep ∧ k = ys.length)) (hcb : ys.length ≤ cb) (hR : Reads w A (bys xs)) (hS : Reads w B (bys ys)) (hm : xs.length ≤ 140737488351232) (hm' : ys.length ≤ 140737488351232) :
    Calls Try.prog 4 #[.slice A xs.length cap, .slice B ys.length cb, .int .i64 keep] w fun e w' => e = .returned (.bool true) ∧ Below w.heap.size w w' := by
  obtain ⟨i0, hi, hz0, hz1, hz2⟩ := info_parts info8
  have hkl : k ≤ ys.length := by omega
  have HK := hide (show (k : Int) = max 0 (min keep (((xs ++ ys).length : Int) - (xs.length : Int))) by rw [List.length_append]; omega)
  have hs1 := cut_h 26 elem8 size8 B ys.length cb k (by omega)
  have HT := hide (show (xs ++ ys).take (xs.length + k) = xs ++ ys.take k by rw [List.take_append]; simp [List.take_of_length_le])
  have LT := hide (show (ys.take k).length = k by simp; omega)
  have HR := hide hR
  have HS := hide hS
  clear hR hS
  by_cases hbig : 100000 < xs.length + ys.length
  · have hbig' : (100000 : Int) < (xs.length : Int) + (ys.length : Int) := by omega
    go_enter Try.func4, Try.ntmps4
    go_wp2_with fail
    refine (awake_any _).mono ?_
    rintro e w1 ⟨rfl, hb1⟩
    go_wp2_with fail
    refine (new_any _).mono ?_
    rintro e w2 ⟨rfl, rfl⟩
    have hb0 := hb1.alloc hb1.size (.cells #[.slice none 0 0, .int .i64 0] 50)
    go_wp2
    go_ret
    exact ⟨rfl, hb0⟩
  · have hbig' : ¬ (100000 : Int) < (xs.length : Int) + (ys.length : Int) := by omega
    go_enter Try.func4, Try.ntmps4
    go_wp2_with fail
    refine (awake_any _).mono ?_
    rintro e w1 ⟨rfl, hb1⟩
    go_wp2_with fail
    refine (new_any _).mono ?_
    rintro e w2 ⟨rfl, rfl⟩
    obtain ⟨d, hd⟩ : ∃ d, d = w1.heap.size := ⟨_, rfl⟩
    have D0 := hide (disk_new w.heap.size w1 hb1.size)
    have hb0 := hide (hb1.alloc hb1.size (.cells #[.slice none 0 0, .int .i64 0] 50))
    have hwd : w.heap.size ≤ d := by rw [hd]; exact hb1.size
    generalize w1.alloc (.cells #[.slice none 0 0, .int .i64 0] 50) = W0 at *
    rw [← hd] at D0 ⊢
    clear hd hb1
    go_wp2_with fail
    have hroom : ([] : List Int).length + xs.length ≤ 1048576 := by simp; omega
    have X := append_any w.heap.size d [] 0 none 0 A xs.length cap xs W0 D0.out (HR.out.below hb0.out) rfl hroom
    refine X.mono ?_
    clear X hroom
    rintro e w2 ⟨rfl, A2, c2, D2, M2⟩
    have hb2 := hide (M2.below hb0.out hwd (by simp) hb0.out.size)
    have D2 : Hid (Disk w.heap.size w2 d xs 0 A2 c2) := hide D2
    go_wp2_with fail
    refine (sync_any _ _ _ _ _ _ _ D2.out).mono ?_
    rintro e w3 ⟨rfl, D3, M3⟩
    have hb3 := hide (M3.below hb2.out hwd (fun a ha => (D2.out.2.2.1.low a ha).1) hb2.out.size)
    have D3 := hide D3
    go_wp2_with fail
    have hroom : xs.length + ys.length ≤ 1048576 := by omega
    have X := append_any w.heap.size d xs xs.length A2 c2 B ys.length cb ys w3 D3.out (HS.out.below hb3.out) rfl hroom
    refine X.mono ?_
    clear X hroom
    rintro e w4 ⟨rfl, A4, c4, D4, M4⟩
    have hb4 := hide (M4.below hb3.out hwd (fun a ha => (D3.out.2.2.1.low a ha).1) hb3.out.size)
    have D4 := hide D4
    go_wp2_with fail
    have X := crash_any w.heap.size d (xs ++ ys) xs.length k keep A4 c4 w4 D4.out HK.out
    refine X.mono ?_
    clear X
    rintro e w5 ⟨rfl, c5, D5, M5⟩
    have hb5 := hide (M5.below hb4.out hwd (fun a ha => (D4.out.2.2.1.low a ha).1) hb4.out.size)
    rw [HT.out] at D5
    have D5 := hide D5
    clear M2 M3 M4 M5
    go_wp2_with fail
    obtain ⟨M, hM⟩ : ∃ M : Int, M = max keep 0 := ⟨_, rfl⟩
    have HM := hide (show ((keep < 0 ∧ M = 0) ∨ (0 ≤ keep ∧ M = keep)) ∧ ((k : Int) = min M (ys.length : Int)) by omega)
    clear hM
    have hd5 := (Below.refl w5.heap.size w5).drew
    refine wp_region_held_drew (S := fun W => Below w5.heap.size w5 W) (by kernel_rfl) hd5 (fun hH => ?_)
    refine wpAnyH_take (i := 1) (v := ?v1) rfl (by kernel_rfl) (by kernel_rfl) (by kernel_rfl) (fun _ _ _ h => h) (Or.inl ⟨by rfl, ?y1⟩) hH ?r1
    case y1 => (intro W hSw; (try dsimp only at hSw); (try simp only [List.getElem_toArray, List.getElem_cons_succ, List.getElem_cons_zero]); go_simp; first | done | with_reducible rfl)
    try simp only [Act.put, List.getElem_toArray, List.getElem_cons_succ, List.getElem_cons_zero, List.setIfInBounds_toArray, List.set_cons_zero, List.set_cons_succ]
    refine wpAnyH_take (i := 3) (v := ?v3) rfl (by kernel_rfl) (by kernel_rfl) (by kernel_rfl) (fun _ _ _ h => h) (Or.inl ⟨by rfl, ?y3⟩) hH ?r3
    case y3 => (intro W hSw; (try dsimp only at hSw); (try simp only [List.getElem_toArray, List.getElem_cons_succ, List.getElem_cons_zero]); go_simp; first | done | with_reducible rfl)
    try simp only [Act.put, List.getElem_toArray, List.getElem_cons_succ, List.getElem_cons_zero, List.setIfInBounds_toArray, List.set_cons_zero, List.set_cons_succ]
    refine wpAnyH_take (i := 4) (v := ?v4) rfl (by kernel_rfl) (by kernel_rfl) (by kernel_rfl) (fun _ _ _ h => h) (Or.inl ⟨by rfl, ?y4⟩) hH ?r4
    case y4 => (intro W hSw; (try dsimp only at hSw); (try simp only [List.getElem_toArray, List.getElem_cons_succ, List.getElem_cons_zero]); go_simp; first | done | with_reducible rfl)
    try simp only [Act.put, List.getElem_toArray, List.getElem_cons_succ, List.getElem_cons_zero, List.setIfInBounds_toArray, List.set_cons_zero, List.set_cons_succ]
    refine wpAnyH_take (i := 5) (v := .int .i64 M) rfl (by kernel_rfl) (by kernel_rfl) (by kernel_rfl) (fun _ _ _ h => h) (Or.inl ⟨by rfl, ?y5⟩) hH ?r5
    case y5 =>
      intro W hSw
      simp only [List.getElem_toArray, List.getElem_cons_succ, List.getElem_cons_zero]
      rcases HM.out.1 with ⟨h1, h2⟩ | ⟨h1, h2⟩
      · go_simp
      · go_simp
        omega
    simp only [Act.put, List.getElem_toArray, List.getElem_cons_succ, List.getElem_cons_zero, List.setIfInBounds_toArray, List.set_cons_zero, List.set_cons_succ]
    refine wpAnyH_take (i := 6) (v := ?v6) rfl (by kernel_rfl) (by kernel_rfl) (by kernel_rfl) (fun _ _ _ h => h) (Or.inl ⟨by rfl, ?y6⟩) hH ?r6
    case y6 => (intro W hSw; (try dsimp only at hSw); (try simp only [List.getElem_toArray, List.getElem_cons_succ, List.getElem_cons_zero]); go_simp; first | done | with_reducible rfl)
    try simp only [Act.put, List.getElem_toArray, List.getElem_cons_succ, List.getElem_cons_zero, List.setIfInBounds_toArray, List.set_cons_zero, List.set_cons_succ]
    refine wpAnyH_take (i := 7) (v := ?v7) rfl (by kernel_rfl) (by kernel_rfl) (by kernel_rfl) (fun _ _ _ h => h) (Or.inl ⟨by rfl, ?y7⟩) hH ?r7
    case y7 => (intro W hSw; (try dsimp only at hSw); (try simp only [List.getElem_toArray, List.getElem_cons_succ, List.getElem_cons_zero]); go_simp; first | done | with_reducible rfl)
    try simp only [Act.put, List.getElem_toArray, List.getElem_cons_succ, List.getElem_cons_zero, List.setIfInBounds_toArray, List.set_cons_zero, List.set_cons_succ]
    refine wpAnyH_take (i := 8) (v := .int .i64 (k : Int)) rfl (by kernel_rfl) (by kernel_rfl) (by kernel_rfl) (fun _ _ _ h => h) (Or.inl ⟨by rfl, ?y8⟩) hH ?r8
    case y8 =>
      intro W hSw
      simp only [List.getElem_toArray, List.getElem_cons_succ, List.getElem_cons_zero]
      have h0 := HM.out.2
      rcases (show (M ≤ (ys.length : Int) ∧ (k : Int) = M) ∨ ((ys.length : Int) < M ∧ (k : Int) = (ys.length : Int)) by omega) with ⟨h1, h2⟩ | ⟨h1, h2⟩
      · go_simp
        first | omega | (split <;> omega)
      · go_simp
        omega
    simp only [Act.put, List.getElem_toArray, List.getElem_cons_succ, List.getElem_cons_zero, List.setIfInBounds_toArray, List.set_cons_zero, List.set_cons_succ]
    refine wpAnyH_take (i := 9) (v := ?v9) rfl (by kernel_rfl) (by kernel_rfl) (by kernel_rfl) (fun _ _ _ h => h) (Or.inl ⟨by rfl, ?y9⟩) hH ?r9
    case y9 => (intro W hSw; (try dsimp only at hSw); (try simp only [List.getElem_toArray, List.getElem_cons_succ, List.getElem_cons_zero]); go_simp; first | done | with_reducible rfl)
    try simp only [Act.put, List.getElem_toArray, List.getElem_cons_succ, List.getElem_cons_zero, List.setIfInBounds_toArray, List.set_cons_zero, List.set_cons_succ]
    refine wpAnyH_ready (rs := [0]) (by kernel_rfl) (by simp) ?_
    refine AllReadyH.cons rfl (fun K hK => ?_) AllReadyH.nil
    simp only [List.getElem_toArray, List.getElem_cons_zero]
    go_simp
    have hbA := hide ((Below.refl w5.heap.size w5).alloc (Nat.le_refl _) (.cells #[] 5))
    refine hK.out _ _ hbA.out.drew (fun hH1 => ?_)
    clear hK
    refine wpAnyH_ready (rs := [2]) (by kernel_rfl) (by simp) ?_
    refine AllReadyH.cons rfl (fun K hK => ?_) AllReadyH.nil
    simp only [List.getElem_toArray, List.getElem_cons_succ, List.getElem_cons_zero]
    rw [if_pos (by rfl)]
    refine step_append_reads (.tmp 39) (.tmp 40) 26 rfl w5.heap.size 5 i0 (.int .u8 0) 1 Try.underlying26 hi hz0 hz1 hz2 rfl _ 0 [] rfl (own_new w5 _ _ [] 0 (Nat.le_refl _) rfl (by unfold maxLen; omega)).drew A xs.length cap (bys xs) rfl ((HR.out.below hb5.out).alloc _).drew (by rw [List.length_map]) (ints_one _ _) (by unfold maxLen; omega) (by omega) (by simp) ?_
    intro A6 c6 w6 n6 g6 t6
    rw [Nat.zero_add] at n6
    rw [List.nil_append] at n6
    rw [Nat.zero_add]
    have hb6 := hide (hbA.out.drew.grown g6 (by simp) (fun g hg => by cases hg; exact Nat.le_refl _))
    have N6 := hide n6
    clear n6 g6 t6
    refine hK.out _ _ hb6.out (fun hH2 => ?_)
    clear hK
    simp only [Act.put, List.setIfInBounds_toArray, List.set_cons_zero, List.set_cons_succ]
    refine wpAnyH_ready (rs := [10]) (by kernel_rfl) (by simp) ?_
    refine AllReadyH.cons rfl (fun K hK => ?_) AllReadyH.nil
    simp only [List.getElem_toArray, List.getElem_cons_succ, List.getElem_cons_zero]
    have RB6 := hide ((HS.out.take k).below (below_next hb5.out hb6.out))
    rw [← List.map_take] at RB6
    rw [if_pos (by rfl)]
    refine step_append_reads (.tmp 41) (.tmp 48) 26 rfl w5.heap.size 5 i0 (.int .u8 0) 1 Try.underlying26 hi hz0 hz1 hz2 rfl _ xs.length (bys xs) rfl N6.out B k cb (bys (ys.take k)) rfl RB6.out (by rw [List.length_map]; exact LT.out) (ints_one _ _) (by unfold maxLen; omega) (by omega) hb6.out.size ?_
    intro A7 c7 w7 n7 g7 t7
    have hb7 := hide (hb6.out.grown g7 hb6.out.size (fun g hg => (N6.out.lt g hg).1))
    have hap : bys xs ++ bys (ys.take k) = bys (xs ++ ys.take k) := by simp
    rw [hap] at n7
    have N7 := hide n7
    clear n7 g7 t7 hap
    refine hK.out _ _ hb7.out (fun hH3 => ?_)
    clear hK
    simp only [Act.put, List.setIfInBounds_toArray, List.set_cons_zero, List.set_cons_succ]
    refine wpAnyH_take (i := 11) (v := ?v11) rfl (by kernel_rfl) (by kernel_rfl) (by kernel_rfl) (fun _ _ _ h => h) (Or.inl ⟨by rfl, ?y11⟩) hH3 ?r11
    case y11 => (intro W hSw; (try dsimp only at hSw); (try simp only [List.getElem_toArray, List.getElem_cons_succ, List.getElem_cons_zero]); go_simp; first | done | with_reducible rfl)
    try simp only [Act.put, List.getElem_toArray, List.getElem_cons_succ, List.getElem_cons_zero, List.setIfInBounds_toArray, List.set_cons_zero, List.set_cons_succ]
    refine wpAnyH_done (by kernel_rfl) ?_ _
    have D7 := hide (D5.out.moved hb7.out)
    have hb7' := hide (below_next hb5.out hb7.out)
    go_wp2_with fail
    have LZ := hide (show (xs ++ ys.take k).length = xs.length + k by rw [List.length_append, LT.out])
    have HZ := hide (show (xs ++ ys.take k).take (xs.length + k + 0) = xs ++ ys.take k from List.take_of_length_le (by rw [LZ.out]; omega))
    have H0 := hide (fun z : Int => show (((0 : Nat) : Int) = max 0 (min z (((xs ++ ys.take k).length : Int) - ((xs.length + k : Nat) : Int)))) by rw [LZ.out]; omega)
    have P7 : Hid (∀ a : Addr, A7 = some a → w5.heap.size ≤ a.block ∧ a.block < w7.heap.size) := hide (fun a ha => by subst ha; exact N7.out.lt a.block rfl)
    have Q5 : Hid (d < w5.heap.size ∧ ∀ a : Addr, A4 = some a → a.block < w5.heap.size) := hide ⟨blk_lt D5.out.2.1, fun a ha => (D5.out.2.2.1.low a ha).2⟩
    refine (bytes_at _ _ _ _ _ _ (xs.length + k) _ D7.out LZ.out).mono ?_
    rintro e w8 ⟨A8, c8, rfl, O8, hb8⟩
    have D8 := hide (D7.out.moved hb8)
    have hb8' := hide (below_next hb7'.out hb8)
    have R7 := hide ((Reads.of_own N7.out).below hb8)
    have R8 := hide (Reads.of_own O8.1)
    have P8 : Hid (∀ a : Addr, A8 = some a → w7.heap.size ≤ a.block) := hide (fun a ha => by subst ha; exact (O8.1.lt a.block rfl).1)
    have S7 := hide hb7.out.size
    clear O8 hb8
    go_wp2_with fail
    refine (crash_any w.heap.size d (xs ++ ys.take k) (xs.length + k) 0 _ A4 c5 w8 D8.out (H0.out _)).mono ?_
    rintro e w9 ⟨rfl, c9, D9, M9⟩
    rw [HZ.out] at D9
    have hb9 := hide (M9.below hb8'.out hwd (fun a ha => (D8.out.2.2.1.low a ha).1) hb8'.out.size)
    have D9 : Hid (Disk w.heap.size w9 d (xs ++ ys.take k) (xs.length + k) A4 c9) := hide D9
    have R7' := hide (M9.reads R7.out (fun a ha => by have := P7.out a ha; have := Q5.out.1; omega) (fun a b ha hb => by have := P7.out a ha; have := Q5.out.2 b hb; omega))
    have R8' := hide (M9.reads R8.out (fun a ha => by have := P8.out a ha; have := Q5.out.1; have := S7.out; omega) (fun a b ha hb => by have := P8.out a ha; have := Q5.out.2 b hb; have := S7.out; omega))
    clear M9
    go_wp2_with fail
    have BY := hide (fun (W : World) (hb : Below w9.heap.size w9 W) => bytes_next hb D9.out (m := xs.length + k) LZ.out)
    have SY := hide (fun (W : World) (hb : Below w9.heap.size w9 W) => synced_any _ _ _ _ _ _ W (D9.out.moved hb))
    have hd9 := (Below.refl w9.heap.size w9).drew
    refine wp_region_held_drew (S := fun W => Below w9.heap.size w9 W ∧ (convert 26 9 (.slice A8 (xs.length + k) c8)).run Try.prog W = .ok (.string (strOfNums (xs ++ ys.take k))) W ∧ (convert 26 9 (.slice A7 (xs.length + k) c7)).run Try.prog W = .ok (.string (strOfNums (xs ++ ys.take k))) W) (by kernel_rfl) (two_strs R8'.out R7'.out LZ.out LZ.out hd9) (fun hH => ?_)
    refine wpAnyH_take (i := 0) (v := ?vb0) rfl (by kernel_rfl) (by kernel_rfl) (by kernel_rfl) (fun _ _ _ h => h) (Or.inl ⟨by rfl, ?yb0⟩) hH ?rb0
    case yb0 => (intro W hSw; (try dsimp only at hSw); (try simp only [List.getElem_toArray, List.getElem_cons_zero]); go_simp; first | done | with_reducible rfl)
    try simp only [Act.put, List.getElem_toArray, List.getElem_cons_zero, List.setIfInBounds_toArray, List.set_cons_zero, List.set_cons_succ]
    refine wpAnyH_take (i := 1) (v := ?vb1) rfl (by kernel_rfl) (by kernel_rfl) (by kernel_rfl) (fun _ _ _ h => h) (Or.inl ⟨by rfl, ?yb1⟩) hH ?rb1
    case yb1 => (intro W hSw; (try dsimp only at hSw); (try simp only [List.getElem_toArray, List.getElem_cons_succ, List.getElem_cons_zero]); go_simp; first | done | with_reducible rfl)
    try simp only [Act.put, List.getElem_toArray, List.getElem_cons_succ, List.getElem_cons_zero, List.setIfInBounds_toArray, List.set_cons_zero, List.set_cons_succ]
    refine wpAnyH_take (i := 2) (v := ?vb2) rfl (by kernel_rfl) (by kernel_rfl) (by kernel_rfl) (fun _ _ _ h => h) (Or.inl ⟨by rfl, ?yb2⟩) hH ?rb2
    case yb2 => (intro W hSw; (try dsimp only at hSw); (try simp only [List.getElem_toArray, List.getElem_cons_succ, List.getElem_cons_zero]); go_simp; first | done | with_reducible rfl)
    try simp only [Act.put, List.getElem_toArray, List.getElem_cons_succ, List.getElem_cons_zero, List.setIfInBounds_toArray, List.set_cons_zero, List.set_cons_succ]
    refine wpAnyH_take (i := 3) (v := ?vb3) rfl (by kernel_rfl) (by kernel_rfl) (by kernel_rfl) (fun _ _ _ h => h) (Or.inl ⟨by rfl, ?yb3⟩) hH ?rb3
    case yb3 => (intro W hSw; (try dsimp only at hSw); (try simp only [List.getElem_toArray, List.getElem_cons_succ, List.getElem_cons_zero]); go_simp; first | done | with_reducible rfl)
    try simp only [Act.put, List.getElem_toArray, List.getElem_cons_succ, List.getElem_cons_zero, List.setIfInBounds_toArray, List.set_cons_zero, List.set_cons_succ]
    refine wpAnyH_take (i := 4) (v := ?vb4) rfl (by kernel_rfl) (by kernel_rfl) (by kernel_rfl) (fun _ _ _ h => h) (Or.inl ⟨by rfl, ?yb4⟩) hH ?rb4
    case yb4 => (intro W hSw; (try dsimp only at hSw); (try simp only [List.getElem_toArray, List.getElem_cons_succ, List.getElem_cons_zero]); go_simp; first | done | with_reducible rfl)
    try simp only [Act.put, List.getElem_toArray, List.getElem_cons_succ, List.getElem_cons_zero, List.setIfInBounds_toArray, List.set_cons_zero, List.set_cons_succ]
    refine wpAnyH_take (i := 5) (v := ?vb5) rfl (by kernel_rfl) (by kernel_rfl) (by kernel_rfl) (fun _ _ _ h => h) (Or.inl ⟨by rfl, ?yb5⟩) hH ?rb5
    case yb5 => (intro W hSw; (try dsimp only at hSw); (try simp only [List.getElem_toArray, List.getElem_cons_succ, List.getElem_cons_zero]); go_simp; first | done | with_reducible rfl)
    try simp only [Act.put, List.getElem_toArray, List.getElem_cons_succ, List.getElem_cons_zero, List.setIfInBounds_toArray, List.set_cons_zero, List.set_cons_succ]
    refine wpAnyH_take (i := 6) (v := ?vb6) rfl (by kernel_rfl) (by kernel_rfl) (by kernel_rfl) (fun _ _ _ h => h) (Or.inl ⟨by rfl, ?yb6⟩) hH ?rb6
    case yb6 => (intro W hSw; (try dsimp only at hSw); (try simp only [List.getElem_toArray, List.getElem_cons_succ, List.getElem_cons_zero]); go_simp; first | done | with_reducible rfl)
    try simp only [Act.put, List.getElem_toArray, List.getElem_cons_succ, List.getElem_cons_zero, List.setIfInBounds_toArray, List.set_cons_zero, List.set_cons_succ]
    refine wpAnyH_take (i := 7) (v := ?vb7) rfl (by kernel_rfl) (by kernel_rfl) (by kernel_rfl) (fun _ _ _ h => h) (Or.inl ⟨by rfl, ?yb7⟩) hH ?rb7
    case yb7 => (intro W hSw; (try dsimp only at hSw); (try simp only [List.getElem_toArray, List.getElem_cons_succ, List.getElem_cons_zero]); go_simp; first | done | with_reducible rfl)
    try simp only [Act.put, List.getElem_toArray, List.getElem_cons_succ, List.getElem_cons_zero, List.setIfInBounds_toArray, List.set_cons_zero, List.set_cons_succ]
    refine wpAnyH_take (i := 8) (v := ?vb8) rfl (by kernel_rfl) (by kernel_rfl) (by kernel_rfl) (fun _ _ _ h => h) (Or.inl ⟨by rfl, ?yb8⟩) hH ?rb8
    case yb8 => (intro W hSw; (try dsimp only at hSw); (try simp only [List.getElem_toArray, List.getElem_cons_succ, List.getElem_cons_zero]); go_simp; first | done | with_reducible rfl)
    try simp only [Act.put, List.getElem_toArray, List.getElem_cons_succ, List.getElem_cons_zero, List.setIfInBounds_toArray, List.set_cons_zero, List.set_cons_succ]
    refine wpAnyH_take (i := 9) (v := ?vb9) rfl (by kernel_rfl) (by kernel_rfl) (by kernel_rfl) (fun _ _ _ h => h) (Or.inl ⟨by rfl, ?yb9⟩) hH ?rb9
    case yb9 => (intro W hSw; (try dsimp only at hSw); (try simp only [List.getElem_toArray, List.getElem_cons_succ, List.getElem_cons_zero]); go_simp; first | done | with_reducible rfl)
    try simp only [Act.put, List.getElem_toArray, List.getElem_cons_succ, List.getElem_cons_zero, List.setIfInBounds_toArray, List.set_cons_zero, List.set_cons_succ]
    refine wpAnyH_take (i := 12) (v := ?vb12) rfl (by kernel_rfl) (by kernel_rfl) (by kernel_rfl) (fun _ _ _ h => h) (Or.inl ⟨by rfl, ?yb12⟩) hH ?rb12
    case yb12 => (intro W hSw; (try dsimp only at hSw); (try simp only [List.getElem_toArray, List.getElem_cons_succ, List.getElem_cons_zero]); go_simp; first | done | with_reducible rfl)
    try simp only [Act.put, List.getElem_toArray, List.getElem_cons_succ, List.getElem_cons_zero, List.setIfInBounds_toArray, List.set_cons_zero, List.set_cons_succ]
    refine wpAnyH_take (i := 13) (v := ?vb13) rfl (by kernel_rfl) (by kernel_rfl) (by kernel_rfl) (fun _ _ _ h => h) (Or.inl ⟨by rfl, ?yb13⟩) hH ?rb13
    case yb13 => (intro W hSw; (try dsimp only at hSw); (try simp only [List.getElem_toArray, List.getElem_cons_succ, List.getElem_cons_zero]); go_simp; first | done | with_reducible rfl)
    try simp only [Act.put, List.getElem_toArray, List.getElem_cons_succ, List.getElem_cons_zero, List.setIfInBounds_toArray, List.set_cons_zero, List.set_cons_succ]
    refine wpAnyH_ready (rs := [10]) (by kernel_rfl) (by simp) ?_
    refine AllReadyH.cons rfl (fun K hK => ?_) AllReadyH.nil
    simp only [List.getElem_toArray, List.getElem_cons_succ, List.getElem_cons_zero]
    go_simp
    refine (BY.out _ hd9).mono ?_
    rintro e w10 ⟨A10, c10, rfl, ⟨O10, q10⟩, hb10⟩
    clear O10
    refine hK.out _ _ (two_strs R8'.out R7'.out LZ.out LZ.out hb10) (fun hH2 => ?_)
    clear hK
    refine held_less (S' := fun W => W = w10) (fun W h => by subst h; exact two_strs R8'.out R7'.out LZ.out LZ.out hb10) ?_
    have hS3 : (fun W => W = w10) w10 := rfl
    refine wpAnyH_take (i := 11) (v := ?vb11) rfl (by kernel_rfl) (by kernel_rfl) (by kernel_rfl) (fun _ _ _ h => h) (Or.inl ⟨by rfl, ?yb11⟩) hS3 ?rb11
    case yb11 => (intro W hSw; ((try dsimp only at hSw); cases hSw); (try simp only [List.getElem_toArray, List.getElem_cons_succ, List.getElem_cons_zero]); go_simp; first | done | with_reducible rfl)
    try simp only [Act.put, List.getElem_toArray, List.getElem_cons_succ, List.getElem_cons_zero, List.setIfInBounds_toArray, List.set_cons_zero, List.set_cons_succ]
    refine wpAnyH_take (i := 14) (v := ?vb14) rfl (by kernel_rfl) (by kernel_rfl) (by kernel_rfl) (fun _ _ _ h => h) (Or.inl ⟨by rfl, ?yb14⟩) hS3 ?rb14
    case yb14 => (intro W hSw; ((try dsimp only at hSw); cases hSw); (try simp only [List.getElem_toArray, List.getElem_cons_succ, List.getElem_cons_zero]); go_simp; first | done | with_reducible rfl)
    try simp only [Act.put, List.getElem_toArray, List.getElem_cons_succ, List.getElem_cons_zero, List.setIfInBounds_toArray, List.set_cons_zero, List.set_cons_succ]
    refine wpAnyH_take (i := 15) (v := ?vb15) rfl (by kernel_rfl) (by kernel_rfl) (by kernel_rfl) (fun _ _ _ h => h) (Or.inl ⟨by rfl, ?yb15⟩) hS3 ?rb15
    case yb15 => (intro W hSw; ((try dsimp only at hSw); cases hSw); (try simp only [List.getElem_toArray, List.getElem_cons_succ, List.getElem_cons_zero]); go_simp; first | done | with_reducible rfl)
    try simp only [Act.put, List.getElem_toArray, List.getElem_cons_succ, List.getElem_cons_zero, List.setIfInBounds_toArray, List.set_cons_zero, List.set_cons_succ]
    refine wpAnyH_take (i := 16) (v := ?vb16) rfl (by kernel_rfl) (by kernel_rfl) (by kernel_rfl) (fun _ _ _ h => h) (Or.inl ⟨by rfl, ?yb16⟩) hS3 ?rb16
    case yb16 => (intro W hSw; ((try dsimp only at hSw); cases hSw); (try simp only [List.getElem_toArray, List.getElem_cons_succ, List.getElem_cons_zero]); go_simp; first | done | with_reducible rfl)
    try simp only [Act.put, List.getElem_toArray, List.getElem_cons_succ, List.getElem_cons_zero, List.setIfInBounds_toArray, List.set_cons_zero, List.set_cons_succ]
    refine wpAnyH_take (i := 17) (v := ?vb17) rfl (by kernel_rfl) (by kernel_rfl) (by kernel_rfl) (fun _ _ _ h => h) (Or.inl ⟨by rfl, ?yb17⟩) hS3 ?rb17
    case yb17 => (intro W hSw; ((try dsimp only at hSw); cases hSw); (try simp only [List.getElem_toArray, List.getElem_cons_succ, List.getElem_cons_zero]); go_simp; first | done | with_reducible rfl)
    try simp only [Act.put, List.getElem_toArray, List.getElem_cons_succ, List.getElem_cons_zero, List.setIfInBounds_toArray, List.set_cons_zero, List.set_cons_succ]
    refine wpAnyH_take (i := 19) (v := ?vb19) rfl (by kernel_rfl) (by kernel_rfl) (by kernel_rfl) (fun _ _ _ h => h) (Or.inl ⟨by rfl, ?yb19⟩) hS3 ?rb19
    case yb19 => (intro W hSw; ((try dsimp only at hSw); cases hSw); (try simp only [List.getElem_toArray, List.getElem_cons_succ, List.getElem_cons_zero]); go_simp; first | done | with_reducible rfl)
    try simp only [Act.put, List.getElem_toArray, List.getElem_cons_succ, List.getElem_cons_zero, List.setIfInBounds_toArray, List.set_cons_zero, List.set_cons_succ]
    refine wpAnyH_take (i := 20) (v := ?vb20) rfl (by kernel_rfl) (by kernel_rfl) (by kernel_rfl) (fun _ _ _ h => h) (Or.inl ⟨by rfl, ?yb20⟩) hS3 ?rb20
    case yb20 => (intro W hSw; ((try dsimp only at hSw); cases hSw); (try simp only [List.getElem_toArray, List.getElem_cons_succ, List.getElem_cons_zero]); go_simp; first | done | with_reducible rfl)
    try simp only [Act.put, List.getElem_toArray, List.getElem_cons_succ, List.getElem_cons_zero, List.setIfInBounds_toArray, List.set_cons_zero, List.set_cons_succ]
    refine wpAnyH_ready (rs := [18]) (by kernel_rfl) (by simp) ?_
    refine AllReadyH.cons rfl (fun K hK => ?_) AllReadyH.nil
    simp only [List.getElem_toArray, List.getElem_cons_succ, List.getElem_cons_zero]
    go_simp
    refine (SY.out _ hb10).mono ?_
    rintro e w11 ⟨rfl, rfl⟩
    refine hK.out _ _ rfl (fun hH3 => ?_)
    clear hK
    refine wpAnyH_take (i := 21) (v := ?vb21) rfl (by kernel_rfl) (by kernel_rfl) (by kernel_rfl) (fun _ _ _ h => h) (Or.inl ⟨by rfl, ?yb21⟩) hS3 ?rb21
    case yb21 => (intro W hSw; ((try dsimp only at hSw); cases hSw); (try simp only [List.getElem_toArray, List.getElem_cons_succ, List.getElem_cons_zero]); go_simp; first | done | with_reducible rfl)
    try simp only [Act.put, List.getElem_toArray, List.getElem_cons_succ, List.getElem_cons_zero, List.setIfInBounds_toArray, List.set_cons_zero, List.set_cons_succ]
    refine wpAnyH_take (i := 22) (v := ?vb22) rfl (by kernel_rfl) (by kernel_rfl) (by kernel_rfl) (fun _ _ _ h => h) (Or.inl ⟨by rfl, ?yb22⟩) hS3 ?rb22
    case yb22 => (intro W hSw; ((try dsimp only at hSw); cases hSw); (try simp only [List.getElem_toArray, List.getElem_cons_succ, List.getElem_cons_zero]); go_simp; first | done | with_reducible rfl)
    try simp only [Act.put, List.getElem_toArray, List.getElem_cons_succ, List.getElem_cons_zero, List.setIfInBounds_toArray, List.set_cons_zero, List.set_cons_succ]
    refine wpAnyH_take (i := 23) (v := ?vb23) rfl (by kernel_rfl) (by kernel_rfl) (by kernel_rfl) (fun _ _ _ h => h) (Or.inl ⟨by rfl, ?yb23⟩) hS3 ?rb23
    case yb23 => (intro W hSw; ((try dsimp only at hSw); cases hSw); (try simp only [List.getElem_toArray, List.getElem_cons_succ, List.getElem_cons_zero]); go_simp; first | done | with_reducible rfl)
    try simp only [Act.put, List.getElem_toArray, List.getElem_cons_succ, List.getElem_cons_zero, List.setIfInBounds_toArray, List.set_cons_zero, List.set_cons_succ]
    refine wpAnyH_done (by kernel_rfl) ?_ _
    go_wp2
    go_ret
    exact ⟨by simp, below_next hb9.out hb10⟩

theorem diskLoses_walk' (A : Option Addr) (cap : Nat) (xs : List Int) (B : Option Addr) (cb : Nat) (ys : List Int) (keep : Int) (w : World)
    (hcb : ys.length ≤ cb) (hR : Reads w A (bys xs)) (hS : Reads w B (bys ys)) (hm : xs.length ≤ 140737488351232) (hm' : ys.length ≤ 140737488351232) :
    Calls Try.prog 4 #[.slice A xs.length cap, .slice B ys.length cb, .int .i64 keep] w fun e w' => e = .returned (.bool true) ∧ Below w.heap.size w w' :=
  diskLoses_walk A cap xs B cb ys keep (max 0 (min keep (ys.length : Int))).toNat w (by omega) hcb hR hS hm hm'

set_option maxRecDepth 100000 in
theorem diskLoses_lifted (os : Os) (started : os.Started) (H : Type) (enc : TypeId × Value → H) :
    ReturnsInHanded {} Try.checked os 4 .any (Rows.diskLosesSpec.pre6 enc Try.prog Try.f4 Rows.diskLosesRow.domain false) (Rows.diskLosesSpec.post enc Try.prog Try.f4 false true false false) := by
  refine returnsInHanded_of_change_sized (C := Try.checked) (by kernel_rfl) started (by kernel_rfl) Try.func4
    (ChangeSpec.witness6 (enc := enc) (C := Try.checked) false ⟨#[], #[.slice none 0 0, .slice none 0 0, .int .i64 0], []⟩ 8 (by kernel_rfl) (by kernel_rfl) (by kernel_rfl) (by kernel_rfl)) ?_
  intro W base args ds gs before hval0 hW _ hsz0 _
  have hval : ∀ (j : Nat) t v, Try.f4.params[j]? = some t → args[j]? = some v → Value.okWide Try.prog W .any base t v := hval0
  have hW' := hW
  obtain ⟨p, q, hA0, hV, rfl, _, _⟩ := hW
  have hA : DataW.TrodAll enc Try.prog W 0 (fun _ => true) true Try.f4.params.toList args.toList ds p := hA0
  have hsz : (DataW.weightsEach Try.prog (Try.f4.params.toList ++ Rows.diskLosesSpec.plain.varTypes Try.prog) (ds ++ gs)).all (· ≤ reachBytes) = true := hsz0
  rw [Try.params4] at hA hval hsz
  obtain ⟨v0, v1, v2, d0, d1, d2, p0, p1, p2, rfl, rfl, rfl, h0, h1, h2⟩ := trodAll_three hA
  obtain ⟨A0, cap0, z0, rfl, hcap0, hm0, hR0, hwf0, hn0⟩ := open_nums Try.underlying26 Try.underlying5 (by kernel_rfl) (hval 0 26 v0 rfl rfl) h0
  have hreach0 := reach_nums (m := 1) hsz (j := 0) (t := 26) rfl rfl Try.underlying26 hn0 (by kernel_rfl)
  have bd0 := fun z hz => bounds_u8 (hwf0 z hz)
  obtain ⟨A1, cap1, z1, rfl, hcap1, hm1, hR1, hwf1, hn1⟩ := open_nums Try.underlying26 Try.underlying5 (by kernel_rfl) (hval 1 26 v1 rfl rfl) h1
  have hreach1 := reach_nums (m := 1) hsz (j := 1) (t := 26) rfl rfl Try.underlying26 hn1 (by kernel_rfl)
  have bd1 := fun z hz => bounds_u8 (hwf1 z hz)
  obtain ⟨x2, rfl, rfl, rfl, wf2⟩ := open_int Try.underlying3 (hval 2 3 v2 rfl rfl) h2
  have bd2 := bounds_i64 wf2
  refine (diskLoses_walk' _ _ _ _ _ _ _ _ hcap1 hR0 hR1 (by have := hm0; omega) (by have := hm1; omega)).mono fun e W' ⟨he, hb⟩ => ?_
  subst he
  exact ⟨_, rfl, post_law (by kernel_rfl) (by kernel_rfl) rfl hW' (by rintro _ rfl; rfl) rfl Try.underlying4 hb⟩

theorem diskLoses_holds : Rows.DiskLosesSaid :=
  OpenClaim.holds_of_wide 4 Try.f4 rfl rfl rfl rfl rfl rfl rfl ⟨rfl, rfl, rfl, rfl, rfl⟩ rfl rfl rfl rfl rfl (by kernel_rfl) Try.func4 (by kernel_rfl)
    (of_decide_eq_true (by kernel_rfl)) (by unfold Func.isWrapper; first | (rw [if_pos (by decide +kernel)]; kernel_rfl) | (rw [if_neg (by decide +kernel)]; exact ⟨rfl, rfl⟩))
    (fun os started H enc _ => diskLoses_lifted os started H enc)
end Go.Proofs.Ytodlabpgjgbbpad
