/-
  DiskKeeps: behind whatever is appended, synced, and lost in crashes, the bytes begin with all that were synced. No conditions.
-/
import Derived.Test.YtodlabpgjgbbpadDiskDeeds
import Derived.Test.YtodlabpgjgbbpadHeld
import Derived.Test.YtodlabpgjgbbpadLaw
import Derived.Test.YtodlabpgjgbbpadRows
import Derived.Deep.DeepCutAuto
import Derived.Deep.CutBlock
namespace Go.Proofs.Ytodlabpgjgbbpad
open Go.RowKit Go.Agio Go.ChangeShapes Go.WideShapes Go.ChangeAt

theorem bytes_at (base d : Nat) (xs : List Int) (s : Nat) (A : Option Addr) (c m : Nat) (w : World) (hD : Disk base w d xs s A c) (hm : xs.length = m) :
    Calls Try.prog 11 #[.pointer (some ⟨d, 0, none⟩)] w fun e w' => ∃ A' c', e = .returned (.slice A' m c') ∧ (w'.ownsRow w.heap.size 5 1 (.slice A' m c') m (bys xs) ∧ (convert 26 9 (.slice A' m c')).run Try.prog w' = .ok (.string (strOfNums xs)) w') ∧ Below w.heap.size w w' := by
  subst hm
  refine (bytes_any base d xs s A c w hD).mono ?_
  rintro e w' ⟨A', c', h1, h2, h3⟩
  exact ⟨A', c', h1, ⟨h2, str_reads w' A' _ c' xs (Reads.of_own h2) rfl⟩, h3⟩

theorem bytes_next {base d : Nat} {xs : List Int} {s : Nat} {A : Option Addr} {c m : Nat} {W w : World} (hb : Below W.heap.size W w) (hD : Disk base W d xs s A c) (hm : xs.length = m) :
    Calls Try.prog 11 #[.pointer (some ⟨d, 0, none⟩)] w fun e w' => ∃ A' c', e = .returned (.slice A' m c') ∧ (w'.ownsRow w.heap.size 5 1 (.slice A' m c') m (bys xs) ∧ (convert 26 9 (.slice A' m c')).run Try.prog w' = .ok (.string (strOfNums xs)) w') ∧ Below W.heap.size W w' := by
  refine (bytes_at base d xs s A c m w (hD.moved hb) hm).mono ?_
  rintro e w' ⟨A', c', h1, h2, h3⟩
  exact ⟨A', c', h1, h2, below_next hb h3⟩

/-- What the last question reads of memory. -/
theorem two_strs {W w1 : World} {A B : Option Addr} {n c m k : Nat} {xs ys : List Int} (hA : Reads W A (bys xs)) (hB : Reads W B (bys ys)) (hn : xs.length = n) (hm : ys.length = m) (hb : Below W.heap.size W w1) :
    Below W.heap.size W w1 ∧ (convert 26 9 (.slice A n c)).run Try.prog w1 = .ok (.string (strOfNums xs)) w1 ∧ (convert 26 9 (.slice B m k)).run Try.prog w1 = .ok (.string (strOfNums ys)) w1 :=
  ⟨hb, str_reads w1 A n c xs (hA.below hb) hn, str_reads w1 B m k ys (hB.below hb) hm⟩

theorem three_strs {W w1 : World} {A B C : Option Addr} {n c m k p j : Nat} {xs ys zs : List Int} (hA : Reads W A (bys xs)) (hB : Reads W B (bys ys)) (hC : Reads W C (bys zs)) (hn : xs.length = n) (hm : ys.length = m) (hp : zs.length = p) (hb : Below W.heap.size W w1) :
    Below W.heap.size W w1 ∧ (convert 26 9 (.slice A n c)).run Try.prog w1 = .ok (.string (strOfNums xs)) w1 ∧ (convert 26 9 (.slice B m k)).run Try.prog w1 = .ok (.string (strOfNums ys)) w1 ∧ (convert 26 9 (.slice C p j)).run Try.prog w1 = .ok (.string (strOfNums zs)) w1 :=
  ⟨hb, str_reads w1 A n c xs (hA.below hb) hn, str_reads w1 B m k ys (hB.below hb) hm, str_reads w1 C p j zs (hC.below hb) hp⟩

/-- A disk, and what was synced beside it. -/
def Keep (w : World) (d : Nat) (xs : List Int) (s : Nat) (Y : Option Addr) (yc : Nat) (wr : World) : Prop :=
  ∃ A c, Disk w.heap.size wr d xs s A c ∧ Reads wr Y (bys (xs.take s)) ∧ s ≤ yc ∧ (∀ a, Y = some a → a.block < wr.heap.size ∧ a.block ≠ d ∧ ∀ b, A = some b → a.block ≠ b.block) ∧ Below w.heap.size w wr
theorem Keep.below {w : World} {d : Nat} {xs : List Int} {s : Nat} {Y : Option Addr} {yc : Nat} {wr w1 : World} (h : Keep w d xs s Y yc wr) (hb : Below wr.heap.size wr w1) : Keep w d xs s Y yc w1 := by
  obtain ⟨A, c, h1, h2, h3, h4, h5⟩ := h
  exact ⟨A, c, h1.moved hb, h2.below hb, h3, fun a ha => ⟨Nat.lt_of_lt_of_le (h4 a ha).1 hb.size, (h4 a ha).2⟩, h5.trans (hb.mono h5.size)⟩

theorem own_heap {w w' : World} {base n size : Nat} {e : TypeId} {v : Value} {xs : List Value} (h : w.ownsRow base e size v n xs) (hb : ∀ g, v.ownBlock = some g → w'.heap[g]? = w.heap[g]?) : w'.ownsRow base e size v n xs := by
  refine ⟨h.1, ?_⟩
  rcases h.2 with hn | ⟨g, cap, cur, hv, hbg, hh, rest⟩
  · exact .inl hn
  · exact .inr ⟨g, cap, cur, hv, hbg, (hb g (by rw [hv]; rfl)).trans hh, rest⟩
theorem own_cap {w : World} {base n c : Nat} {e : TypeId} {A : Option Addr} {xs : List Value} (h : w.ownsRow base e 1 (.slice A n c) n xs) : n ≤ c := by
  rcases h.2 with ⟨he, hn⟩ | ⟨g, cap, cur, he, _, _, hnc, _⟩
  · omega
  · injection he with _ _ e3; omega
theorem bys_take (xs : List Int) (n : Nat) : bys (xs.take n) = (bys xs).take n := by simp [bys, List.map_take]
theorem take_more {xs ys : List Int} {s : Nat} (h : s ≤ xs.length) : (xs ++ ys).take s = xs.take s := by rw [List.take_append_of_le_length h]
theorem disk_keep {base d : Nat} {w w' : World} {xs : List Int} {s c : Nat} {A : Option Addr} (h : Disk base w d xs s A c) (hs : w.heap.size ≤ w'.heap.size) (hd : w'.heap[d]? = w.heap[d]?) (hA : ∀ a, A = some a → w'.heap[a.block]? = w.heap[a.block]?) : Disk base w' d xs s A c := by
  obtain ⟨h1, h2, h3, h4, h5, h6⟩ := h
  exact ⟨h1, hd.trans h2, h3.same hs hA, h4, h5, h6⟩
theorem keep_moved {w wr w3 : World} {d s c : Nat} {xs l : List Int} {Y A A' : Option Addr} (hD : Disk w.heap.size wr d xs s A c) (hY : Reads wr Y (bys l)) (hYa : ∀ a, Y = some a → a.block < wr.heap.size ∧ a.block ≠ d ∧ ∀ b, A = some b → a.block ≠ b.block) (hB : Below w.heap.size w wr) (hwd : w.heap.size ≤ d) (M : Moved d A A' wr w3) :
    Reads w3 Y (bys l) ∧ (∀ a, Y = some a → a.block < w3.heap.size ∧ a.block ≠ d ∧ ∀ b, A' = some b → a.block ≠ b.block) ∧ Below w.heap.size w w3 := by
  refine ⟨M.reads hY (fun a ha => (hYa a ha).2.1) (fun a b ha hb => (hYa a ha).2.2 b hb), fun a ha => ⟨Nat.lt_of_lt_of_le (hYa a ha).1 M.size, (hYa a ha).2.1, fun b hb => ?_⟩, M.below hB hwd (fun a ha => (hD.2.2.1.low a ha).1) hB.size⟩
  rcases M.next b hb with ⟨b0, k1, k2⟩ | k
  · rw [k2]; exact (hYa a ha).2.2 b0 k1
  · have := (hYa a ha).1; omega
theorem keep_fresh {w w3 w4 : World} {d s c c4 : Nat} {xs : List Int} {A A4 : Option Addr} (hD : Disk w.heap.size w3 d xs s A c) (ho : w4.ownsRow w3.heap.size 5 1 (.slice A4 s c4) s (bys (xs.take s))) (hb : Below w3.heap.size w3 w4) (hB : Below w.heap.size w w3) : Keep w d xs s A4 c4 w4 := by
  have hd := blk_lt hD.2.1
  have hl : (xs.take s).length = s := by rw [List.length_take]; have := hD.2.2.2.1; omega
  refine ⟨A, c, hD.moved hb, ?_, own_cap ho, fun a ha => ?_, hB.trans (hb.mono hB.size)⟩
  · exact Reads.of_own ho
  · subst ha
    have h := ho.lt a.block rfl
    exact ⟨h.2, by omega, fun b hb' => by have := (hD.2.2.1.low b hb').2; omega⟩

set_option maxRecDepth 100000 in
set_option maxHeartbeats 20000000 in
theorem diskKeeps_walk (L : Option Addr) (n cap : Nat) (X : Nat → Deed) (w : World) (hR : Agio.Rows w L n 3 (fun i => (X i).cells)) (hX : ∀ i, i < n → (X i).fine w) :
    Calls Try.prog 3 #[.slice L n cap] w fun e w' => e = .returned (.bool true) ∧ Below w.heap.size w w' := by
  obtain ⟨i0, hi, hz0, hz1, hz2⟩ := info_parts info8
  have HR := hide hR; have HX := hide hX
  clear hR hX
  go_enter Try.func3, Try.ntmps3
  go_wp2_with fail
  refine (awake_any _).mono ?_
  rintro e w1 ⟨rfl, hb1⟩
  go_wp2_with fail
  refine (new_any _).mono ?_
  rintro e w2 ⟨rfl, rfl⟩
  obtain ⟨d, hd⟩ : ∃ d, d = w1.heap.size := ⟨_, rfl⟩
  have D0 := disk_new w.heap.size w1 hb1.size
  have hwd : w.heap.size ≤ d := by rw [hd]; exact hb1.size
  have P0 : Hid (Keep w d [] 0 none 0 (w1.alloc (.cells #[.slice none 0 0, .int .i64 0] 50))) := hide (by
    rw [hd]
    exact ⟨none, 0, D0, .nil _ _, Nat.le_refl _, by simp, hb1.alloc hb1.size _⟩)
  rw [← hd] at *
  generalize w1.alloc (.cells #[.slice none 0 0, .int .i64 0] 50) = W0 at *
  clear hd hb1 D0
  go_wp2_with fail
  go_loopw [5, 6] (fun v i wr => ∃ (p : Nat) (xs : List Int) (s : Nat) (Y : Option Addr) (yc : Nat), p ≤ n ∧ i = .int .i64 p ∧ v = .slice Y s yc ∧ Keep w d xs s Y yc wr) (fun _ i _ => n - (intOf i).toNat)
  case atStart => exact ⟨0, [], 0, none, 0, Nat.zero_le _, rfl, rfl, P0.out⟩
  case round =>
    obtain ⟨p, xs, s, Y, yc, hp, rfl, rfl, hP⟩ := hrel
    have HP := hide hP
    clear hP P0
    by_cases hlt : p < n ∧ p < 100
    · obtain ⟨h1, h2⟩ := hlt
      obtain ⟨b, off, rfl, hb, hc⟩ := HR.out.at_ (k := p) h1
      obtain ⟨x, hx⟩ : ∃ x, x = X p := ⟨_, rfl⟩
      have HF := HX.out p h1
      have hk0 := hc p h1 0 (by omega)
      have hk1 := hc p h1 1 (by omega)
      have hk2 := hc p h1 2 (by omega)
      rw [← hx] at HF hk0 hk1 hk2
      clear hx hc
      obtain ⟨kind, num, bs, B, cb⟩ := x
      obtain ⟨hRB, _, _, _, _, hlb⟩ := HF
      change Reads w B (bys bs) at hRB
      change bs.length ≤ _ at hlb
      replace hk0 : w.cell? ⟨b, off + p * 3, none⟩ = some (.int .i64 kind) := hk0
      replace hk1 : w.cell? ⟨b, off + p * 3 + 1, none⟩ = some (.int .i64 num) := hk1
      replace hk2 : w.cell? ⟨b, off + p * 3 + 2, none⟩ = some (.slice B bs.length cb) := hk2
      have HRB := hide hRB
      clear hRB
      have a1 : (0 : Int) ≤ (p : Int) := by omega
      have a2 : (p : Int) < (n : Int) := by omega
      have a3 : (p : Int) < 100 := by omega
      obtain ⟨A, c, hD, hY, hyc, hYa, hBw⟩ := HP.out
      have HD := hide hD; have HY := hide hY; have HYA := hide hYa; have HBW := hide hBw
      clear hD hY hYa hBw HP
      go_wp2_with fail
      refine (bytes_any w.heap.size d xs s A c wr HD.out).mono ?_
      rintro e w1 ⟨WA, wq, rfl, hown, hb1⟩
      have HB1 := hide (HBW.out.trans (hb1.mono HBW.out.size))
      have c0 := (HB1.out.cell (p := ⟨b, off + p * 3, none⟩) hb).trans hk0
      have c1 := (HB1.out.cell (p := ⟨b, off + p * 3 + 1, none⟩) hb).trans hk1
      have c2 := (HB1.out.cell (p := ⟨b, off + p * 3 + 2, none⟩) hb).trans hk2
      have D1 := hide (HD.out.moved hb1)
      have Y1 := hide (HY.out.below hb1)
      have YA1 := hide (fun a (ha : Y = some a) => show a.block < w1.heap.size ∧ a.block ≠ d ∧ ∀ b, A = some b → a.block ≠ b.block from ⟨Nat.lt_of_lt_of_le (HYA.out a ha).1 hb1.size, (HYA.out a ha).2⟩)
      have HO := hide hown
      have HLE := hide HD.out.2.2.2.1
      have hxl : xs.length ≤ 1048576 := HD.out.2.2.2.2.1
      have hg1 : ∀ g, Value.ownBlock (.slice WA xs.length wq) = some g → (g ≠ d ∧ ∀ a, A = some a → g ≠ a.block) ∧ g < w1.heap.size := fun g hg => by
        have h := HO.out.lt g hg
        have hd := blk_lt HD.out.2.1
        exact ⟨⟨by omega, fun a ha => by have := (HD.out.2.2.1.low a ha).2; omega⟩, h.2⟩
      have hg2 : ∀ g, Value.ownBlock (.slice WA xs.length wq) = some g → ∀ a, Y = some a → a.block ≠ g := fun g hg a ha => by
        have h := HO.out.lt g hg
        have := (HYA.out a ha).1
        omega
      have hs1 := hb1.size
      clear hown hb1
      go_upto_block 2 with fail
      go_cut [5] (fun v wx => ∃ xs' s' Y' yc', v = .slice Y' s' yc' ∧ Keep w d xs' s' Y' yc' wx)
      case first =>
        by_cases q0 : bits BinOp.and IntKind.i64 kind 3 = 0
        · have t0 : (bits BinOp.and IntKind.i64 kind 3 == 0) = true := by simp [q0]
          clear q0
          go_wp2_with fail
          by_cases hroom : xs.length + bs.length ≤ 1048576
          · refine (append_any w.heap.size d xs s A c B bs.length cb bs w1 D1.out (HRB.out.below HB1.out) rfl hroom).mono ?_
            rintro e w3 ⟨rfl, A3, c3, D3, M3⟩
            have HA := hide (keep_moved D1.out Y1.out YA1.out HB1.out hwd M3)
            have O3 := hide (own_heap HO.out (fun g hg => M3.rest g (hg1 g hg).2 (hg1 g hg).1.1 (fun a ha he => (hg1 g hg).1.2 a ha he)))
            have HG3 := hide (fun g (hg : Value.ownBlock (.slice WA xs.length wq) = some g) => show g ≠ d ∧ (∀ a, A3 = some a → a.block ≠ g) ∧ (∀ a, Y = some a → a.block ≠ g) from ⟨(hg1 g hg).1.1, fun a ha => by
              rcases M3.next a ha with ⟨a0, k1, k2⟩ | k
              · rw [k2]; exact fun h => (hg1 g hg).1.2 a0 k1 h.symm
              · have := (hg1 g hg).2; omega, fun a ha => hg2 g hg a ha⟩)
            have D3 := hide D3
            have hw3 : wr.heap.size ≤ w3.heap.size := Nat.le_trans hs1 M3.size
            clear M3 c0 c1 c2
            have c0 := (HA.out.2.2.cell (p := ⟨b, off + p * 3, none⟩) hb).trans hk0
            have c2 := (HA.out.2.2.cell (p := ⟨b, off + p * 3 + 2, none⟩) hb).trans hk2
            go_wp2_with (at_builtin; apply halted)
            refine unhalt (wpList_append_reads rfl (.tmp 47) (.tmp 52) 26 rfl wr.heap.size 5 i0 (.int .u8 0) 1 Try.underlying26 hi hz0 hz1 hz2 rfl _ xs.length (bys xs) rfl O3.out B bs.length cb (bys bs) rfl (HRB.out.below HA.out.2.2) (by rw [List.length_map]) (ints_one _ _) (by unfold maxLen; omega) (by omega) hw3 ?_)
            intro A6 c6 w6 n6 g6 t6
            have LM : Hid ((xs ++ bs).length = xs.length + bs.length) := hide (by simp)
            have RP : Hid (Reads w6 A6 (bys (xs ++ bs))) := hide (by
              have e : bys (xs ++ bs) = bys xs ++ bys bs := by simp [bys]
              rw [e]
              exact Reads.of_own (e := 5) (n := xs.length + bs.length) n6)
            have D6 := hide (disk_keep D3.out g6.size (g6.block _ (blk_lt D3.out.2.1) (fun h => (HG3.out d h.symm).1 rfl)) (fun a ha => g6.block _ (D3.out.2.2.1.low a ha).2 (fun h => (HG3.out _ h.symm).2.1 a ha rfl)))
            have KP : Hid (Keep w d (xs ++ bs) s Y yc w6) := hide ⟨A3, c3, D6.out, by rw [take_more HLE.out]; exact HA.out.1.grown g6 (fun b off he h => (HG3.out b h.symm).2.2 _ he rfl), hyc, fun a ha => ⟨Nat.lt_of_lt_of_le (HA.out.2.1 a ha).1 g6.size, (HA.out.2.1 a ha).2⟩, HA.out.2.2.grown g6 HA.out.2.2.size (fun g hg => Nat.le_trans HBW.out.size (HO.out.lt g hg).1)⟩
            clear n6 g6 t6 HA HG3 O3 D3 c0 c2
            go_wp2_with fail
            have BY := hide (fun (W : World) (hb : Below w6.heap.size w6 W) => bytes_next hb D6.out (m := (xs.length + bs.length)) LM.out)
            have SS : Hid (∀ W, Below w6.heap.size w6 W → (Below w6.heap.size w6 W ∧ (convert 26 9 (.slice A6 (xs.length + bs.length) c6)).run Try.prog W = .ok (.string (strOfNums (xs ++ bs))) W)) := hide (fun W hb => ⟨hb, str_reads W A6 (xs.length + bs.length) c6 (xs ++ bs) (RP.out.below hb) LM.out⟩)
            have e1 : ((strOfNums ((xs ++ bs))).toList == (strOfNums ((xs ++ bs))).toList) = true := by simp
            have hd9 := (Below.refl w6.heap.size w6).drew
            refine wp_region_held_drew (S := fun W => Below w6.heap.size w6 W ∧ (convert 26 9 (.slice A6 (xs.length + bs.length) c6)).run Try.prog W = .ok (.string (strOfNums (xs ++ bs))) W) (by kernel_rfl) (SS.out _ hd9) (fun hH => ?_)
            refine wpAnyH_take (i := 0) (v := ?vpa0) rfl (by kernel_rfl) (by kernel_rfl) (by kernel_rfl) (fun _ _ _ h => h) (Or.inl ⟨by rfl, ?ypa0⟩) hH ?rpa0
            case ypa0 => (intro W hSw; (try dsimp only at hSw); (try simp only [List.getElem_toArray, List.getElem_cons_zero]); go_simp; first | done | with_reducible rfl)
            try simp only [Act.put, List.getElem_toArray, List.getElem_cons_zero, List.setIfInBounds_toArray, List.set_cons_zero, List.set_cons_succ]
            refine wpAnyH_take (i := 3) (v := ?vpa3) rfl (by kernel_rfl) (by kernel_rfl) (by kernel_rfl) (fun _ _ _ h => h) (Or.inl ⟨by rfl, ?ypa3⟩) hH ?rpa3
            case ypa3 => (intro W hSw; (try dsimp only at hSw); (try simp only [List.getElem_toArray, List.getElem_cons_succ, List.getElem_cons_zero]); go_simp; first | done | with_reducible rfl)
            try simp only [Act.put, List.getElem_toArray, List.getElem_cons_succ, List.getElem_cons_zero, List.setIfInBounds_toArray, List.set_cons_zero, List.set_cons_succ]
            refine wpAnyH_take (i := 4) (v := ?vpa4) rfl (by kernel_rfl) (by kernel_rfl) (by kernel_rfl) (fun _ _ _ h => h) (Or.inl ⟨by rfl, ?ypa4⟩) hH ?rpa4
            case ypa4 => (intro W hSw; (try dsimp only at hSw); (try simp only [List.getElem_toArray, List.getElem_cons_succ, List.getElem_cons_zero]); go_simp; first | done | with_reducible rfl)
            try simp only [Act.put, List.getElem_toArray, List.getElem_cons_succ, List.getElem_cons_zero, List.setIfInBounds_toArray, List.set_cons_zero, List.set_cons_succ]
            refine wpAnyH_ready (rs := [1]) (by kernel_rfl) (by simp) ?_
            refine AllReadyH.cons rfl (fun K hK => ?_) AllReadyH.nil
            simp only [List.getElem_toArray, List.getElem_cons_succ, List.getElem_cons_zero]
            go_simp
            refine (BY.out _ hd9).mono ?_
            rintro e w10 ⟨A10, c10, rfl, ⟨O10, q10⟩, hb10⟩
            clear O10
            refine hK.out _ _ (SS.out _ hb10) (fun hH2 => ?_)
            clear hK
            refine held_less (S' := fun W => W = w10) (fun W h => by subst h; exact SS.out _ hb10) ?_
            have hS3 : (fun W => W = w10) w10 := rfl
            refine wpAnyH_take (i := 2) (v := ?vpa2) rfl (by kernel_rfl) (by kernel_rfl) (by kernel_rfl) (fun _ _ _ h => h) (Or.inl ⟨by rfl, ?ypa2⟩) hS3 ?rpa2
            case ypa2 => (intro W hSw; ((try dsimp only at hSw); cases hSw); (try simp only [List.getElem_toArray, List.getElem_cons_succ, List.getElem_cons_zero]); go_simp; first | done | with_reducible rfl)
            try simp only [Act.put, List.getElem_toArray, List.getElem_cons_succ, List.getElem_cons_zero, List.setIfInBounds_toArray, List.set_cons_zero, List.set_cons_succ]
            refine wpAnyH_take (i := 5) (v := ?vpa5) rfl (by kernel_rfl) (by kernel_rfl) (by kernel_rfl) (fun _ _ _ h => h) (Or.inl ⟨by rfl, ?ypa5⟩) hS3 ?rpa5
            case ypa5 => (intro W hSw; ((try dsimp only at hSw); cases hSw); (try simp only [List.getElem_toArray, List.getElem_cons_succ, List.getElem_cons_zero]); go_simp; first | done | with_reducible rfl)
            try simp only [Act.put, List.getElem_toArray, List.getElem_cons_succ, List.getElem_cons_zero, List.setIfInBounds_toArray, List.set_cons_zero, List.set_cons_succ]
            refine wpAnyH_done (by kernel_rfl) ?_ _
            go_wp2
            go_meet
            case rel => exact ⟨_, s, Y, yc, rfl, KP.out.below hb10⟩
          · have hroom : 1048576 < xs.length + bs.length := by omega
            refine (append_full w.heap.size d xs s A c B bs.length cb w1 D1.out hroom).mono ?_
            rintro e w3 ⟨rfl, rfl⟩
            have RP : Hid (Reads w1 WA (bys xs)) := hide (Reads.of_own HO.out)
            have KP : Hid (Keep w d xs s Y yc w1) := hide ⟨A, c, D1.out, Y1.out, hyc, YA1.out, HB1.out⟩
            go_wp2_with fail
            have LM : Hid (xs.length = xs.length) := hide rfl
            have BY := hide (fun (W : World) (hb : Below w1.heap.size w1 W) => bytes_next hb D1.out (m := xs.length) LM.out)
            have SS : Hid (∀ W, Below w1.heap.size w1 W → (Below w1.heap.size w1 W ∧ (convert 26 9 (.slice WA xs.length wq)).run Try.prog W = .ok (.string (strOfNums xs)) W)) := hide (fun W hb => ⟨hb, str_reads W WA xs.length wq xs (RP.out.below hb) LM.out⟩)
            have e1 : ((strOfNums (xs)).toList == (strOfNums (xs)).toList) = true := by simp
            have hd9 := (Below.refl w1.heap.size w1).drew
            refine wp_region_held_drew (S := fun W => Below w1.heap.size w1 W ∧ (convert 26 9 (.slice WA xs.length wq)).run Try.prog W = .ok (.string (strOfNums xs)) W) (by kernel_rfl) (SS.out _ hd9) (fun hH => ?_)
            refine wpAnyH_take (i := 0) (v := ?vpb0) rfl (by kernel_rfl) (by kernel_rfl) (by kernel_rfl) (fun _ _ _ h => h) (Or.inl ⟨by rfl, ?ypb0⟩) hH ?rpb0
            case ypb0 => (intro W hSw; (try dsimp only at hSw); (try simp only [List.getElem_toArray, List.getElem_cons_zero]); go_simp; first | done | with_reducible rfl)
            try simp only [Act.put, List.getElem_toArray, List.getElem_cons_zero, List.setIfInBounds_toArray, List.set_cons_zero, List.set_cons_succ]
            refine wpAnyH_take (i := 3) (v := ?vpb3) rfl (by kernel_rfl) (by kernel_rfl) (by kernel_rfl) (fun _ _ _ h => h) (Or.inl ⟨by rfl, ?ypb3⟩) hH ?rpb3
            case ypb3 => (intro W hSw; (try dsimp only at hSw); (try simp only [List.getElem_toArray, List.getElem_cons_succ, List.getElem_cons_zero]); go_simp; first | done | with_reducible rfl)
            try simp only [Act.put, List.getElem_toArray, List.getElem_cons_succ, List.getElem_cons_zero, List.setIfInBounds_toArray, List.set_cons_zero, List.set_cons_succ]
            refine wpAnyH_take (i := 4) (v := ?vpb4) rfl (by kernel_rfl) (by kernel_rfl) (by kernel_rfl) (fun _ _ _ h => h) (Or.inl ⟨by rfl, ?ypb4⟩) hH ?rpb4
            case ypb4 => (intro W hSw; (try dsimp only at hSw); (try simp only [List.getElem_toArray, List.getElem_cons_succ, List.getElem_cons_zero]); go_simp; first | done | with_reducible rfl)
            try simp only [Act.put, List.getElem_toArray, List.getElem_cons_succ, List.getElem_cons_zero, List.setIfInBounds_toArray, List.set_cons_zero, List.set_cons_succ]
            refine wpAnyH_ready (rs := [1]) (by kernel_rfl) (by simp) ?_
            refine AllReadyH.cons rfl (fun K hK => ?_) AllReadyH.nil
            simp only [List.getElem_toArray, List.getElem_cons_succ, List.getElem_cons_zero]
            go_simp
            refine (BY.out _ hd9).mono ?_
            rintro e w10 ⟨A10, c10, rfl, ⟨O10, q10⟩, hb10⟩
            clear O10
            refine hK.out _ _ (SS.out _ hb10) (fun hH2 => ?_)
            clear hK
            refine held_less (S' := fun W => W = w10) (fun W h => by subst h; exact SS.out _ hb10) ?_
            have hS3 : (fun W => W = w10) w10 := rfl
            refine wpAnyH_take (i := 2) (v := ?vpb2) rfl (by kernel_rfl) (by kernel_rfl) (by kernel_rfl) (fun _ _ _ h => h) (Or.inl ⟨by rfl, ?ypb2⟩) hS3 ?rpb2
            case ypb2 => (intro W hSw; ((try dsimp only at hSw); cases hSw); (try simp only [List.getElem_toArray, List.getElem_cons_succ, List.getElem_cons_zero]); go_simp; first | done | with_reducible rfl)
            try simp only [Act.put, List.getElem_toArray, List.getElem_cons_succ, List.getElem_cons_zero, List.setIfInBounds_toArray, List.set_cons_zero, List.set_cons_succ]
            refine wpAnyH_take (i := 5) (v := ?vpb5) rfl (by kernel_rfl) (by kernel_rfl) (by kernel_rfl) (fun _ _ _ h => h) (Or.inl ⟨by rfl, ?ypb5⟩) hS3 ?rpb5
            case ypb5 => (intro W hSw; ((try dsimp only at hSw); cases hSw); (try simp only [List.getElem_toArray, List.getElem_cons_succ, List.getElem_cons_zero]); go_simp; first | done | with_reducible rfl)
            try simp only [Act.put, List.getElem_toArray, List.getElem_cons_succ, List.getElem_cons_zero, List.setIfInBounds_toArray, List.set_cons_zero, List.set_cons_succ]
            refine wpAnyH_done (by kernel_rfl) ?_ _
            go_wp2
            go_meet
            case rel => exact ⟨_, s, Y, yc, rfl, KP.out.below hb10⟩
        · by_cases q3 : bits BinOp.and IntKind.i64 kind 3 = 3
          · have t0 : (bits BinOp.and IntKind.i64 kind 3 == 0) = false := by simp [q0]
            have t3 : (bits BinOp.and IntKind.i64 kind 3 == 3) = true := by simp [q3]
            clear q0 q3
            go_wp2_with fail
            by_cases hroom : xs.length + bs.length ≤ 1048576
            · refine (append_any w.heap.size d xs s A c B bs.length cb bs w1 D1.out (HRB.out.below HB1.out) rfl hroom).mono ?_
              rintro e w3 ⟨rfl, A3, c3, D3, M3⟩
              have HA := hide (keep_moved D1.out Y1.out YA1.out HB1.out hwd M3)
              have O3 := hide (own_heap HO.out (fun g hg => M3.rest g (hg1 g hg).2 (hg1 g hg).1.1 (fun a ha he => (hg1 g hg).1.2 a ha he)))
              have HG3 := hide (fun g (hg : Value.ownBlock (.slice WA xs.length wq) = some g) => show g ≠ d ∧ (∀ a, A3 = some a → a.block ≠ g) ∧ (∀ a, Y = some a → a.block ≠ g) from ⟨(hg1 g hg).1.1, fun a ha => by
                rcases M3.next a ha with ⟨a0, k1, k2⟩ | k
                · rw [k2]; exact fun h => (hg1 g hg).1.2 a0 k1 h.symm
                · have := (hg1 g hg).2; omega, fun a ha => hg2 g hg a ha⟩)
              have D3 := hide D3
              have hw3 : wr.heap.size ≤ w3.heap.size := Nat.le_trans hs1 M3.size
              clear M3 c0 c1 c2
              have c0 := (HA.out.2.2.cell (p := ⟨b, off + p * 3, none⟩) hb).trans hk0
              have c2 := (HA.out.2.2.cell (p := ⟨b, off + p * 3 + 2, none⟩) hb).trans hk2
              go_wp2_with (at_builtin; apply halted)
              refine unhalt (wpList_append_reads rfl (.tmp 47) (.tmp 52) 26 rfl wr.heap.size 5 i0 (.int .u8 0) 1 Try.underlying26 hi hz0 hz1 hz2 rfl _ xs.length (bys xs) rfl O3.out B bs.length cb (bys bs) rfl (HRB.out.below HA.out.2.2) (by rw [List.length_map]) (ints_one _ _) (by unfold maxLen; omega) (by omega) hw3 ?_)
              intro A6 c6 w6 n6 g6 t6
              have LM : Hid ((xs ++ bs).length = xs.length + bs.length) := hide (by simp)
              have RP : Hid (Reads w6 A6 (bys (xs ++ bs))) := hide (by
                have e : bys (xs ++ bs) = bys xs ++ bys bs := by simp [bys]
                rw [e]
                exact Reads.of_own (e := 5) (n := xs.length + bs.length) n6)
              have D6 := hide (disk_keep D3.out g6.size (g6.block _ (blk_lt D3.out.2.1) (fun h => (HG3.out d h.symm).1 rfl)) (fun a ha => g6.block _ (D3.out.2.2.1.low a ha).2 (fun h => (HG3.out _ h.symm).2.1 a ha rfl)))
              have KP : Hid (Keep w d (xs ++ bs) s Y yc w6) := hide ⟨A3, c3, D6.out, by rw [take_more HLE.out]; exact HA.out.1.grown g6 (fun b off he h => (HG3.out b h.symm).2.2 _ he rfl), hyc, fun a ha => ⟨Nat.lt_of_lt_of_le (HA.out.2.1 a ha).1 g6.size, (HA.out.2.1 a ha).2⟩, HA.out.2.2.grown g6 HA.out.2.2.size (fun g hg => Nat.le_trans HBW.out.size (HO.out.lt g hg).1)⟩
              clear n6 g6 t6 HA HG3 O3 D3 c0 c2
              go_wp2_with fail
              have BY := hide (fun (W : World) (hb : Below w6.heap.size w6 W) => bytes_next hb D6.out (m := (xs.length + bs.length)) LM.out)
              have SS : Hid (∀ W, Below w6.heap.size w6 W → (Below w6.heap.size w6 W ∧ (convert 26 9 (.slice A6 (xs.length + bs.length) c6)).run Try.prog W = .ok (.string (strOfNums (xs ++ bs))) W)) := hide (fun W hb => ⟨hb, str_reads W A6 (xs.length + bs.length) c6 (xs ++ bs) (RP.out.below hb) LM.out⟩)
              have e1 : ((strOfNums ((xs ++ bs))).toList == (strOfNums ((xs ++ bs))).toList) = true := by simp
              have hd9 := (Below.refl w6.heap.size w6).drew
              refine wp_region_held_drew (S := fun W => Below w6.heap.size w6 W ∧ (convert 26 9 (.slice A6 (xs.length + bs.length) c6)).run Try.prog W = .ok (.string (strOfNums (xs ++ bs))) W) (by kernel_rfl) (SS.out _ hd9) (fun hH => ?_)
              refine wpAnyH_take (i := 0) (v := ?vqa0) rfl (by kernel_rfl) (by kernel_rfl) (by kernel_rfl) (fun _ _ _ h => h) (Or.inl ⟨by rfl, ?yqa0⟩) hH ?rqa0
              case yqa0 => (intro W hSw; (try dsimp only at hSw); (try simp only [List.getElem_toArray, List.getElem_cons_zero]); go_simp; first | done | with_reducible rfl)
              try simp only [Act.put, List.getElem_toArray, List.getElem_cons_zero, List.setIfInBounds_toArray, List.set_cons_zero, List.set_cons_succ]
              refine wpAnyH_take (i := 3) (v := ?vqa3) rfl (by kernel_rfl) (by kernel_rfl) (by kernel_rfl) (fun _ _ _ h => h) (Or.inl ⟨by rfl, ?yqa3⟩) hH ?rqa3
              case yqa3 => (intro W hSw; (try dsimp only at hSw); (try simp only [List.getElem_toArray, List.getElem_cons_succ, List.getElem_cons_zero]); go_simp; first | done | with_reducible rfl)
              try simp only [Act.put, List.getElem_toArray, List.getElem_cons_succ, List.getElem_cons_zero, List.setIfInBounds_toArray, List.set_cons_zero, List.set_cons_succ]
              refine wpAnyH_take (i := 4) (v := ?vqa4) rfl (by kernel_rfl) (by kernel_rfl) (by kernel_rfl) (fun _ _ _ h => h) (Or.inl ⟨by rfl, ?yqa4⟩) hH ?rqa4
              case yqa4 => (intro W hSw; (try dsimp only at hSw); (try simp only [List.getElem_toArray, List.getElem_cons_succ, List.getElem_cons_zero]); go_simp; first | done | with_reducible rfl)
              try simp only [Act.put, List.getElem_toArray, List.getElem_cons_succ, List.getElem_cons_zero, List.setIfInBounds_toArray, List.set_cons_zero, List.set_cons_succ]
              refine wpAnyH_ready (rs := [1]) (by kernel_rfl) (by simp) ?_
              refine AllReadyH.cons rfl (fun K hK => ?_) AllReadyH.nil
              simp only [List.getElem_toArray, List.getElem_cons_succ, List.getElem_cons_zero]
              go_simp
              refine (BY.out _ hd9).mono ?_
              rintro e w10 ⟨A10, c10, rfl, ⟨O10, q10⟩, hb10⟩
              clear O10
              refine hK.out _ _ (SS.out _ hb10) (fun hH2 => ?_)
              clear hK
              refine held_less (S' := fun W => W = w10) (fun W h => by subst h; exact SS.out _ hb10) ?_
              have hS3 : (fun W => W = w10) w10 := rfl
              refine wpAnyH_take (i := 2) (v := ?vqa2) rfl (by kernel_rfl) (by kernel_rfl) (by kernel_rfl) (fun _ _ _ h => h) (Or.inl ⟨by rfl, ?yqa2⟩) hS3 ?rqa2
              case yqa2 => (intro W hSw; ((try dsimp only at hSw); cases hSw); (try simp only [List.getElem_toArray, List.getElem_cons_succ, List.getElem_cons_zero]); go_simp; first | done | with_reducible rfl)
              try simp only [Act.put, List.getElem_toArray, List.getElem_cons_succ, List.getElem_cons_zero, List.setIfInBounds_toArray, List.set_cons_zero, List.set_cons_succ]
              refine wpAnyH_take (i := 5) (v := ?vqa5) rfl (by kernel_rfl) (by kernel_rfl) (by kernel_rfl) (fun _ _ _ h => h) (Or.inl ⟨by rfl, ?yqa5⟩) hS3 ?rqa5
              case yqa5 => (intro W hSw; ((try dsimp only at hSw); cases hSw); (try simp only [List.getElem_toArray, List.getElem_cons_succ, List.getElem_cons_zero]); go_simp; first | done | with_reducible rfl)
              try simp only [Act.put, List.getElem_toArray, List.getElem_cons_succ, List.getElem_cons_zero, List.setIfInBounds_toArray, List.set_cons_zero, List.set_cons_succ]
              refine wpAnyH_done (by kernel_rfl) ?_ _
              go_wp2
              go_meet
              case rel => exact ⟨_, s, Y, yc, rfl, KP.out.below hb10⟩
            · have hroom : 1048576 < xs.length + bs.length := by omega
              refine (append_full w.heap.size d xs s A c B bs.length cb w1 D1.out hroom).mono ?_
              rintro e w3 ⟨rfl, rfl⟩
              have RP : Hid (Reads w1 WA (bys xs)) := hide (Reads.of_own HO.out)
              have KP : Hid (Keep w d xs s Y yc w1) := hide ⟨A, c, D1.out, Y1.out, hyc, YA1.out, HB1.out⟩
              go_wp2_with fail
              have LM : Hid (xs.length = xs.length) := hide rfl
              have BY := hide (fun (W : World) (hb : Below w1.heap.size w1 W) => bytes_next hb D1.out (m := xs.length) LM.out)
              have SS : Hid (∀ W, Below w1.heap.size w1 W → (Below w1.heap.size w1 W ∧ (convert 26 9 (.slice WA xs.length wq)).run Try.prog W = .ok (.string (strOfNums xs)) W)) := hide (fun W hb => ⟨hb, str_reads W WA xs.length wq xs (RP.out.below hb) LM.out⟩)
              have e1 : ((strOfNums (xs)).toList == (strOfNums (xs)).toList) = true := by simp
              have hd9 := (Below.refl w1.heap.size w1).drew
              refine wp_region_held_drew (S := fun W => Below w1.heap.size w1 W ∧ (convert 26 9 (.slice WA xs.length wq)).run Try.prog W = .ok (.string (strOfNums xs)) W) (by kernel_rfl) (SS.out _ hd9) (fun hH => ?_)
              refine wpAnyH_take (i := 0) (v := ?vqb0) rfl (by kernel_rfl) (by kernel_rfl) (by kernel_rfl) (fun _ _ _ h => h) (Or.inl ⟨by rfl, ?yqb0⟩) hH ?rqb0
              case yqb0 => (intro W hSw; (try dsimp only at hSw); (try simp only [List.getElem_toArray, List.getElem_cons_zero]); go_simp; first | done | with_reducible rfl)
              try simp only [Act.put, List.getElem_toArray, List.getElem_cons_zero, List.setIfInBounds_toArray, List.set_cons_zero, List.set_cons_succ]
              refine wpAnyH_take (i := 3) (v := ?vqb3) rfl (by kernel_rfl) (by kernel_rfl) (by kernel_rfl) (fun _ _ _ h => h) (Or.inl ⟨by rfl, ?yqb3⟩) hH ?rqb3
              case yqb3 => (intro W hSw; (try dsimp only at hSw); (try simp only [List.getElem_toArray, List.getElem_cons_succ, List.getElem_cons_zero]); go_simp; first | done | with_reducible rfl)
              try simp only [Act.put, List.getElem_toArray, List.getElem_cons_succ, List.getElem_cons_zero, List.setIfInBounds_toArray, List.set_cons_zero, List.set_cons_succ]
              refine wpAnyH_take (i := 4) (v := ?vqb4) rfl (by kernel_rfl) (by kernel_rfl) (by kernel_rfl) (fun _ _ _ h => h) (Or.inl ⟨by rfl, ?yqb4⟩) hH ?rqb4
              case yqb4 => (intro W hSw; (try dsimp only at hSw); (try simp only [List.getElem_toArray, List.getElem_cons_succ, List.getElem_cons_zero]); go_simp; first | done | with_reducible rfl)
              try simp only [Act.put, List.getElem_toArray, List.getElem_cons_succ, List.getElem_cons_zero, List.setIfInBounds_toArray, List.set_cons_zero, List.set_cons_succ]
              refine wpAnyH_ready (rs := [1]) (by kernel_rfl) (by simp) ?_
              refine AllReadyH.cons rfl (fun K hK => ?_) AllReadyH.nil
              simp only [List.getElem_toArray, List.getElem_cons_succ, List.getElem_cons_zero]
              go_simp
              refine (BY.out _ hd9).mono ?_
              rintro e w10 ⟨A10, c10, rfl, ⟨O10, q10⟩, hb10⟩
              clear O10
              refine hK.out _ _ (SS.out _ hb10) (fun hH2 => ?_)
              clear hK
              refine held_less (S' := fun W => W = w10) (fun W h => by subst h; exact SS.out _ hb10) ?_
              have hS3 : (fun W => W = w10) w10 := rfl
              refine wpAnyH_take (i := 2) (v := ?vqb2) rfl (by kernel_rfl) (by kernel_rfl) (by kernel_rfl) (fun _ _ _ h => h) (Or.inl ⟨by rfl, ?yqb2⟩) hS3 ?rqb2
              case yqb2 => (intro W hSw; ((try dsimp only at hSw); cases hSw); (try simp only [List.getElem_toArray, List.getElem_cons_succ, List.getElem_cons_zero]); go_simp; first | done | with_reducible rfl)
              try simp only [Act.put, List.getElem_toArray, List.getElem_cons_succ, List.getElem_cons_zero, List.setIfInBounds_toArray, List.set_cons_zero, List.set_cons_succ]
              refine wpAnyH_take (i := 5) (v := ?vqb5) rfl (by kernel_rfl) (by kernel_rfl) (by kernel_rfl) (fun _ _ _ h => h) (Or.inl ⟨by rfl, ?yqb5⟩) hS3 ?rqb5
              case yqb5 => (intro W hSw; ((try dsimp only at hSw); cases hSw); (try simp only [List.getElem_toArray, List.getElem_cons_succ, List.getElem_cons_zero]); go_simp; first | done | with_reducible rfl)
              try simp only [Act.put, List.getElem_toArray, List.getElem_cons_succ, List.getElem_cons_zero, List.setIfInBounds_toArray, List.set_cons_zero, List.set_cons_succ]
              refine wpAnyH_done (by kernel_rfl) ?_ _
              go_wp2
              go_meet
              case rel => exact ⟨_, s, Y, yc, rfl, KP.out.below hb10⟩
          · by_cases q1 : bits BinOp.and IntKind.i64 kind 3 = 1
            · have t0 : (bits BinOp.and IntKind.i64 kind 3 == 0) = false := by simp [q0]
              have t3 : (bits BinOp.and IntKind.i64 kind 3 == 3) = false := by simp [q3]
              have t1 : (bits BinOp.and IntKind.i64 kind 3 == 1) = true := by simp [q1]
              clear q0 q3 q1
              go_wp2_with fail
              refine (sync_any w.heap.size d xs s A c w1 D1.out).mono ?_
              rintro e w3 ⟨rfl, D3, M3⟩
              have HA := hide (keep_moved D1.out Y1.out YA1.out HB1.out hwd M3)
              have O3 := hide (own_heap HO.out (fun g hg => M3.rest g (hg1 g hg).2 (hg1 g hg).1.1 (fun a ha he => (hg1 g hg).1.2 a ha he)))
              have D3 := hide D3
              clear M3 c0 c1 c2
              go_wp2_with fail
              refine (bytes_any w.heap.size d xs xs.length A c w3 D3.out).mono ?_
              rintro e w4 ⟨A4, c4, rfl, own4, hb4⟩
              have KP : Hid (Keep w d xs xs.length A4 c4 w4) := hide (keep_fresh D3.out (by rw [List.take_length]; exact own4) hb4 HA.out.2.2)
              have s1 := str_reads w4 A4 xs.length c4 xs (Reads.of_own own4) rfl
              have s2 := str_reads w4 WA xs.length wq xs ((Reads.of_own O3.out).below hb4) rfl
              have e1 : ((strOfNums xs).toList == (strOfNums xs).toList) = true := by simp
              clear own4 hb4 HA O3 D3
              go_wp2
              go_meet
              case rel => exact ⟨xs, xs.length, A4, c4, rfl, KP.out⟩
            · by_cases q2 : bits BinOp.and IntKind.i64 kind 3 = 2
              · have t0 : (bits BinOp.and IntKind.i64 kind 3 == 0) = false := by simp [q0]
                have t3 : (bits BinOp.and IntKind.i64 kind 3 == 3) = false := by simp [q3]
                have t1 : (bits BinOp.and IntKind.i64 kind 3 == 1) = false := by simp [q1]
                have t2 : (bits BinOp.and IntKind.i64 kind 3 == 2) = true := by simp [q2]
                clear q0 q3 q1 q2
                go_wp2_with fail
                obtain ⟨k, hk⟩ : ∃ k : Nat, (k : Int) = max 0 (min num ((xs.length : Int) - s)) := ⟨(max 0 (min num ((xs.length : Int) - s))).toNat, by omega⟩
                refine (crash_any w.heap.size d xs s k num A c w1 D1.out hk).mono ?_
                rintro e w3 ⟨rfl, c3, D3, M3⟩
                have HA := hide (keep_moved D1.out Y1.out YA1.out HB1.out hwd M3)
                have O3 := hide (own_heap HO.out (fun g hg => M3.rest g (hg1 g hg).2 (hg1 g hg).1.1 (fun a ha he => (hg1 g hg).1.2 a ha he)))
                have hwc : xs.length ≤ wq := own_cap HO.out
                obtain ⟨m, hm⟩ : ∃ m, m = s + k := ⟨_, rfl⟩
                rw [← hm] at D3
                have hmx : m ≤ xs.length := by have := HLE.out; omega
                have LM : Hid ((xs.take m).length = m) := hide (by rw [List.length_take]; omega)
                have D3 := hide D3
                clear M3 c0 c1 c2 hk hm
                go_wp2_with fail
                refine (bytes_any w.heap.size d (xs.take m) m A c3 w3 D3.out).mono ?_
                rintro e w4 ⟨A4, c4, rfl, own4, hb4⟩
                rw [LM.out] at own4 ⊢
                have KP : Hid (Keep w d (xs.take m) m A4 c4 w4) := hide (keep_fresh D3.out (by rw [List.take_take, Nat.min_self]; exact own4) hb4 HA.out.2.2)
                have RP : Hid (Reads w4 WA (bys (xs.take m))) := hide (by rw [bys_take]; exact ((Reads.of_own O3.out).below hb4).take m)
                have RQ : Hid (Reads w4 A4 (bys (xs.take m))) := hide (by
                  have h := Reads.of_own (e := 5) (n := m) own4
                  exact h)
                have D4 := hide (D3.out.moved hb4)
                have SY := hide (fun (W : World) (hb : Below w4.heap.size w4 W) => synced_any w.heap.size d (xs.take m) m A c3 W (D4.out.moved hb))
                have hs1 := cut_h 26 elem8 size8 WA xs.length wq m (by omega)
                have tlt : decide ((xs.length : Int) < (m : Int)) = false := by simp; omega
                clear own4 hb4 HA O3 D3 D4
                go_wp2_with fail
                have SSc : Hid (∀ W, Below w4.heap.size w4 W → (Below w4.heap.size w4 W ∧ (convert 26 9 (.slice WA m wq)).run Try.prog W = .ok (.string (strOfNums (xs.take m))) W ∧ (convert 26 9 (.slice A4 m c4)).run Try.prog W = .ok (.string (strOfNums (xs.take m))) W)) := hide (fun W hb => ⟨hb, str_reads W WA m wq (xs.take m) (RP.out.below hb) LM.out, str_reads W A4 m c4 (xs.take m) (RQ.out.below hb) LM.out⟩)
                have e1 : ((strOfNums (xs.take m)).toList == (strOfNums (xs.take m)).toList) = true := by simp
                have hdc := (Below.refl w4.heap.size w4).drew
                refine wp_region_held_drew (S := fun W => Below w4.heap.size w4 W ∧ (convert 26 9 (.slice WA m wq)).run Try.prog W = .ok (.string (strOfNums (xs.take m))) W ∧ (convert 26 9 (.slice A4 m c4)).run Try.prog W = .ok (.string (strOfNums (xs.take m))) W) (by kernel_rfl) (SSc.out _ hdc) (fun hH => ?_)
                refine wpAnyH_take (i := 0) (v := ?vc0) rfl (by kernel_rfl) (by kernel_rfl) (by kernel_rfl) (fun _ _ _ h => h) (Or.inl ⟨by rfl, ?yc0⟩) hH ?rc0
                case yc0 => (intro W hSw; (try dsimp only at hSw); (try simp only [List.getElem_toArray, List.getElem_cons_zero]); go_simp; first | done | with_reducible rfl)
                try simp only [Act.put, List.getElem_toArray, List.getElem_cons_zero, List.setIfInBounds_toArray, List.set_cons_zero, List.set_cons_succ]
                refine wpAnyH_take (i := 1) (v := ?vc1) rfl (by kernel_rfl) (by kernel_rfl) (by kernel_rfl) (fun _ _ _ h => h) (Or.inl ⟨by rfl, ?yc1⟩) hH ?rc1
                case yc1 => (intro W hSw; (try dsimp only at hSw); (try simp only [List.getElem_toArray, List.getElem_cons_succ, List.getElem_cons_zero]); go_simp; first | done | with_reducible rfl)
                try simp only [Act.put, List.getElem_toArray, List.getElem_cons_succ, List.getElem_cons_zero, List.setIfInBounds_toArray, List.set_cons_zero, List.set_cons_succ]
                refine wpAnyH_take (i := 2) (v := ?vc2) rfl (by kernel_rfl) (by kernel_rfl) (by kernel_rfl) (fun _ _ _ h => h) (Or.inl ⟨by rfl, ?yc2⟩) hH ?rc2
                case yc2 => (intro W hSw; (try dsimp only at hSw); (try simp only [List.getElem_toArray, List.getElem_cons_succ, List.getElem_cons_zero]); go_simp; first | done | with_reducible rfl)
                try simp only [Act.put, List.getElem_toArray, List.getElem_cons_succ, List.getElem_cons_zero, List.setIfInBounds_toArray, List.set_cons_zero, List.set_cons_succ]
                refine wpAnyH_take (i := 3) (v := ?vc3) rfl (by kernel_rfl) (by kernel_rfl) (by kernel_rfl) (fun _ _ _ h => h) (Or.inl ⟨by rfl, ?yc3⟩) hH ?rc3
                case yc3 => (intro W hSw; (try dsimp only at hSw); (try simp only [List.getElem_toArray, List.getElem_cons_succ, List.getElem_cons_zero]); go_simp; first | done | with_reducible rfl)
                try simp only [Act.put, List.getElem_toArray, List.getElem_cons_succ, List.getElem_cons_zero, List.setIfInBounds_toArray, List.set_cons_zero, List.set_cons_succ]
                refine wpAnyH_take (i := 4) (v := .bool false) rfl (by kernel_rfl) (by kernel_rfl) (by kernel_rfl) (fun _ _ _ h => h) (Or.inl ⟨by rfl, ?yc4⟩) hH ?rc4
                case yc4 => (intro W hSw; (try dsimp only at hSw); (try simp only [List.getElem_toArray, List.getElem_cons_succ, List.getElem_cons_zero]); go_simp; (try (simp only [tlt])); first | done | with_reducible rfl)
                try simp only [Act.put, List.getElem_toArray, List.getElem_cons_succ, List.getElem_cons_zero, List.setIfInBounds_toArray, List.set_cons_zero, List.set_cons_succ]
                refine wpAnyH_take (i := 5) (v := ?vc5) rfl (by kernel_rfl) (by kernel_rfl) (by kernel_rfl) (fun _ _ _ h => h) (Or.inl ⟨by rfl, ?yc5⟩) hH ?rc5
                case yc5 => (intro W hSw; (try dsimp only at hSw); (try simp only [List.getElem_toArray, List.getElem_cons_succ, List.getElem_cons_zero]); go_simp; first | done | with_reducible rfl)
                try simp only [Act.put, List.getElem_toArray, List.getElem_cons_succ, List.getElem_cons_zero, List.setIfInBounds_toArray, List.set_cons_zero, List.set_cons_succ]
                refine wpAnyH_take (i := 6) (v := ?vc6) rfl (by kernel_rfl) (by kernel_rfl) (by kernel_rfl) (fun _ _ _ h => h) (Or.inl ⟨by rfl, ?yc6⟩) hH ?rc6
                case yc6 => (intro W hSw; (try dsimp only at hSw); (try simp only [List.getElem_toArray, List.getElem_cons_succ, List.getElem_cons_zero]); go_simp; first | done | with_reducible rfl)
                try simp only [Act.put, List.getElem_toArray, List.getElem_cons_succ, List.getElem_cons_zero, List.setIfInBounds_toArray, List.set_cons_zero, List.set_cons_succ]
                refine wpAnyH_take (i := 7) (v := ?vc7) rfl (by kernel_rfl) (by kernel_rfl) (by kernel_rfl) (fun _ _ _ h => h) (Or.inl ⟨by rfl, ?yc7⟩) hH ?rc7
                case yc7 => (intro W hSw; (try dsimp only at hSw); (try simp only [List.getElem_toArray, List.getElem_cons_succ, List.getElem_cons_zero]); go_simp; first | done | with_reducible rfl)
                try simp only [Act.put, List.getElem_toArray, List.getElem_cons_succ, List.getElem_cons_zero, List.setIfInBounds_toArray, List.set_cons_zero, List.set_cons_succ]
                refine wpAnyH_take (i := 8) (v := ?vc8) rfl (by kernel_rfl) (by kernel_rfl) (by kernel_rfl) (fun _ _ _ h => h) (Or.inl ⟨by rfl, ?yc8⟩) hH ?rc8
                case yc8 => (intro W hSw; (try dsimp only at hSw); (try simp only [List.getElem_toArray, List.getElem_cons_succ, List.getElem_cons_zero]); go_simp; first | done | with_reducible rfl)
                try simp only [Act.put, List.getElem_toArray, List.getElem_cons_succ, List.getElem_cons_zero, List.setIfInBounds_toArray, List.set_cons_zero, List.set_cons_succ]
                refine wpAnyH_take (i := 9) (v := ?vc9) rfl (by kernel_rfl) (by kernel_rfl) (by kernel_rfl) (fun _ _ _ h => h) (Or.inl ⟨by rfl, ?yc9⟩) hH ?rc9
                case yc9 => (intro W hSw; (try dsimp only at hSw); (try simp only [List.getElem_toArray, List.getElem_cons_succ, List.getElem_cons_zero]); go_simp; first | done | with_reducible rfl)
                try simp only [Act.put, List.getElem_toArray, List.getElem_cons_succ, List.getElem_cons_zero, List.setIfInBounds_toArray, List.set_cons_zero, List.set_cons_succ]
                refine wpAnyH_take (i := 10) (v := ?vc10) rfl (by kernel_rfl) (by kernel_rfl) (by kernel_rfl) (fun _ _ _ h => h) (Or.inl ⟨by rfl, ?yc10⟩) hH ?rc10
                case yc10 => (intro W hSw; (try dsimp only at hSw); (try simp only [List.getElem_toArray, List.getElem_cons_succ, List.getElem_cons_zero]); go_simp; first | done | with_reducible rfl)
                try simp only [Act.put, List.getElem_toArray, List.getElem_cons_succ, List.getElem_cons_zero, List.setIfInBounds_toArray, List.set_cons_zero, List.set_cons_succ]
                refine wpAnyH_take (i := 11) (v := ?vc11) rfl (by kernel_rfl) (by kernel_rfl) (by kernel_rfl) (fun _ _ _ h => h) (Or.inl ⟨by rfl, ?yc11⟩) hH ?rc11
                case yc11 => (intro W hSw; (try dsimp only at hSw); (try simp only [List.getElem_toArray, List.getElem_cons_succ, List.getElem_cons_zero]); go_simp; first | done | with_reducible rfl)
                try simp only [Act.put, List.getElem_toArray, List.getElem_cons_succ, List.getElem_cons_zero, List.setIfInBounds_toArray, List.set_cons_zero, List.set_cons_succ]
                refine wpAnyH_take (i := 12) (v := ?vc12) rfl (by kernel_rfl) (by kernel_rfl) (by kernel_rfl) (fun _ _ _ h => h) (Or.inl ⟨by rfl, ?yc12⟩) hH ?rc12
                case yc12 => (intro W hSw; (try dsimp only at hSw); (try simp only [List.getElem_toArray, List.getElem_cons_succ, List.getElem_cons_zero]); go_simp; first | done | with_reducible rfl)
                try simp only [Act.put, List.getElem_toArray, List.getElem_cons_succ, List.getElem_cons_zero, List.setIfInBounds_toArray, List.set_cons_zero, List.set_cons_succ]
                refine wpAnyH_take (i := 13) (v := .bool false) rfl (by kernel_rfl) (by kernel_rfl) (by kernel_rfl) (fun _ _ _ h => h) (Or.inl ⟨by rfl, ?yc13⟩) hH ?rc13
                case yc13 => (intro W hSw; (try dsimp only at hSw); (try simp only [List.getElem_toArray, List.getElem_cons_succ, List.getElem_cons_zero]); go_simp; first | done | with_reducible rfl)
                try simp only [Act.put, List.getElem_toArray, List.getElem_cons_succ, List.getElem_cons_zero, List.setIfInBounds_toArray, List.set_cons_zero, List.set_cons_succ]
                refine wpAnyH_take (i := 14) (v := .bool false) rfl (by kernel_rfl) (by kernel_rfl) (by kernel_rfl) (fun _ _ _ h => h) (Or.inl ⟨by rfl, ?yc14⟩) hH ?rc14
                case yc14 => (intro W hSw; (try dsimp only at hSw); (try simp only [List.getElem_toArray, List.getElem_cons_succ, List.getElem_cons_zero]); go_simp; first | done | with_reducible rfl)
                try simp only [Act.put, List.getElem_toArray, List.getElem_cons_succ, List.getElem_cons_zero, List.setIfInBounds_toArray, List.set_cons_zero, List.set_cons_succ]
                refine wpAnyH_take (i := 15) (v := ?vc15) rfl (by kernel_rfl) (by kernel_rfl) (by kernel_rfl) (fun _ _ _ h => h) (Or.inl ⟨by rfl, ?yc15⟩) hH ?rc15
                case yc15 => (intro W hSw; (try dsimp only at hSw); (try simp only [List.getElem_toArray, List.getElem_cons_succ, List.getElem_cons_zero]); go_simp; first | done | with_reducible rfl)
                try simp only [Act.put, List.getElem_toArray, List.getElem_cons_succ, List.getElem_cons_zero, List.setIfInBounds_toArray, List.set_cons_zero, List.set_cons_succ]
                refine wpAnyH_take (i := 16) (v := ?vc16) rfl (by kernel_rfl) (by kernel_rfl) (by kernel_rfl) (fun _ _ _ h => h) (Or.inl ⟨by rfl, ?yc16⟩) hH ?rc16
                case yc16 => (intro W hSw; (try dsimp only at hSw); (try simp only [List.getElem_toArray, List.getElem_cons_succ, List.getElem_cons_zero]); go_simp; first | done | with_reducible rfl)
                try simp only [Act.put, List.getElem_toArray, List.getElem_cons_succ, List.getElem_cons_zero, List.setIfInBounds_toArray, List.set_cons_zero, List.set_cons_succ]
                refine wpAnyH_take (i := 18) (v := ?vc18) rfl (by kernel_rfl) (by kernel_rfl) (by kernel_rfl) (fun _ _ _ h => h) (Or.inl ⟨by rfl, ?yc18⟩) hH ?rc18
                case yc18 => (intro W hSw; (try dsimp only at hSw); (try simp only [List.getElem_toArray, List.getElem_cons_succ, List.getElem_cons_zero]); go_simp; first | done | with_reducible rfl)
                try simp only [Act.put, List.getElem_toArray, List.getElem_cons_succ, List.getElem_cons_zero, List.setIfInBounds_toArray, List.set_cons_zero, List.set_cons_succ]
                refine wpAnyH_take (i := 19) (v := ?vc19) rfl (by kernel_rfl) (by kernel_rfl) (by kernel_rfl) (fun _ _ _ h => h) (Or.inl ⟨by rfl, ?yc19⟩) hH ?rc19
                case yc19 => (intro W hSw; (try dsimp only at hSw); (try simp only [List.getElem_toArray, List.getElem_cons_succ, List.getElem_cons_zero]); go_simp; first | done | with_reducible rfl)
                try simp only [Act.put, List.getElem_toArray, List.getElem_cons_succ, List.getElem_cons_zero, List.setIfInBounds_toArray, List.set_cons_zero, List.set_cons_succ]
                refine wpAnyH_ready (rs := [17]) (by kernel_rfl) (by simp) ?_
                refine AllReadyH.cons rfl (fun K hK => ?_) AllReadyH.nil
                simp only [List.getElem_toArray, List.getElem_cons_succ, List.getElem_cons_zero]
                go_simp
                refine (SY.out _ hdc).mono ?_
                rintro e w9 ⟨rfl, rfl⟩
                refine hK.out _ _ (SSc.out _ hdc) (fun hH2 => ?_)
                clear hK
                refine wpAnyH_take (i := 20) (v := .bool false) rfl (by kernel_rfl) (by kernel_rfl) (by kernel_rfl) (fun _ _ _ h => h) (Or.inl ⟨by rfl, ?yc20⟩) (SSc.out _ hdc) ?rc20
                case yc20 => (intro W hSw; (try dsimp only at hSw); (try simp only [List.getElem_toArray, List.getElem_cons_succ, List.getElem_cons_zero]); go_simp; first | done | with_reducible rfl)
                try simp only [Act.put, List.getElem_toArray, List.getElem_cons_succ, List.getElem_cons_zero, List.setIfInBounds_toArray, List.set_cons_zero, List.set_cons_succ]
                refine wpAnyH_take (i := 21) (v := .bool false) rfl (by kernel_rfl) (by kernel_rfl) (by kernel_rfl) (fun _ _ _ h => h) (Or.inl ⟨by rfl, ?yc21⟩) (SSc.out _ hdc) ?rc21
                case yc21 => (intro W hSw; (try dsimp only at hSw); (try simp only [List.getElem_toArray, List.getElem_cons_succ, List.getElem_cons_zero]); go_simp; first | done | with_reducible rfl)
                try simp only [Act.put, List.getElem_toArray, List.getElem_cons_succ, List.getElem_cons_zero, List.setIfInBounds_toArray, List.set_cons_zero, List.set_cons_succ]
                refine wpAnyH_done (by kernel_rfl) ?_ _
                go_wp2
                go_meet
                case rel => exact ⟨xs.take m, m, A4, c4, rfl, KP.out.below hdc⟩
              · have t0 : (bits BinOp.and IntKind.i64 kind 3 == 0) = false := by simp [q0]
                have t3 : (bits BinOp.and IntKind.i64 kind 3 == 3) = false := by simp [q3]
                have t1 : (bits BinOp.and IntKind.i64 kind 3 == 1) = false := by simp [q1]
                have t2 : (bits BinOp.and IntKind.i64 kind 3 == 2) = false := by simp [q2]
                clear q0 q3 q1 q2
                have KP : Hid (Keep w d xs s Y yc w1) := hide ⟨A, c, D1.out, Y1.out, hyc, YA1.out, HB1.out⟩
                go_wp2
                go_meet
                case rel => exact ⟨xs, s, Y, yc, rfl, KP.out⟩
      obtain ⟨xs', s', Y', yc', rfl, hP'⟩ := hcut
      clear c0 c1 c2
      obtain ⟨A', c', hD', hY', hyc', hYa', hBw'⟩ := hP'
      have KP := hide (show Keep w d xs' s' Y' yc' wc from ⟨A', c', hD', hY', hyc', hYa', hBw'⟩)
      have HD' := hide hD'; have HY' := hide hY'
      clear hD' hY' hYa' hBw'
      go_wp2_with fail
      refine (bytes_any w.heap.size d xs' s' A' c' wc HD'.out).mono ?_
      rintro e w4 ⟨A4, c4, rfl, own4, hb4⟩
      have hsx : s' ≤ xs'.length := HD'.out.2.2.2.1
      have hwc : xs'.length ≤ c4 := own_cap own4
      have LM : Hid ((xs'.take s').length = s') := hide (by rw [List.length_take]; omega)
      have RP : Hid (Reads w4 A4 (bys (xs'.take s'))) := hide (by rw [bys_take]; exact (Reads.of_own own4).take s')
      have RQ : Hid (Reads w4 Y' (bys (xs'.take s'))) := hide (HY'.out.below hb4)
      have D4 := hide (HD'.out.moved hb4)
      have KP4 := hide (KP.out.below hb4)
      have SY := hide (fun (W : World) (hb : Below w4.heap.size w4 W) => synced_any w.heap.size d xs' s' A' c' W (D4.out.moved hb))
      have hs1 := cut_h 26 elem8 size8 A4 xs'.length c4 s' (by omega)
      have tlt : decide ((xs'.length : Int) < (s' : Int)) = false := by simp; omega
      clear own4 hb4 HD' HY' D4 KP
      go_wp2_with fail
      have SSt : Hid (∀ W, Below w4.heap.size w4 W → (Below w4.heap.size w4 W ∧ (convert 26 9 (.slice A4 s' c4)).run Try.prog W = .ok (.string (strOfNums (xs'.take s'))) W ∧ (convert 26 9 (.slice Y' s' yc')).run Try.prog W = .ok (.string (strOfNums (xs'.take s'))) W)) := hide (fun W hb => ⟨hb, str_reads W A4 s' c4 (xs'.take s') (RP.out.below hb) LM.out, str_reads W Y' s' yc' (xs'.take s') (RQ.out.below hb) LM.out⟩)
      have e1 : ((strOfNums (xs'.take s')).toList == (strOfNums (xs'.take s')).toList) = true := by simp
      have hdt := (Below.refl w4.heap.size w4).drew
      refine wp_region_held_drew (S := fun W => Below w4.heap.size w4 W ∧ (convert 26 9 (.slice A4 s' c4)).run Try.prog W = .ok (.string (strOfNums (xs'.take s'))) W ∧ (convert 26 9 (.slice Y' s' yc')).run Try.prog W = .ok (.string (strOfNums (xs'.take s'))) W) (by kernel_rfl) (SSt.out _ hdt) (fun hH => ?_)
      refine wpAnyH_take (i := 0) (v := ?vt0) rfl (by kernel_rfl) (by kernel_rfl) (by kernel_rfl) (fun _ _ _ h => h) (Or.inl ⟨by rfl, ?yt0⟩) hH ?rt0
      case yt0 => (intro W hSw; (try dsimp only at hSw); (try simp only [List.getElem_toArray, List.getElem_cons_zero]); go_simp; first | done | with_reducible rfl)
      try simp only [Act.put, List.getElem_toArray, List.getElem_cons_zero, List.setIfInBounds_toArray, List.set_cons_zero, List.set_cons_succ]
      refine wpAnyH_take (i := 1) (v := ?vt1) rfl (by kernel_rfl) (by kernel_rfl) (by kernel_rfl) (fun _ _ _ h => h) (Or.inl ⟨by rfl, ?yt1⟩) hH ?rt1
      case yt1 => (intro W hSw; (try dsimp only at hSw); (try simp only [List.getElem_toArray, List.getElem_cons_succ, List.getElem_cons_zero]); go_simp; first | done | with_reducible rfl)
      try simp only [Act.put, List.getElem_toArray, List.getElem_cons_succ, List.getElem_cons_zero, List.setIfInBounds_toArray, List.set_cons_zero, List.set_cons_succ]
      refine wpAnyH_take (i := 2) (v := ?vt2) rfl (by kernel_rfl) (by kernel_rfl) (by kernel_rfl) (fun _ _ _ h => h) (Or.inl ⟨by rfl, ?yt2⟩) hH ?rt2
      case yt2 => (intro W hSw; (try dsimp only at hSw); (try simp only [List.getElem_toArray, List.getElem_cons_succ, List.getElem_cons_zero]); go_simp; first | done | with_reducible rfl)
      try simp only [Act.put, List.getElem_toArray, List.getElem_cons_succ, List.getElem_cons_zero, List.setIfInBounds_toArray, List.set_cons_zero, List.set_cons_succ]
      refine wpAnyH_take (i := 3) (v := ?vt3) rfl (by kernel_rfl) (by kernel_rfl) (by kernel_rfl) (fun _ _ _ h => h) (Or.inl ⟨by rfl, ?yt3⟩) hH ?rt3
      case yt3 => (intro W hSw; (try dsimp only at hSw); (try simp only [List.getElem_toArray, List.getElem_cons_succ, List.getElem_cons_zero]); go_simp; first | done | with_reducible rfl)
      try simp only [Act.put, List.getElem_toArray, List.getElem_cons_succ, List.getElem_cons_zero, List.setIfInBounds_toArray, List.set_cons_zero, List.set_cons_succ]
      refine wpAnyH_take (i := 4) (v := .bool false) rfl (by kernel_rfl) (by kernel_rfl) (by kernel_rfl) (fun _ _ _ h => h) (Or.inl ⟨by rfl, ?yt4⟩) hH ?rt4
      case yt4 => (intro W hSw; (try dsimp only at hSw); (try simp only [List.getElem_toArray, List.getElem_cons_succ, List.getElem_cons_zero]); go_simp; (try (simp only [tlt])); first | done | with_reducible rfl)
      try simp only [Act.put, List.getElem_toArray, List.getElem_cons_succ, List.getElem_cons_zero, List.setIfInBounds_toArray, List.set_cons_zero, List.set_cons_succ]
      refine wpAnyH_take (i := 5) (v := ?vt5) rfl (by kernel_rfl) (by kernel_rfl) (by kernel_rfl) (fun _ _ _ h => h) (Or.inl ⟨by rfl, ?yt5⟩) hH ?rt5
      case yt5 => (intro W hSw; (try dsimp only at hSw); (try simp only [List.getElem_toArray, List.getElem_cons_succ, List.getElem_cons_zero]); go_simp; first | done | with_reducible rfl)
      try simp only [Act.put, List.getElem_toArray, List.getElem_cons_succ, List.getElem_cons_zero, List.setIfInBounds_toArray, List.set_cons_zero, List.set_cons_succ]
      refine wpAnyH_take (i := 6) (v := ?vt6) rfl (by kernel_rfl) (by kernel_rfl) (by kernel_rfl) (fun _ _ _ h => h) (Or.inl ⟨by rfl, ?yt6⟩) hH ?rt6
      case yt6 => (intro W hSw; (try dsimp only at hSw); (try simp only [List.getElem_toArray, List.getElem_cons_succ, List.getElem_cons_zero]); go_simp; first | done | with_reducible rfl)
      try simp only [Act.put, List.getElem_toArray, List.getElem_cons_succ, List.getElem_cons_zero, List.setIfInBounds_toArray, List.set_cons_zero, List.set_cons_succ]
      refine wpAnyH_take (i := 7) (v := ?vt7) rfl (by kernel_rfl) (by kernel_rfl) (by kernel_rfl) (fun _ _ _ h => h) (Or.inl ⟨by rfl, ?yt7⟩) hH ?rt7
      case yt7 => (intro W hSw; (try dsimp only at hSw); (try simp only [List.getElem_toArray, List.getElem_cons_succ, List.getElem_cons_zero]); go_simp; first | done | with_reducible rfl)
      try simp only [Act.put, List.getElem_toArray, List.getElem_cons_succ, List.getElem_cons_zero, List.setIfInBounds_toArray, List.set_cons_zero, List.set_cons_succ]
      refine wpAnyH_take (i := 8) (v := ?vt8) rfl (by kernel_rfl) (by kernel_rfl) (by kernel_rfl) (fun _ _ _ h => h) (Or.inl ⟨by rfl, ?yt8⟩) hH ?rt8
      case yt8 => (intro W hSw; (try dsimp only at hSw); (try simp only [List.getElem_toArray, List.getElem_cons_succ, List.getElem_cons_zero]); go_simp; first | done | with_reducible rfl)
      try simp only [Act.put, List.getElem_toArray, List.getElem_cons_succ, List.getElem_cons_zero, List.setIfInBounds_toArray, List.set_cons_zero, List.set_cons_succ]
      refine wpAnyH_take (i := 9) (v := ?vt9) rfl (by kernel_rfl) (by kernel_rfl) (by kernel_rfl) (fun _ _ _ h => h) (Or.inl ⟨by rfl, ?yt9⟩) hH ?rt9
      case yt9 => (intro W hSw; (try dsimp only at hSw); (try simp only [List.getElem_toArray, List.getElem_cons_succ, List.getElem_cons_zero]); go_simp; first | done | with_reducible rfl)
      try simp only [Act.put, List.getElem_toArray, List.getElem_cons_succ, List.getElem_cons_zero, List.setIfInBounds_toArray, List.set_cons_zero, List.set_cons_succ]
      refine wpAnyH_take (i := 10) (v := ?vt10) rfl (by kernel_rfl) (by kernel_rfl) (by kernel_rfl) (fun _ _ _ h => h) (Or.inl ⟨by rfl, ?yt10⟩) hH ?rt10
      case yt10 => (intro W hSw; (try dsimp only at hSw); (try simp only [List.getElem_toArray, List.getElem_cons_succ, List.getElem_cons_zero]); go_simp; first | done | with_reducible rfl)
      try simp only [Act.put, List.getElem_toArray, List.getElem_cons_succ, List.getElem_cons_zero, List.setIfInBounds_toArray, List.set_cons_zero, List.set_cons_succ]
      refine wpAnyH_take (i := 11) (v := ?vt11) rfl (by kernel_rfl) (by kernel_rfl) (by kernel_rfl) (fun _ _ _ h => h) (Or.inl ⟨by rfl, ?yt11⟩) hH ?rt11
      case yt11 => (intro W hSw; (try dsimp only at hSw); (try simp only [List.getElem_toArray, List.getElem_cons_succ, List.getElem_cons_zero]); go_simp; first | done | with_reducible rfl)
      try simp only [Act.put, List.getElem_toArray, List.getElem_cons_succ, List.getElem_cons_zero, List.setIfInBounds_toArray, List.set_cons_zero, List.set_cons_succ]
      refine wpAnyH_take (i := 12) (v := ?vt12) rfl (by kernel_rfl) (by kernel_rfl) (by kernel_rfl) (fun _ _ _ h => h) (Or.inl ⟨by rfl, ?yt12⟩) hH ?rt12
      case yt12 => (intro W hSw; (try dsimp only at hSw); (try simp only [List.getElem_toArray, List.getElem_cons_succ, List.getElem_cons_zero]); go_simp; first | done | with_reducible rfl)
      try simp only [Act.put, List.getElem_toArray, List.getElem_cons_succ, List.getElem_cons_zero, List.setIfInBounds_toArray, List.set_cons_zero, List.set_cons_succ]
      refine wpAnyH_take (i := 13) (v := .bool false) rfl (by kernel_rfl) (by kernel_rfl) (by kernel_rfl) (fun _ _ _ h => h) (Or.inl ⟨by rfl, ?yt13⟩) hH ?rt13
      case yt13 => (intro W hSw; (try dsimp only at hSw); (try simp only [List.getElem_toArray, List.getElem_cons_succ, List.getElem_cons_zero]); go_simp; first | done | with_reducible rfl)
      try simp only [Act.put, List.getElem_toArray, List.getElem_cons_succ, List.getElem_cons_zero, List.setIfInBounds_toArray, List.set_cons_zero, List.set_cons_succ]
      refine wpAnyH_take (i := 14) (v := .bool false) rfl (by kernel_rfl) (by kernel_rfl) (by kernel_rfl) (fun _ _ _ h => h) (Or.inl ⟨by rfl, ?yt14⟩) hH ?rt14
      case yt14 => (intro W hSw; (try dsimp only at hSw); (try simp only [List.getElem_toArray, List.getElem_cons_succ, List.getElem_cons_zero]); go_simp; first | done | with_reducible rfl)
      try simp only [Act.put, List.getElem_toArray, List.getElem_cons_succ, List.getElem_cons_zero, List.setIfInBounds_toArray, List.set_cons_zero, List.set_cons_succ]
      refine wpAnyH_take (i := 15) (v := ?vt15) rfl (by kernel_rfl) (by kernel_rfl) (by kernel_rfl) (fun _ _ _ h => h) (Or.inl ⟨by rfl, ?yt15⟩) hH ?rt15
      case yt15 => (intro W hSw; (try dsimp only at hSw); (try simp only [List.getElem_toArray, List.getElem_cons_succ, List.getElem_cons_zero]); go_simp; first | done | with_reducible rfl)
      try simp only [Act.put, List.getElem_toArray, List.getElem_cons_succ, List.getElem_cons_zero, List.setIfInBounds_toArray, List.set_cons_zero, List.set_cons_succ]
      refine wpAnyH_take (i := 16) (v := ?vt16) rfl (by kernel_rfl) (by kernel_rfl) (by kernel_rfl) (fun _ _ _ h => h) (Or.inl ⟨by rfl, ?yt16⟩) hH ?rt16
      case yt16 => (intro W hSw; (try dsimp only at hSw); (try simp only [List.getElem_toArray, List.getElem_cons_succ, List.getElem_cons_zero]); go_simp; first | done | with_reducible rfl)
      try simp only [Act.put, List.getElem_toArray, List.getElem_cons_succ, List.getElem_cons_zero, List.setIfInBounds_toArray, List.set_cons_zero, List.set_cons_succ]
      refine wpAnyH_take (i := 18) (v := ?vt18) rfl (by kernel_rfl) (by kernel_rfl) (by kernel_rfl) (fun _ _ _ h => h) (Or.inl ⟨by rfl, ?yt18⟩) hH ?rt18
      case yt18 => (intro W hSw; (try dsimp only at hSw); (try simp only [List.getElem_toArray, List.getElem_cons_succ, List.getElem_cons_zero]); go_simp; first | done | with_reducible rfl)
      try simp only [Act.put, List.getElem_toArray, List.getElem_cons_succ, List.getElem_cons_zero, List.setIfInBounds_toArray, List.set_cons_zero, List.set_cons_succ]
      refine wpAnyH_take (i := 19) (v := ?vt19) rfl (by kernel_rfl) (by kernel_rfl) (by kernel_rfl) (fun _ _ _ h => h) (Or.inl ⟨by rfl, ?yt19⟩) hH ?rt19
      case yt19 => (intro W hSw; (try dsimp only at hSw); (try simp only [List.getElem_toArray, List.getElem_cons_succ, List.getElem_cons_zero]); go_simp; first | done | with_reducible rfl)
      try simp only [Act.put, List.getElem_toArray, List.getElem_cons_succ, List.getElem_cons_zero, List.setIfInBounds_toArray, List.set_cons_zero, List.set_cons_succ]
      refine wpAnyH_ready (rs := [17]) (by kernel_rfl) (by simp) ?_
      refine AllReadyH.cons rfl (fun K hK => ?_) AllReadyH.nil
      simp only [List.getElem_toArray, List.getElem_cons_succ, List.getElem_cons_zero]
      go_simp
      refine (SY.out _ hdt).mono ?_
      rintro e w9 ⟨rfl, rfl⟩
      refine hK.out _ _ (SSt.out _ hdt) (fun hH2 => ?_)
      clear hK
      refine wpAnyH_take (i := 20) (v := .bool false) rfl (by kernel_rfl) (by kernel_rfl) (by kernel_rfl) (fun _ _ _ h => h) (Or.inl ⟨by rfl, ?yt20⟩) (SSt.out _ hdt) ?rt20
      case yt20 => (intro W hSw; (try dsimp only at hSw); (try simp only [List.getElem_toArray, List.getElem_cons_succ, List.getElem_cons_zero]); go_simp; first | done | with_reducible rfl)
      try simp only [Act.put, List.getElem_toArray, List.getElem_cons_succ, List.getElem_cons_zero, List.setIfInBounds_toArray, List.set_cons_zero, List.set_cons_succ]
      refine wpAnyH_take (i := 21) (v := .bool false) rfl (by kernel_rfl) (by kernel_rfl) (by kernel_rfl) (fun _ _ _ h => h) (Or.inl ⟨by rfl, ?yt21⟩) (SSt.out _ hdt) ?rt21
      case yt21 => (intro W hSw; (try dsimp only at hSw); (try simp only [List.getElem_toArray, List.getElem_cons_succ, List.getElem_cons_zero]); go_simp; first | done | with_reducible rfl)
      try simp only [Act.put, List.getElem_toArray, List.getElem_cons_succ, List.getElem_cons_zero, List.setIfInBounds_toArray, List.set_cons_zero, List.set_cons_succ]
      refine wpAnyH_done (by kernel_rfl) ?_ _
      go_wp2
      go_roundw
      case rel => exact ⟨p + 1, xs', s', Y', yc', by omega, by go_num, rfl, KP4.out.below hdt⟩
      case measure => simp [intOf]; omega
    · have F : Hid (Below w.heap.size w wr) := hide HP.out.choose_spec.choose_spec.2.2.2.2
      by_cases h1 : p < n
      · have h2 : (100 : Int) ≤ (p : Int) := by omega
        clear hlt
        go_wp2
        go_ret
        exact ⟨rfl, F.out⟩
      · have h2 : (n : Int) ≤ (p : Int) := by omega
        clear hlt
        go_wp2
        go_ret
        exact ⟨rfl, F.out⟩

set_option maxRecDepth 100000 in
theorem diskKeeps_lifted (os : Os) (started : os.Started) (H : Type) (enc : TypeId × Value → H) :
    ReturnsInHanded {} Try.checked os 3 .any (Rows.diskKeepsSpec.pre6 enc Try.prog Try.f3 Rows.diskKeepsRow.domain false) (Rows.diskKeepsSpec.post enc Try.prog Try.f3 false true false false) := by
  refine returnsInHanded_of_change_sized (C := Try.checked) (by kernel_rfl) started (by kernel_rfl) Try.func3
    (ChangeSpec.witness6 (enc := enc) (C := Try.checked) false ⟨#[], #[.slice none 0 0], []⟩ 8 (by kernel_rfl) (by kernel_rfl) (by kernel_rfl) (by kernel_rfl)) ?_
  intro W base args ds gs before hval0 hW _ hsz0 _
  have hval : ∀ (j : Nat) t v, Try.f3.params[j]? = some t → args[j]? = some v → Value.okWide Try.prog W .any base t v := hval0
  have hW' := hW
  obtain ⟨p, q, hA0, hV, rfl, _, _⟩ := hW
  have hA : DataW.TrodAll enc Try.prog W 0 (fun _ => true) true Try.f3.params.toList args.toList ds p := hA0
  have hsz : (DataW.weightsEach Try.prog (Try.f3.params.toList ++ Rows.diskKeepsSpec.plain.varTypes Try.prog) (ds ++ gs)).all (· ≤ reachBytes) = true := hsz0
  rw [Try.params3] at hA hval hsz
  obtain ⟨v0, d0, rfl, rfl, h0⟩ := trodAll_one hA
  obtain ⟨A0, cap0, n0, V, fuel, D, rfl, _, _, hR0, hel, hn0⟩ := open_rows Try.underlying22 (C := 3) (by kernel_rfl) (by omega) (hval 0 22 v0 rfl rfl) h0
  have hS0 : Sized Try.prog 22 d0 := sized_arg hsz (j := 0) rfl rfl
  have hSE : ∀ i, i < n0 → Sized Try.prog 29 (D i) := fun i hi => by rcases hn0 with h | ⟨el, sp, h1, _, h3⟩; omega; rw [h1] at hS0; exact hS0.elem Try.underlying22 (h3 i hi)
  obtain ⟨X, hV⟩ := chooseD (n := n0) (p := fun i (x : Deed) => V i = x.cells ∧ x.fine W) (fun i hi => deed_cells (hel i hi).1 (hel i hi).2.choose_spec (hSE i hi))
  have hR3 := hR0.congr (fun i hi => (hV i hi).1)
  refine (diskKeeps_walk A0 n0 cap0 X W hR3 (fun i hi => (hV i hi).2)).mono fun e W' ⟨he, hb⟩ => ?_
  subst he
  exact ⟨_, rfl, post_law (by kernel_rfl) (by kernel_rfl) rfl hW' (by rintro _ rfl; rfl) rfl Try.underlying4 hb⟩

theorem diskKeeps_holds : Rows.DiskKeepsSaid :=
  OpenClaim.holds_of_wide 3 Try.f3 rfl rfl rfl rfl rfl rfl rfl ⟨rfl, rfl, rfl, rfl, rfl⟩ rfl rfl rfl rfl rfl (by kernel_rfl) Try.func3 (by kernel_rfl)
    (of_decide_eq_true (by kernel_rfl)) (by unfold Func.isWrapper; first | (rw [if_pos (by decide +kernel)]; kernel_rfl) | (rw [if_neg (by decide +kernel)]; exact ⟨rfl, rfl⟩))
    (fun os started H enc _ => diskKeeps_lifted os started H enc)

end Go.Proofs.Ytodlabpgjgbbpad
