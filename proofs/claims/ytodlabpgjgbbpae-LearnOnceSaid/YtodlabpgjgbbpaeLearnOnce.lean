/-
  LearnOnce: a slot that is decided stays so: with another value it is refused, with the same one it changes nothing. No conditions.
-/
import Derived.Test.YtodlabpgjgbbpaeLearnAwake
import Derived.Test.YtodlabpgjgbbpaeLaw
import Derived.Test.YtodlabpgjgbbpaeRows
namespace Go.Proofs.Ytodlabpgjgbbpae
open Go.RowKit Go.Agio Go.ChangeShapes Go.WideShapes Go.ChangeAt

theorem one_top {k : Nat} (hk : k ≤ 4095) (xs : List Int) : Lrn.top (Lrn.put Lrn.empty k xs) = k + 1 :=
  Lrn.top_is (Lrn.fine_put Lrn.fine_empty ⟨by omega, by omega⟩ xs) (fun j hj => by
    unfold Lrn.put at hj
    split at hj
    · omega
    · cases hj) (fun _ => by rw [show ((k + 1 : Nat) : Int) - 1 = k by omega]; simp [Lrn.put])
theorem one_front {k : Nat} (xs : List Int) : Lrn.front (Lrn.put Lrn.empty k xs) = if k = 0 then 1 else 0 := by
  split
  · rename_i h
    subst h
    exact Lrn.front_is (by omega) (fun j hj => by
      have : j = 0 := by omega
      subst this
      simp [Lrn.put]) (fun _ => by simp [Lrn.put, Lrn.empty])
  · rename_i h
    refine Lrn.front_is (by omega) (fun j hj => by omega) (fun _ => ?_)
    have : ¬ ((0 : Int) = (k : Int)) := by omega
    simp [Lrn.put, Lrn.empty, this]

set_option maxRecDepth 100000 in
set_option maxHeartbeats 4000000 in
theorem learnOnce_walk (x : Int) (k : Nat) (A B : Option Addr) (n m c d' : Nat) (xs ys : List Int) (w : World) (hx0 : 0 ≤ x) (hx1 : x ≤ 65535) (hk : x % 4096 = (k : Int)) (hR : Reads w A (bys xs)) (hS : Reads w B (bys ys)) (hn : xs.length = n) (hm : ys.length = m) (hx : okRow xs) (hy : okRow ys) (hn1 : n ≤ 140737488351232) (hm1 : m ≤ 140737488351232) :
    Calls Try.prog 5 #[.int .u16 x, .slice A n c, .slice B m d'] w fun e w' => e = .returned (.bool true) ∧ Below w.heap.size w w' := by
  have HR := hide hR; have HS := hide hS; have HX := hide hx; have HY := hide hy; have HN := hide hn; have HM := hide hm
  clear hR hS hx hy hn hm
  have hk1 : k ≤ 4095 := by omega
  by_cases hbig : 2048 < n ∨ 2048 < m
  · by_cases h1 : 2048 < n
    · clear hbig
      go_enter Try.func5, Try.ntmps5
      go_wp2_with fail
      refine (awake_any _).mono ?_
      rintro e w1 ⟨rfl, hb1⟩
      go_wp2_with fail
      refine (new_any _).mono ?_
      rintro e w2 ⟨d, bm, rfl, hd, hbm, hL, hb2⟩
      have h2 : (2048 : Int) < (n : Int) := by omega
      clear hL hk
      go_wp2
      go_ret
      exact ⟨rfl, below_next hb1 hb2⟩
    · have h2 : (2048 : Int) < (m : Int) := by omega
      have h3 : (n : Int) ≤ 2048 := by omega
      clear hbig
      go_enter Try.func5, Try.ntmps5
      go_wp2_with fail
      refine (awake_any _).mono ?_
      rintro e w1 ⟨rfl, hb1⟩
      go_wp2_with fail
      refine (new_any _).mono ?_
      rintro e w2 ⟨d, bm, rfl, hd, hbm, hL, hb2⟩
      clear hL hk
      go_wp2
      go_ret
      exact ⟨rfl, below_next hb1 hb2⟩
  · have h2 : (n : Int) ≤ 2048 := by omega
    have h3 : (m : Int) ≤ 2048 := by omega
    clear hbig
    have P1 := put_new (M := Lrn.empty) (k := (k : Int)) (xs := xs) ⟨by omega, by omega, by have := HN.out; omega⟩ rfl
    have P2 := put_had (M := Lrn.put Lrn.empty (k : Int) xs) (k := (k : Int)) (xs := ys) (old := xs) ⟨by omega, by omega, by have := HM.out; omega⟩ (by simp [Lrn.put])
    have P3 := put_had (M := Lrn.put Lrn.empty (k : Int) xs) (k := (k : Int)) (xs := xs) (old := xs) ⟨by omega, by omega, by have := HN.out; omega⟩ (by simp [Lrn.put])
    rw [if_pos rfl] at P3
    obtain ⟨cc, y, hcc, hcy, hy⟩ : ∃ (cc : Int) (y : Bool), (if xs = ys then (0 : Int) else 7) = cc ∧ ((cc = 0 ∧ y = true) ∨ (cc = 7 ∧ y = false)) ∧ decide (xs = ys) = y := by
      by_cases he : xs = ys
      · exact ⟨0, true, by rw [if_pos he], .inl ⟨rfl, rfl⟩, by simp [he]⟩
      · exact ⟨7, false, by rw [if_neg he], .inr ⟨rfl, rfl⟩, by simp [he]⟩
    rw [hcc] at P2
    have HCY := hide hy
    clear hcc hy
    replace P1 := hide P1; replace P2 := hide P2; replace P3 := hide P3
    have T1 := hide (one_top hk1 xs)
    have F1 := hide (one_front (k := k) xs)
    have HGET : Hid (Lrn.put Lrn.empty (k : Int) xs (k : Int) = some xs) := hide (by simp [Lrn.put])
    have HKW := hide (WalkArith.wf_i64 (n := (k : Int)) (by omega))
    obtain ⟨M, hM⟩ : ∃ M, M = Lrn.put Lrn.empty (k : Int) xs := ⟨_, rfl⟩
    rw [← hM] at P1 P2 P3 T1 F1 HGET
    clear hM
    go_enter Try.func5, Try.ntmps5
    go_wp2_with fail
    refine (awake_any _).mono ?_
    rintro e w1 ⟨rfl, hb1⟩
    go_wp2_with fail
    refine (new_any _).mono ?_
    rintro e w2 ⟨d, bm, rfl, hd, hbm, hL, hb2⟩
    have HL := hide (hL (fun _ => False))
    have HB2 := hide (below_next hb1 hb2)
    have hdw : w.heap.size ≤ d := Nat.le_trans hb1.size hd
    have hbw : w.heap.size ≤ bm := Nat.le_trans hb1.size hbm
    clear hL hb1 hb2 hd hbm
    go_wp2_with fail
    try simp only [hk]
    clear hk
    refine (put_any d bm 0 Lrn.empty 0 (fun _ => False) (k : Int) HKW.out A n c xs _ HL.out (by omega) (fun g h => h.elim) (HR.out.below HB2.out) HN.out HX.out).mono ?_
    rintro e w3 ⟨rfl, hL3, hg3⟩
    rw [P1.out.1]
    rw [P1.out.2] at hL3
    have HL3 := hide hL3
    have HB3 := hide (HB2.out.grown hg3 HB2.out.size (fun g hg => by cases hg; exact hbw))
    clear hL3 hg3 HL
    go_wp2_with fail
    refine (put_any d bm _ M 0 (fun _ => False) (k : Int) HKW.out B m d' ys _ HL3.out (by omega) (fun g h => h.elim) (HS.out.below HB3.out) HM.out HY.out).mono ?_
    rintro e w4 ⟨rfl, hL4, hg4⟩
    rw [P2.out.1]
    rw [P2.out.2] at hL4
    have HL4 := hide hL4
    have HB4 := hide (HB3.out.grown hg4 HB3.out.size (fun g hg => by cases hg; exact hbw))
    clear hL4 hg4 HL3
    go_wp2_with fail
    refine (put_any d bm _ M 0 (fun _ => False) (k : Int) HKW.out A n c xs _ HL4.out (by omega) (fun g h => h.elim) (HR.out.below HB4.out) HN.out HX.out).mono ?_
    rintro e w5 ⟨rfl, hL5, hg5⟩
    rw [P3.out.1]
    rw [P3.out.2] at hL5
    have HL5 := hide hL5
    have HB5 := hide (HB4.out.grown hg5 HB4.out.size (fun g hg => by cases hg; exact hbw))
    clear hL5 hg5 HL4
    go_wp2_with fail
    refine (get_any d bm _ M 0 (fun _ => False) (k : Int) HKW.out w5 HL5.out).mono ?_
    rintro e w6 ⟨A6, c6, rfl, hR6, hb6⟩
    rw [HGET.out] at hR6
    simp only [HGET.out, Option.getD_some, Option.isSome_some, HN.out]
    simp only [Option.getD_some] at hR6
    have HB6 := hide (below_next HB5.out hb6)
    have HL6 := hide (HL5.out.below hb6)
    have q1 := str_reads w6 A n c xs (HR.out.below HB6.out) HN.out
    have q2 := str_reads w6 B m d' ys (HS.out.below HB6.out) HM.out
    have q3 := str_reads w6 A6 n c6 xs hR6 HN.out
    have HEQ := hide (str_beq HX.out HY.out)
    clear hR6 hb6 HL5
    have C7 := top_any d bm _ M 0 (fun _ => False) w6 HL6.out
    rw [T1.out] at C7
    have C7 := hide C7
    have e1 : ((strOfNums xs).toList == (strOfNums ys).toList) = y := by rw [HEQ.out, HCY.out]
    clear HEQ HCY
    rcases hcy with ⟨rfl, rfl⟩ | ⟨rfl, rfl⟩
    all_goals
      go_wp2_with fail
      refine C7.out.mono ?_
      rintro e w7 ⟨rfl, hb7⟩
      have C8 := front_any d bm _ M 0 (fun _ => False) w7 (HL6.out.below hb7)
      rw [F1.out] at C8
      replace C8 := hide C8
      by_cases h0 : k = 0
      · subst h0
        rw [if_pos rfl] at C8
        go_wp2_with fail
        refine C8.out.mono ?_
        rintro e w8 ⟨rfl, rfl⟩
        go_wp2
        go_ret
        exact ⟨rfl, below_next HB6.out hb7⟩
      · rw [if_neg h0] at C8
        have h0' : ((k : Int) == 0) = false := by rw [beq_eq_false_iff_ne]; omega
        go_wp2_with fail
        refine C8.out.mono ?_
        rintro e w8 ⟨rfl, rfl⟩
        go_wp2
        go_ret
        exact ⟨rfl, below_next HB6.out hb7⟩

theorem learnOnce_walk' (x : Int) (A B : Option Addr) (c d' : Nat) (xs ys : List Int) (w : World) (hx : 0 ≤ x ∧ x ≤ 65535) (hR : Reads w A (bys xs)) (hS : Reads w B (bys ys)) (h1 : okRow xs) (h2 : okRow ys) (hn1 : xs.length * 1 ≤ 140737488351232) (hm1 : ys.length * 1 ≤ 140737488351232) :
    Calls Try.prog 5 #[.int .u16 x, .slice A xs.length c, .slice B ys.length d'] w fun e w' => e = .returned (.bool true) ∧ Below w.heap.size w w' :=
  learnOnce_walk x (x % 4096).toNat A B xs.length ys.length c d' xs ys w hx.1 hx.2 (by omega) hR hS rfl rfl h1 h2 (by omega) (by omega)

set_option maxRecDepth 100000 in
theorem learnOnce_lifted (os : Os) (started : os.Started) (H : Type) (enc : TypeId × Value → H) :
    ReturnsInHanded {} Try.checked os 5 .any (Rows.learnOnceSpec.pre6 enc Try.prog Try.f5 Rows.learnOnceRow.domain false) (Rows.learnOnceSpec.post enc Try.prog Try.f5 false true false false) := by
  refine returnsInHanded_of_change_sized (C := Try.checked) (by kernel_rfl) started (by kernel_rfl) Try.func5
    (ChangeSpec.witness6 (enc := enc) (C := Try.checked) false ⟨#[], #[.int .u16 0, .slice none 0 0, .slice none 0 0], []⟩ 8 (by kernel_rfl) (by kernel_rfl) (by kernel_rfl) (by kernel_rfl)) ?_
  intro W base args ds gs before hval0 hW _ hsz0 _
  have hval : ∀ (j : Nat) t v, Try.f5.params[j]? = some t → args[j]? = some v → Value.okWide Try.prog W .any base t v := hval0
  have hW' := hW
  obtain ⟨p, q, hA0, hV, rfl, _, _⟩ := hW
  have hA : DataW.TrodAll enc Try.prog W 0 (fun _ => true) true Try.f5.params.toList args.toList ds p := hA0
  have hsz : (DataW.weightsEach Try.prog (Try.f5.params.toList ++ Rows.learnOnceSpec.plain.varTypes Try.prog) (ds ++ gs)).all (· ≤ reachBytes) = true := hsz0
  rw [Try.params5] at hA hval hsz
  obtain ⟨v0, v1, v2, d0, d1, d2, p0, p1, p2, rfl, rfl, rfl, h0, h1, h2⟩ := trodAll_three hA
  obtain ⟨x0, rfl, rfl, rfl, wf0⟩ := open_int Try.underlying30 (hval 0 30 v0 rfl rfl) h0
  have bd0 := bounds_u16 wf0
  obtain ⟨A1, cap1, z1, rfl, hcap1, hm1, hR1, hwf1, hn1⟩ := open_nums Try.underlying22 Try.underlying5 (by kernel_rfl) (hval 1 22 v1 rfl rfl) h1
  have hreach1 := reach_nums (m := 1) hsz (j := 1) (t := 22) rfl rfl Try.underlying22 hn1 (by kernel_rfl)
  have bd1 := fun z hz => bounds_u8 (hwf1 z hz)
  obtain ⟨A2, cap2, z2, rfl, hcap2, hm2, hR2, hwf2, hn2⟩ := open_nums Try.underlying22 Try.underlying5 (by kernel_rfl) (hval 2 22 v2 rfl rfl) h2
  have hreach2 := reach_nums (m := 1) hsz (j := 2) (t := 22) rfl rfl Try.underlying22 hn2 (by kernel_rfl)
  have bd2 := fun z hz => bounds_u8 (hwf2 z hz)
  refine (learnOnce_walk' _ _ _ _ _ _ _ _ bd0 hR1 hR2 bd1 bd2 hreach1 hreach2).mono fun e W' ⟨he, hb⟩ => ?_
  subst he
  exact ⟨_, rfl, post_law (by kernel_rfl) (by kernel_rfl) rfl hW' (by rintro _ rfl; rfl) rfl Try.underlying4 hb⟩

theorem learnOnce_holds : Rows.LearnOnceSaid :=
  OpenClaim.holds_of_wide 5 Try.f5 rfl rfl rfl rfl rfl rfl rfl ⟨rfl, rfl, rfl, rfl, rfl⟩ rfl rfl rfl rfl rfl (by kernel_rfl) Try.func5 (by kernel_rfl)
    (of_decide_eq_true (by kernel_rfl)) (by unfold Func.isWrapper; first | (rw [if_pos (by decide +kernel)]; kernel_rfl) | (rw [if_neg (by decide +kernel)]; exact ⟨rfl, rfl⟩))
    (fun os started H enc _ => learnOnce_lifted os started H enc)

end Go.Proofs.Ytodlabpgjgbbpae
