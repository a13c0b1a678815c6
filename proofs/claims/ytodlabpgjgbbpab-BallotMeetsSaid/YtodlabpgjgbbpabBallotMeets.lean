/-
  BallotMeets: two lists that are most of the sites have one in common. No conditions.
-/
import Derived.Test.YtodlabpgjgbbpabBallotAwake
import Derived.Test.YtodlabpgjgbbpabLaw
import Derived.Test.YtodlabpgjgbbpabRows
namespace Go.Proofs.Ytodlabpgjgbbpab
open Go.RowKit Go.Agio Go.ChangeShapes Go.WideShapes Go.ChangeAt

theorem below_drewN' {B : Nat} {a w : World} (h : Below B a w) (n : Nat) : Below B a (w.drewN n) := ⟨h.os, h.tape, h.output, h.size, h.block⟩

/-- Have two lists a site in common at these places? -/
def hit (zs ys : List Int) (k : Int) (i j : Nat) : Prop := zs.getD i 0 = ys.getD j 0 ∧ 0 ≤ zs.getD i 0 ∧ zs.getD i 0 < k
/-- None ahead of a row, and of a place in it. -/
def clean (zs ys : List Int) (k : Int) (i j : Nat) : Prop := (∀ i' j', i' < i → j' < ys.length → ¬ hit zs ys k i' j') ∧ ∀ j', j' < j → ¬ hit zs ys k i j'

theorem clean_start (zs ys : List Int) (k : Int) : clean zs ys k 0 0 := ⟨fun _ _ h => by omega, fun _ h => by omega⟩
theorem clean_next {zs ys : List Int} {k : Int} {i j : Nat} (h : clean zs ys k i j) (hn : ¬ hit zs ys k i j) : clean zs ys k i (j + 1) :=
  ⟨h.1, fun j' hj => by
    rcases Nat.lt_or_eq_of_le (Nat.le_of_lt_succ hj) with h1 | rfl
    · exact h.2 j' h1
    · exact hn⟩
theorem clean_row {zs ys : List Int} {k : Int} {i : Nat} (h : clean zs ys k i ys.length) : clean zs ys k (i + 1) 0 :=
  ⟨fun i' j' hi hj => by
    rcases Nat.lt_or_eq_of_le (Nat.le_of_lt_succ hi) with h1 | rfl
    · exact h.1 i' j' h1 hj
    · exact h.2 j' hj, fun _ h => by omega⟩
theorem clean_end {zs ys : List Int} {k : Int} (h : clean zs ys k zs.length 0) (h1 : Bal.most zs k = true) (h2 : Bal.most ys k = true) : False := by
  obtain ⟨x, ha, hb, hx⟩ := Bal.meets h1 h2
  obtain ⟨i, hi, rfl⟩ := List.getElem_of_mem ha
  obtain ⟨j, hj, he⟩ := List.getElem_of_mem hb
  refine h.1 i j hi hj ⟨?_, ?_⟩
  · simp [List.getD_eq_getElem?_getD, hi, hj, he]
  · simpa [List.getD_eq_getElem?_getD, hi] using hx

set_option maxRecDepth 100000 in
set_option maxHeartbeats 2000000 in
theorem ballotMeets_yes (A B : Option Addr) (c d : Nat) (zs ys : List Int) (k : Int) (w : World) (hk0 : 0 ≤ k) (hk : k ≤ 255) (hz : ∀ z ∈ zs, (Lit.int .i64 z).wf = true) (hy : ∀ z ∈ ys, (Lit.int .i64 z).wf = true)
    (hR : Reads w A (zs.map (Value.int .i64))) (hS : Reads w B (ys.map (Value.int .i64))) (h1 : zs.length ≤ 300) (h2 : ys.length ≤ 300) (m1 : Bal.most zs k = true) (m2 : Bal.most ys k = true) :
    Calls Try.prog 4 #[.slice A zs.length c, .slice B ys.length d, .int .u8 k] w fun e w' => e = .returned (.bool true) ∧ Below w.heap.size w w' := by
  have C1 : Hid (∀ W, Below w.heap.size w W → Calls Try.prog 12 #[.slice A zs.length c, .int .i64 k] W fun e w' => e = .returned (.bool true) ∧ Below w.heap.size w w') :=
    hide fun W hb => by rw [← m1]; exact most_at A c _ zs k W rfl hR hb hz (by omega) (by omega)
  have C2 : Hid (∀ W, Below w.heap.size w W → Calls Try.prog 12 #[.slice B ys.length d, .int .i64 k] W fun e w' => e = .returned (.bool true) ∧ Below w.heap.size w w') :=
    hide fun W hb => by rw [← m2]; exact most_at B d _ ys k W rfl hS hb hy (by omega) (by omega)
  have HE := hide (fun h => clean_end (zs := zs) (ys := ys) (k := k) h m1 m2)
  have HR := hide hR
  have HS := hide hS
  clear hz hy hR hS m1 m2
  go_enter Try.func4, Try.ntmps4
  go_wp2_with fail
  refine (awake_any _).mono ?_
  rintro e w1 ⟨rfl, hb1⟩
  go_wp2_with fail
  refine (C1.out _ hb1).mono ?_
  rintro e w2 ⟨rfl, hb2⟩
  go_wp2_with fail
  refine (C2.out _ hb2).mono ?_
  rintro e w3 ⟨rfl, hb3⟩
  go_wp2_with fail
  go_loopw [9] (fun i wr => ∃ p : Nat, p ≤ zs.length ∧ i = .int .i64 p ∧ clean zs ys k p 0 ∧ Below w.heap.size w wr) (fun i _ => zs.length - (intOf i).toNat)
  case atStart => exact ⟨0, Nat.zero_le _, rfl, clean_start _ _ _, hb3⟩
  case round =>
    obtain ⟨p, hp, rfl, hcl, hbr⟩ := hrel
    have Hcl := hide hcl
    clear hcl
    by_cases hlt : p < zs.length
    · obtain ⟨b, off, rfl, hb, hc⟩ := HR.out.at_ (k := p) (by simpa using hlt)
      have hck := hc p (by simpa using hlt)
      rw [getD_map_int _ _ hlt] at hck
      clear hc
      go_wp2
      obtain ⟨wo, hwo⟩ : ∃ wo : World, wo = wr := ⟨_, rfl⟩
      rw [← hwo]
      rw [← hwo] at hbr
      clear hwo
      go_loopw [10] (fun j wr => ∃ q : Nat, q ≤ ys.length ∧ j = .int .i64 q ∧ clean zs ys k p q ∧ Below w.heap.size w wr) (fun j _ => ys.length - (intOf j).toNat)
      case atStart => exact ⟨0, Nat.zero_le _, rfl, Hcl.out, hbr⟩
      case round =>
        obtain ⟨q, hq, rfl, hcq, hbq⟩ := hrel
        have Hcq := hide hcq
        clear hcq
        by_cases hlq : q < ys.length
        · obtain ⟨b', off', rfl, hb', hc'⟩ := HS.out.at_ (k := q) (by simpa using hlq)
          have hcq := (hbq.cell (p := ⟨b', off' + q, none⟩) hb').trans (hc' q (by simpa using hlq))
          have hcp := (hbq.cell (p := ⟨b, off + p, none⟩) hb).trans hck
          rw [getD_map_int _ _ hlq] at hcq
          clear hc' hck
          have Hnext := hide (fun h => clean_next (zs := zs) (ys := ys) (k := k) (i := p) (j := q) Hcq.out h)
          unfold hit at Hnext
          generalize zs.getD p 0 = x at *
          generalize ys.getD q 0 = y at *
          have b1 : (0 : Int) ≤ (p : Int) := by omega
          have b2 : (p : Int) < (zs.length : Int) := by omega
          have b3 : (0 : Int) ≤ (q : Int) := by omega
          have b4 : (q : Int) < (ys.length : Int) := by omega
          by_cases e1 : x = y
          · by_cases e2 : 0 ≤ x
            · by_cases e3 : x < k
              · subst e1
                go_wp2_with fail
                go_quiet (fail)
                go_wp2
                go_ret
                exact ⟨rfl, below_drewN' hbq _⟩
              · have hno := hide (Hnext.out (fun h => e3 h.2.2))
                have f3 : decide (x < k) = false := by simpa using e3
                subst e1
                clear e3
                go_wp2_with fail
                go_quiet (fail)
                go_wp2
                go_roundw
                case rel => exact ⟨q + 1, by omega, by go_num, hno.out, below_drewN' hbq _⟩
                case measure => simp [intOf]; omega
            · have hno := hide (Hnext.out (fun h => e2 h.2.1))
              have f2 : decide (0 ≤ x) = false := by simpa using e2
              subst e1
              clear e2
              go_wp2_with fail
              go_quiet (fail)
              go_wp2
              go_roundw
              case rel => exact ⟨q + 1, by omega, by go_num, hno.out, below_drewN' hbq _⟩
              case measure => simp [intOf]; omega
          · have hno := hide (Hnext.out (fun h => e1 h.1))
            have f1 : (x == y) = false := by rw [beq_eq_false_iff_ne]; exact e1
            clear e1
            go_wp2_with fail
            go_quiet (fail)
            go_wp2
            go_roundw
            case rel => exact ⟨q + 1, by omega, by go_num, hno.out, below_drewN' hbq _⟩
            case measure => simp [intOf]; omega
        · have hqe : q = ys.length := by omega
          have hrow := hide (clean_row (by rw [← hqe]; exact Hcq.out))
          clear hqe
          go_wp2
          go_roundw
          case rel => exact ⟨p + 1, by omega, by go_num, hrow.out, hbq⟩
          case measure => simp [intOf]; omega
    · exact (HE.out (by rw [show zs.length = p from by omega]; exact Hcl.out)).elim

set_option maxHeartbeats 1000000 in
/-- Too long, or not most. -/
theorem ballotMeets_no (A B : Option Addr) (c d : Nat) (zs ys : List Int) (k : Int) (w : World) (hk0 : 0 ≤ k) (hk : k ≤ 255) (hz : ∀ z ∈ zs, (Lit.int .i64 z).wf = true) (hy : ∀ z ∈ ys, (Lit.int .i64 z).wf = true)
    (hR : Reads w A (zs.map (Value.int .i64))) (hS : Reads w B (ys.map (Value.int .i64)))
    (h : 300 < zs.length ∨ (zs.length ≤ 300 ∧ 300 < ys.length) ∨ (zs.length ≤ 300 ∧ ys.length ≤ 300 ∧ Bal.most zs k = false) ∨ (zs.length ≤ 300 ∧ ys.length ≤ 300 ∧ Bal.most zs k = true ∧ Bal.most ys k = false)) :
    Calls Try.prog 4 #[.slice A zs.length c, .slice B ys.length d, .int .u8 k] w fun e w' => e = .returned (.bool true) ∧ Below w.heap.size w w' := by
  have C1 : Hid (∀ W, zs.length ≤ 300 → Below w.heap.size w W → Calls Try.prog 12 #[.slice A zs.length c, .int .i64 k] W fun e w' => e = .returned (.bool (Bal.most zs k)) ∧ Below w.heap.size w w') :=
    hide fun W _ hb => most_at A c _ zs k W rfl hR hb hz (by omega) (by omega)
  have C2 : Hid (∀ W, ys.length ≤ 300 → Below w.heap.size w W → Calls Try.prog 12 #[.slice B ys.length d, .int .i64 k] W fun e w' => e = .returned (.bool (Bal.most ys k)) ∧ Below w.heap.size w w') :=
    hide fun W _ hb => most_at B d _ ys k W rfl hS hb hy (by omega) (by omega)
  clear hz hy hR hS
  generalize Bal.most zs k = m1 at *
  generalize Bal.most ys k = m2 at *
  generalize zs.length = n at *
  generalize ys.length = m at *
  rcases h with h1 | ⟨h1, h2⟩ | ⟨h1, h2, rfl⟩ | ⟨h1, h2, rfl, rfl⟩
  · go_enter Try.func4, Try.ntmps4
    go_wp2_with fail
    refine (awake_any _).mono ?_
    rintro e w1 ⟨rfl, hb1⟩
    go_wp2_with fail
    go_ret
    exact ⟨rfl, hb1⟩
  · go_enter Try.func4, Try.ntmps4
    go_wp2_with fail
    refine (awake_any _).mono ?_
    rintro e w1 ⟨rfl, hb1⟩
    go_wp2_with fail
    go_ret
    exact ⟨rfl, hb1⟩
  · go_enter Try.func4, Try.ntmps4
    go_wp2_with fail
    refine (awake_any _).mono ?_
    rintro e w1 ⟨rfl, hb1⟩
    go_wp2_with fail
    refine (C1.out _ h1 hb1).mono ?_
    rintro e w2 ⟨rfl, hb2⟩
    go_wp2_with fail
    go_ret
    exact ⟨rfl, hb2⟩
  · go_enter Try.func4, Try.ntmps4
    go_wp2_with fail
    refine (awake_any _).mono ?_
    rintro e w1 ⟨rfl, hb1⟩
    go_wp2_with fail
    refine (C1.out _ h1 hb1).mono ?_
    rintro e w2 ⟨rfl, hb2⟩
    go_wp2_with fail
    refine (C2.out _ h2 hb2).mono ?_
    rintro e w3 ⟨rfl, hb3⟩
    go_wp2_with fail
    go_ret
    exact ⟨rfl, hb3⟩

theorem ballotMeets_walk (A B : Option Addr) (c d : Nat) (zs ys : List Int) (k : Int) (w : World) (hk : 0 ≤ k ∧ k ≤ 255) (hz : ∀ z ∈ zs, (Lit.int .i64 z).wf = true) (hy : ∀ z ∈ ys, (Lit.int .i64 z).wf = true)
    (hR : Reads w A (zs.map (Value.int .i64))) (hS : Reads w B (ys.map (Value.int .i64))) :
    Calls Try.prog 4 #[.slice A zs.length c, .slice B ys.length d, .int .u8 k] w fun e w' => e = .returned (.bool true) ∧ Below w.heap.size w w' := by
  by_cases h1 : zs.length ≤ 300
  · by_cases h2 : ys.length ≤ 300
    · cases m1 : Bal.most zs k
      · exact ballotMeets_no A B c d zs ys k w hk.1 hk.2 hz hy hR hS (.inr (.inr (.inl ⟨h1, h2, m1⟩)))
      · cases m2 : Bal.most ys k
        · exact ballotMeets_no A B c d zs ys k w hk.1 hk.2 hz hy hR hS (.inr (.inr (.inr ⟨h1, h2, m1, m2⟩)))
        · exact ballotMeets_yes A B c d zs ys k w hk.1 hk.2 hz hy hR hS h1 h2 m1 m2
    · exact ballotMeets_no A B c d zs ys k w hk.1 hk.2 hz hy hR hS (.inr (.inl ⟨h1, by omega⟩))
  · exact ballotMeets_no A B c d zs ys k w hk.1 hk.2 hz hy hR hS (.inl (by omega))

set_option maxRecDepth 100000 in
theorem ballotMeets_lifted (os : Os) (started : os.Started) (H : Type) (enc : TypeId × Value → H) :
    ReturnsInHanded {} Try.checked os 4 .any (Rows.ballotMeetsSpec.pre6 enc Try.prog Try.f4 Rows.ballotMeetsRow.domain false) (Rows.ballotMeetsSpec.post enc Try.prog Try.f4 false true false false) := by
  refine returnsInHanded_of_change_sized (C := Try.checked) (by kernel_rfl) started (by kernel_rfl) Try.func4
    (ChangeSpec.witness6 (enc := enc) (C := Try.checked) false ⟨#[], #[.slice none 0 0, .slice none 0 0, .int .u8 0], []⟩ 8 (by kernel_rfl) (by kernel_rfl) (by kernel_rfl) (by kernel_rfl)) ?_
  intro W base args ds gs before hval0 hW _ hsz0 _
  have hval : ∀ (j : Nat) t v, Try.f4.params[j]? = some t → args[j]? = some v → Value.okWide Try.prog W .any base t v := hval0
  have hW' := hW
  obtain ⟨p, q, hA0, hV, rfl, _, _⟩ := hW
  have hA : DataW.TrodAll enc Try.prog W 0 (fun _ => true) true Try.f4.params.toList args.toList ds p := hA0
  have hsz : (DataW.weightsEach Try.prog (Try.f4.params.toList ++ Rows.ballotMeetsSpec.plain.varTypes Try.prog) (ds ++ gs)).all (· ≤ reachBytes) = true := hsz0
  rw [Try.params4] at hA hval hsz
  obtain ⟨v0, v1, v2, d0, d1, d2, p0, p1, p2, rfl, rfl, rfl, h0, h1, h2⟩ := trodAll_three hA
  obtain ⟨A0, cap0, z0, rfl, hcap0, hm0, hR0, hwf0, hn0⟩ := open_nums Try.underlying22 Try.underlying3 (by kernel_rfl) (hval 0 22 v0 rfl rfl) h0
  have hreach0 := reach_nums (m := 8) hsz (j := 0) (t := 22) rfl rfl Try.underlying22 hn0 (by kernel_rfl)
  have bd0 := fun z hz => bounds_i64 (hwf0 z hz)
  obtain ⟨A1, cap1, z1, rfl, hcap1, hm1, hR1, hwf1, hn1⟩ := open_nums Try.underlying22 Try.underlying3 (by kernel_rfl) (hval 1 22 v1 rfl rfl) h1
  have hreach1 := reach_nums (m := 8) hsz (j := 1) (t := 22) rfl rfl Try.underlying22 hn1 (by kernel_rfl)
  have bd1 := fun z hz => bounds_i64 (hwf1 z hz)
  obtain ⟨x2, rfl, rfl, rfl, wf2⟩ := open_int Try.underlying5 (hval 2 5 v2 rfl rfl) h2
  have bd2 := bounds_u8 wf2
  refine (ballotMeets_walk _ _ _ _ _ _ _ _ bd2 hwf0 hwf1 hR0 hR1).mono fun e W' ⟨he, hb⟩ => ?_
  subst he
  exact ⟨_, rfl, post_law (by kernel_rfl) (by kernel_rfl) rfl hW' (by rintro _ rfl; rfl) rfl Try.underlying4 hb⟩

theorem ballotMeets_holds : Rows.BallotMeetsSaid :=
  OpenClaim.holds_of_wide 4 Try.f4 rfl rfl rfl rfl rfl rfl rfl ⟨rfl, rfl, rfl, rfl, rfl⟩ rfl rfl rfl rfl rfl (by kernel_rfl) Try.func4 (by kernel_rfl)
    (of_decide_eq_true (by kernel_rfl)) (by unfold Func.isWrapper; first | (rw [if_pos (by decide +kernel)]; kernel_rfl) | (rw [if_neg (by decide +kernel)]; exact ⟨rfl, rfl⟩))
    (fun os started H enc _ => ballotMeets_lifted os started H enc)

end Go.Proofs.Ytodlabpgjgbbpab
