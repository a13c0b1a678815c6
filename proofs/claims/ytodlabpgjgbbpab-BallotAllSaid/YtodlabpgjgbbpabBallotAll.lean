/-
  BallotAll: all sites are most of them, so are all but less than half; half of them are not; more sites don't make less. No conditions.
-/
import Derived.Test.YtodlabpgjgbbpabBallotAwake
import Derived.Test.YtodlabpgjgbbpabAppend
import Derived.Test.YtodlabpgjgbbpabLaw
import Derived.Test.YtodlabpgjgbbpabRows
namespace Go.Proofs.Ytodlabpgjgbbpab
open Go.RowKit Go.Agio Go.ChangeShapes Go.WideShapes Go.ChangeAt

theorem infoI : (Try.prog.info? 3).map (fun i => (i.zero, i.size, i.bytes)) = some (some (.int .i64 0), 1, 8) := by kernel_rfl
theorem size64 (w : World) : (sizeOf (Try.prog.elem 22)).run Try.prog w = .ok 1 w := by kernel_rfl
theorem elem64 : Try.prog.underlying 22 = some (.slice (Try.prog.elem 22)) := by kernel_rfl

theorem upto_succ (k : Nat) : Bal.upto (k + 1) = Bal.upto k ++ [(k : Int)] := by simp [Bal.upto, List.range_succ]
theorem upto_snoc (k : Nat) : (Bal.upto k).map (Value.int .i64) ++ [.int .i64 (k : Int)] = (Bal.upto (k + 1)).map (Value.int .i64) := by rw [upto_succ]; simp
theorem upto_wf {k : Nat} (hk : k ≤ 1000) : ∀ z ∈ Bal.upto k, (Lit.int .i64 z).wf = true := fun z hz => by
  have := Bal.mem_upto.1 hz
  exact WalkArith.wf_i64 (by omega)
theorem upto_take {p k : Nat} (h : p ≤ k) : (Bal.upto k).take p = Bal.upto p := by
  unfold Bal.upto
  rw [← List.map_take, List.take_range, Nat.min_eq_left h]
theorem upto_most {p k : Nat} (h0 : 1 ≤ k) (h : p ≤ k) (h2 : k / 2 + 1 ≤ p) : Bal.most (Bal.upto p) (1 + ((k - 1 : Nat) : Int)) = true := by
  have e : (1 + ((k - 1 : Nat) : Int)) = (k : Int) := by omega
  rw [e]
  unfold Bal.most Bal.major
  rw [Bal.sites_upto h, if_neg (by omega)]
  simp only [Bool.and_eq_true, decide_eq_true_eq]
  omega
theorem upto_half {p k : Nat} (h0 : 1 ≤ k) (h : p ≤ k) (h2 : p ≤ k / 2) : Bal.most (Bal.upto p) (1 + ((k - 1 : Nat) : Int)) = false := by
  have e : (1 + ((k - 1 : Nat) : Int)) = (k : Int) := by omega
  rw [e]
  unfold Bal.most Bal.major
  rw [Bal.sites_upto h, if_neg (by omega)]
  simp only [Bool.and_eq_false_iff, decide_eq_false_iff_not]
  omega

set_option maxRecDepth 100000 in
set_option maxHeartbeats 2000000 in
theorem ballotAll_walk (n m : Int) (j : Nat) (w : World) (hn0 : 0 ≤ n) (hn : n ≤ 255) (hj : n % 100 = (j : Int)) (hj1 : j ≤ 99) (hwm : (Lit.int .i64 m).wf = true) :
    Calls Try.prog 5 #[.int .u8 n, .int .i64 m] w fun e w' => e = .returned (.bool true) ∧ Below w.heap.size w w' := by
  obtain ⟨i0, hi, hz0, hz1, hz2⟩ := info_parts infoI
  go_enter Try.func5, Try.ntmps5
  go_wp2_with fail
  refine (awake_any _).mono ?_
  rintro e w1 ⟨rfl, hb1⟩
  go_wp2_with fail
  simp only [hj]
  clear hj
  go_loopw [7, 8] (fun v i wr => ∃ (p : Nat) (A : Option Addr) (c : Nat), p ≤ j + 1 ∧ i = .int .i64 p ∧ v = .slice A p c ∧ wr.ownsRow w.heap.size 3 1 (.slice A p c) p ((Bal.upto p).map (Value.int .i64)) ∧ Below w.heap.size w wr) (fun _ i _ => j + 1 - (intOf i).toNat)
  case atStart => exact ⟨0, none, 0, Nat.zero_le _, rfl, rfl, World.ownsRow_nil _ _ _ _, hb1⟩
  case round =>
    obtain ⟨p, A, c, hp, rfl, rfl, hown, hbr⟩ := hrel
    have Hown := hide hown
    clear hown
    by_cases hlt : p < j + 1
    · go_wp2_with (at_builtin; apply halted)
      refine unhalt (wpList_append_reads rfl (.tmp 21) (.tmp 23) 22 rfl w.heap.size 3 i0 (.int .i64 0) 8 Try.underlying22 hi hz0 hz1 hz2 rfl _ p ((Bal.upto p).map (Value.int .i64)) rfl (Hown.out.alloc _) (some ⟨wr.heap.size, 0, none⟩) 1 1 [.int .i64 (p : Int)] rfl (Reads.new_at _ _ _ _ _ rfl) rfl (one_one _ rfl) (by unfold maxLen; omega) (by omega) (by have := hbr.size; simp; omega) ?_)
      intro A' c' w2 n2 g2 t2
      rw [upto_snoc] at n2
      have hb2 := (hbr.alloc hbr.size _).grown g2 (by have := hbr.size; simp; omega) (fun g hg => (Hown.out.lt g hg).1)
      have N2 := hide n2
      clear n2 g2 t2
      go_wp2
      go_roundw
      case rel => exact ⟨p + 1, A', c', by omega, by go_num, rfl, N2.out, hb2⟩
      case measure => simp [intOf]; omega
    · obtain rfl : p = j + 1 := by omega
      have hcap : ((j : Int) + 1) ≤ (c : Int) := by
        rcases Hown.out.2 with ⟨_, h0⟩ | ⟨g, cap, cur, he, _, _, hnc, _⟩
        · omega
        · injection he with _ _ he
          omega
      have r0 := Reads.of_own Hown.out
      have R1 : Hid (Reads wr A ((Bal.upto (j + 1)).map (Value.int .i64))) := hide r0
      have R2 : Hid (Reads wr A ((Bal.upto ((1 + j) / 2 + 1)).map (Value.int .i64))) := hide (by have := r0.take ((1 + j) / 2 + 1); rw [← List.map_take, upto_take (by omega)] at this; exact this)
      have R3 : Hid (Reads wr A ((Bal.upto ((1 + j) / 2)).map (Value.int .i64))) := hide (by have := r0.take ((1 + j) / 2); rw [← List.map_take, upto_take (by omega)] at this; exact this)
      have m1 : Bal.most (Bal.upto (j + 1)) (1 + (j : Int)) = true := by have := upto_most (p := j + 1) (k := j + 1) (by omega) (by omega) (by omega); rwa [Nat.add_sub_cancel] at this
      have m2 : Bal.most (Bal.upto ((1 + j) / 2 + 1)) (1 + (j : Int)) = true := by have := upto_most (p := (1 + j) / 2 + 1) (k := j + 1) (by omega) (by omega) (by omega); rwa [Nat.add_sub_cancel] at this
      have m3 : Bal.most (Bal.upto ((1 + j) / 2)) (1 + (j : Int)) = false := by have := upto_half (p := (1 + j) / 2) (k := j + 1) (by omega) (by omega) (by omega); rwa [Nat.add_sub_cancel] at this
      have m4 : Bal.most (Bal.upto ((1 + j) / 2 + 1) ++ [m]) (1 + (j : Int)) = true := Bal.most_mono (fun x hx => List.mem_append.2 (.inl hx)) m2
      have m5 : Bal.major (1 + (j : Int)) = (((1 + j) / 2 : Nat) : Int) + 1 := by unfold Bal.major; rw [if_neg (by omega)]; omega
      have C1 : Hid (∀ W, Below wr.heap.size wr W → Calls Try.prog 12 #[.slice A (j + 1) c, .int .i64 (1 + (j : Int))] W fun e w' => e = .returned (.bool true) ∧ Below wr.heap.size wr w') :=
        hide fun W hb => by rw [← m1]; exact most_at A c _ _ _ W (Bal.length_upto _) R1.out hb (upto_wf (by omega)) (by rw [Bal.length_upto]; omega) (by omega)
      have C2 : Hid (∀ W, Below wr.heap.size wr W → Calls Try.prog 12 #[.slice A ((1 + j) / 2 + 1) c, .int .i64 (1 + (j : Int))] W fun e w' => e = .returned (.bool true) ∧ Below wr.heap.size wr w') :=
        hide fun W hb => by rw [← m2]; exact most_at A c _ _ _ W (Bal.length_upto _) R2.out hb (upto_wf (by omega)) (by rw [Bal.length_upto]; omega) (by omega)
      have C3 : Hid (∀ W, Below wr.heap.size wr W → Calls Try.prog 12 #[.slice A ((1 + j) / 2) c, .int .i64 (1 + (j : Int))] W fun e w' => e = .returned (.bool false) ∧ Below wr.heap.size wr w') :=
        hide fun W hb => by rw [← m3]; exact most_at A c _ _ _ W (Bal.length_upto _) R3.out hb (upto_wf (by omega)) (by rw [Bal.length_upto]; omega) (by omega)
      have C5 : Hid (∀ W, Calls Try.prog 10 #[.int .i64 (1 + (j : Int))] W fun e w' => e = .returned (.int .i64 ((((1 + j) / 2 : Nat) : Int) + 1)) ∧ W = w') :=
        hide fun W => by rw [← m5]; exact major_any _ W (by omega)
      have M4 := hide m4
      have HW := hide (upto_wf (k := (1 + j) / 2 + 1) (by omega))
      have L2 := hide (Bal.length_upto ((1 + j) / 2 + 1))
      clear m1 m2 m3 m4 m5 r0
      go_wp2_with fail
      refine (C1.out _ (Below.refl _ _)).mono ?_
      rintro e w2 ⟨rfl, hb2⟩
      go_wp2_with fail
      refine (C2.out _ hb2).mono ?_
      rintro e w3 ⟨rfl, hb3⟩
      go_wp2_with fail
      refine (C3.out _ hb3).mono ?_
      rintro e w4 ⟨rfl, hb4⟩
      go_wp2_with (at_builtin; apply halted)
      refine unhalt (wpList_append_reads rfl (.tmp 52) (.tmp 53) 22 rfl w4.heap.size 3 i0 (.int .i64 0) 8 Try.underlying22 hi hz0 hz1 hz2 rfl _ 0 [] rfl (own_new w4 _ _ [] 0 (Nat.le_refl _) rfl (by unfold maxLen; omega)) A ((1 + j) / 2 + 1) c ((Bal.upto ((1 + j) / 2 + 1)).map (Value.int .i64)) rfl ((R2.out.below hb4).alloc _) (by rw [List.length_map]; exact L2.out) (ints_one _ _) (by unfold maxLen; omega) (by omega) (by simp) ?_)
      intro A5 c5 w5 n5 g5 t5
      simp only [Nat.zero_add, List.nil_append] at n5 t5
      have N5 := hide n5
      have hb5 := (hb4.alloc hb4.size _).grown g5 (by have := hb4.size; simp; omega) (fun g hg => by cases hg; exact hb4.size)
      have hs5 := g5.size
      rw [World.size_alloc] at hs5
      clear n5 g5 t5
      go_wp2_with (at_builtin; apply halted)
      refine unhalt (wpList_append_reads rfl (.tmp 54) (.tmp 56) 22 rfl w4.heap.size 3 i0 (.int .i64 0) 8 Try.underlying22 hi hz0 hz1 hz2 rfl _ ((1 + j) / 2 + 1) ((Bal.upto ((1 + j) / 2 + 1)).map (Value.int .i64)) rfl (N5.out.alloc _) (some ⟨w5.heap.size, 0, none⟩) 1 1 [.int .i64 m] rfl (Reads.new_at _ _ _ _ _ rfl) rfl (one_one _ rfl) (by unfold maxLen; omega) (by omega) (by simp; omega) ?_)
      intro A6 c6 w6 n6 g6 t6
      have hb6 := (hb5.alloc hb5.size _).grown g6 (by have := hb5.size; simp; omega) (fun g hg => Nat.le_trans hb4.size (N5.out.lt g hg).1)
      have r6 := Reads.of_own n6
      have hmap : (Bal.upto ((1 + j) / 2 + 1)).map (Value.int .i64) ++ [.int .i64 m] = (Bal.upto ((1 + j) / 2 + 1) ++ [m]).map (Value.int .i64) := by simp
      rw [hmap] at r6
      have R6 := hide r6
      clear n6 g6 t6 r6 hmap
      go_wp2_with fail
      refine (most_at A6 c6 ((1 + j) / 2 + 1 + 1) (Bal.upto ((1 + j) / 2 + 1) ++ [m]) (1 + (j : Int)) _ (by rw [List.length_append, L2.out]; rfl) R6.out (Below.refl _ _) (fun z hz => (List.mem_append.1 hz).elim (HW.out z) (fun h => by simp at h; subst h; exact hwm)) (by rw [List.length_append, L2.out]; simp; omega) (by omega)).mono ?_
      rintro e w7 ⟨rfl, hb7⟩
      rw [M4.out]
      go_wp2_with fail
      refine (C5.out _).mono ?_
      rintro e w8 ⟨rfl, rfl⟩
      go_wp2
      go_ret
      exact ⟨rfl, below_next (below_next hbr hb6) hb7⟩

theorem ballotAll_walk' (n m : Int) (w : World) (hn : 0 ≤ n ∧ n ≤ 255) (hwm : (Lit.int .i64 m).wf = true) :
    Calls Try.prog 5 #[.int .u8 n, .int .i64 m] w fun e w' => e = .returned (.bool true) ∧ Below w.heap.size w w' :=
  ballotAll_walk n m (n % 100).toNat w hn.1 hn.2 (by omega) (by omega) hwm

set_option maxRecDepth 100000 in
theorem ballotAll_lifted (os : Os) (started : os.Started) (H : Type) (enc : TypeId × Value → H) :
    ReturnsInHanded {} Try.checked os 5 .any (Rows.ballotAllSpec.pre6 enc Try.prog Try.f5 Rows.ballotAllRow.domain false) (Rows.ballotAllSpec.post enc Try.prog Try.f5 false true false false) := by
  refine returnsInHanded_of_change_sized (C := Try.checked) (by kernel_rfl) started (by kernel_rfl) Try.func5
    (ChangeSpec.witness6 (enc := enc) (C := Try.checked) false ⟨#[], #[.int .u8 0, .int .i64 0], []⟩ 8 (by kernel_rfl) (by kernel_rfl) (by kernel_rfl) (by kernel_rfl)) ?_
  intro W base args ds gs before hval0 hW _ hsz0 _
  have hval : ∀ (j : Nat) t v, Try.f5.params[j]? = some t → args[j]? = some v → Value.okWide Try.prog W .any base t v := hval0
  have hW' := hW
  obtain ⟨p, q, hA0, hV, rfl, _, _⟩ := hW
  have hA : DataW.TrodAll enc Try.prog W 0 (fun _ => true) true Try.f5.params.toList args.toList ds p := hA0
  have _hsz : (DataW.weightsEach Try.prog (Try.f5.params.toList ++ Rows.ballotAllSpec.plain.varTypes Try.prog) (ds ++ gs)).all (· ≤ reachBytes) = true := hsz0
  rw [Try.params5] at hA hval
  obtain ⟨v0, v1, d0, d1, p0, p1, rfl, rfl, rfl, h0, h1⟩ := trodAll_two hA
  obtain ⟨x0, rfl, rfl, rfl, wf0⟩ := open_int Try.underlying5 (hval 0 5 v0 rfl rfl) h0
  have bd0 := bounds_u8 wf0
  obtain ⟨x1, rfl, rfl, rfl, wf1⟩ := open_int Try.underlying3 (hval 1 3 v1 rfl rfl) h1
  have bd1 := bounds_i64 wf1
  refine (ballotAll_walk' _ _ _ bd0 wf1).mono fun e W' ⟨he, hb⟩ => ?_
  subst he
  exact ⟨_, rfl, post_law (by kernel_rfl) (by kernel_rfl) rfl hW' (by rintro _ rfl; rfl) rfl Try.underlying4 hb⟩

theorem ballotAll_holds : Rows.BallotAllSaid :=
  OpenClaim.holds_of_wide 5 Try.f5 rfl rfl rfl rfl rfl rfl rfl ⟨rfl, rfl, rfl, rfl, rfl⟩ rfl rfl rfl rfl rfl (by kernel_rfl) Try.func5 (by kernel_rfl)
    (of_decide_eq_true (by kernel_rfl)) (by unfold Func.isWrapper; first | (rw [if_pos (by decide +kernel)]; kernel_rfl) | (rw [if_neg (by decide +kernel)]; exact ⟨rfl, rfl⟩))
    (fun os started H enc _ => ballotAll_lifted os started H enc)

end Go.Proofs.Ytodlabpgjgbbpab
