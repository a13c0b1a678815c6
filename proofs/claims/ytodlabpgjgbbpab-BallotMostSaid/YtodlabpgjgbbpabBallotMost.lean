/-
  BallotMost: how many are most of any number, and whether any list has most, as the reference has it.
-/
import Derived.Test.YtodlabpgjgbbpabBallotAwake
import Derived.Test.YtodlabpgjgbbpabBallotRefWalks
import Derived.Test.YtodlabpgjgbbpabLaw
import Derived.Test.YtodlabpgjgbbpabRows
namespace Go.Proofs.Ytodlabpgjgbbpab
open Go.RowKit Go.Agio Go.ChangeShapes Go.WideShapes Go.ChangeAt

set_option maxHeartbeats 1000000 in
theorem ballotMost_walk (A : Option Addr) (cap : Nat) (zs : List Int) (n : Int) (w : World) (hR : Reads w A (zs.map (Value.int .i64))) (hz : ∀ z ∈ zs, (Lit.int .i64 z).wf = true) (hm : zs.length ≤ 4611686018427387904) (hn : n ≤ 9223372036854775807) :
    Calls Try.prog 3 #[.slice A zs.length cap, .int .i64 n] w fun e w' => e = .returned (.bool true) ∧ Below w.heap.size w w' := by
  obtain ⟨c, hc⟩ : ∃ c, c = Bal.major n := ⟨_, rfl⟩
  obtain ⟨m, hm'⟩ : ∃ m, m = Bal.most zs n := ⟨_, rfl⟩
  have C1 : Hid (∀ (w1 : World), Below w.heap.size w w1 → Calls Try.prog 10 #[.int .i64 n] w1 fun e w' => e = .returned (.int .i64 c) ∧ w1 = w') := hide fun w1 hb => by rw [hc]; exact major_any n w1 hn
  have C2 : Hid (∀ (w1 : World), Below w.heap.size w w1 → Calls Try.prog 11 #[.int .i64 n] w1 fun e w' => e = .returned (.int .i64 c) ∧ w1 = w') := hide fun w1 hb => by rw [hc]; exact rmajor_any n w1 hn
  have C3 : Hid (∀ (w1 : World), Below w.heap.size w w1 → Calls Try.prog 12 #[.slice A zs.length cap, .int .i64 n] w1 fun e w' => e = .returned (.bool m) ∧ Below w.heap.size w w') := hide fun w1 hb => by rw [hm']; exact most_at A cap _ zs n w1 rfl hR hb hz hm hn
  have C4 : Hid (∀ (w1 : World), Below w.heap.size w w1 → Calls Try.prog 13 #[.slice A zs.length cap, .int .i64 n] w1 fun e w' => e = .returned (.bool m) ∧ Below w.heap.size w w') := hide fun w1 hb => by rw [hm']; exact rmost_at A cap _ zs n w1 rfl hR hb hm hn
  clear hc hm' hR hz
  by_cases hl : 300 < zs.length
  · go_enter Try.func3, Try.ntmps3
    go_wp2_with fail
    refine (awake_any _).mono ?_
    rintro e w1 ⟨rfl, hb1⟩
    go_wp2
    go_ret
    exact ⟨rfl, hb1⟩
  · go_enter Try.func3, Try.ntmps3
    go_wp2_with fail
    refine (awake_any _).mono ?_
    rintro e w1 ⟨rfl, hb1⟩
    go_wp2_with fail
    refine (C1.out _ hb1).mono ?_
    rintro e w2 ⟨rfl, rfl⟩
    go_wp2_with fail
    refine (C2.out _ hb1).mono ?_
    rintro e w2 ⟨rfl, rfl⟩
    go_wp2_with fail
    refine (C3.out _ hb1).mono ?_
    rintro e w3 ⟨rfl, hb3⟩
    go_wp2_with fail
    refine (C4.out _ hb3).mono ?_
    rintro e w4 ⟨rfl, hb4⟩
    go_wp2
    go_ret
    exact ⟨by simp, hb4⟩

set_option maxRecDepth 100000 in
theorem ballotMost_lifted (os : Os) (started : os.Started) (H : Type) (enc : TypeId × Value → H) :
    ReturnsInHanded {} Try.checked os 3 .any (Rows.ballotMostSpec.pre6 enc Try.prog Try.f3 Rows.ballotMostRow.domain false) (Rows.ballotMostSpec.post enc Try.prog Try.f3 false true false false) := by
  refine returnsInHanded_of_change_sized (C := Try.checked) (by kernel_rfl) started (by kernel_rfl) Try.func3
    (ChangeSpec.witness6 (enc := enc) (C := Try.checked) false ⟨#[], #[.slice none 0 0, .int .i64 0], []⟩ 8 (by kernel_rfl) (by kernel_rfl) (by kernel_rfl) (by kernel_rfl)) ?_
  intro W base args ds gs before hval0 hW _ hsz0 _
  have hval : ∀ (j : Nat) t v, Try.f3.params[j]? = some t → args[j]? = some v → Value.okWide Try.prog W .any base t v := hval0
  have hW' := hW
  obtain ⟨p, q, hA0, hV, rfl, _, _⟩ := hW
  have hA : DataW.TrodAll enc Try.prog W 0 (fun _ => true) true Try.f3.params.toList args.toList ds p := hA0
  have hsz : (DataW.weightsEach Try.prog (Try.f3.params.toList ++ Rows.ballotMostSpec.plain.varTypes Try.prog) (ds ++ gs)).all (· ≤ reachBytes) = true := hsz0
  rw [Try.params3] at hA hval hsz
  obtain ⟨v0, v1, d0, d1, p0, p1, rfl, rfl, rfl, h0, h1⟩ := trodAll_two hA
  obtain ⟨A0, cap0, z0, rfl, hcap0, hm0, hR0, hwf0, hn0⟩ := open_nums Try.underlying22 Try.underlying3 (by kernel_rfl) (hval 0 22 v0 rfl rfl) h0
  have hreach0 := reach_nums (m := 8) hsz (j := 0) (t := 22) rfl rfl Try.underlying22 hn0 (by kernel_rfl)
  have bd0 := fun z hz => bounds_i64 (hwf0 z hz)
  obtain ⟨x1, rfl, rfl, rfl, wf1⟩ := open_int Try.underlying3 (hval 1 3 v1 rfl rfl) h1
  have bd1 := bounds_i64 wf1
  refine (ballotMost_walk _ _ _ _ _ hR0 hwf0 (by have := hm0; have := hcap0; have := hn0; omega) (by have := bd1; omega)).mono fun e W' ⟨he, hb⟩ => ?_
  subst he
  exact ⟨_, rfl, post_law (by kernel_rfl) (by kernel_rfl) rfl hW' (by rintro _ rfl; rfl) rfl Try.underlying4 hb⟩

theorem ballotMost_holds : Rows.BallotMostSaid :=
  OpenClaim.holds_of_wide 3 Try.f3 rfl rfl rfl rfl rfl rfl rfl ⟨rfl, rfl, rfl, rfl, rfl⟩ rfl rfl rfl rfl rfl (by kernel_rfl) Try.func3 (by kernel_rfl)
    (of_decide_eq_true (by kernel_rfl)) (by unfold Func.isWrapper; first | (rw [if_pos (by decide +kernel)]; kernel_rfl) | (rw [if_neg (by decide +kernel)]; exact ⟨rfl, rfl⟩))
    (fun os started H enc _ => ballotMost_lifted os started H enc)
end Go.Proofs.Ytodlabpgjgbbpab
