/-
  ProposerChooses: which value any promises leave, of any number of sites. No conditions.
-/
import Derived.Test.YtodlabpgjgbbpahPropArgs
import Derived.Test.YtodlabpgjgbbpahRows
namespace Go.Proofs.Ytodlabpgjgbbpah
open Go.RowKit Go.Agio Go.Prp Go.ChangeShapes Go.WideShapes Go.ChangeAt

set_option maxRecDepth 100000 in
set_option maxHeartbeats 4000000 in
theorem proposerChooses_walk (A : Option Addr) (c : Nat) (X : List PAt) (n : Int) (w : World) (hR : PsRd w A X) (hX : fineP X) (hn : n ≤ 9223372036854775807) :
    Calls Try.prog 3 #[.slice A X.length c, .int .i64 n] w fun e w' => e = .returned (.bool true) ∧ Below w.heap.size w w' := by
  have HR := hide hR; have HX := hide hX
  clear hR hX
  go_enter Try.func3, Try.ntmps3
  go_wp2_with fail
  refine (awake_any _).mono ?_
  rintro e w1 ⟨rfl, hb1⟩
  have HB1 := hide hb1
  clear hb1
  by_cases hlen : 200 < X.length
  · have h1 : (200 : Int) < (X.length : Int) := by omega
    go_wp2
    go_ret
    exact ⟨rfl, HB1.out⟩
  · have h1 : ¬ (200 : Int) < (X.length : Int) := by omega
    have h2 : (X.length : Int) ≤ 200 := by omega
    obtain ⟨b, hb⟩ : ∃ b, b = may_ n (pms X) := ⟨_, rfl⟩
    obtain ⟨v, hv⟩ : ∃ v, v = chosen n (pms X) := ⟨_, rfl⟩
    have C1 := hide (fun (W : World) (hW : Below w.heap.size w W) => (choose_any A c X n W (HR.out.below hW) HX.out (by omega) hn).mono (fun e w' h => (show ∃ V cv, e = .returned (.tuple #[.slice V v.length cv, .bool b]) ∧ Reads w' V (bys v) ∧ Below W.heap.size W w' from by rw [hb, hv]; exact h)))
    have C2 := hide (fun (B : Option Addr) (q : Nat) (W : World) (hW : PsRd W B X) => (rchoose_any B q X n W hW (by omega) hn).mono (fun e w' h => (show ∃ V cv, e = .returned (.tuple #[.slice V v.length cv, .bool b]) ∧ Reads w' V (bys v) ∧ Below W.heap.size W w' from by rw [hb, hv]; exact h)))
    clear hb hv
    go_wp2_with fail
    refine (C1.out w1 HB1.out).mono ?_
    rintro e w2 ⟨V1, c1, rfl, r1, hb2⟩
    have R1 := hide r1
    have HB2 := hide (below_next HB1.out hb2)
    clear r1 hb2
    go_wp2_with fail
    refine (real_any A c X w2 (HR.out.below HB2.out) (by omega)).mono ?_
    rintro e w3 ⟨B, q, rfl, hR3, hb3⟩
    have HR3 := hide hR3
    clear hR3
    go_wp2_with fail
    refine (C2.out B q w3 HR3.out).mono ?_
    rintro e w4 ⟨V2, c2, rfl, r2, hb4⟩
    have s1 := str_reads w4 V1 v.length c1 v ((R1.out.below hb3).below hb4) rfl
    have s2 := str_reads w4 V2 v.length c2 v r2 rfl
    have HB4 := hide (below_next (below_next HB2.out hb3) hb4)
    have e1 : ((strOfNums v).toList == (strOfNums v).toList) = true := by simp
    clear hb3 hb4 r2 C1 C2
    go_wp2
    go_ret
    exact ⟨rfl, HB4.out⟩

set_option maxRecDepth 100000 in
theorem proposerChooses_lifted (os : Os) (started : os.Started) (H : Type) (enc : TypeId × Value → H) :
    ReturnsInHanded {} Try.checked os 3 .any (Rows.proposerChoosesSpec.pre6 enc Try.prog Try.f3 Rows.proposerChoosesRow.domain false) (Rows.proposerChoosesSpec.post enc Try.prog Try.f3 false true false false) := by
  refine returnsInHanded_of_change_sized (C := Try.checked) (by kernel_rfl) started (by kernel_rfl) Try.func3
    (ChangeSpec.witness6 (enc := enc) (C := Try.checked) false ⟨#[], #[.slice none 0 0, .int .i64 0], []⟩ 8 (by kernel_rfl) (by kernel_rfl) (by kernel_rfl) (by kernel_rfl)) ?_
  intro W base args ds gs before hval0 hW _ hsz0 _
  have hval : ∀ (j : Nat) t v, Try.f3.params[j]? = some t → args[j]? = some v → Value.okWide Try.prog W .any base t v := hval0
  have hW' := hW
  obtain ⟨p, q, hA0, hV, rfl, _, _⟩ := hW
  have hA : DataW.TrodAll enc Try.prog W 0 (fun _ => true) true Try.f3.params.toList args.toList ds p := hA0
  have hsz : (DataW.weightsEach Try.prog (Try.f3.params.toList ++ Rows.proposerChoosesSpec.plain.varTypes Try.prog) (ds ++ gs)).all (· ≤ reachBytes) = true := hsz0
  rw [Try.params3] at hA hval hsz
  obtain ⟨v0, v1, d0, d1, p0, p1, rfl, rfl, rfl, h0, h1⟩ := trodAll_two hA
  obtain ⟨x1, rfl, rfl, rfl, wf1⟩ := open_int Try.underlying3 (hval 1 3 v1 rfl rfl) h1
  have bd1 := bounds_i64 wf1
  obtain ⟨A0, cap0, n0, V, fuel, D, rfl, _, _, hR0, hel, hn0⟩ := open_rows Try.underlying22 (C := 5) (by kernel_rfl) (by omega) (hval 0 22 v0 rfl rfl) h0
  have hS0 : Sized Try.prog 22 d0 := sized_arg hsz (j := 0) rfl rfl
  have hSE : ∀ i, i < n0 → Sized Try.prog 34 (D i) := fun i hi => by rcases hn0 with h | ⟨el, sp, h1, _, h3⟩; omega; rw [h1] at hS0; exact hS0.elem Try.underlying22 (h3 i hi)
  obtain ⟨X, rfl, hX1, hX2⟩ := rows_promises hR0 (fun i hi => promise_cells (hel i hi).1 (hel i hi).2.choose_spec (hSE i hi))
  refine (proposerChooses_walk A0 cap0 X x1 W hX1 (fineP_of hX2) bd1.2).mono fun e W' ⟨he, hb⟩ => ?_
  subst he
  exact ⟨_, rfl, post_law (by kernel_rfl) (by kernel_rfl) rfl hW' (by rintro _ rfl; rfl) rfl Try.underlying4 hb⟩

theorem proposerChooses_holds : Rows.ProposerChoosesSaid :=
  OpenClaim.holds_of_wide 3 Try.f3 rfl rfl rfl rfl rfl rfl rfl ⟨rfl, rfl, rfl, rfl, rfl⟩ rfl rfl rfl rfl rfl (by kernel_rfl) Try.func3 (by kernel_rfl)
    (of_decide_eq_true (by kernel_rfl)) (by unfold Func.isWrapper; first | (rw [if_pos (by decide +kernel)]; kernel_rfl) | (rw [if_neg (by decide +kernel)]; exact ⟨rfl, rfl⟩))
    (fun os started H enc _ => proposerChooses_lifted os started H enc)

end Go.Proofs.Ytodlabpgjgbbpah
