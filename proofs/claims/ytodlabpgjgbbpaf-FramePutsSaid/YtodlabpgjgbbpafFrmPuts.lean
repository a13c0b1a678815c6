/-
  FramePuts: any bytes in a frame, or that they are too many. No conditions.
-/
import Derived.Test.YtodlabpgjgbbpafFrmAwake
import Derived.Test.YtodlabpgjgbbpafLaw
import Derived.Test.YtodlabpgjgbbpafRows
namespace Go.Proofs.Ytodlabpgjgbbpaf
open Go.RowKit Go.Agio Go.ChangeShapes Go.WideShapes Go.ChangeAt

set_option maxRecDepth 100000 in
set_option maxHeartbeats 4000000 in
theorem framePuts_walk (A : Option Addr) (cap : Nat) (xs : List Int) (w : World) (hR : Reads w A (bys xs)) (hx : Frm.ok xs) (hl : xs.length ≤ 140737488351232) :
    Calls Try.prog 3 #[.slice A xs.length cap] w fun e w' => e = .returned (.bool true) ∧ Below w.heap.size w w' := by
  by_cases hbig : 4096 < xs.length
  · have q := fun (W : World) => str_reads W none 0 0 [] (.nil _ _) rfl
    go_enter Try.func3, Try.ntmps3
    go_wp2_with fail
    refine (awake_any w).mono ?_
    rintro e w1 ⟨rfl, hb1⟩
    go_wp2_with fail
    refine (put_full A xs.length cap w1 hbig (by omega)).mono ?_
    rintro e w2 ⟨rfl, rfl⟩
    go_wp2_with fail
    refine (rput_full A xs.length cap w1 hbig (by omega)).mono ?_
    rintro e w2 ⟨rfl, rfl⟩
    go_wp2
    go_ret
    exact ⟨rfl, hb1⟩
  · have C1 := hide (fun (W : World) (hb : Below w.heap.size w W) => put_any A cap xs W (hR.below hb) hx (by omega))
    have C2 := hide (fun (W : World) (hb : Below w.heap.size w W) => rput_any A cap xs W (hR.below hb) hx (by omega))
    clear hR hx
    generalize hp : Frm.put xs = ys at *
    clear hp
    go_enter Try.func3, Try.ntmps3
    go_wp2_with fail
    refine (awake_any w).mono ?_
    rintro e w1 ⟨rfl, hb1⟩
    go_wp2_with fail
    refine (C1.out w1 hb1).mono ?_
    rintro e w2 ⟨A2, c2, rfl, O2, hb2⟩
    have HB2 := hide (below_next hb1 hb2)
    have R2 := hide (Reads.of_own O2)
    clear O2 hb2 hb1
    go_wp2_with fail
    refine (C2.out w2 HB2.out).mono ?_
    rintro e w3 ⟨A3, c3, rfl, O3, hb3⟩
    have HB3 := hide (below_next HB2.out hb3)
    have q2 := str_reads w3 A2 ys.length c2 ys (R2.out.below hb3) rfl
    have q3 := str_reads w3 A3 ys.length c3 ys (Reads.of_own O3) rfl
    clear O3 hb3
    go_wp2
    go_ret
    exact ⟨by simp, HB3.out⟩

set_option maxRecDepth 100000 in
theorem framePuts_lifted (os : Os) (started : os.Started) (H : Type) (enc : TypeId × Value → H) :
    ReturnsInHanded {} Try.checked os 3 .any (Rows.framePutsSpec.pre6 enc Try.prog Try.f3 Rows.framePutsRow.domain false) (Rows.framePutsSpec.post enc Try.prog Try.f3 false true false false) := by
  refine returnsInHanded_of_change_sized (C := Try.checked) (by kernel_rfl) started (by kernel_rfl) Try.func3
    (ChangeSpec.witness6 (enc := enc) (C := Try.checked) false ⟨#[], #[.slice none 0 0], []⟩ 8 (by kernel_rfl) (by kernel_rfl) (by kernel_rfl) (by kernel_rfl)) ?_
  intro W base args ds gs before hval0 hW _ hsz0 _
  have hval : ∀ (j : Nat) t v, Try.f3.params[j]? = some t → args[j]? = some v → Value.okWide Try.prog W .any base t v := hval0
  have hW' := hW
  obtain ⟨p, q, hA0, hV, rfl, _, _⟩ := hW
  have hA : DataW.TrodAll enc Try.prog W 0 (fun _ => true) true Try.f3.params.toList args.toList ds p := hA0
  have hsz : (DataW.weightsEach Try.prog (Try.f3.params.toList ++ Rows.framePutsSpec.plain.varTypes Try.prog) (ds ++ gs)).all (· ≤ reachBytes) = true := hsz0
  rw [Try.params3] at hA hval hsz
  obtain ⟨v0, d0, rfl, rfl, h0⟩ := trodAll_one hA
  obtain ⟨A0, cap0, z0, rfl, hcap0, hm0, hR0, hwf0, hn0⟩ := open_nums Try.underlying22 Try.underlying5 (by kernel_rfl) (hval 0 22 v0 rfl rfl) h0
  have hreach0 := reach_nums (m := 1) hsz (j := 0) (t := 22) rfl rfl Try.underlying22 hn0 (by kernel_rfl)
  have bd0 := fun z hz => bounds_u8 (hwf0 z hz)
  refine (framePuts_walk _ _ _ _ hR0 (fun z hz => by have := bd0 z hz; omega) (by have := hreach0; omega)).mono fun e W' ⟨he, hb⟩ => ?_
  subst he
  exact ⟨_, rfl, post_law (by kernel_rfl) (by kernel_rfl) rfl hW' (by rintro _ rfl; rfl) rfl Try.underlying4 hb⟩

theorem framePuts_holds : Rows.FramePutsSaid :=
  OpenClaim.holds_of_wide 3 Try.f3 rfl rfl rfl rfl rfl rfl rfl ⟨rfl, rfl, rfl, rfl, rfl⟩ rfl rfl rfl rfl rfl (by kernel_rfl) Try.func3 (by kernel_rfl)
    (of_decide_eq_true (by kernel_rfl)) (by unfold Func.isWrapper; first | (rw [if_pos (by decide +kernel)]; kernel_rfl) | (rw [if_neg (by decide +kernel)]; exact ⟨rfl, rfl⟩))
    (fun os started H enc _ => framePuts_lifted os started H enc)

end Go.Proofs.Ytodlabpgjgbbpaf
