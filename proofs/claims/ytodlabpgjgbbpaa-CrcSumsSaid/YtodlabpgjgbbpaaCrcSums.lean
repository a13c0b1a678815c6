/-
  CrcSums: any bytes' sum, and behind any sum, is the reference's. No conditions.
-/
import Derived.Test.YtodlabpgjgbbpaaCrcAwake
import Derived.Test.YtodlabpgjgbbpaaCrcRefWalks
import Derived.Test.YtodlabpgjgbbpaaLaw
import Derived.Test.YtodlabpgjgbbpaaRows
namespace Go.Proofs.Ytodlabpgjgbbpaa
open Go.RowKit Go.Agio Go.ChangeShapes Go.WideShapes Go.ChangeAt

theorem Try.own : ownKnob Try.prog.godebug = none := by kernel_rfl
theorem Try.laidOut : laidOutB Try.prog = true := by kernel_rfl

set_option maxHeartbeats 400000 in
theorem crcSums_walk (s : BitVec 32) (A : Option Addr) (cap : Nat) (zs : List Int) (w : World) (hR : Reads w A (zs.map (Value.int .u8))) (hz : ∀ z ∈ zs, 0 ≤ z ∧ z < 256) (hm : zs.length ≤ 9223372036854775807) :
    Calls Try.prog 3 #[.int .u32 (Crc.nm s), .slice A zs.length cap] w fun e w' => e = .returned (.bool true) ∧ Below w.heap.size w w' := by
  have hR := hide hR
  have hz := hide hz
  go_enter Try.func3, Try.ntmps3
  go_wp2_with fail
  refine (awake_any _).mono ?_
  rintro e w1 ⟨rfl, hb1⟩
  go_wp2_with fail
  refine (sum_any _ _ zs _ (hR.out.below hb1) hz.out hm).mono ?_
  rintro e w2 ⟨rfl, hb2⟩
  have hb2 := below_next hb1 hb2
  go_wp2_with fail
  refine (rsum_any _ _ zs _ (hR.out.below hb2) hz.out hm).mono ?_
  rintro e w3 ⟨rfl, rfl⟩
  go_wp2_with fail
  refine (more_any _ _ _ zs _ (hR.out.below hb2) hz.out hm).mono ?_
  rintro e w3 ⟨rfl, hb3⟩
  have hb3 := below_next hb2 hb3
  go_wp2_with fail
  refine (rmore_any _ _ _ zs _ (hR.out.below hb3) hz.out hm).mono ?_
  rintro e w4 ⟨rfl, rfl⟩
  go_wp2_with fail
  go_ret
  exact ⟨rfl, hb3⟩

set_option maxRecDepth 100000 in
theorem crcSums_lifted (os : Os) (started : os.Started) (H : Type) (enc : TypeId × Value → H) :
    ReturnsInHanded {} Try.checked os 3 .any (Rows.crcSumsSpec.pre6 enc Try.prog Try.f3 Rows.crcSumsRow.domain false) (Rows.crcSumsSpec.post enc Try.prog Try.f3 false true false false) := by
  refine returnsInHanded_of_change_sized (C := Try.checked) Try.own started (by kernel_rfl) Try.func3
    (ChangeSpec.witness6 (enc := enc) (C := Try.checked) false ⟨#[], #[.int .u32 0, .slice none 0 0], []⟩ 8 (by kernel_rfl) (by kernel_rfl) (by kernel_rfl) (by kernel_rfl)) ?_
  intro W base args ds gs before hval0 hW _ hsz0 _
  have hval : ∀ (j : Nat) t v, Try.f3.params[j]? = some t → args[j]? = some v → Value.okWide Try.prog W .any base t v := hval0
  have hW' := hW
  obtain ⟨p, q, hA0, hV, rfl, _, _⟩ := hW
  have hA : DataW.TrodAll enc Try.prog W 0 (fun _ => true) true Try.f3.params.toList args.toList ds p := hA0
  rw [Try.params3] at hA hval
  obtain ⟨v0, v1, d0, d1, p0, p1, rfl, rfl, rfl, h0, h1⟩ := trodAll_two hA
  obtain ⟨x0, rfl, rfl, rfl, wf0⟩ := open_int Try.underlying22 (hval 0 22 v0 rfl rfl) h0
  obtain ⟨A1, cap1, z1, rfl, _, hm1, hR1, hwf1, hn1⟩ := open_nums Try.underlying23 Try.underlying5 (by kernel_rfl) (hval 1 23 v1 rfl rfl) h1
  have hx0 := bounds_u32 wf0
  have e0 := Crc.nm_bv hx0.1 (by omega)
  rw [← e0] at hW' ⊢
  refine (crcSums_walk _ _ _ _ _ hR1 (fun z hz => by have := bounds_u8 (hwf1 z hz); omega) (by unfold maxLen at hm1; omega)).mono fun e W' ⟨he, hb⟩ => ?_
  subst he
  exact ⟨_, rfl, post_law Try.laidOut (by kernel_rfl) rfl hW' (by rintro _ rfl; rfl) rfl Try.underlying4 hb⟩

theorem crcSums_holds : Rows.CrcSumsSaid :=
  OpenClaim.holds_of_wide 3 Try.f3 rfl rfl rfl rfl rfl rfl rfl ⟨rfl, rfl, rfl, rfl, rfl⟩ rfl rfl rfl rfl rfl (by kernel_rfl) Try.func3 (by kernel_rfl)
    (of_decide_eq_true (by kernel_rfl)) (by unfold Func.isWrapper; first | (rw [if_pos (by decide +kernel)]; kernel_rfl) | (rw [if_neg (by decide +kernel)]; exact ⟨rfl, rfl⟩))
    (fun os started H enc _ => crcSums_lifted os started H enc)

end Go.Proofs.Ytodlabpgjgbbpaa
