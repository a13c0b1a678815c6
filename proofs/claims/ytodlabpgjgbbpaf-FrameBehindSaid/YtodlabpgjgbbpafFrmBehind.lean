/-
  FrameBehind: what stands behind a frame is told as it stands there, and plays no part. No conditions.
-/
import Derived.Test.YtodlabpgjgbbpafFrmTake
import Derived.Test.YtodlabpgjgbbpafWide
import Derived.Test.YtodlabpgjgbbpafLaw
import Derived.Test.YtodlabpgjgbbpafRows
namespace Go.Proofs.Ytodlabpgjgbbpaf
open Go.RowKit Go.Agio Go.ChangeShapes Go.WideShapes Go.ChangeAt

set_option maxRecDepth 100000 in
set_option maxHeartbeats 4000000 in
theorem frameBehind_walk (A B : Option Addr) (cap capb : Nat) (xs ys : List Int) (w : World) (hR : Reads w A (bys xs)) (hS : Reads w B (bys ys)) (hx : Frm.ok xs) (hy : Frm.ok ys) (hl : xs.length ≤ 140737488351232) (hm : ys.length ≤ 140737488351232) :
    Calls Try.prog 8 #[.slice A xs.length cap, .slice B ys.length capb] w fun e w' => e = .returned (.bool true) ∧ Below w.heap.size w w' := by
  obtain ⟨i0, hi, hz0, hz1, hz2⟩ := info_parts info8
  by_cases hbig : 4096 < xs.length
  · go_enter Try.func8, Try.ntmps8
    go_wp2_with fail
    refine (awake_any w).mono ?_
    rintro e w1 ⟨rfl, hb1⟩
    go_wp2_with fail
    refine (put_full A xs.length cap w1 hbig (by omega)).mono ?_
    rintro e w2 ⟨rfl, rfl⟩
    go_wp2
    go_ret
    exact ⟨by simp; omega, hb1⟩
  · have C1 := hide (fun (W : World) (hb : Below w.heap.size w W) => put_any A cap xs W (hR.below hb) hx (by omega))
    have HS := hide hS
    have HR := hide hR
    have HPL := Frm.put_length xs
    have HCO := hide (Frm.put_code (b := xs) ys (by omega))
    have HBO := hide (Frm.put_body (b := xs) ys (by omega))
    have HRE := hide (Frm.put_rest (b := xs) ys (by omega))
    have HOK : Hid (Frm.ok (Frm.put xs ++ ys)) := hide (Frm.ok_append (Frm.put_ok hx) hy)
    clear hR hS hx hy
    obtain ⟨zs, hzs⟩ : ∃ zs, zs = Frm.put xs := ⟨_, rfl⟩
    rw [← hzs] at C1 HPL HCO HBO HRE HOK
    clear hzs
    have hpl1 : zs.length ≤ 4104 := by omega
    have hpl2 : 8 ≤ zs.length := by omega
    clear HPL
    go_enter Try.func8, Try.ntmps8
    go_wp2_with fail
    refine (awake_any w).mono ?_
    rintro e w1 ⟨rfl, hb1⟩
    go_wp2_with fail
    refine (C1.out w1 hb1).mono ?_
    rintro e w2 ⟨A2, c2, rfl, O2, hb2⟩
    have HB2 := hide (below_next hb1 hb2)
    have R2 := hide (Reads.of_own O2)
    clear O2 hb2 hb1
    go_wp2_with (at_builtin; apply halted)
    refine unhalt (wpList_append_reads rfl (.tmp 26) (.tmp 27) 22 rfl w2.heap.size 5 i0 (.int .u8 0) 1 Try.underlying22 hi hz0 hz1 hz2 rfl _ 0 [] rfl (own_new w2 _ _ [] 0 (Nat.le_refl _) rfl (by unfold maxLen; omega)) A2 zs.length c2 (bys zs) rfl (R2.out.alloc _) (by rw [List.length_map]) (ints_one _ _) (by unfold maxLen; omega) (by omega) (by simp) ?_)
    intro A3 c3 w3 n3 g3 t3
    rw [Nat.zero_add, List.nil_append] at n3
    rw [Nat.zero_add]
    have N3 := hide n3
    have HB3 := hide (((Below.refl w2.heap.size w2).alloc (Nat.le_refl _) _).grown g3 (by simp) (fun g hg => by cases hg; exact Nat.le_refl _))
    clear n3 g3 t3
    go_wp2_with (at_builtin; apply halted)
    refine unhalt (wpList_append_wide rfl (.tmp 28) (.tmp 29) 22 rfl w2.heap.size 5 i0 (.int .u8 0) 1 Try.underlying22 hi hz0 hz1 hz2 rfl _ zs.length (bys zs) rfl N3.out B ys.length capb (bys ys) rfl (HS.out.below (below_next HB2.out HB3.out)) (by rw [List.length_map]) (ints_one _ _) (by unfold maxLen; omega) (by omega) (by omega) HB3.out.size ?_)
    intro A4 c4 w4 n4 g4
    have hap : bys zs ++ bys ys = bys (zs ++ ys) := by simp
    rw [hap] at n4
    have hlen : (zs ++ ys).length = zs.length + ys.length := List.length_append
    have HC4 := own_cap' n4
    have R4 := Reads.of_own n4
    have HB4 := hide (below_next HB2.out (HB3.out.grown g4 HB3.out.size (fun g hg => (N3.out.lt g hg).1)))
    have CT := take_good A4 c4 (zs ++ ys) w4 R4 HOK.out (by rw [hlen]; omega) (by rw [HRE.out]; omega) (by rw [hlen]; exact HC4) HCO.out
    rw [hlen] at CT
    have CT := hide CT
    clear n4 g4 hap hlen R4
    go_wp2_with fail
    refine CT.out.mono ?_
    intro e w5 hf
    obtain ⟨A5, c5, A6, c6, rfl, r5, r6, hb5⟩ := hf
    rw [HBO.out] at r5 ⊢
    rw [HRE.out] at r6 ⊢
    have HB5 := hide (below_next HB4.out hb5)
    have q1 := str_reads w5 A5 xs.length c5 xs r5 rfl
    have q2 := str_reads w5 A6 ys.length c6 ys r6 rfl
    have q3 := str_reads w5 A xs.length cap xs (HR.out.below HB5.out) rfl
    have q4 := str_reads w5 B ys.length capb ys (HS.out.below HB5.out) rfl
    clear r5 r6 hb5 CT
    go_wp2
    go_ret
    exact ⟨by simp, HB5.out⟩

set_option maxRecDepth 100000 in
theorem frameBehind_lifted (os : Os) (started : os.Started) (H : Type) (enc : TypeId × Value → H) :
    ReturnsInHanded {} Try.checked os 8 .any (Rows.frameBehindSpec.pre6 enc Try.prog Try.f8 Rows.frameBehindRow.domain false) (Rows.frameBehindSpec.post enc Try.prog Try.f8 false true false false) := by
  refine returnsInHanded_of_change_sized (C := Try.checked) (by kernel_rfl) started (by kernel_rfl) Try.func8
    (ChangeSpec.witness6 (enc := enc) (C := Try.checked) false ⟨#[], #[.slice none 0 0, .slice none 0 0], []⟩ 8 (by kernel_rfl) (by kernel_rfl) (by kernel_rfl) (by kernel_rfl)) ?_
  intro W base args ds gs before hval0 hW _ hsz0 _
  have hval : ∀ (j : Nat) t v, Try.f8.params[j]? = some t → args[j]? = some v → Value.okWide Try.prog W .any base t v := hval0
  have hW' := hW
  obtain ⟨p, q, hA0, hV, rfl, _, _⟩ := hW
  have hA : DataW.TrodAll enc Try.prog W 0 (fun _ => true) true Try.f8.params.toList args.toList ds p := hA0
  have hsz : (DataW.weightsEach Try.prog (Try.f8.params.toList ++ Rows.frameBehindSpec.plain.varTypes Try.prog) (ds ++ gs)).all (· ≤ reachBytes) = true := hsz0
  rw [Try.params8] at hA hval hsz
  obtain ⟨v0, v1, d0, d1, p0, p1, rfl, rfl, rfl, h0, h1⟩ := trodAll_two hA
  obtain ⟨A0, cap0, z0, rfl, hcap0, hm0, hR0, hwf0, hn0⟩ := open_nums Try.underlying22 Try.underlying5 (by kernel_rfl) (hval 0 22 v0 rfl rfl) h0
  have hreach0 := reach_nums (m := 1) hsz (j := 0) (t := 22) rfl rfl Try.underlying22 hn0 (by kernel_rfl)
  have bd0 := fun z hz => bounds_u8 (hwf0 z hz)
  obtain ⟨A1, cap1, z1, rfl, hcap1, hm1, hR1, hwf1, hn1⟩ := open_nums Try.underlying22 Try.underlying5 (by kernel_rfl) (hval 1 22 v1 rfl rfl) h1
  have hreach1 := reach_nums (m := 1) hsz (j := 1) (t := 22) rfl rfl Try.underlying22 hn1 (by kernel_rfl)
  have bd1 := fun z hz => bounds_u8 (hwf1 z hz)
  refine (frameBehind_walk _ _ _ _ _ _ _ hR0 hR1 (fun z hz => by have := bd0 z hz; omega) (fun z hz => by have := bd1 z hz; omega) (by have := hreach0; omega) (by have := hreach1; omega)).mono fun e W' ⟨he, hb⟩ => ?_
  subst he
  exact ⟨_, rfl, post_law (by kernel_rfl) (by kernel_rfl) rfl hW' (by rintro _ rfl; rfl) rfl Try.underlying4 hb⟩

theorem frameBehind_holds : Rows.FrameBehindSaid :=
  OpenClaim.holds_of_wide 8 Try.f8 rfl rfl rfl rfl rfl rfl rfl ⟨rfl, rfl, rfl, rfl, rfl⟩ rfl rfl rfl rfl rfl (by kernel_rfl) Try.func8 (by kernel_rfl)
    (of_decide_eq_true (by kernel_rfl)) (by unfold Func.isWrapper; first | (rw [if_pos (by decide +kernel)]; kernel_rfl) | (rw [if_neg (by decide +kernel)]; exact ⟨rfl, rfl⟩))
    (fun os started H enc _ => frameBehind_lifted os started H enc)

end Go.Proofs.Ytodlabpgjgbbpaf
