/-
  FrameTakes, where what it reads is small: the first frame of any bytes, what is behind it, or the error; and all that are scanned.
-/
import Derived.Test.YtodlabpgjgbbpafFrmRtake
import Derived.Test.YtodlabpgjgbbpafFrmAgain
namespace Go.Proofs.Ytodlabpgjgbbpaf
open Go.RowKit Go.Agio Go.ChangeShapes Go.WideShapes Go.ChangeAt

set_option maxRecDepth 100000 in
set_option maxHeartbeats 8000000 in
theorem frameTakes_walk (A : Option Addr) (c : Nat) (xs : List Int) (w : World) (hR : Reads w A (bys xs)) (hx : Frm.ok xs) (hl : xs.length ≤ 46912496000000) (hc : xs.length ≤ c) :
    Calls Try.prog 7 #[.slice A xs.length c] w fun e w' => e = .returned (.bool true) ∧ Below w.heap.size w w' := by
  have hag := Frm.scan_again xs.length xs (Nat.le_refl _) hx
  obtain ⟨l, n, hln⟩ : ∃ l n, Frm.scan xs = (l, n) := ⟨_, _, rfl⟩
  rw [hln] at hag
  obtain ⟨g1, g2, g3⟩ := hag
  simp only at g1 g2 g3
  have HLN := hide hln; have G3 := hide (fun y hy => (g3 y hy).2)
  have HPL : (Frm.puts l).length = n := by rw [g2, List.length_take]; omega
  have hll : l.length ≤ 46912496000000 := by
    have h : ∀ (l : List (List Int)), l.length ≤ (Frm.puts l).length := fun l => by
      induction l with
      | nil => simp
      | cons y l ih => simp only [Frm.puts, List.length_append, List.length_cons, Frm.put_length]; omega
    have := h l
    omega
  clear hln g1 g2 g3 HPL
  have HR := hide hR; have HX := hide hx
  clear hR hx
  have CSC := hide (fun (W : World) (hb : Below w.heap.size w W) => scan_is (xs := xs) HLN.out rfl W (HR.out.below hb) HX.out hl hc)
  have CRS := hide (fun (W : World) (hb : Below w.heap.size w W) => by
    have h := rscan_any A c xs W (HR.out.below hb) HX.out hl hc
    unfold RScan at h
    rw [HLN.out] at h
    exact h)
  have CSA := hide (fun (L1 L2 : Option Addr) (d1 d2 : Nat) (W : World) (h1 : RowsRd W L1 l) (h2 : RowsRd W L2 l) => same_is (c := d1) (d := d2) (xs := l) (ys := l) rfl rfl rfl W h1 h2 G3.out (by omega))
  by_cases hcd : Frm.code xs = 0
  · obtain ⟨q1, q2, q3, q4⟩ := Frm.code_zero HX.out hcd
    have CT := hide (fun (W : World) (hb : Below w.heap.size w W) => take_good A c xs W (HR.out.below hb) HX.out (by omega) (by unfold Frm.rest; rw [List.length_drop]; omega) hc hcd)
    have CR := hide (fun (W : World) (hb : Below w.heap.size w W) => rtake_any A c xs W (HR.out.below hb) HX.out (by omega) hc)
    have HCD := hide hcd
    clear q1 q2 q3 q4 hcd HLN G3
    go_enter Try.func7, Try.ntmps7
    go_wp2_with fail
    refine (awake_any _).mono ?_
    rintro e w1 ⟨rfl, hb1⟩
    go_wp2_with fail
    refine (CT.out _ hb1).mono ?_
    rintro e w2 ⟨A1, c1, A2, c2, rfl, r1, r2, hb2⟩
    have HB2 := hide (hb1.trans (hb2.mono hb1.size))
    have R1 := hide r1; have R2 := hide r2
    clear hb1 hb2 r1 r2
    go_wp2_with fail
    refine (CR.out _ HB2.out).mono ?_
    rintro e w3 ⟨hb3, hr⟩
    rcases hr with ⟨hne, _⟩ | ⟨_, A3, c3, A4, c4, rfl, hrr⟩
    · exact absurd HCD.out hne
    have HB3 := hide (HB2.out.trans (hb3.mono HB2.out.size))
    have HRR := hide hrr
    replace R1 := hide (R1.out.below hb3); replace R2 := hide (R2.out.below hb3)
    clear hb3 hrr HB2 HCD CT CR
    go_wp2_with fail
    refine (CSC.out _ HB3.out).mono ?_
    rintro e w4 ⟨L4, d4, rfl, hr4, _, hb4⟩
    have HB4 := hide (HB3.out.trans (hb4.mono HB3.out.size))
    replace R1 := hide (R1.out.below hb4); replace R2 := hide (R2.out.below hb4)
    have HR4 := hide hr4
    clear hb4 hr4 HB3
    go_wp2_with fail
    refine (CRS.out _ HB4.out).mono ?_
    rintro e w5 ⟨L5, d5, rfl, hr5, hb5⟩
    have HB5 := hide (HB4.out.trans (hb5.mono HB4.out.size))
    have HR5 := hide hr5
    replace HR4 := hide (HR4.out.below hb5)
    have s1 := str_reads w5 A1 _ c1 _ (R1.out.below hb5) rfl
    have s2 := str_reads w5 A2 _ c2 _ (R2.out.below hb5) rfl
    have s3 := str_reads w5 A3 _ c3 _ (HRR.out w5 (HR.out.below HB5.out)).1 rfl
    have s4 := str_reads w5 A4 _ c4 _ (HRR.out w5 (HR.out.below HB5.out)).2 rfl
    clear hb5 hr5 HB4 R1 R2 HRR
    generalize Frm.body xs = u at *
    generalize Frm.rest xs = v at *
    have e1 : ((strOfNums u).toList == (strOfNums u).toList) = true := by simp
    have e2 : ((strOfNums v).toList == (strOfNums v).toList) = true := by simp
    go_wp2_with fail
    refine (CSA.out _ _ _ _ _ HR4.out HR5.out).mono ?_
    rintro e w6 ⟨rfl, hb6⟩
    have F := hide (HB5.out.trans (hb6.mono HB5.out.size))
    clear hb6 s1 s2 s3 s4
    go_wp2
    go_ret
    exact ⟨rfl, F.out⟩
  · have CT := hide (fun (W : World) (hb : Below w.heap.size w W) => take_bad A c xs W (HR.out.below hb) HX.out (by omega) hc hcd)
    have CR := hide (fun (W : World) (hb : Below w.heap.size w W) => rtake_any A c xs W (HR.out.below hb) HX.out (by omega) hc)
    have HCD := hide hcd
    clear hcd HLN G3
    go_enter Try.func7, Try.ntmps7
    go_wp2_with fail
    refine (awake_any _).mono ?_
    rintro e w1 ⟨rfl, hb1⟩
    go_wp2_with fail
    refine (CT.out _ hb1).mono ?_
    rintro e w2 ⟨rfl, hb2⟩
    have HB2 := hide (hb1.trans (hb2.mono hb1.size))
    clear hb1 hb2
    go_wp2_with fail
    refine (CR.out _ HB2.out).mono ?_
    rintro e w3 ⟨hb3, hr⟩
    rcases hr with ⟨_, rfl⟩ | ⟨h0, _⟩
    case inr => exact absurd h0 HCD.out
    have HB3 := hide (HB2.out.trans (hb3.mono HB2.out.size))
    clear hb3 HB2 HCD CT CR
    generalize Frm.code xs = cd at *
    go_wp2_with fail
    refine (CSC.out _ HB3.out).mono ?_
    rintro e w4 ⟨L4, d4, rfl, hr4, _, hb4⟩
    have HB4 := hide (HB3.out.trans (hb4.mono HB3.out.size))
    have HR4 := hide hr4
    clear hb4 hr4 HB3
    go_wp2_with fail
    refine (CRS.out _ HB4.out).mono ?_
    rintro e w5 ⟨L5, d5, rfl, hr5, hb5⟩
    have HB5 := hide (HB4.out.trans (hb5.mono HB4.out.size))
    have HR5 := hide hr5
    replace HR4 := hide (HR4.out.below hb5)
    have s1 := str_reads w5 none 0 0 [] (.nil _ _) rfl
    have e1 : ((strOfNums []).toList == (strOfNums []).toList) = true := by simp
    clear hb5 hr5 HB4
    go_wp2_with fail
    refine (CSA.out _ _ _ _ _ HR4.out HR5.out).mono ?_
    rintro e w6 ⟨rfl, hb6⟩
    have F := hide (HB5.out.trans (hb6.mono HB5.out.size))
    clear hb6 s1
    go_wp2
    go_ret
    exact ⟨rfl, F.out⟩

theorem frameTakes_uptocontract (H : Type) (enc : TypeId × Value → H) (W : World) (base : Nat) (args : Array Value) (ds gs : List (DataW H)) (before : List MemPlace)
    (hval0 : ∀ (j : Nat) t v, Try.f7.params[j]? = some t → args[j]? = some v → Value.okWide Try.prog W .any base t v)
    (hW : DataW.Whole enc Try.prog Try.f7.params.toList Rows.frameTakesSpec.vars false W args.toList ds gs before) (hk : Rows.uptoSmall H (ds ++ gs) = true) :
    Calls Try.prog 7 args W fun e W' => ∃ v, e = .returned v ∧ Rows.frameTakesSpec.post enc Try.prog Try.f7 false true false false W args v W' := by
  have hval : ∀ (j : Nat) t v, Try.f7.params[j]? = some t → args[j]? = some v → Value.okWide Try.prog W .any base t v := hval0
  have hW' := hW
  obtain ⟨p, q, hA0, hV, rfl, _, _⟩ := hW
  have hA : DataW.TrodAll enc Try.prog W 0 (fun _ => true) true Try.f7.params.toList args.toList ds p := hA0
  obtain ⟨rfl, rfl⟩ := trodVars_none hV
  rw [Try.params7] at hA hval
  obtain ⟨v0, d0, rfl, rfl, h0⟩ := trodAll_one hA
  obtain ⟨A0, cap0, z0, rfl, hcap0, hm0, hR0, hwf0, hn0⟩ := open_nums Try.underlying22 Try.underlying5 (by kernel_rfl) (hval 0 22 v0 rfl rfl) h0
  have bd0 := fun z hz => bounds_u8 (hwf0 z hz)
  have hsm := small_nums hk hn0
  refine (frameTakes_walk _ _ _ _ hR0 bd0 (by omega) hcap0).mono fun e W' ⟨he, hb⟩ => ?_
  subst he
  exact ⟨_, rfl, post_law (by kernel_rfl) (by kernel_rfl) rfl hW' (by rintro _ rfl; rfl) rfl Try.underlying4 hb⟩

set_option maxRecDepth 100000 in
theorem frameTakes_uptolifted (os : Os) (started : os.Started) (H : Type) (enc : TypeId × Value → H) (F : Stop.Interp) :
    ReturnsInHanded {} Try.checked os 7 .any ((Rows.OpenSpec.upto Rows.frameTakesSpec).pre6 enc Try.prog Try.f7 Rows.frameTakesUptoRow.domain false) (((Rows.OpenSpec.upto Rows.frameTakesSpec).at F).post enc Try.prog Try.f7 false true false false) := by
  refine returnsInHanded_of_cond (C := Try.checked) (s := Rows.OpenSpec.upto Rows.frameTakesSpec) (k := Rows.uptoSmall) rfl (by kernel_rfl) started (by kernel_rfl) Try.func7
    (OpenSpec.witness (enc := enc) (C := Try.checked) (s := Rows.OpenSpec.upto Rows.frameTakesSpec) (k := Rows.uptoSmall) rfl false ⟨#[], #[.slice none 0 0], []⟩ 8 (by kernel_rfl) (by kernel_rfl) (by kernel_rfl)
      (x := ([.nil], [], [])) (by kernel_rfl) rfl (by kernel_rfl)) ?_
  intro W base args ds gs before hval hW _ hk _
  exact frameTakes_uptocontract H enc W base args ds gs before hval hW hk

theorem frameTakes_upto : Rows.FrameTakesUptoSaid :=
  OpenClaim.holds_of_cond 7 Try.f7 rfl rfl rfl rfl rfl rfl rfl ⟨rfl, rfl, rfl, rfl, rfl⟩ rfl rfl rfl rfl rfl (by kernel_rfl) Try.func7 (by kernel_rfl)
    (of_decide_eq_true (by kernel_rfl)) (by unfold Func.isWrapper; first | (rw [if_pos (by decide +kernel)]; kernel_rfl) | (rw [if_neg (by decide +kernel)]; exact ⟨rfl, rfl⟩))
    (fun os started H enc _ F => frameTakes_uptolifted os started H enc F)

end Go.Proofs.Ytodlabpgjgbbpaf
