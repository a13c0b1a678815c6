/-
  AcceptorSame: a state is the same as itself; with another promise, ballot, or value it is another one. No conditions.
-/
import Derived.Test.YtodlabpgjgbbpagAccAsks
import Derived.Test.YtodlabpgjgbbpagRows
namespace Go.Proofs.Ytodlabpgjgbbpag
open Go.RowKit Go.Agio Go.ChangeShapes Go.WideShapes Go.ChangeAt

theorem wrap_ne {z : Int} : wrap64 (z + 1) ≠ z := by unfold wrap64; omega

set_option maxRecDepth 100000 in
set_option maxHeartbeats 8000000 in
theorem acceptorSame_walk (pr ps : Int) (sm : Bool) (ar as_ : Int) (xs : List Int) (A : Option Addr) (c : Nat) (w : World) (hR : Reads w A (bys xs)) (hx : okb xs) (hm : xs.length ≤ 140737488351232) :
    Calls Try.prog 8 #[.agg (stc pr ps sm ar as_ (.slice A xs.length c))] w fun e w' => e = .returned (.bool true) ∧ Below w.heap.size w w' := by
  have HR := hide hR; have HX := hide hx
  clear hR hx
  obtain ⟨i0, hi, hz0, hz1, hz2⟩ := info_parts info8
  generalize hn : xs.length = n at *
  have HN := hide hn
  clear hn
  go_enter Try.func8, Try.ntmps8
  go_wp2_with fail
  have hN := one_new w (.cells (stc pr ps sm ar as_ (.slice A n c)) 28)
  generalize w.alloc (.cells (stc pr ps sm ar as_ (.slice A n c)) 28) = W0 at *
  obtain ⟨K1, hs, hb0⟩ := hN
  refine (awake_any W0).mono ?_
  rintro e w1 ⟨rfl, hb1⟩
  replace K1 := hide ((hb1.block _ (blk_lt K1)).trans K1)
  have HB1 := hide (below_next hb0 hb1)
  clear hb0 hb1 hs
  obtain ⟨x0, x1, x2, x3, x4, x5⟩ := six_at K1.out
  have hlt := blk_lt K1.out
  go_upto_region 7 with fail
  have hN := three_new w1 (.cells (stc (wrap64 (pr + 1)) ps sm ar as_ (.slice A n c)) 28) (.cells (stc pr ps sm ar (wrap64 (as_ + 1)) (.slice A n c)) 28) (.cells (stc pr ps sm ar as_ (.slice A n c)) 28)
  generalize ((w1.alloc (.cells (stc (wrap64 (pr + 1)) ps sm ar as_ (.slice A n c)) 28)).alloc (.cells (stc pr ps sm ar (wrap64 (as_ + 1)) (.slice A n c)) 28)).alloc (.cells (stc pr ps sm ar as_ (.slice A n c)) 28) = W3 at *
  obtain ⟨Ka, Kb, Kc, hs, hb3⟩ := hN
  have HS := hide hs
  replace K1 := hide ((hb3.block _ hlt).trans K1.out)
  have HB3 := hide (below_next HB1.out hb3)
  have hlt1 : w.heap.size ≤ w1.heap.size := by omega
  have R3 := hide (HR.out.below HB3.out)
  clear hs hb3 x0 x1 x2 x3 x4 x5
  obtain ⟨x0, x1, x2, x3, x4, x5⟩ := six_at K1.out
  have hlt3 : w.heap.size < W3.heap.size := blk_lt K1.out
  replace Ka := hide Ka; replace Kb := hide Kb; replace Kc := hide Kc
  go_wp2_with (at_builtin; apply halted)
  refine unhalt (wpList_append_reads rfl (.tmp 24) (.tmp 26) 26 rfl W3.heap.size 5 i0 (.int .u8 0) 1 Try.underlying26 hi hz0 hz1 hz2 rfl _ 0 [] rfl (own_new_at W3 _ _ [] 0 _ rfl (Nat.le_refl _) rfl (by unfold maxLen; omega)) A n c (bys xs) rfl (R3.out.alloc _) (by rw [List.length_map]; exact HN.out) (ints_one _ _) (by unfold maxLen; omega) (by omega) (by simp) ?_)
  intro A4 c4 w4 n4 g4 t4
  rw [Nat.zero_add] at n4
  rw [List.nil_append] at n4
  rw [Nat.zero_add]
  have hb4 := ((Below.refl W3.heap.size W3).alloc (Nat.le_refl _) (.cells #[] 5)).grown g4 (by simp) (fun g hg => by cases hg; exact Nat.le_refl _)
  have HB4 := hide hb4
  have N4 := hide n4
  clear n4 g4 t4 hb4 x0 x1 x2 x3 x4 x5
  go_wp2_with (at_builtin; apply halted)
  refine unhalt (wpList_append_reads rfl (.tmp 27) (.tmp 28) 26 rfl W3.heap.size 5 i0 (.int .u8 0) 1 Try.underlying26 hi hz0 hz1 hz2 rfl _ n (bys xs) rfl (N4.out.alloc _) _ 1 1 (bys [0]) rfl (Reads.new w4 _ _ _) rfl (ints_one _ _) (by unfold maxLen; omega) (by omega) (by have := HB4.out.size; simp; omega) ?_)
  intro A5 c5 w5 n5 g5 t5
  have hb5 := (HB4.out.alloc HB4.out.size (.cells (bys [0]).toArray 5)).grown g5 (by have := HB4.out.size; simp; omega) (fun g hg => (N4.out.lt g hg).1)
  have hsz5 := hb5.size
  have N5 := hide n5
  have L1 := blk_lt K1.out
  have La := blk_lt Ka.out
  have Lb := blk_lt Kb.out
  have Lc := blk_lt Kc.out
  replace K1 := hide ((hb5.block _ L1).trans K1.out)
  replace Ka := hide ((hb5.block _ La).trans Ka.out)
  replace Kb := hide ((hb5.block _ Lb).trans Kb.out)
  replace Kc := hide ((hb5.block _ Lc).trans Kc.out)
  have HB5 := hide (below_next HB3.out hb5)
  have P5 : Hid (∀ a, A5 = some a → W3.heap.size ≤ a.block) := hide (fun a ha => by subst ha; exact (N5.out.lt a.block rfl).1)
  have R5 := hide (R3.out.below hb5)
  clear n5 g5 t5 hb5 HB4 N4
  obtain ⟨x0, x1, x2, x3, x4, x5⟩ := six_at K1.out
  obtain ⟨y0, y1, y2, y3, y4, y5⟩ := six_at Kc.out
  obtain ⟨yf0, yf1, yf2, yf3, yf4, yf5⟩ := six_live Kc.out
  have m1 : ¬ w.heap.size = w1.heap.size + 1 + 1 := by omega
  have L5 : w.heap.size < w5.heap.size := blk_lt K1.out
  go_upto_region 10 with fail
  have RC : Hid (Reads (w5.setCell ⟨w1.heap.size + 1 + 1, 5, none⟩ (.slice A5 (n + 1) c5)) A5 (bys (xs ++ [0]))) := hide (by
    have := Reads.of_own N5.out
    rw [show bys xs ++ bys [0] = bys (xs ++ [0]) by simp] at this
    exact this.keepset _ _ _ (fun a ha => by have := P5.out a ha; have := HS.out; omega))
  have RS : Hid (Reads (w5.setCell ⟨w1.heap.size + 1 + 1, 5, none⟩ (.slice A5 (n + 1) c5)) A (bys xs)) := hide (Reads.below (w := w) HR.out (HB5.out.setCell (p := ⟨w1.heap.size + 1 + 1, 5, none⟩) (by simp only; omega) _))
  have HB6 := hide (HB5.out.setCell (p := ⟨w1.heap.size + 1 + 1, 5, none⟩) (by simp only; omega) (.slice A5 (n + 1) c5))
  replace K1 := hide (far K1.out (b := w1.heap.size + 1 + 1) (by omega) 5 (.slice A5 (n + 1) c5))
  replace Ka := hide (far Ka.out (b := w1.heap.size + 1 + 1) (by omega) 5 (.slice A5 (n + 1) c5))
  replace Kb := hide (far Kb.out (b := w1.heap.size + 1 + 1) (by omega) 5 (.slice A5 (n + 1) c5))
  replace Kc := hide (six_put5 Kc.out (.slice A5 (n + 1) c5))
  have Kd := hide (new_set w5 ⟨w1.heap.size + 1 + 1, 5, none⟩ (.slice A5 (n + 1) c5) (.cells (stc pr ps (!sm) ar as_ (.slice A n c)) 28))
  replace K1 := hide (blk_alloc K1.out (.cells (stc pr ps (!sm) ar as_ (.slice A n c)) 28))
  replace Ka := hide (blk_alloc Ka.out (.cells (stc pr ps (!sm) ar as_ (.slice A n c)) 28))
  replace Kb := hide (blk_alloc Kb.out (.cells (stc pr ps (!sm) ar as_ (.slice A n c)) 28))
  replace Kc := hide (blk_alloc Kc.out (.cells (stc pr ps (!sm) ar as_ (.slice A n c)) 28))
  replace RC := hide (RC.out.alloc (.cells (stc pr ps (!sm) ar as_ (.slice A n c)) 28))
  replace RS := hide (RS.out.alloc (.cells (stc pr ps (!sm) ar as_ (.slice A n c)) 28))
  replace HB6 := hide (HB6.out.alloc HB6.out.size (.cells (stc pr ps (!sm) ar as_ (.slice A n c)) 28))
  clear x0 x1 x2 x3 x4 x5 y0 y1 y2 y3 y4 y5 yf0 yf1 yf2 yf3 yf4 yf5
  generalize (w5.setCell ⟨w1.heap.size + 1 + 1, 5, none⟩ (.slice A5 (n + 1) c5)).alloc (.cells (stc pr ps (!sm) ar as_ (.slice A n c)) 28) = W8 at *
  have HX0 : Hid (okb (xs ++ [0])) := hide (fun z hz => by
    rcases List.mem_append.1 hz with h | h
    · exact HX.out z h
    · simp at h; omega)
  have HL0 : Hid ((xs ++ [0]).length = n + 1) := hide (by rw [List.length_append, HN.out]; rfl)
  have CS := hide (asame_any ⟨pr, ps, sm, ar, as_, xs⟩ ⟨pr, ps, sm, ar, as_, xs⟩ A A c c W8 RS.out RS.out HX.out HX.out)
  rw [show Acc.same ⟨pr, ps, sm, ar, as_, xs⟩ ⟨pr, ps, sm, ar, as_, xs⟩ = true from (Acc.same_self _)] at CS
  unfold stv at CS
  simp only [] at CS
  try rw [HN.out] at CS
  try rw [HL0.out] at CS
  obtain ⟨x0, x1, x2, x3, x4, x5⟩ := six_at K1.out
  obtain ⟨y0, y1, y2, y3, y4, y5⟩ := six_at K1.out
  go_wp2_with fail
  refine CS.out.mono ?_
  rintro e v0 ⟨rfl, hb⟩
  clear x0 x1 x2 x3 x4 x5 y0 y1 y2 y3 y4 y5 CS
  replace K1 := hide ((hb.block _ (blk_lt K1.out)).trans K1.out)
  replace Ka := hide ((hb.block _ (blk_lt Ka.out)).trans Ka.out)
  replace Kb := hide ((hb.block _ (blk_lt Kb.out)).trans Kb.out)
  replace Kc := hide ((hb.block _ (blk_lt Kc.out)).trans Kc.out)
  replace Kd := hide ((hb.block _ (blk_lt Kd.out)).trans Kd.out)
  replace RS := hide (RS.out.below hb)
  replace RC := hide (RC.out.below hb)
  replace HB6 := hide (below_next HB6.out hb)
  clear hb
  have CS := hide (asame_any ⟨pr, ps, sm, ar, as_, xs⟩ ⟨wrap64 (pr + 1), ps, sm, ar, as_, xs⟩ A A c c v0 RS.out RS.out HX.out HX.out)
  rw [show Acc.same ⟨pr, ps, sm, ar, as_, xs⟩ ⟨wrap64 (pr + 1), ps, sm, ar, as_, xs⟩ = false from (by simp [Acc.same, Ne.symm wrap_ne])] at CS
  unfold stv at CS
  simp only [] at CS
  try rw [HN.out] at CS
  try rw [HL0.out] at CS
  obtain ⟨x0, x1, x2, x3, x4, x5⟩ := six_at K1.out
  obtain ⟨y0, y1, y2, y3, y4, y5⟩ := six_at Ka.out
  go_wp2_with fail
  refine CS.out.mono ?_
  rintro e v1 ⟨rfl, hb⟩
  clear x0 x1 x2 x3 x4 x5 y0 y1 y2 y3 y4 y5 CS
  replace K1 := hide ((hb.block _ (blk_lt K1.out)).trans K1.out)
  replace Ka := hide ((hb.block _ (blk_lt Ka.out)).trans Ka.out)
  replace Kb := hide ((hb.block _ (blk_lt Kb.out)).trans Kb.out)
  replace Kc := hide ((hb.block _ (blk_lt Kc.out)).trans Kc.out)
  replace Kd := hide ((hb.block _ (blk_lt Kd.out)).trans Kd.out)
  replace RS := hide (RS.out.below hb)
  replace RC := hide (RC.out.below hb)
  replace HB6 := hide (below_next HB6.out hb)
  clear hb
  have CS := hide (asame_any ⟨pr, ps, sm, ar, wrap64 (as_ + 1), xs⟩ ⟨pr, ps, sm, ar, as_, xs⟩ A A c c v1 RS.out RS.out HX.out HX.out)
  rw [show Acc.same ⟨pr, ps, sm, ar, wrap64 (as_ + 1), xs⟩ ⟨pr, ps, sm, ar, as_, xs⟩ = false from (by simp [Acc.same, wrap_ne])] at CS
  unfold stv at CS
  simp only [] at CS
  try rw [HN.out] at CS
  try rw [HL0.out] at CS
  obtain ⟨x0, x1, x2, x3, x4, x5⟩ := six_at Kb.out
  obtain ⟨y0, y1, y2, y3, y4, y5⟩ := six_at K1.out
  go_wp2_with fail
  refine CS.out.mono ?_
  rintro e v2 ⟨rfl, hb⟩
  clear x0 x1 x2 x3 x4 x5 y0 y1 y2 y3 y4 y5 CS
  replace K1 := hide ((hb.block _ (blk_lt K1.out)).trans K1.out)
  replace Ka := hide ((hb.block _ (blk_lt Ka.out)).trans Ka.out)
  replace Kb := hide ((hb.block _ (blk_lt Kb.out)).trans Kb.out)
  replace Kc := hide ((hb.block _ (blk_lt Kc.out)).trans Kc.out)
  replace Kd := hide ((hb.block _ (blk_lt Kd.out)).trans Kd.out)
  replace RS := hide (RS.out.below hb)
  replace RC := hide (RC.out.below hb)
  replace HB6 := hide (below_next HB6.out hb)
  clear hb
  have CS := hide (asame_any ⟨pr, ps, sm, ar, as_, xs⟩ ⟨pr, ps, sm, ar, as_, xs ++ [0]⟩ A A5 c c5 v2 RS.out RC.out HX.out HX0.out)
  rw [show Acc.same ⟨pr, ps, sm, ar, as_, xs⟩ ⟨pr, ps, sm, ar, as_, xs ++ [0]⟩ = false from (by simp [Acc.same])] at CS
  unfold stv at CS
  simp only [] at CS
  try rw [HN.out] at CS
  try rw [HL0.out] at CS
  obtain ⟨x0, x1, x2, x3, x4, x5⟩ := six_at K1.out
  obtain ⟨y0, y1, y2, y3, y4, y5⟩ := six_at Kc.out
  go_wp2_with fail
  refine CS.out.mono ?_
  rintro e v3 ⟨rfl, hb⟩
  clear x0 x1 x2 x3 x4 x5 y0 y1 y2 y3 y4 y5 CS
  replace K1 := hide ((hb.block _ (blk_lt K1.out)).trans K1.out)
  replace Ka := hide ((hb.block _ (blk_lt Ka.out)).trans Ka.out)
  replace Kb := hide ((hb.block _ (blk_lt Kb.out)).trans Kb.out)
  replace Kc := hide ((hb.block _ (blk_lt Kc.out)).trans Kc.out)
  replace Kd := hide ((hb.block _ (blk_lt Kd.out)).trans Kd.out)
  replace RS := hide (RS.out.below hb)
  replace RC := hide (RC.out.below hb)
  replace HB6 := hide (below_next HB6.out hb)
  clear hb
  have CS := hide (asame_any ⟨pr, ps, sm, ar, as_, xs⟩ ⟨pr, ps, !sm, ar, as_, xs⟩ A A c c v3 RS.out RS.out HX.out HX.out)
  rw [show Acc.same ⟨pr, ps, sm, ar, as_, xs⟩ ⟨pr, ps, !sm, ar, as_, xs⟩ = false from (by cases sm <;> simp [Acc.same])] at CS
  unfold stv at CS
  simp only [] at CS
  try rw [HN.out] at CS
  try rw [HL0.out] at CS
  obtain ⟨x0, x1, x2, x3, x4, x5⟩ := six_at K1.out
  obtain ⟨y0, y1, y2, y3, y4, y5⟩ := six_at Kd.out
  go_wp2_with fail
  refine CS.out.mono ?_
  rintro e v4 ⟨rfl, hb⟩
  clear x0 x1 x2 x3 x4 x5 y0 y1 y2 y3 y4 y5 CS
  replace K1 := hide ((hb.block _ (blk_lt K1.out)).trans K1.out)
  replace Ka := hide ((hb.block _ (blk_lt Ka.out)).trans Ka.out)
  replace Kb := hide ((hb.block _ (blk_lt Kb.out)).trans Kb.out)
  replace Kc := hide ((hb.block _ (blk_lt Kc.out)).trans Kc.out)
  replace Kd := hide ((hb.block _ (blk_lt Kd.out)).trans Kd.out)
  replace RS := hide (RS.out.below hb)
  replace RC := hide (RC.out.below hb)
  replace HB6 := hide (below_next HB6.out hb)
  clear hb
  go_wp2
  go_ret
  exact ⟨rfl, HB6.out⟩

theorem state_cells {H : Type} {enc : TypeId × Value → H} {W : World} {fuel : Nat} {cs : List Value} {D : DataW H} {Pl : List MemPlace} (hl : cs.length = 6) (h : DataW.trod enc Try.prog W 0 (fun _ => true) true fuel 28 cs = some (D, Pl)) (hs : Sized Try.prog 28 D) :
    ∃ (s : Acc.St) (A : Option Addr) (c : Nat), cs = (stc s.pr s.ps s.some s.ar s.as_ (.slice A s.val.length c)).toList ∧ Reads W A (bys s.val) ∧ okb s.val ∧ s.val.length ≤ 140737488351232 := by
  obtain ⟨y0, y1, y2, y3, n, hx, _, h0, h1, h2, h3⟩ := Joins.trod_struct4 Try.underlying28 h
  match cs, hl with
  | [a, b, c, d, e, f], _ =>
    have c1 : Try.prog.cellsOf 24 = 2 := by kernel_rfl
    have c2 : Try.prog.cellsOf 4 = 1 := by kernel_rfl
    have c3 : Try.prog.cellsOf 26 = 1 := by kernel_rfl
    have c4 : Try.prog.cellsOf 3 = 1 := by kernel_rfl
    obtain ⟨u0, u1, m, _, _, g0, g1⟩ := trod_struct2 Try.underlying24 h0
    obtain ⟨v0, v1, m', _, _, k0, k1⟩ := trod_struct2 Try.underlying24 h2
    obtain ⟨x, e1, _, _⟩ := DataW.trod_int Try.underlying3 g0
    obtain ⟨y, e2, _, _⟩ := DataW.trod_int Try.underlying3 g1
    obtain ⟨p, e3, _⟩ := DataW.trod_bool Try.underlying4 h1
    obtain ⟨x', e4, _, _⟩ := DataW.trod_int Try.underlying3 k0
    obtain ⟨y', e5, _, _⟩ := DataW.trod_int Try.underlying3 k1
    obtain ⟨A, cap, zs, e6, hz, hm, hR, hwf, hl2⟩ := trod_nums Try.underlying26 Try.underlying5 (by kernel_rfl) h3
    simp [c1, c2, c3, c4] at e1 e2 e3 e4 e5 e6
    subst e1 e2 e3 e4 e5 e6
    simp only [Prod.mk.injEq] at hx
    rw [hx.1] at hs
    have hln := (hs.field Try.underlying28 (j := 3) rfl rfl).nums (m := 1) Try.underlying26 (by kernel_rfl) hl2
    exact ⟨⟨x, y, p, x', y', zs⟩, A, cap, rfl, hR, okb_wf hwf, by show zs.length ≤ _; omega⟩

theorem agg_list {cs : Array Value} {l : Array Value} (h : cs.toList = l.toList) : cs = l := by
  cases cs; cases l; simpa using h

set_option maxRecDepth 100000 in
theorem acceptorSame_lifted (os : Os) (started : os.Started) (H : Type) (enc : TypeId × Value → H) :
    ReturnsInHanded {} Try.checked os 8 .any (Rows.acceptorSameSpec.pre6 enc Try.prog Try.f8 Rows.acceptorSameRow.domain false) (Rows.acceptorSameSpec.post enc Try.prog Try.f8 false true false false) := by
  refine returnsInHanded_of_change_sized (C := Try.checked) (by kernel_rfl) started (by kernel_rfl) Try.func8
    (ChangeSpec.witness6 (enc := enc) (C := Try.checked) false ⟨#[], #[.agg #[.int .i64 0, .int .i64 0, .bool false, .int .i64 0, .int .i64 0, .slice none 0 0]], []⟩ 8 (by kernel_rfl) (by kernel_rfl) (by kernel_rfl) (by kernel_rfl)) ?_
  intro W base args ds gs before hval0 hW _ hsz0 _
  have hval : ∀ (j : Nat) t v, Try.f8.params[j]? = some t → args[j]? = some v → Value.okWide Try.prog W .any base t v := hval0
  have hW' := hW
  obtain ⟨p, q, hA0, hV, rfl, _, _⟩ := hW
  have hA : DataW.TrodAll enc Try.prog W 0 (fun _ => true) true Try.f8.params.toList args.toList ds p := hA0
  have hsz : (DataW.weightsEach Try.prog (Try.f8.params.toList ++ Rows.acceptorSameSpec.plain.varTypes Try.prog) (ds ++ gs)).all (· ≤ reachBytes) = true := hsz0
  rw [Try.params8] at hA hval hsz
  obtain ⟨v0, d0, rfl, rfl, h0⟩ := trodAll_one hA
  obtain ⟨cs0, rfl, hz0⟩ := okWide_struct Try.underlying28 (hval 0 28 v0 rfl rfl)
  obtain ⟨fuel0, hf0⟩ := h0
  obtain ⟨s0, A0, c0, hc0, hR0, hb0, hl0⟩ := state_cells (by simpa [Value.cells] using hz0.trans (show Try.prog.cellsOf 28 = 6 by kernel_rfl)) hf0 (sized_arg hsz (j := 0) rfl rfl)
  obtain rfl := agg_list hc0
  refine (acceptorSame_walk s0.pr s0.ps s0.some s0.ar s0.as_ s0.val A0 c0 W hR0 hb0 hl0).mono fun e W' ⟨he, hb⟩ => ?_
  subst he
  exact ⟨_, rfl, post_law (by kernel_rfl) (by kernel_rfl) rfl hW' (by rintro _ rfl; rfl) rfl Try.underlying4 hb⟩

theorem acceptorSame_holds : Rows.AcceptorSameSaid :=
  OpenClaim.holds_of_wide 8 Try.f8 rfl rfl rfl rfl rfl rfl rfl ⟨rfl, rfl, rfl, rfl, rfl⟩ rfl rfl rfl rfl rfl (by kernel_rfl) Try.func8 (by kernel_rfl)
    (of_decide_eq_true (by kernel_rfl)) (by unfold Func.isWrapper; first | (rw [if_pos (by decide +kernel)]; kernel_rfl) | (rw [if_neg (by decide +kernel)]; exact ⟨rfl, rfl⟩))
    (fun os started H enc _ => acceptorSame_lifted os started H enc)

end Go.Proofs.Ytodlabpgjgbbpag
