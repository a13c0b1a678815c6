/-
  FrameAgain, where what it reads is small: what is scanned, put in frames again, is what was scanned, byte by byte.
-/
import Derived.Test.YtodlabpgjgbbpafFrmTorn
namespace Go.Proofs.Ytodlabpgjgbbpaf
open Go.RowKit Go.Agio Go.ChangeShapes Go.WideShapes Go.ChangeAt

theorem puts_le {l : List (List Int)} (i : Nat) : (Frm.puts (l.take i)).length ≤ (Frm.puts l).length := by
  have h := congrArg List.length (Frm.puts_append (l.take i) (l.drop i))
  rw [List.take_append_drop, List.length_append] at h
  omega
theorem again_strs {W : World} {A B : Option Addr} {n c d k m : Nat} {xs ys : List Int} (hA : Reads W A (bys xs)) (hB : Reads W B (bys ys)) (hn : xs.length = n) (hm : ys.length = m) : 
    (convert 22 9 (.slice A n c)).run Try.prog W = .ok (.string (strOfNums xs)) W ∧ (convert 22 9 (.slice B m k)).run Try.prog W = .ok (.string (strOfNums ys)) W ∧ d = d :=
  ⟨str_reads W A n c xs hA hn, str_reads W B m k ys hB hm, rfl⟩

set_option maxRecDepth 100000 in
set_option maxHeartbeats 8000000 in
theorem frameAgain_walk (A : Option Addr) (c : Nat) (xs : List Int) (w : World) (hR : Reads w A (bys xs)) (hx : Frm.ok xs) (hl : xs.length ≤ 46912496000000) (hc : xs.length ≤ c) :
    Calls Try.prog 6 #[.slice A xs.length c] w fun e w' => e = .returned (.bool true) ∧ Below w.heap.size w w' := by
  obtain ⟨i0, hi, hz0, hz1, hz2⟩ := info_parts info8
  obtain ⟨l, n, hln⟩ : ∃ l n, Frm.scan xs = (l, n) := ⟨_, _, rfl⟩
  have hag := Frm.scan_again xs.length xs (Nat.le_refl _) hx
  rw [hln] at hag
  obtain ⟨g1, g2, g3⟩ := hag
  simp only at g1 g2 g3
  have HLN := hide hln; have G2 := hide g2; have G3 := hide g3
  have HPL := hide (show (Frm.puts l).length = n from by rw [g2, List.length_take]; omega)
  have HR := hide hR; have HX := hide hx
  clear hR hx hln g2 g3
  go_enter Try.func6, Try.ntmps6
  go_wp2_with fail
  refine (awake_any _).mono ?_
  rintro e w1 ⟨rfl, hb1⟩
  have HB1 := hide hb1
  clear hb1
  go_wp2_with fail
  refine (scan_is (xs := xs) HLN.out rfl w1 (HR.out.below HB1.out) HX.out hl hc).mono ?_
  rintro e w2 ⟨L, d, rfl, hr2, _, hb2⟩
  have HR2 := hide hr2
  have HB2 := hide (HB1.out.trans (hb2.mono HB1.out.size))
  have hll : l.length ≤ 46912496000000 := by
    have h : ∀ (l : List (List Int)), l.length ≤ (Frm.puts l).length := fun l => by
      induction l with
      | nil => simp
      | cons y l ih => simp only [Frm.puts, List.length_append, List.length_cons, Frm.put_length]; omega
    have := h l
    have := HPL.out
    omega
  clear hr2 hb2
  go_wp2_with fail
  go_loopw [6, 7] (fun v i wr => ∃ (k : Nat) (B : Option Addr) (q : Nat), k ≤ l.length ∧ i = .int .i64 k ∧ v = .slice B (Frm.puts (l.take k)).length q ∧ wr.ownsRow w2.heap.size 5 1 (.slice B (Frm.puts (l.take k)).length q) (Frm.puts (l.take k)).length (bys (Frm.puts (l.take k))) ∧ Below w2.heap.size w2 wr) (fun _ i _ => l.length - (intOf i).toNat)
  case atStart => exact ⟨0, none, 0, Nat.zero_le _, rfl, rfl, World.ownsRow_nil _ _ _ _, Below.refl _ _⟩
  case round =>
    obtain ⟨k, B, q, hk, rfl, rfl, ho, hb⟩ := hrel
    have HO := hide ho; have HB := hide hb
    clear ho hb
    by_cases hlt : k < l.length
    · obtain ⟨b, off, P, pc, rfl, hbs, hcc, hr⟩ := (HR2.out.below HB.out).at_ (k := k) hlt
      have HN := hide (Frm.puts_next (l := l) hlt)
      have HPK := hide (puts_le (l := l) (k + 1))
      have hok := G3.out (l.getD k []) (by rw [List.getD_eq_getElem?_getD, List.getElem?_eq_getElem hlt]; exact List.getElem_mem hlt)
      rw [HN.out] at HPK
      have HPP := HPK
      generalize l.getD k [] = x at *
      have HRX := hide hr; have HOK := hide hok.2
      have hfull := hok.1
      clear hr hok
      generalize hp : Frm.puts (l.take k) = p at *
      clear hp HPK
      go_wp2_with fail
      refine (put_any P pc x wr HRX.out HOK.out hfull).mono ?_
      rintro e w3 ⟨A3, c3, rfl, ho3, hb3⟩
      have HO3 := hide ho3
      have HO1 := hide (own_below HO.out hb3)
      have HBW := hide (HB.out.trans (hb3.mono HB.out.size))
      have hpp : p.length + (Frm.put x).length ≤ 46912496000000 := by have := HPP.out; rw [List.length_append] at this; have := HPL.out; omega
      generalize Frm.put x = px at *
      clear ho3 hb3 hcc
      go_wp2_with (at_builtin; apply halted)
      refine unhalt (wpList_append_reads rfl (.tmp 32) (.tmp 33) 22 rfl w2.heap.size 5 i0 (.int .u8 0) 1 Try.underlying22 hi hz0 hz1 hz2 rfl _ p.length (bys p) rfl HO1.out A3 px.length c3 (bys px) rfl (Reads.of_own HO3.out) (by rw [List.length_map]) (ints_one _ _) (by unfold maxLen; omega) (by omega) HBW.out.size ?_)
      intro A4 c4 w4 n4 g4 t4
      have HB4 := hide (HBW.out.grown g4 HBW.out.size (fun g hg => (HO1.out.lt g hg).1))
      have N4 := hide n4
      clear n4 g4 t4
      go_wp2
      go_roundw
      case rel => exact ⟨k + 1, A4, c4, by omega, by go_num, by rw [HN.out]; simp, by rw [HN.out, List.length_append]; simpa [bys] using N4.out, HB4.out⟩
      case measure => simp [intOf]; omega
    · obtain rfl : k = l.length := by omega
      rw [List.take_length] at HO ⊢
      have HBW := hide (HB2.out.trans (HB.out.mono HB2.out.size))
      rw [HPL.out] at HO ⊢
      have hs1 := cut_h 22 elem8 size8 A xs.length c n (by omega)
      have RP := hide (show Reads wr B (bys (Frm.puts l)) from Reads.of_own HO.out)
      have RQ := hide (show Reads wr A (bys (Frm.puts l)) from by rw [G2.out, bys_take']; exact (HR.out.below HBW.out).take n)
      have tle : decide ((n : Int) ≤ (xs.length : Int)) = true := by simp; omega
      generalize Frm.puts l = u at *
      have e1 : ((strOfNums u).toList == (strOfNums u).toList) = true := by simp
      have FIN := HBW
      clear HO HB HBW HB2 HB1 HR2 G2 G3 HLN
      go_wp2_with fail
      refine wp_region_held_drew (S := fun W => (convert 22 9 (.slice B n q)).run Try.prog W = .ok (.string (strOfNums u)) W ∧ (convert 22 9 (.slice A n c)).run Try.prog W = .ok (.string (strOfNums u)) W) (by kernel_rfl) ⟨str_reads _ B n q u RP.out.drew HPL.out, str_reads _ A n c u RQ.out.drew HPL.out⟩ (fun hH => ?_)
      refine wpAnyH_take (i := 0) (v := ?v0) rfl (by kernel_rfl) (by kernel_rfl) (by kernel_rfl) (fun _ _ _ h => h) (Or.inl ⟨by rfl, ?y0⟩) hH ?r0
      case y0 => (intro W hSw; (try dsimp only at hSw); (try simp only [List.getElem_toArray, List.getElem_cons_zero]); go_simp; first | done | with_reducible rfl)
      try simp only [Act.put, List.getElem_toArray, List.getElem_cons_zero, List.setIfInBounds_toArray, List.set_cons_zero, List.set_cons_succ]
      refine wpAnyH_take (i := 1) (v := ?v1) rfl (by kernel_rfl) (by kernel_rfl) (by kernel_rfl) (fun _ _ _ h => h) (Or.inl ⟨by rfl, ?y1⟩) hH ?r1
      case y1 => (intro W hSw; (try dsimp only at hSw); (try simp only [List.getElem_toArray, List.getElem_cons_succ, List.getElem_cons_zero]); go_simp; first | done | with_reducible rfl)
      try simp only [Act.put, List.getElem_toArray, List.getElem_cons_succ, List.getElem_cons_zero, List.setIfInBounds_toArray, List.set_cons_zero, List.set_cons_succ]
      refine wpAnyH_take (i := 2) (v := ?v2) rfl (by kernel_rfl) (by kernel_rfl) (by kernel_rfl) (fun _ _ _ h => h) (Or.inl ⟨by rfl, ?y2⟩) hH ?r2
      case y2 => (intro W hSw; (try dsimp only at hSw); (try simp only [List.getElem_toArray, List.getElem_cons_succ, List.getElem_cons_zero]); go_simp; first | done | with_reducible rfl)
      try simp only [Act.put, List.getElem_toArray, List.getElem_cons_succ, List.getElem_cons_zero, List.setIfInBounds_toArray, List.set_cons_zero, List.set_cons_succ]
      refine wpAnyH_take (i := 3) (v := ?v3) rfl (by kernel_rfl) (by kernel_rfl) (by kernel_rfl) (fun _ _ _ h => h) (Or.inl ⟨by rfl, ?y3⟩) hH ?r3
      case y3 => (intro W hSw; (try dsimp only at hSw); (try simp only [List.getElem_toArray, List.getElem_cons_succ, List.getElem_cons_zero]); go_simp; first | done | with_reducible rfl)
      try simp only [Act.put, List.getElem_toArray, List.getElem_cons_succ, List.getElem_cons_zero, List.setIfInBounds_toArray, List.set_cons_zero, List.set_cons_succ]
      refine wpAnyH_take (i := 4) (v := ?v4) rfl (by kernel_rfl) (by kernel_rfl) (by kernel_rfl) (fun _ _ _ h => h) (Or.inl ⟨by rfl, ?y4⟩) hH ?r4
      case y4 => (intro W hSw; (try dsimp only at hSw); (try simp only [List.getElem_toArray, List.getElem_cons_succ, List.getElem_cons_zero]); go_simp; first | done | with_reducible rfl)
      try simp only [Act.put, List.getElem_toArray, List.getElem_cons_succ, List.getElem_cons_zero, List.setIfInBounds_toArray, List.set_cons_zero, List.set_cons_succ]
      refine wpAnyH_take (i := 5) (v := .bool true) rfl (by kernel_rfl) (by kernel_rfl) (by kernel_rfl) (fun _ _ _ h => h) (Or.inl ⟨by rfl, ?y5⟩) hH ?r5
      case y5 => (intro W hSw; (try dsimp only at hSw); (try simp only [List.getElem_toArray, List.getElem_cons_succ, List.getElem_cons_zero]); go_simp; first | done | with_reducible rfl)
      try simp only [Act.put, List.getElem_toArray, List.getElem_cons_succ, List.getElem_cons_zero, List.setIfInBounds_toArray, List.set_cons_zero, List.set_cons_succ]
      refine wpAnyH_take (i := 6) (v := .bool true) rfl (by kernel_rfl) (by kernel_rfl) (by kernel_rfl) (fun _ _ _ h => h) (Or.inl ⟨by rfl, ?y6⟩) hH ?r6
      case y6 => (intro W hSw; (try dsimp only at hSw); (try simp only [List.getElem_toArray, List.getElem_cons_succ, List.getElem_cons_zero]); go_simp; first | done | with_reducible rfl)
      try simp only [Act.put, List.getElem_toArray, List.getElem_cons_succ, List.getElem_cons_zero, List.setIfInBounds_toArray, List.set_cons_zero, List.set_cons_succ]
      refine wpAnyH_take (i := 7) (v := ?v7) rfl (by kernel_rfl) (by kernel_rfl) (by kernel_rfl) (fun _ _ _ h => h) (Or.inl ⟨by rfl, ?y7⟩) hH ?r7
      case y7 => (intro W hSw; (try dsimp only at hSw); (try simp only [List.getElem_toArray, List.getElem_cons_succ, List.getElem_cons_zero]); go_simp; first | done | with_reducible rfl)
      try simp only [Act.put, List.getElem_toArray, List.getElem_cons_succ, List.getElem_cons_zero, List.setIfInBounds_toArray, List.set_cons_zero, List.set_cons_succ]
      refine wpAnyH_take (i := 8) (v := ?v8) rfl (by kernel_rfl) (by kernel_rfl) (by kernel_rfl) (fun _ _ _ h => h) (Or.inl ⟨by rfl, ?y8⟩) hH ?r8
      case y8 => (intro W hSw; (try dsimp only at hSw); (try simp only [List.getElem_toArray, List.getElem_cons_succ, List.getElem_cons_zero]); go_simp; first | done | with_reducible rfl)
      try simp only [Act.put, List.getElem_toArray, List.getElem_cons_succ, List.getElem_cons_zero, List.setIfInBounds_toArray, List.set_cons_zero, List.set_cons_succ]
      refine wpAnyH_take (i := 9) (v := ?v9) rfl (by kernel_rfl) (by kernel_rfl) (by kernel_rfl) (fun _ _ _ h => h) (Or.inl ⟨by rfl, ?y9⟩) hH ?r9
      case y9 => (intro W hSw; (try dsimp only at hSw); (try simp only [List.getElem_toArray, List.getElem_cons_succ, List.getElem_cons_zero]); go_simp; first | done | with_reducible rfl)
      try simp only [Act.put, List.getElem_toArray, List.getElem_cons_succ, List.getElem_cons_zero, List.setIfInBounds_toArray, List.set_cons_zero, List.set_cons_succ]
      refine wpAnyH_take (i := 10) (v := ?v10) rfl (by kernel_rfl) (by kernel_rfl) (by kernel_rfl) (fun _ _ _ h => h) (Or.inl ⟨by rfl, ?y10⟩) hH ?r10
      case y10 => (intro W hSw; (try dsimp only at hSw); (try simp only [List.getElem_toArray, List.getElem_cons_succ, List.getElem_cons_zero]); go_simp; first | done | with_reducible rfl)
      try simp only [Act.put, List.getElem_toArray, List.getElem_cons_succ, List.getElem_cons_zero, List.setIfInBounds_toArray, List.set_cons_zero, List.set_cons_succ]
      refine wpAnyH_take (i := 11) (v := ?v11) rfl (by kernel_rfl) (by kernel_rfl) (by kernel_rfl) (fun _ _ _ h => h) (Or.inl ⟨by rfl, ?y11⟩) hH ?r11
      case y11 => (intro W hSw; (try dsimp only at hSw); (try simp only [List.getElem_toArray, List.getElem_cons_succ, List.getElem_cons_zero]); go_simp; first | done | with_reducible rfl)
      try simp only [Act.put, List.getElem_toArray, List.getElem_cons_succ, List.getElem_cons_zero, List.setIfInBounds_toArray, List.set_cons_zero, List.set_cons_succ]
      refine wpAnyH_take (i := 12) (v := ?v12) rfl (by kernel_rfl) (by kernel_rfl) (by kernel_rfl) (fun _ _ _ h => h) (Or.inl ⟨by rfl, ?y12⟩) hH ?r12
      case y12 => (intro W hSw; (try dsimp only at hSw); (try simp only [List.getElem_toArray, List.getElem_cons_succ, List.getElem_cons_zero]); go_simp; first | done | with_reducible rfl)
      try simp only [Act.put, List.getElem_toArray, List.getElem_cons_succ, List.getElem_cons_zero, List.setIfInBounds_toArray, List.set_cons_zero, List.set_cons_succ]
      refine wpAnyH_take (i := 13) (v := ?v13) rfl (by kernel_rfl) (by kernel_rfl) (by kernel_rfl) (fun _ _ _ h => h) (Or.inl ⟨by rfl, ?y13⟩) hH ?r13
      case y13 => (intro W hSw; (try dsimp only at hSw); (try simp only [List.getElem_toArray, List.getElem_cons_succ, List.getElem_cons_zero]); go_simp; first | done | with_reducible rfl)
      try simp only [Act.put, List.getElem_toArray, List.getElem_cons_succ, List.getElem_cons_zero, List.setIfInBounds_toArray, List.set_cons_zero, List.set_cons_succ]
      refine wpAnyH_take (i := 14) (v := .bool true) rfl (by kernel_rfl) (by kernel_rfl) (by kernel_rfl) (fun _ _ _ h => h) (Or.inl ⟨by rfl, ?y14⟩) hH ?r14
      case y14 => (intro W hSw; (try dsimp only at hSw); (try simp only [List.getElem_toArray, List.getElem_cons_succ, List.getElem_cons_zero]); go_simp; first | done | with_reducible rfl)
      try simp only [Act.put, List.getElem_toArray, List.getElem_cons_succ, List.getElem_cons_zero, List.setIfInBounds_toArray, List.set_cons_zero, List.set_cons_succ]
      refine wpAnyH_take (i := 15) (v := .bool true) rfl (by kernel_rfl) (by kernel_rfl) (by kernel_rfl) (fun _ _ _ h => h) (Or.inl ⟨by rfl, ?y15⟩) hH ?r15
      case y15 => (intro W hSw; (try dsimp only at hSw); (try simp only [List.getElem_toArray, List.getElem_cons_succ, List.getElem_cons_zero]); go_simp; first | done | with_reducible rfl)
      try simp only [Act.put, List.getElem_toArray, List.getElem_cons_succ, List.getElem_cons_zero, List.setIfInBounds_toArray, List.set_cons_zero, List.set_cons_succ]
      refine wpAnyH_take (i := 16) (v := ?v16) rfl (by kernel_rfl) (by kernel_rfl) (by kernel_rfl) (fun _ _ _ h => h) (Or.inl ⟨by rfl, ?y16⟩) hH ?r16
      case y16 => (intro W hSw; (try dsimp only at hSw); (try simp only [List.getElem_toArray, List.getElem_cons_succ, List.getElem_cons_zero]); go_simp; first | done | with_reducible rfl)
      try simp only [Act.put, List.getElem_toArray, List.getElem_cons_succ, List.getElem_cons_zero, List.setIfInBounds_toArray, List.set_cons_zero, List.set_cons_succ]
      refine wpAnyH_done (by kernel_rfl) ?_ _
      go_wp2
      go_ret
      exact ⟨rfl, FIN.out.drew⟩

theorem bulk_one {H : Type} (d : DataW H) : 1 ≤ Rows.uptoBulk d := by
  cases d with
  | lit l => cases l <;> simp [Rows.uptoBulk]
  | nil => simp [Rows.uptoBulk]
  | ptr d => simp [Rows.uptoBulk]
  | slice elems spare => simp [Rows.uptoBulk]
  | agg parts => simp [Rows.uptoBulk]
  | iface t d => simp [Rows.uptoBulk]
  | map entries => simp [Rows.uptoBulk]
  | held h => simp [Rows.uptoBulk]
theorem bulk_len {H : Type} (l : List (DataW H)) : l.length ≤ Rows.uptoBulkAll l := by
  induction l with
  | nil => simp [Rows.uptoBulkAll]
  | cons x r ih => have := bulk_one x; simp only [Rows.uptoBulkAll, List.length_cons]; omega
/-- How long a slice may be. -/
theorem small_nums {H : Type} {d : DataW H} {n : Nat} (hk : Rows.uptoSmall H ([d] ++ []) = true) (hn : n = 0 ∨ ∃ elems spare, d = .slice elems spare ∧ elems.length = n) : n ≤ 1048576 := by
  have h := of_decide_eq_true hk
  rcases hn with h0 | ⟨el, sp, rfl, hl⟩
  · omega
  · have h1 := bulk_len el
    simp only [List.append_nil, Rows.uptoBulkAll, Rows.uptoBulk] at h
    omega

theorem frameAgain_uptocontract (H : Type) (enc : TypeId × Value → H) (W : World) (base : Nat) (args : Array Value) (ds gs : List (DataW H)) (before : List MemPlace)
    (hval0 : ∀ (j : Nat) t v, Try.f6.params[j]? = some t → args[j]? = some v → Value.okWide Try.prog W .any base t v)
    (hW : DataW.Whole enc Try.prog Try.f6.params.toList Rows.frameAgainSpec.vars false W args.toList ds gs before) (hk : Rows.uptoSmall H (ds ++ gs) = true) :
    Calls Try.prog 6 args W fun e W' => ∃ v, e = .returned v ∧ Rows.frameAgainSpec.post enc Try.prog Try.f6 false true false false W args v W' := by
  have hval : ∀ (j : Nat) t v, Try.f6.params[j]? = some t → args[j]? = some v → Value.okWide Try.prog W .any base t v := hval0
  have hW' := hW
  obtain ⟨p, q, hA0, hV, rfl, _, _⟩ := hW
  have hA : DataW.TrodAll enc Try.prog W 0 (fun _ => true) true Try.f6.params.toList args.toList ds p := hA0
  obtain ⟨rfl, rfl⟩ := trodVars_none hV
  rw [Try.params6] at hA hval
  obtain ⟨v0, d0, rfl, rfl, h0⟩ := trodAll_one hA
  obtain ⟨A0, cap0, z0, rfl, hcap0, hm0, hR0, hwf0, hn0⟩ := open_nums Try.underlying22 Try.underlying5 (by kernel_rfl) (hval 0 22 v0 rfl rfl) h0
  have bd0 := fun z hz => bounds_u8 (hwf0 z hz)
  have hsm := small_nums hk hn0
  refine (frameAgain_walk _ _ _ _ hR0 bd0 (by omega) hcap0).mono fun e W' ⟨he, hb⟩ => ?_
  subst he
  exact ⟨_, rfl, post_law (by kernel_rfl) (by kernel_rfl) rfl hW' (by rintro _ rfl; rfl) rfl Try.underlying4 hb⟩

set_option maxRecDepth 100000 in
theorem frameAgain_uptolifted (os : Os) (started : os.Started) (H : Type) (enc : TypeId × Value → H) (F : Stop.Interp) :
    ReturnsInHanded {} Try.checked os 6 .any ((Rows.OpenSpec.upto Rows.frameAgainSpec).pre6 enc Try.prog Try.f6 Rows.frameAgainUptoRow.domain false) (((Rows.OpenSpec.upto Rows.frameAgainSpec).at F).post enc Try.prog Try.f6 false true false false) := by
  refine returnsInHanded_of_cond (C := Try.checked) (s := Rows.OpenSpec.upto Rows.frameAgainSpec) (k := Rows.uptoSmall) rfl (by kernel_rfl) started (by kernel_rfl) Try.func6
    (OpenSpec.witness (enc := enc) (C := Try.checked) (s := Rows.OpenSpec.upto Rows.frameAgainSpec) (k := Rows.uptoSmall) rfl false ⟨#[], #[.slice none 0 0], []⟩ 8 (by kernel_rfl) (by kernel_rfl) (by kernel_rfl)
      (x := ([.nil], [], [])) (by kernel_rfl) rfl (by kernel_rfl)) ?_
  intro W base args ds gs before hval hW _ hk _
  exact frameAgain_uptocontract H enc W base args ds gs before hval hW hk

theorem frameAgain_upto : Rows.FrameAgainUptoSaid :=
  OpenClaim.holds_of_cond 6 Try.f6 rfl rfl rfl rfl rfl rfl rfl ⟨rfl, rfl, rfl, rfl, rfl⟩ rfl rfl rfl rfl rfl (by kernel_rfl) Try.func6 (by kernel_rfl)
    (of_decide_eq_true (by kernel_rfl)) (by unfold Func.isWrapper; first | (rw [if_pos (by decide +kernel)]; kernel_rfl) | (rw [if_neg (by decide +kernel)]; exact ⟨rfl, rfl⟩))
    (fun os started H enc _ F => frameAgain_uptolifted os started H enc F)

end Go.Proofs.Ytodlabpgjgbbpaf
