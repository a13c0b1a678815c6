/-
  LearnBegins: two that learned of decisions, each of some, in whatever order, have taken beginnings of one list. No conditions.
-/
import Derived.Test.YtodlabpgjgbbpaeLearnTaken
import Derived.Test.YtodlabpgjgbbpaeLearnSame
import Derived.Test.YtodlabpgjgbbpaeLaw
import Derived.Test.YtodlabpgjgbbpaeRows
namespace Go.Proofs.Ytodlabpgjgbbpae
open Go.RowKit Go.Agio Go.ChangeShapes Go.WideShapes Go.ChangeAt

theorem elem22 : Try.prog.underlying 24 = some (.slice (Try.prog.elem 24)) := by kernel_rfl
theorem size22 (w : World) : (sizeOf (Try.prog.elem 24)).run Try.prog w = .ok 1 w := by kernel_rfl
theorem RowsAt.rd {w : World} {base n c : Nat} {A : Option Addr} {l : List (List Int)} (h : RowsAt w base (.slice A n c) l) : RowsRd w A l ∧ n ≤ c ∧ l.length = n := by
  obtain ⟨vals, h1, h2, h3⟩ := h
  refine ⟨⟨vals, ?_, h2, fun i hi => ?_⟩, ?_, ?_⟩
  · rcases h1.2 with ⟨he, hn⟩ | ⟨g, cap, cur, he, _, hh, _, _, hcs, htake⟩
    · left; exact List.eq_nil_of_length_eq_zero (by rw [h2]; exact hn)
    · have e : Value.slice A n c = .slice A l.length c := by injection he with _ e2 _; rw [e2]
      have h1' := h1
      rw [e] at h1'
      exact Reads.of_own h1'
  · obtain ⟨B, d, g1, g2, _⟩ := h3 i hi
    exact ⟨B, d, by rw [List.getD_eq_getElem?_getD, g1]; rfl, g2⟩
  · rcases h1.2 with ⟨he, hn⟩ | ⟨g, cap, cur, he, _, _, hnc, _⟩
    · injection he with _ e2 e3; omega
    · injection he with _ e2 e3; omega
  · rcases h1.2 with ⟨he, hn⟩ | ⟨g, cap, cur, he, _, _, hnc, _⟩
    · injection he with _ e2 e3; omega
    · injection he with _ e2 e3; omega
theorem RowsRd.take {w : World} {A : Option Addr} {l : List (List Int)} (h : RowsRd w A l) (n : Nat) : RowsRd w A (l.take n) := by
  obtain ⟨vals, h1, h2, h3⟩ := h
  refine ⟨vals.take n, h1.take n, by simp [h2], fun i hi => ?_⟩
  rw [List.length_take] at hi
  obtain ⟨B, c, g1, g2⟩ := h3 i (by omega)
  have e : (l.take n).getD i [] = l.getD i [] := by simp [List.getD_eq_getElem?_getD, show i < n by omega]
  rw [e]
  exact ⟨B, c, by rw [← g1]; simp [List.getD_eq_getElem?_getD, show i < n by omega], g2⟩
theorem V_ok {n : Nat} : ∀ x ∈ Lrn.vals Lrn.V 0 n, ∀ z ∈ x, 0 ≤ z ∧ z ≤ 255 := by
  induction n with
  | zero => intro x hx; simp [Lrn.vals] at hx
  | succ n ih =>
    intro x hx
    rw [Lrn.vals_succ (Nat.zero_le n), List.mem_append] at hx
    rcases hx with h | h
    · exact ih x h
    · simp [Lrn.V] at h
      subst h
      exact Lrn.valueRow_ok _

set_option maxRecDepth 100000 in
set_option maxHeartbeats 4000000 in
theorem learnBegins_walk (A B : Option Addr) (c d : Nat) (xs ys : List Int) (ev : Int) (w : World) (hR : Reads w A (bys xs)) (hS : Reads w B (bys ys)) (hx : okRow xs) (hy : okRow ys) (hev : 0 ≤ ev ∧ ev ≤ 255) (hm1 : xs.length ≤ 140737488351232) (hm2 : ys.length ≤ 140737488351232) :
    Calls Try.prog 4 #[.slice A xs.length c, .slice B ys.length d, .int .u8 ev] w fun e w' => e = .returned (.bool true) ∧ Below w.heap.size w w' := by
  have CA := hide (fun (w' : World) (hb : Below w.heap.size w w') => taken_any' A c xs ev w' (hR.below hb) hx hev hm1)
  have CB := hide (fun (w' : World) (hb : Below w.heap.size w w') => taken_any' B d ys (ev / 5) w' (hS.below hb) hy (by omega) hm2)
  have hev0 := hev.1; have hev1 := hev.2
  clear hR hS hx hy hm1 hm2 hev
  generalize hf1 : Lrn.frontOf (xs.take 300) = f1 at *
  generalize hf2 : Lrn.frontOf (ys.take 300) = f2 at *
  have hb1 : f1 ≤ 4096 := by rw [← hf1]; exact Lrn.front_le _
  have hb2 : f2 ≤ 4096 := by rw [← hf2]; exact Lrn.front_le _
  generalize xs.length = n at *
  generalize ys.length = m at *
  clear hf1 hf2
  by_cases hff : f1 ≤ f2
  all_goals
    go_enter Try.func4, Try.ntmps4
    go_wp2_with fail
    refine (awake_any _).mono ?_
    rintro e w1 ⟨rfl, hB1⟩
    go_wp2_with fail
    refine (CA.out _ hB1).mono ?_
    rintro e w2 ⟨L1, d1, rfl, hr1, hB2⟩
    have HB2 := hide (below_next hB1 hB2)
    have HR1 := hide hr1
    clear hB1 hB2 hr1
    go_wp2_with fail
    refine (CB.out _ HB2.out).mono ?_
    rintro e w3 ⟨L2, d2, rfl, hr2, hB3⟩
    have HB3 := hide (below_next HB2.out hB3)
    have HR2 := hide hr2.rd
    replace HR1 := hide (HR1.out.below hB3).rd
    have k1 := HR1.out.2.1; have k2 := HR2.out.2.1
    clear hB3 hr2
    first
      | (have hcase : f1 ≤ f2 := hff
         have q1 : ∀ W : World, (Instr.slice 24 (.slice L1 f1 d1) none (some (.int .i64 (f1 : Int))) none).run Try.prog W = .ok (.slice L1 f1 d1) W := cut_h 24 elem22 size22 L1 f1 d1 f1 (by omega)
         have q2 : ∀ W : World, (Instr.slice 24 (.slice L2 f2 d2) none (some (.int .i64 (f1 : Int))) none).run Try.prog W = .ok (.slice L2 f1 d2) W := cut_h 24 elem22 size22 L2 f2 d2 f1 (by omega)
         have CS : Hid (∀ W, Below w3.heap.size w3 W → Calls Try.prog 12 #[.slice L1 f1 d1, .slice L2 f1 d2] W fun e w' => e = .returned (.bool true) ∧ Below w3.heap.size w3 w') := hide (fun W hb => by
           have h2 := HR2.out.1.take f1
           rw [Lrn.vals_take hcase] at h2
           have := rsame_any L1 L2 d1 d2 (Lrn.vals Lrn.V 0 f1) (Lrn.vals Lrn.V 0 f1) W (HR1.out.1.below hb) (h2.below hb) V_ok V_ok (by rw [Lrn.vals_len0]; omega) (by rw [Lrn.vals_len0]; omega)
           rw [Lrn.vals_len0, decide_eq_true rfl] at this
           exact this.mono fun _ _ h => ⟨h.1, below_next hb h.2⟩))
      | (have hcase : f2 ≤ f1 := by omega
         have q1 : ∀ W : World, (Instr.slice 24 (.slice L1 f1 d1) none (some (.int .i64 (f2 : Int))) none).run Try.prog W = .ok (.slice L1 f2 d1) W := cut_h 24 elem22 size22 L1 f1 d1 f2 (by omega)
         have q2 : ∀ W : World, (Instr.slice 24 (.slice L2 f2 d2) none (some (.int .i64 (f2 : Int))) none).run Try.prog W = .ok (.slice L2 f2 d2) W := cut_h 24 elem22 size22 L2 f2 d2 f2 (by omega)
         have CS : Hid (∀ W, Below w3.heap.size w3 W → Calls Try.prog 12 #[.slice L1 f2 d1, .slice L2 f2 d2] W fun e w' => e = .returned (.bool true) ∧ Below w3.heap.size w3 w') := hide (fun W hb => by
           have h1 := HR1.out.1.take f2
           rw [Lrn.vals_take hcase] at h1
           have := rsame_any L1 L2 d1 d2 (Lrn.vals Lrn.V 0 f2) (Lrn.vals Lrn.V 0 f2) W (h1.below hb) (HR2.out.1.below hb) V_ok V_ok (by rw [Lrn.vals_len0]; omega) (by rw [Lrn.vals_len0]; omega)
           rw [Lrn.vals_len0, decide_eq_true rfl] at this
           exact this.mono fun _ _ h => ⟨h.1, below_next hb h.2⟩))
    have hB0 : Below w3.heap.size w3 w3 := Below.refl _ _
    clear HR1 HR2
    go_wp2_with fail
    go_region_held3 (fun W => Below w3.heap.size w3 W) (first | assumption | exact (Below.refl w3.heap.size w3).drew) ((go_at_call 12; (with_reducible refine (CS.out _ (by first | assumption | exact (Below.refl w3.heap.size w3).drew)).mono ?_); rintro e w4 ⟨rfl, hb4⟩))
    go_wp2
    go_ret
    exact ⟨rfl, below_next HB3.out (by assumption)⟩

set_option maxRecDepth 100000 in
theorem learnBegins_lifted (os : Os) (started : os.Started) (H : Type) (enc : TypeId × Value → H) :
    ReturnsInHanded {} Try.checked os 4 .any (Rows.learnBeginsSpec.pre6 enc Try.prog Try.f4 Rows.learnBeginsRow.domain false) (Rows.learnBeginsSpec.post enc Try.prog Try.f4 false true false false) := by
  refine returnsInHanded_of_change_sized (C := Try.checked) (by kernel_rfl) started (by kernel_rfl) Try.func4
    (ChangeSpec.witness6 (enc := enc) (C := Try.checked) false ⟨#[], #[.slice none 0 0, .slice none 0 0, .int .u8 0], []⟩ 8 (by kernel_rfl) (by kernel_rfl) (by kernel_rfl) (by kernel_rfl)) ?_
  intro W base args ds gs before hval0 hW _ hsz0 _
  have hval : ∀ (j : Nat) t v, Try.f4.params[j]? = some t → args[j]? = some v → Value.okWide Try.prog W .any base t v := hval0
  have hW' := hW
  obtain ⟨p, q, hA0, hV, rfl, _, _⟩ := hW
  have hA : DataW.TrodAll enc Try.prog W 0 (fun _ => true) true Try.f4.params.toList args.toList ds p := hA0
  have hsz : (DataW.weightsEach Try.prog (Try.f4.params.toList ++ Rows.learnBeginsSpec.plain.varTypes Try.prog) (ds ++ gs)).all (· ≤ reachBytes) = true := hsz0
  rw [Try.params4] at hA hval hsz
  obtain ⟨v0, v1, v2, d0, d1, d2, p0, p1, p2, rfl, rfl, rfl, h0, h1, h2⟩ := trodAll_three hA
  obtain ⟨A0, cap0, z0, rfl, hcap0, hm0, hR0, hwf0, hn0⟩ := open_nums Try.underlying22 Try.underlying5 (by kernel_rfl) (hval 0 22 v0 rfl rfl) h0
  have hreach0 := reach_nums (m := 1) hsz (j := 0) (t := 22) rfl rfl Try.underlying22 hn0 (by kernel_rfl)
  have bd0 := fun z hz => bounds_u8 (hwf0 z hz)
  obtain ⟨A1, cap1, z1, rfl, hcap1, hm1, hR1, hwf1, hn1⟩ := open_nums Try.underlying22 Try.underlying5 (by kernel_rfl) (hval 1 22 v1 rfl rfl) h1
  have hreach1 := reach_nums (m := 1) hsz (j := 1) (t := 22) rfl rfl Try.underlying22 hn1 (by kernel_rfl)
  have bd1 := fun z hz => bounds_u8 (hwf1 z hz)
  obtain ⟨x2, rfl, rfl, rfl, wf2⟩ := open_int Try.underlying5 (hval 2 5 v2 rfl rfl) h2
  have bd2 := bounds_u8 wf2
  refine (learnBegins_walk _ _ _ _ _ _ _ _ hR0 hR1 bd0 bd1 bd2 (by omega) (by omega)).mono fun e W' ⟨he, hb⟩ => ?_
  subst he
  exact ⟨_, rfl, post_law (by kernel_rfl) (by kernel_rfl) rfl hW' (by rintro _ rfl; rfl) rfl Try.underlying4 hb⟩

theorem learnBegins_holds : Rows.LearnBeginsSaid :=
  OpenClaim.holds_of_wide 4 Try.f4 rfl rfl rfl rfl rfl rfl rfl ⟨rfl, rfl, rfl, rfl, rfl⟩ rfl rfl rfl rfl rfl (by kernel_rfl) Try.func4 (by kernel_rfl)
    (of_decide_eq_true (by kernel_rfl)) (by unfold Func.isWrapper; first | (rw [if_pos (by decide +kernel)]; kernel_rfl) | (rw [if_neg (by decide +kernel)]; exact ⟨rfl, rfl⟩))
    (fun os started H enc _ => learnBegins_lifted os started H enc)

end Go.Proofs.Ytodlabpgjgbbpae
