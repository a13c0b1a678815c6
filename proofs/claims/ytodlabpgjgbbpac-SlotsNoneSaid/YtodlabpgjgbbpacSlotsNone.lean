/-
  SlotsNone: what is no slot has no owner; what is no site owns none. No conditions.
-/
import Derived.Test.YtodlabpgjgbbpacSlotsMore
import Derived.Test.YtodlabpgjgbbpacSlotsAwake
import Derived.Test.YtodlabpgjgbbpacLaw
import Derived.Test.YtodlabpgjgbbpacRows
namespace Go.Proofs.Ytodlabpgjgbbpac
open Go.RowKit Go.Agio Go.ChangeShapes Go.WideShapes Go.ChangeAt

attribute [local irreducible] Slt.own Slt.next Slt.total Slt.owner

set_option maxRecDepth 100000 in
set_option maxHeartbeats 4000000 in
theorem slotsNone_walk (slot site n : Int) (w : World) :
    Calls Try.prog 5 #[.int .i64 slot, .int .i64 site, .int .i64 n] w fun e w' => e = .returned (.bool true) ∧ Below w.heap.size w w' := by
  obtain ⟨O, hO⟩ : ∃ O, O = Slt.owner slot n := ⟨_, rfl⟩
  obtain ⟨X, hX⟩ : ∃ X, X = Slt.next site 0 n := ⟨_, rfl⟩
  obtain ⟨C, hC⟩ : ∃ C : Int, C = ((Slt.own site 0 4096 n).length : Int) := ⟨_, rfl⟩
  have h1 := Slt.owner_sign slot n
  have h2 := Slt.site_sign site n
  rw [← hO] at h1
  rw [← hX, ← hC] at h2
  have CO : Hid (∀ w, Calls Try.prog 11 #[.int .i64 slot, .int .i64 n] w fun e w' => e = .returned (.int .i64 O) ∧ w = w') := hide (fun w => by rw [hO]; exact owner_any _ _ w)
  have CX : Hid (∀ w, Calls Try.prog 12 #[.int .i64 site, .int .i64 0, .int .i64 n] w fun e w' => e = .returned (.int .i64 X) ∧ w = w') := hide (fun w => by rw [hX]; exact next_any _ _ _ w)
  have CC : Hid (∀ w, Calls Try.prog 10 #[.int .i64 site, .int .i64 0, .int .i64 4096, .int .i64 n] w fun e w' => e = .returned (.int .i64 C) ∧ Below w.heap.size w w') := hide (fun w => by rw [hC]; exact count_any _ _ _ _ w)
  have h3 : (Slt.own site 0 4096 n).length = 0 → ¬ 0 < C := fun h => by omega
  have h2' : (0 ≤ site ∧ site < n ∧ 1 ≤ n ∧ n ≤ 64 ∧ 0 < C ∧ 0 ≤ X) ∨ (¬ 0 < C ∧ X < 0 ∧ (site < 0 ∨ n ≤ site ∨ n < 1 ∨ 64 < n)) := by
    rcases h2 with h | ⟨a, b, c⟩
    · exact .inl h
    · exact .inr ⟨h3 a, b, c⟩
  clear hO hX hC h2 h3
  rcases h1 with ⟨a1, a2, a3, a4, a5⟩ | ⟨a1, a2 | a2 | a2 | a2⟩ <;> rcases h2' with ⟨b1, b2, b3, b4, b5, b6⟩ | ⟨b1, b2, b3 | b3 | b3 | b3⟩
  all_goals first
    | (exfalso; omega)
    | (go_enter Try.func5, Try.ntmps5
       go_wp2_with fail
       refine (awake_any _).mono ?_
       rintro e w1 ⟨rfl, hb1⟩
       go_wp2_with fail
       all_goals
         refine (CO.out _).mono ?_
         rintro e w2 ⟨rfl, rfl⟩
         go_wp2_with fail
         refine (CC.out _).mono ?_
         rintro e w2 ⟨rfl, hb2⟩
         go_wp2_with fail
         refine (CX.out _).mono ?_
         rintro e w3 ⟨rfl, rfl⟩
         go_wp2
         go_ret
         refine ⟨?_, below_next hb1 hb2⟩
         first | rfl | (simp; done) | (simp; omega))

set_option maxRecDepth 100000 in
theorem slotsNone_lifted (os : Os) (started : os.Started) (H : Type) (enc : TypeId × Value → H) :
    ReturnsInHanded {} Try.checked os 5 .any (Rows.slotsNoneSpec.pre6 enc Try.prog Try.f5 Rows.slotsNoneRow.domain false) (Rows.slotsNoneSpec.post enc Try.prog Try.f5 false true false false) := by
  refine returnsInHanded_of_change_sized (C := Try.checked) (by kernel_rfl) started (by kernel_rfl) Try.func5
    (ChangeSpec.witness6 (enc := enc) (C := Try.checked) false ⟨#[], #[.int .i64 0, .int .i64 0, .int .i64 0], []⟩ 8 (by kernel_rfl) (by kernel_rfl) (by kernel_rfl) (by kernel_rfl)) ?_
  intro W base args ds gs before hval0 hW _ hsz0 _
  have hval : ∀ (j : Nat) t v, Try.f5.params[j]? = some t → args[j]? = some v → Value.okWide Try.prog W .any base t v := hval0
  have hW' := hW
  obtain ⟨p, q, hA0, hV, rfl, _, _⟩ := hW
  have hA : DataW.TrodAll enc Try.prog W 0 (fun _ => true) true Try.f5.params.toList args.toList ds p := hA0
  have _hsz : (DataW.weightsEach Try.prog (Try.f5.params.toList ++ Rows.slotsNoneSpec.plain.varTypes Try.prog) (ds ++ gs)).all (· ≤ reachBytes) = true := hsz0
  rw [Try.params5] at hA hval
  obtain ⟨v0, v1, v2, d0, d1, d2, p0, p1, p2, rfl, rfl, rfl, h0, h1, h2⟩ := trodAll_three hA
  obtain ⟨x0, rfl, rfl, rfl, wf0⟩ := open_int Try.underlying3 (hval 0 3 v0 rfl rfl) h0
  have bd0 := bounds_i64 wf0
  obtain ⟨x1, rfl, rfl, rfl, wf1⟩ := open_int Try.underlying3 (hval 1 3 v1 rfl rfl) h1
  have bd1 := bounds_i64 wf1
  obtain ⟨x2, rfl, rfl, rfl, wf2⟩ := open_int Try.underlying3 (hval 2 3 v2 rfl rfl) h2
  have bd2 := bounds_i64 wf2
  refine (slotsNone_walk _ _ _ _).mono fun e W' ⟨he, hb⟩ => ?_
  subst he
  exact ⟨_, rfl, post_law (by kernel_rfl) (by kernel_rfl) rfl hW' (by rintro _ rfl; rfl) rfl Try.underlying4 hb⟩

theorem slotsNone_holds : Rows.SlotsNoneSaid :=
  OpenClaim.holds_of_wide 5 Try.f5 rfl rfl rfl rfl rfl rfl rfl ⟨rfl, rfl, rfl, rfl, rfl⟩ rfl rfl rfl rfl rfl (by kernel_rfl) Try.func5 (by kernel_rfl)
    (of_decide_eq_true (by kernel_rfl)) (by unfold Func.isWrapper; first | (rw [if_pos (by decide +kernel)]; kernel_rfl) | (rw [if_neg (by decide +kernel)]; exact ⟨rfl, rfl⟩))
    (fun os started H enc _ => slotsNone_lifted os started H enc)

end Go.Proofs.Ytodlabpgjgbbpac
