/-
  SlotsApart: of the slots of a site the next one lies as many behind one as there are sites; none of it is between. No conditions.
-/
import Derived.Test.YtodlabpgjgbbpacSlotsMore
import Derived.Test.YtodlabpgjgbbpacSlotsAwake
import Derived.Test.YtodlabpgjgbbpacLaw
import Derived.Test.YtodlabpgjgbbpacRows
namespace Go.Proofs.Ytodlabpgjgbbpac
open Go.RowKit Go.Agio Go.ChangeShapes Go.WideShapes Go.ChangeAt

attribute [local irreducible] Slt.own Slt.next Slt.total

set_option maxRecDepth 100000 in
set_option maxHeartbeats 4000000 in
theorem slotsApart_walk (n x y s f : Int) (j : Nat) (w : World) (hn0 : 0 ≤ n) (hn1 : n ≤ 255) (hx0 : 0 ≤ x) (hx1 : x ≤ 255) (hy0 : 0 ≤ y) (hy1 : y ≤ 65535) (hj : n % 64 = (j : Int))
    (hs : x % (1 + (j : Int)) = s) (hs0 : 0 ≤ s) (hs1 : s < 1 + (j : Int)) (hf : y % 4096 = f) (hf0 : 0 ≤ f) (hf1 : f ≤ 4095) :
    Calls Try.prog 4 #[.int .u8 n, .int .u8 x, .int .u16 y] w fun e w' => e = .returned (.bool true) ∧ Below w.heap.size w w' := by
  have HK : Hid (1 ≤ 1 + (j : Int) ∧ 1 + (j : Int) ≤ 64) := hide (by omega)
  obtain ⟨A, hA⟩ : ∃ A, A = Slt.next s f (1 + (j : Int)) := ⟨_, rfl⟩
  obtain ⟨B, hB⟩ : ∃ B, B = Slt.next s (A + 1) (1 + (j : Int)) := ⟨_, rfl⟩
  have CA : Hid (∀ w, Calls Try.prog 12 #[.int .i64 s, .int .i64 f, .int .i64 (1 + (j : Int))] w fun e w' => e = .returned (.int .i64 A) ∧ w = w') := hide (fun w => by rw [hA]; exact next_any _ _ _ w)
  have CB : Hid (∀ w, Calls Try.prog 12 #[.int .i64 s, .int .i64 (A + 1), .int .i64 (1 + (j : Int))] w fun e w' => e = .returned (.int .i64 B) ∧ w = w') := hide (fun w => by rw [hB]; exact next_any _ _ _ w)
  have hlaw := Slt.apart_law HK.out hs0 hs1 hf0 hf1
  rw [← hA, ← hB] at hlaw
  clear hA hB
  rcases hlaw with ⟨hA1, hA2⟩ | ⟨a0, a1, a2, a3, a4, a5, a6⟩
  · have hA3 : A < 0 := by omega
    clear hA1
    go_enter Try.func4, Try.ntmps4
    go_wp2_with fail
    refine (awake_any _).mono ?_
    rintro e w1 ⟨rfl, hb1⟩
    go_wp2_with fail
    refine (CA.out _).mono ?_
    rintro e w2 ⟨rfl, rfl⟩
    go_wp2
    go_ret
    exact ⟨rfl, hb1⟩
  · have CO : Hid (∀ w, Calls Try.prog 11 #[.int .i64 A, .int .i64 (1 + (j : Int))] w fun e w' => e = .returned (.int .i64 s) ∧ w = w') := hide (fun w => by have := owner_any A (1 + (j : Int)) w; rwa [a4] at this)
    have CC : Hid (∀ w, Calls Try.prog 10 #[.int .i64 s, .int .i64 (A + 1), .int .i64 (A + (1 + (j : Int))), .int .i64 (1 + (j : Int))] w fun e w' => e = .returned (.int .i64 0) ∧ Below w.heap.size w w') := hide (fun w => by have := count_any s (A + 1) (A + (1 + (j : Int))) (1 + (j : Int)) w; rwa [a5] at this)
    clear a4 a5
    rcases a6 with rfl | ⟨b1, b2⟩
    · go_enter Try.func4, Try.ntmps4
      go_wp2_with fail
      refine (awake_any _).mono ?_
      rintro e w1 ⟨rfl, hb1⟩
      go_wp2_with fail
      refine (CA.out _).mono ?_
      rintro e w2 ⟨rfl, rfl⟩
      go_wp2_with fail
      refine (CB.out _).mono ?_
      rintro e w2 ⟨rfl, rfl⟩
      go_wp2_with fail
      refine (CO.out _).mono ?_
      rintro e w2 ⟨rfl, rfl⟩
      go_wp2_with fail
      refine (CC.out _).mono ?_
      rintro e w2 ⟨rfl, hb2⟩
      go_wp2
      go_ret
      exact ⟨rfl, below_next hb1 hb2⟩
    · have b3 : ¬ B = A + (1 + (j : Int)) := by omega
      go_enter Try.func4, Try.ntmps4
      go_wp2_with fail
      refine (awake_any _).mono ?_
      rintro e w1 ⟨rfl, hb1⟩
      go_wp2_with fail
      refine (CA.out _).mono ?_
      rintro e w2 ⟨rfl, rfl⟩
      go_wp2_with fail
      refine (CB.out _).mono ?_
      rintro e w2 ⟨rfl, rfl⟩
      go_wp2_with fail
      refine (CO.out _).mono ?_
      rintro e w2 ⟨rfl, rfl⟩
      go_wp2_with fail
      refine (CC.out _).mono ?_
      rintro e w2 ⟨rfl, hb2⟩
      go_wp2
      go_ret
      exact ⟨rfl, below_next hb1 hb2⟩

theorem slotsApart_walk' (n x y : Int) (w : World) (hn : 0 ≤ n ∧ n ≤ 255) (hx : 0 ≤ x ∧ x ≤ 255) (hy : 0 ≤ y ∧ y ≤ 65535) :
    Calls Try.prog 4 #[.int .u8 n, .int .u8 x, .int .u16 y] w fun e w' => e = .returned (.bool true) ∧ Below w.heap.size w w' :=
  slotsApart_walk n x y (x % (1 + ((n % 64).toNat : Int))) (y % 4096) (n % 64).toNat w hn.1 hn.2 hx.1 hx.2 hy.1 hy.2 (by omega) rfl (Int.emod_nonneg _ (by omega)) (Int.emod_lt_of_pos _ (by omega)) rfl (by omega) (by omega)

set_option maxRecDepth 100000 in
theorem slotsApart_lifted (os : Os) (started : os.Started) (H : Type) (enc : TypeId × Value → H) :
    ReturnsInHanded {} Try.checked os 4 .any (Rows.slotsApartSpec.pre6 enc Try.prog Try.f4 Rows.slotsApartRow.domain false) (Rows.slotsApartSpec.post enc Try.prog Try.f4 false true false false) := by
  refine returnsInHanded_of_change_sized (C := Try.checked) (by kernel_rfl) started (by kernel_rfl) Try.func4
    (ChangeSpec.witness6 (enc := enc) (C := Try.checked) false ⟨#[], #[.int .u8 0, .int .u8 0, .int .u16 0], []⟩ 8 (by kernel_rfl) (by kernel_rfl) (by kernel_rfl) (by kernel_rfl)) ?_
  intro W base args ds gs before hval0 hW _ hsz0 _
  have hval : ∀ (j : Nat) t v, Try.f4.params[j]? = some t → args[j]? = some v → Value.okWide Try.prog W .any base t v := hval0
  have hW' := hW
  obtain ⟨p, q, hA0, hV, rfl, _, _⟩ := hW
  have hA : DataW.TrodAll enc Try.prog W 0 (fun _ => true) true Try.f4.params.toList args.toList ds p := hA0
  have _hsz : (DataW.weightsEach Try.prog (Try.f4.params.toList ++ Rows.slotsApartSpec.plain.varTypes Try.prog) (ds ++ gs)).all (· ≤ reachBytes) = true := hsz0
  rw [Try.params4] at hA hval
  obtain ⟨v0, v1, v2, d0, d1, d2, p0, p1, p2, rfl, rfl, rfl, h0, h1, h2⟩ := trodAll_three hA
  obtain ⟨x0, rfl, rfl, rfl, wf0⟩ := open_int Try.underlying5 (hval 0 5 v0 rfl rfl) h0
  have bd0 := bounds_u8 wf0
  obtain ⟨x1, rfl, rfl, rfl, wf1⟩ := open_int Try.underlying5 (hval 1 5 v1 rfl rfl) h1
  have bd1 := bounds_u8 wf1
  obtain ⟨x2, rfl, rfl, rfl, wf2⟩ := open_int Try.underlying22 (hval 2 22 v2 rfl rfl) h2
  have bd2 := bounds_u16 wf2
  refine (slotsApart_walk' _ _ _ _ bd0 bd1 bd2).mono fun e W' ⟨he, hb⟩ => ?_
  subst he
  exact ⟨_, rfl, post_law (by kernel_rfl) (by kernel_rfl) rfl hW' (by rintro _ rfl; rfl) rfl Try.underlying4 hb⟩

theorem slotsApart_holds : Rows.SlotsApartSaid :=
  OpenClaim.holds_of_wide 4 Try.f4 rfl rfl rfl rfl rfl rfl rfl ⟨rfl, rfl, rfl, rfl, rfl⟩ rfl rfl rfl rfl rfl (by kernel_rfl) Try.func4 (by kernel_rfl)
    (of_decide_eq_true (by kernel_rfl)) (by unfold Func.isWrapper; first | (rw [if_pos (by decide +kernel)]; kernel_rfl) | (rw [if_neg (by decide +kernel)]; exact ⟨rfl, rfl⟩))
    (fun os started H enc _ => slotsApart_lifted os started H enc)

end Go.Proofs.Ytodlabpgjgbbpac
