/-
  CrcOnes: a byte more makes of unlike sums unlike ones, and of one sum, with unlike bytes, unlike ones. No conditions.
-/
import Derived.Test.YtodlabpgjgbbpaaCrcAwake
import Derived.Test.YtodlabpgjgbbpaaLaw
import Derived.Test.YtodlabpgjgbbpaaRows
namespace Go.Proofs.Ytodlabpgjgbbpaa
open Go.RowKit Go.Agio Go.ChangeShapes Go.WideShapes Go.ChangeAt

/-- The sum of a byte more. -/
def one (s : BitVec 32) (c : Int) : BitVec 32 := Crc.more s [Crc.bv c]
theorem one_at {w0 : World} (s : BitVec 32) (A : Option Addr) (cap : Nat) (c : Int) (w : World) (hR : Reads w A [.int .u8 c]) (hb : Below w0.heap.size w0 w) (hc : 0 ≤ c ∧ c ≤ 255) :
    Calls Try.prog 12 #[.int .u32 (Crc.nm s), .slice A 1 cap] w fun e w' => e = .returned (.int .u32 (Crc.nm (one s c))) ∧ Below w0.heap.size w0 w' :=
  (more_at s A cap 1 [c] w rfl hR (Below.refl _ _) (by simpa using hc) (by simp)).mono fun _ _ h => ⟨h.1, below_next hb h.2⟩

theorem one_left {s t : BitVec 32} {c : Int} : (Crc.nm (one s c) == Crc.nm (one t c)) = (Crc.nm s == Crc.nm t) := by
  rw [Bool.eq_iff_iff, beq_iff_eq, beq_iff_eq, Crc.nm_inj, Crc.nm_inj]
  exact Crc.more_one_left
theorem one_right {s : BitVec 32} {c d : Int} (hc : 0 ≤ c ∧ c ≤ 255) (hd : 0 ≤ d ∧ d ≤ 255) : (Crc.nm (one s c) == Crc.nm (one s d)) = (c == d) := by
  rw [Bool.eq_iff_iff, beq_iff_eq, beq_iff_eq, Crc.nm_inj]
  unfold one
  rw [Crc.more_one_right]
  constructor
  · intro h
    have := congrArg Crc.nm h
    rwa [Crc.nm_bv hc.1 (by omega), Crc.nm_bv hd.1 (by omega)] at this
  · rintro rfl; rfl

set_option maxHeartbeats 1000000 in
theorem crcOnes_walk (s t : BitVec 32) (a b : Int) (w : World) (ha : 0 ≤ a ∧ a ≤ 255) (hb : 0 ≤ b ∧ b ≤ 255) :
    Calls Try.prog 8 #[.agg #[.int .u32 (Crc.nm s), .int .u32 (Crc.nm t), .int .u8 a, .int .u8 b]] w fun e w' => e = .returned (.bool true) ∧ Below w.heap.size w w' := by
  have E1 := hide (one_left (s := s) (t := t) (c := a))
  have E2 := hide (one_right (s := s) ha hb)
  have Ha := hide ha
  have Hb := hide hb
  clear ha hb
  go_enter Try.func8, Try.ntmps8
  go_wp2_with fail
  refine (awake_any _).mono ?_
  rintro e w1 ⟨rfl, hb1⟩
  have k0 : w1.cell? ⟨w.heap.size, 0, none⟩ = some (.int .u32 (Crc.nm s)) := (hb1.cell (p := ⟨w.heap.size, 0, none⟩) (by simp)).trans (by rw [World.cell?_alloc_at _ _ _ _ rfl]; rfl)
  have k1 : w1.cell? ⟨w.heap.size, 1, none⟩ = some (.int .u32 (Crc.nm t)) := (hb1.cell (p := ⟨w.heap.size, 1, none⟩) (by simp)).trans (by rw [World.cell?_alloc_at _ _ _ _ rfl]; rfl)
  have k2 : w1.cell? ⟨w.heap.size, 2, none⟩ = some (.int .u8 a) := (hb1.cell (p := ⟨w.heap.size, 2, none⟩) (by simp)).trans (by rw [World.cell?_alloc_at _ _ _ _ rfl]; rfl)
  have k3 : w1.cell? ⟨w.heap.size, 3, none⟩ = some (.int .u8 b) := (hb1.cell (p := ⟨w.heap.size, 3, none⟩) (by simp)).trans (by rw [World.cell?_alloc_at _ _ _ _ rfl]; rfl)
  have hb1 := below_alloc (Below.refl _ w) hb1 (by simp)
  go_wp2_with fail
  refine (one_at s _ _ a _ (Reads.new w1 [.int .u8 a] _ _) (hb1.alloc hb1.size _) Ha.out).mono ?_
  rintro e w2 ⟨rfl, hb2⟩
  go_wp2_with fail
  refine (one_at t _ _ a _ (Reads.new w2 [.int .u8 a] _ _) (hb2.alloc hb2.size _) Ha.out).mono ?_
  rintro e w3 ⟨rfl, hb3⟩
  have e1 := E1.out
  go_wp2_with fail
  clear e1
  refine (one_at s _ _ a _ (Reads.new w3 [.int .u8 a] _ _) (hb3.alloc hb3.size _) Ha.out).mono ?_
  rintro e w4 ⟨rfl, hb4⟩
  go_wp2_with fail
  refine (one_at s _ _ b _ (Reads.new w4 [.int .u8 b] _ _) (hb4.alloc hb4.size _) Hb.out).mono ?_
  rintro e w5 ⟨rfl, hb5⟩
  have e2 := E2.out
  go_wp2_with fail
  go_ret
  exact ⟨rfl, hb5⟩

theorem crcOnes_walk' (x y a b : Int) (w : World) (hx : 0 ≤ x ∧ x ≤ 4294967295) (hy : 0 ≤ y ∧ y ≤ 4294967295) (ha : 0 ≤ a ∧ a ≤ 255) (hb : 0 ≤ b ∧ b ≤ 255) :
    Calls Try.prog 8 #[.agg #[.int .u32 x, .int .u32 y, .int .u8 a, .int .u8 b]] w fun e w' => e = .returned (.bool true) ∧ Below w.heap.size w w' := by
  have h := crcOnes_walk (Crc.bv x) (Crc.bv y) a b w ha hb
  rw [Crc.nm_bv hx.1 (by omega), Crc.nm_bv hy.1 (by omega)] at h
  exact h

set_option maxRecDepth 100000 in
theorem crcOnes_lifted (os : Os) (started : os.Started) (H : Type) (enc : TypeId × Value → H) :
    ReturnsInHanded {} Try.checked os 8 .any (Rows.crcOnesSpec.pre6 enc Try.prog Try.f8 Rows.crcOnesRow.domain false) (Rows.crcOnesSpec.post enc Try.prog Try.f8 false true false false) := by
  refine returnsInHanded_of_change_sized (C := Try.checked) (by kernel_rfl) started (by kernel_rfl) Try.func8
    (ChangeSpec.witness6 (enc := enc) (C := Try.checked) false ⟨#[], #[.agg #[.int .u32 0, .int .u32 0, .int .u8 0, .int .u8 0]], []⟩ 8 (by kernel_rfl) (by kernel_rfl) (by kernel_rfl) (by kernel_rfl)) ?_
  intro W base args ds gs before hval0 hW _ hsz0 _
  have hval : ∀ (j : Nat) t v, Try.f8.params[j]? = some t → args[j]? = some v → Value.okWide Try.prog W .any base t v := hval0
  have hW' := hW
  obtain ⟨p, q, hA0, hV, rfl, _, _⟩ := hW
  have hA : DataW.TrodAll enc Try.prog W 0 (fun _ => true) true Try.f8.params.toList args.toList ds p := hA0
  have _hsz : (DataW.weightsEach Try.prog (Try.f8.params.toList ++ Rows.crcOnesSpec.plain.varTypes Try.prog) (ds ++ gs)).all (· ≤ reachBytes) = true := hsz0
  rw [Try.params8] at hA hval
  obtain ⟨v0, d0, rfl, rfl, h0⟩ := trodAll_one hA
  obtain ⟨u0_0, u0_1, u0_2, u0_3, y0_0, y0_1, y0_2, y0_3, n0, rfl, rfl, rfl, hy0_0, hy0_1, hy0_2, hy0_3⟩ := Joins.open_agg4 Try.underlying37 (by kernel_rfl) (by kernel_rfl) (hval 0 37 v0 rfl rfl) h0
  obtain ⟨x0_0, e0_0, rfl, wf0_0⟩ := DataW.trod_int Try.underlying22 hy0_0
  have bd0_0 := bounds_u32 wf0_0
  simp only [List.cons.injEq, and_true] at e0_0
  subst e0_0
  obtain ⟨x0_1, e0_1, rfl, wf0_1⟩ := DataW.trod_int Try.underlying22 hy0_1
  have bd0_1 := bounds_u32 wf0_1
  simp only [List.cons.injEq, and_true] at e0_1
  subst e0_1
  obtain ⟨x0_2, e0_2, rfl, wf0_2⟩ := DataW.trod_int Try.underlying5 hy0_2
  have bd0_2 := bounds_u8 wf0_2
  simp only [List.cons.injEq, and_true] at e0_2
  subst e0_2
  obtain ⟨x0_3, e0_3, rfl, wf0_3⟩ := DataW.trod_int Try.underlying5 hy0_3
  have bd0_3 := bounds_u8 wf0_3
  simp only [List.cons.injEq, and_true] at e0_3
  subst e0_3
  refine (crcOnes_walk' _ _ _ _ _ bd0_0 bd0_1 bd0_2 bd0_3).mono fun e W' ⟨he, hb⟩ => ?_
  subst he
  exact ⟨_, rfl, post_law (by kernel_rfl) (by kernel_rfl) rfl hW' (by rintro _ rfl; rfl) rfl Try.underlying4 hb⟩

theorem crcOnes_holds : Rows.CrcOnesSaid :=
  OpenClaim.holds_of_wide 8 Try.f8 rfl rfl rfl rfl rfl rfl rfl ⟨rfl, rfl, rfl, rfl, rfl⟩ rfl rfl rfl rfl rfl (by kernel_rfl) Try.func8 (by kernel_rfl)
    (of_decide_eq_true (by kernel_rfl)) (by unfold Func.isWrapper; first | (rw [if_pos (by decide +kernel)]; kernel_rfl) | (rw [if_neg (by decide +kernel)]; exact ⟨rfl, rfl⟩))
    (fun os started H enc _ => crcOnes_lifted os started H enc)

end Go.Proofs.Ytodlabpgjgbbpaa
