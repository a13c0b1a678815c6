/-
  CrcCuts: wherever bytes are cut in three, the sum goes on. No conditions.
-/
import Derived.Test.YtodlabpgjgbbpaaCrcAwake
import Derived.Test.YtodlabpgjgbbpaaLaw
import Derived.Test.YtodlabpgjgbbpaaRows
import Derived.Deep.RegionHeld3
namespace Go.Proofs.Ytodlabpgjgbbpaa
open Go.RowKit Go.Agio Go.ChangeShapes Go.WideShapes Go.ChangeAt

theorem size8 (w : World) : (sizeOf (Try.prog.elem 23)).run Try.prog w = .ok 1 w := by kernel_rfl
theorem elem8 : Try.prog.underlying 23 = some (.slice (Try.prog.elem 23)) := by kernel_rfl

/-- From the two numbers that are drawn to where the cuts lie. -/
theorem cut_at (n : Nat) (a : Int) : ∃ i : Nat, a % ((n : Int) + 1) = (i : Int) ∧ i ≤ n := by
  have h1 := Int.emod_nonneg a (show ((n : Int) + 1) ≠ 0 by omega)
  have h2 := Int.emod_lt_of_pos a (show (0 : Int) < (n : Int) + 1 by omega)
  exact ⟨(a % ((n : Int) + 1)).toNat, by omega, by omega⟩

/-- The sums of three pieces, one behind the other. -/
theorem three (zs : List Int) (i k : Nat) (hik : i ≤ k) :
    Crc.more (Crc.more (Crc.more 0 ((zs.take i).map Crc.bv)) (((zs.drop i).take (k - i)).map Crc.bv)) ((zs.drop k).map Crc.bv) = Crc.more 0 (zs.map Crc.bv) := by
  rw [Crc.more_append, Crc.more_append, ← List.map_append, ← List.map_append]
  congr 2
  have h1 : zs.take i ++ (zs.drop i).take (k - i) = zs.take k := by
    have := List.take_add (l := zs) (i := i) (j := k - i)
    rw [show i + (k - i) = k from by omega] at this
    exact this.symm
  rw [← List.append_assoc, h1, List.take_append_drop]

set_option maxHeartbeats 1000000 in
theorem crcCuts_region (A : Option Addr) (cap : Nat) (zs : List Int) (a t : Int) (i k : Nat) (w : World) (hat : (a % ((zs.length : Int) + 1) = (i : Int) ∧ t % ((zs.length : Int) + 1) = (k : Int)) ∨ (t % ((zs.length : Int) + 1) = (i : Int) ∧ a % ((zs.length : Int) + 1) = (k : Int))) (hik : i ≤ k) (hkn : k ≤ zs.length)
    (ha : 0 ≤ a ∧ a ≤ 65535) (ht : 0 ≤ t ∧ t ≤ 65535) (hcap : zs.length ≤ cap) (hR : Reads w A (zs.map (Value.int .u8))) (hz : ∀ z ∈ zs, 0 ≤ z ∧ z ≤ 255) (hm : zs.length ≤ 140737488351232) :
    Calls Try.prog 4 #[.slice A zs.length cap, .int .u16 a, .int .u16 t] w fun e w' => e = .returned (.bool true) ∧ Below w.heap.size w w' := by
  obtain ⟨ha0, ha1⟩ := ha
  obtain ⟨ht0, ht1⟩ := ht
  obtain ⟨A2, m2, k2, hm2, hk2, hs2, c2⟩ := cut_lh 23 elem8 size8 A zs.length cap i k hik hkn hcap
  obtain ⟨A3, m3, k3, hm3, hk3, hs3, c3⟩ := cut_l 23 elem8 size8 A zs.length cap k hkn hcap
  have hs1 := cut_h 23 elem8 size8 A zs.length cap i (by omega)
  have R2 := hide (c2 w _ hR (by simp))
  have R3 := hide (c3 w _ hR (by simp))
  rw [← List.map_drop] at R3
  rw [← List.map_drop, ← List.map_take] at R2
  have R1 := hide (hR.take i)
  rw [← List.map_take] at R1
  have L1 : (zs.take i).length = i := by simp; omega
  have L2 : ((zs.drop i).take m2).length = m2 := by simp; omega
  have L3 : (zs.drop k).length = m3 := by simp; omega
  have Z1 : ∀ z ∈ zs.take i, 0 ≤ z ∧ z ≤ 255 := fun z h => hz z (List.mem_of_mem_take h)
  have Z2 : ∀ z ∈ (zs.drop i).take m2, 0 ≤ z ∧ z ≤ 255 := fun z h => hz z (List.mem_of_mem_drop (List.mem_of_mem_take h))
  have Z3 : ∀ z ∈ zs.drop k, 0 ≤ z ∧ z ≤ 255 := fun z h => hz z (List.mem_of_mem_drop h)
  obtain ⟨s0, hs0⟩ : ∃ s, s = Crc.more 0 (zs.map Crc.bv) := ⟨_, rfl⟩
  obtain ⟨s1, hs1'⟩ : ∃ s, s = Crc.more 0 ((zs.take i).map Crc.bv) := ⟨_, rfl⟩
  obtain ⟨s2, hs2'⟩ : ∃ s, s = Crc.more s1 (((zs.drop i).take m2).map Crc.bv) := ⟨_, rfl⟩
  have hs3' : s0 = Crc.more s2 ((zs.drop k).map Crc.bv) := by rw [hs2', hs1', hs0, hm2]; exact (three zs i k hik).symm
  have C1 : Hid (∀ W, Below w.heap.size w W → Calls Try.prog 10 #[.slice A i cap] W fun e w' => e = .returned (.int .u32 (Crc.nm s1)) ∧ Below w.heap.size w w') :=
    hide fun W hb => by rw [hs1']; exact sum_at A cap i _ W L1 R1.out hb Z1 (by omega)
  have C2 : Hid (∀ W, Below w.heap.size w W → Calls Try.prog 12 #[.int .u32 (Crc.nm s1), .slice A2 m2 k2] W fun e w' => e = .returned (.int .u32 (Crc.nm s2)) ∧ Below w.heap.size w w') :=
    hide fun W hb => by rw [hs2']; exact more_at s1 A2 _ _ _ W L2 R2.out hb Z2 (by omega)
  have C3 : Hid (∀ W, Below w.heap.size w W → Calls Try.prog 12 #[.int .u32 (Crc.nm s2), .slice A3 m3 k3] W fun e w' => e = .returned (.int .u32 (Crc.nm s0)) ∧ Below w.heap.size w w') :=
    hide fun W hb => by rw [hs3']; exact more_at s2 A3 _ _ _ W L3 R3.out hb Z3 (by omega)
  have C4 : Hid (∀ W, Below w.heap.size w W → Calls Try.prog 10 #[.slice A zs.length cap] W fun e w' => e = .returned (.int .u32 (Crc.nm s0)) ∧ Below w.heap.size w w') :=
    hide fun W hb => by rw [hs0]; exact sum_at A cap _ _ W rfl hR hb hz (by omega)
  have C5 : Hid (∀ W, Below w.heap.size w W → Calls Try.prog 12 #[.int .u32 0, .slice A zs.length cap] W fun e w' => e = .returned (.int .u32 (Crc.nm s0)) ∧ Below w.heap.size w w') :=
    hide fun W hb => by rw [hs0]; exact more_at 0 A cap _ _ W rfl hR hb hz (by omega)
  have C6 : Hid (∀ W, Below w.heap.size w W → Calls Try.prog 12 #[.int .u32 (Crc.nm s0), .slice none 0 0] W fun e w' => e = .returned (.int .u32 (Crc.nm s0)) ∧ Below w.heap.size w w') :=
    hide fun W hb => by
      have h := more_at (w0 := w) s0 none 0 0 [] W rfl (.nil _ _) hb (by simp) (by simp)
      rw [List.map_nil, Crc.more_nil] at h
      exact h
  clear hm2 hm3 hk2 hk3 hs0 hs1' hs2' hs3' hR hz c2 c3 R1 R2 R3 L1 L2 L3 Z1 Z2 Z3
  rcases hat with ⟨hi, hk⟩ | ⟨hi, hk⟩
  all_goals rcases Nat.lt_or_eq_of_le hik with hlt | rfl
  all_goals go_enter Try.func4, Try.ntmps4
  all_goals go_wp2_with fail
  all_goals refine (awake_any _).mono ?_
  all_goals rintro e w1 ⟨rfl, hb1⟩
  all_goals go_wp2_with fail
  all_goals clear hi hk
  all_goals go_region_held3 (fun W => Below w.heap.size w W) (first | assumption | exact hb1.drew) (first
      | (go_at_call 10; (with_reducible refine (C1.out _ (by assumption)).mono ?_); rintro e w2 ⟨rfl, hb2⟩)
      | (go_at_call 10; (with_reducible refine (C4.out _ (by assumption)).mono ?_); rintro e w2 ⟨rfl, hb2⟩)
      | (go_at_call 12; (with_reducible refine (C2.out _ (by assumption)).mono ?_); rintro e w2 ⟨rfl, hb2⟩)
      | (go_at_call 12; (with_reducible refine (C3.out _ (by assumption)).mono ?_); rintro e w2 ⟨rfl, hb2⟩)
      | (go_at_call 12; (with_reducible refine (C5.out _ (by assumption)).mono ?_); rintro e w2 ⟨rfl, hb2⟩)
      | (go_at_call 12; (with_reducible refine (C6.out _ (by assumption)).mono ?_); rintro e w2 ⟨rfl, hb2⟩))
  all_goals go_wp2
  all_goals go_ret
  all_goals exact ⟨rfl, by assumption⟩

theorem crcCuts_walk (A : Option Addr) (cap : Nat) (zs : List Int) (a t : Int) (w : World) (ha : 0 ≤ a ∧ a ≤ 65535) (ht : 0 ≤ t ∧ t ≤ 65535) (hcap : zs.length ≤ cap) (hR : Reads w A (zs.map (Value.int .u8))) (hz : ∀ z ∈ zs, 0 ≤ z ∧ z ≤ 255) (hm : zs.length ≤ 140737488351232) :
    Calls Try.prog 4 #[.slice A zs.length cap, .int .u16 a, .int .u16 t] w fun e w' => e = .returned (.bool true) ∧ Below w.heap.size w w' := by
  obtain ⟨i, hi, hin⟩ := cut_at zs.length a
  obtain ⟨k, hk, hkn⟩ := cut_at zs.length t
  rcases Nat.le_total i k with h | h
  · exact crcCuts_region A cap zs a t i k w (.inl ⟨hi, hk⟩) h hkn ha ht hcap hR hz hm
  · exact crcCuts_region A cap zs a t k i w (.inr ⟨hk, hi⟩) h hin ha ht hcap hR hz hm

set_option maxRecDepth 100000 in
theorem crcCuts_lifted (os : Os) (started : os.Started) (H : Type) (enc : TypeId × Value → H) :
    ReturnsInHanded {} Try.checked os 4 .any (Rows.crcCutsSpec.pre6 enc Try.prog Try.f4 Rows.crcCutsRow.domain false) (Rows.crcCutsSpec.post enc Try.prog Try.f4 false true false false) := by
  refine returnsInHanded_of_change_sized (C := Try.checked) (by kernel_rfl) started (by kernel_rfl) Try.func4
    (ChangeSpec.witness6 (enc := enc) (C := Try.checked) false ⟨#[], #[.slice none 0 0, .int .u16 0, .int .u16 0], []⟩ 8 (by kernel_rfl) (by kernel_rfl) (by kernel_rfl) (by kernel_rfl)) ?_
  intro W base args ds gs before hval0 hW _ hsz0 _
  have hval : ∀ (j : Nat) t v, Try.f4.params[j]? = some t → args[j]? = some v → Value.okWide Try.prog W .any base t v := hval0
  have hW' := hW
  obtain ⟨p, q, hA0, hV, rfl, _, _⟩ := hW
  have hA : DataW.TrodAll enc Try.prog W 0 (fun _ => true) true Try.f4.params.toList args.toList ds p := hA0
  have hsz : (DataW.weightsEach Try.prog (Try.f4.params.toList ++ Rows.crcCutsSpec.plain.varTypes Try.prog) (ds ++ gs)).all (· ≤ reachBytes) = true := hsz0
  rw [Try.params4] at hA hval hsz
  obtain ⟨v0, v1, v2, d0, d1, d2, p0, p1, p2, rfl, rfl, rfl, h0, h1, h2⟩ := trodAll_three hA
  obtain ⟨A0, cap0, z0, rfl, hcap0, hm0, hR0, hwf0, hn0⟩ := open_nums Try.underlying23 Try.underlying5 (by kernel_rfl) (hval 0 23 v0 rfl rfl) h0
  have hreach0 := reach_nums (m := 1) hsz (j := 0) (t := 23) rfl rfl Try.underlying23 hn0 (by kernel_rfl)
  have bd0 := fun z hz => bounds_u8 (hwf0 z hz)
  obtain ⟨x1, rfl, rfl, rfl, wf1⟩ := open_int Try.underlying28 (hval 1 28 v1 rfl rfl) h1
  have bd1 := bounds_u16 wf1
  obtain ⟨x2, rfl, rfl, rfl, wf2⟩ := open_int Try.underlying28 (hval 2 28 v2 rfl rfl) h2
  have bd2 := bounds_u16 wf2
  refine (crcCuts_walk _ _ _ x1 x2 _ bd1 bd2 hcap0 hR0 bd0 (by omega)).mono fun e W' ⟨he, hb⟩ => ?_
  subst he
  exact ⟨_, rfl, post_law (by kernel_rfl) (by kernel_rfl) rfl hW' (by rintro _ rfl; rfl) rfl Try.underlying4 hb⟩

theorem crcCuts_holds : Rows.CrcCutsSaid :=
  OpenClaim.holds_of_wide 4 Try.f4 rfl rfl rfl rfl rfl rfl rfl ⟨rfl, rfl, rfl, rfl, rfl⟩ rfl rfl rfl rfl rfl (by kernel_rfl) Try.func4 (by kernel_rfl)
    (of_decide_eq_true (by kernel_rfl)) (by unfold Func.isWrapper; first | (rw [if_pos (by decide +kernel)]; kernel_rfl) | (rw [if_neg (by decide +kernel)]; exact ⟨rfl, rfl⟩))
    (fun os started H enc _ => crcCuts_lifted os started H enc)

end Go.Proofs.Ytodlabpgjgbbpaa
