/-
  CrcBack: bytes with their own sum behind them have always the same sum. No conditions.
-/
import Derived.Test.YtodlabpgjgbbpaaCrcAwake
import Derived.Test.YtodlabpgjgbbpaaAppend
import Derived.Test.YtodlabpgjgbbpaaLaw
import Derived.Test.YtodlabpgjgbbpaaRows
namespace Go.Proofs.Ytodlabpgjgbbpaa
open Go.RowKit Go.Agio Go.ChangeShapes Go.WideShapes Go.ChangeAt

theorem info8 : (Try.prog.info? 5).map (fun i => (i.zero, i.size, i.bytes)) = some (some (.int .u8 0), 1, 1) := by kernel_rfl

set_option maxHeartbeats 400000 in
theorem crcBack_walk (A : Option Addr) (cap : Nat) (zs : List Int) (w : World) (hR : Reads w A (zs.map (Value.int .u8))) (hz : ∀ z ∈ zs, 0 ≤ z ∧ z ≤ 255) (hm : zs.length ≤ 140737488351232) :
    Calls Try.prog 7 #[.slice A zs.length cap] w fun e w' => e = .returned (.bool true) ∧ Below w.heap.size w w' := by
  obtain ⟨i0, hi, hz0, hz1, hz2⟩ := info_parts info8
  obtain ⟨s, hs⟩ : ∃ s, s = Crc.more 0 (zs.map Crc.bv) := ⟨_, rfl⟩
  have C1 : Hid (∀ W, Below w.heap.size w W → Calls Try.prog 10 #[.slice A zs.length cap] W fun e w' => e = .returned (.int .u32 (Crc.nm s)) ∧ Below w.heap.size w w') :=
    hide fun W hb => by rw [hs]; exact sum_at A cap _ _ W rfl hR hb hz (by omega)
  have Hs := hide hs
  have HR := hide hR
  have Hz := hide hz
  have hb := Crc.nm_lt s
  clear hs hR hz
  go_enter Try.func7, Try.ntmps7
  go_wp2_with fail
  refine (awake_any _).mono ?_
  rintro e w1 ⟨rfl, hb1⟩
  go_wp2_with fail
  refine (C1.out _ hb1).mono ?_
  rintro e w2 ⟨rfl, hb2⟩
  go_wp2_with (first
    | (at_builtin; refine wpList_append_reads rfl (.tmp 9) (.tmp 10) 23 rfl w2.heap.size 5 i0 (.int .u8 0) 1 Try.underlying23 hi hz0 hz1 hz2 rfl _ 0 [] rfl (own_new w2 _ _ [] 0 (Nat.le_refl _) rfl (by unfold maxLen; omega)) A zs.length cap (zs.map (Value.int .u8)) rfl ((HR.out.below hb2).alloc _) (by simp) (ints_one _ _) (by unfold maxLen; omega) (by omega) (by simp) ?_; intro A1 c1 w3 hown1 hgrow1 hat1; simp only [Nat.zero_add, List.nil_append] at hown1 hat1)
    | (at_builtin; refine wpList_append_reads rfl (.tmp 11) (.tmp 23) 23 rfl w2.heap.size 5 i0 (.int .u8 0) 1 Try.underlying23 hi hz0 hz1 hz2 rfl _ zs.length (zs.map (Value.int .u8)) rfl (hown1.alloc _) (some ⟨w3.heap.size, 0, none⟩) 4 4 ([Crc.nm s % 256, Crc.nm s / 256 % 256, Crc.nm s / 65536 % 256, Crc.nm s / 16777216].map (Value.int .u8)) rfl (Reads.new w3 _ _ _) rfl (ints_one _ _) (by unfold maxLen; omega) (by omega) (by have := hgrow1.size; simp at this; simp; omega) ?_; intro A2 c2 w4 hown2 hgrow2 hat2))
  have hb4 : Below w.heap.size w w4 := (((hb2.alloc hb2.size _).grown hgrow1 (by have := hb2.size; simp; omega) (fun k h => by cases h; exact hb2.size)).alloc (by have := hgrow1.size; have := hb2.size; simp at *; omega) _).grown hgrow2 (by have := hgrow1.size; have := hb2.size; simp at *; omega) (fun k h => by have := (hown1.lt k h).1; have := hb2.size; omega)
  have hR4 := Reads.of_own hown2
  rw [← List.map_append] at hR4
  refine (sum_at A2 c2 _ (zs ++ Crc.fourOf s) w4 (by simp [Crc.fourOf]) hR4 (Below.refl _ _) (fun z hz => (List.mem_append.1 hz).elim (Hz.out z) (Crc.fourOf_ok s z)) (by simp [Crc.fourOf]; omega)).mono ?_
  rintro e w5 ⟨rfl, hb5⟩
  have hfin := Crc.back_four (zs.map Crc.bv)
  rw [← Hs.out, ← List.map_append] at hfin
  rw [hfin]
  clear hfin
  go_wp2
  go_ret
  exact ⟨rfl, below_next hb4 hb5⟩

set_option maxRecDepth 100000 in
theorem crcBack_lifted (os : Os) (started : os.Started) (H : Type) (enc : TypeId × Value → H) :
    ReturnsInHanded {} Try.checked os 7 .any (Rows.crcBackSpec.pre6 enc Try.prog Try.f7 Rows.crcBackRow.domain false) (Rows.crcBackSpec.post enc Try.prog Try.f7 false true false false) := by
  refine returnsInHanded_of_change_sized (C := Try.checked) (by kernel_rfl) started (by kernel_rfl) Try.func7
    (ChangeSpec.witness6 (enc := enc) (C := Try.checked) false ⟨#[], #[.slice none 0 0], []⟩ 8 (by kernel_rfl) (by kernel_rfl) (by kernel_rfl) (by kernel_rfl)) ?_
  intro W base args ds gs before hval0 hW _ hsz0 _
  have hval : ∀ (j : Nat) t v, Try.f7.params[j]? = some t → args[j]? = some v → Value.okWide Try.prog W .any base t v := hval0
  have hW' := hW
  obtain ⟨p, q, hA0, hV, rfl, _, _⟩ := hW
  have hA : DataW.TrodAll enc Try.prog W 0 (fun _ => true) true Try.f7.params.toList args.toList ds p := hA0
  have hsz : (DataW.weightsEach Try.prog (Try.f7.params.toList ++ Rows.crcBackSpec.plain.varTypes Try.prog) (ds ++ gs)).all (· ≤ reachBytes) = true := hsz0
  rw [Try.params7] at hA hval hsz
  obtain ⟨v0, d0, rfl, rfl, h0⟩ := trodAll_one hA
  obtain ⟨A0, cap0, z0, rfl, hcap0, hm0, hR0, hwf0, hn0⟩ := open_nums Try.underlying23 Try.underlying5 (by kernel_rfl) (hval 0 23 v0 rfl rfl) h0
  have hreach0 := reach_nums (m := 1) hsz (j := 0) (t := 23) rfl rfl Try.underlying23 hn0 (by kernel_rfl)
  have bd0 := fun z hz => bounds_u8 (hwf0 z hz)
  refine (crcBack_walk _ _ _ _ hR0 bd0 (by omega)).mono fun e W' ⟨he, hb⟩ => ?_
  subst he
  exact ⟨_, rfl, post_law (by kernel_rfl) (by kernel_rfl) rfl hW' (by rintro _ rfl; rfl) rfl Try.underlying4 hb⟩

theorem crcBack_holds : Rows.CrcBackSaid :=
  OpenClaim.holds_of_wide 7 Try.f7 rfl rfl rfl rfl rfl rfl rfl ⟨rfl, rfl, rfl, rfl, rfl⟩ rfl rfl rfl rfl rfl (by kernel_rfl) Try.func7 (by kernel_rfl)
    (of_decide_eq_true (by kernel_rfl)) (by unfold Func.isWrapper; first | (rw [if_pos (by decide +kernel)]; kernel_rfl) | (rw [if_neg (by decide +kernel)]; exact ⟨rfl, rfl⟩))
    (fun os started H enc _ => crcBack_lifted os started H enc)

end Go.Proofs.Ytodlabpgjgbbpaa
