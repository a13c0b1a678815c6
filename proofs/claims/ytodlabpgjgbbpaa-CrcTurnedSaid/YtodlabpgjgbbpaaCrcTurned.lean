/-
  CrcTurned: bytes of which bits within 32, one behind the other, are turned have another sum. No conditions.
-/
import Derived.Test.YtodlabpgjgbbpaaCrcAwake
import Derived.Test.YtodlabpgjgbbpaaAppend
import Derived.Test.YtodlabpgjgbbpaaLaw
import Derived.Test.YtodlabpgjgbbpaaRows
import Derived.RegionTactic
import Derived.ChangeAlike
namespace Go.Proofs.Ytodlabpgjgbbpaa
open Go.RowKit Go.Agio Go.ChangeShapes Go.WideShapes Go.ChangeAt

theorem infoT : (Try.prog.info? 5).map (fun i => (i.zero, i.size, i.bytes)) = some (some (.int .u8 0), 1, 1) := by kernel_rfl

theorem xor8t {a b : Int} (ha : 0 ≤ a ∧ a ≤ 255) (hb : 0 ≤ b ∧ b ≤ 255) : (0 ≤ bits .xor .u8 a b ∧ bits .xor .u8 a b ≤ 255) ∧ Crc.bv (bits .xor .u8 a b) = Crc.bv a ^^^ Crc.bv b := by
  rw [u8_xor a b ha.1 (by omega) hb.1 (by omega)]
  obtain ⟨A, rfl⟩ := Int.eq_ofNat_of_zero_le ha.1
  obtain ⟨B, rfl⟩ := Int.eq_ofNat_of_zero_le hb.1
  have h : A ^^^ B < 2 ^ 8 := Nat.xor_lt_two_pow (by omega) (by omega)
  simp only [Int.toNat_natCast]
  refine ⟨by omega, ?_⟩
  unfold Crc.bv
  simp only [BitVec.ofInt_natCast]
  apply BitVec.eq_of_toNat_eq
  rw [BitVec.toNat_xor, BitVec.toNat_ofNat, BitVec.toNat_ofNat, BitVec.toNat_ofNat, Nat.mod_eq_of_lt (by omega), Nat.mod_eq_of_lt (by omega), Nat.mod_eq_of_lt (by omega)]

/-- One bit turned. -/
def turn (T : List Int) (p : Nat) : List Int := T.set (p / 8) (bits .xor .u8 (T.getD (p / 8) 0) (2 ^ (p % 8) % 256))
/-- The first k bits of a mask, turned from a place on. -/
def turns (zs : List Int) (f : Nat) (m : BitVec 32) : Nat → List Int
  | 0 => zs
  | k + 1 => if m.getLsbD k then turn (turns zs f m k) (f + k) else turns zs f m k
/-- Is there one among them? -/
def some_ (m : BitVec 32) : Nat → Bool
  | 0 => false
  | k + 1 => m.getLsbD k || some_ m k
/-- A bit of a row. -/
def bitOf (T : List Int) (p : Nat) : Bool := ((T.map Crc.bv).getD (p / 8) 0).getLsbD (p % 8)

theorem bit_at (m : BitVec 32) (k : Nat) : (Crc.nm m / 2 ^ k).tmod 2 = if m.getLsbD k then 1 else 0 := by
  have h : Crc.nm m / 2 ^ k = Crc.nm (m >>> k) := Crc.shr_nm m k _ (by rw [Int.natCast_pow]; rfl)
  have hb := Crc.nm_lt (m >>> k)
  rw [h, Int.tmod_eq_emod_of_nonneg hb.1, Crc.odd_nm, BitVec.getLsbD_ushiftRight]
  rfl

theorem turns_length (zs : List Int) (f : Nat) (m : BitVec 32) : ∀ k, (turns zs f m k).length = zs.length
  | 0 => rfl
  | k + 1 => by
    unfold turns
    split
    · unfold turn; rw [List.length_set, turns_length zs f m k]
    · exact turns_length zs f m k

theorem pow8 (r : Nat) (hr : r < 8) : (0 ≤ (2 ^ r % 256 : Int) ∧ (2 ^ r % 256 : Int) ≤ 255) ∧ ∀ s < 8, (Crc.bv (2 ^ r % 256)).getLsbD s = decide (s = r) := by
  have h : ∀ r < 8, (0 ≤ (2 ^ r % 256 : Int) ∧ (2 ^ r % 256 : Int) ≤ 255) ∧ ∀ s < 8, (Crc.bv (2 ^ r % 256)).getLsbD s = decide (s = r) := by decide
  exact h r hr

theorem turns_ok {zs : List Int} {f : Nat} {m : BitVec 32} (hz : ∀ z ∈ zs, 0 ≤ z ∧ z ≤ 255) : ∀ k, ∀ z ∈ turns zs f m k, 0 ≤ z ∧ z ≤ 255
  | 0 => hz
  | k + 1 => by
    have ih := turns_ok (f := f) (m := m) hz k
    unfold turns
    split
    · unfold turn
      intro z hzm
      rcases List.mem_or_eq_of_mem_set hzm with h | h
      · exact ih z h
      · subst h
        refine (xor8t ?_ (pow8 _ (Nat.mod_lt _ (by omega))).1).1
        by_cases hl : (f + k) / 8 < (turns zs f m k).length
        · rw [List.getD_eq_getElem?_getD, List.getElem?_eq_getElem hl]
          exact ih _ (List.getElem_mem hl)
        · rw [List.getD_eq_getElem?_getD, List.getElem?_eq_none (by omega)]
          decide
    · exact ih

theorem turn_bit {T : List Int} {q : Nat} (hT : ∀ z ∈ T, 0 ≤ z ∧ z ≤ 255) (hq : q / 8 < T.length) (p : Nat) : bitOf (turn T q) p = (bitOf T p ^^ decide (p = q)) := by
  unfold bitOf turn
  have hx : T.getD (q / 8) 0 = T[q / 8] := by simp [List.getD_eq_getElem?_getD, hq]
  by_cases hpq : p / 8 = q / 8
  · have e1 : ((T.set (q / 8) (bits .xor .u8 (T.getD (q / 8) 0) (2 ^ (q % 8) % 256))).map Crc.bv).getD (p / 8) 0 = Crc.bv (bits .xor .u8 (T.getD (q / 8) 0) (2 ^ (q % 8) % 256)) := by
      rw [hpq, List.getD_eq_getElem?_getD, List.getElem?_map, List.getElem?_set_self hq]; rfl
    have e2 : (T.map Crc.bv).getD (p / 8) 0 = Crc.bv (T.getD (q / 8) 0) := by
      rw [hpq, List.getD_eq_getElem?_getD, List.getElem?_map, List.getElem?_eq_getElem hq, hx]; rfl
    rw [e1, e2, (xor8t (by rw [hx]; exact hT _ (List.getElem_mem hq)) (pow8 _ (Nat.mod_lt _ (by omega))).1).2, BitVec.getLsbD_xor, (pow8 _ (Nat.mod_lt _ (by omega))).2 _ (Nat.mod_lt _ (by omega))]
    congr 1
    rw [decide_eq_decide]
    omega
  · have e1 : ((T.set (q / 8) (bits .xor .u8 (T.getD (q / 8) 0) (2 ^ (q % 8) % 256))).map Crc.bv).getD (p / 8) 0 = (T.map Crc.bv).getD (p / 8) 0 := by
      have h := congrArg (fun o : Option Int => (o.map Crc.bv).getD 0) (List.getElem?_set_ne (l := T) (i := q / 8) (j := p / 8) (a := bits .xor .u8 (T.getD (q / 8) 0) (2 ^ (q % 8) % 256)) (by omega))
      rw [List.getD_eq_getElem?_getD (l := T.map Crc.bv), List.getD_eq_getElem?_getD (l := (T.set _ _).map Crc.bv), List.getElem?_map, List.getElem?_map]
      exact h
    rw [e1]
    have : decide (p = q) = false := by rw [decide_eq_false_iff_not]; rintro rfl; exact hpq rfl
    rw [this, Bool.xor_false]

theorem turns_bit {zs : List Int} {f : Nat} {m : BitVec 32} (hz : ∀ z ∈ zs, 0 ≤ z ∧ z ≤ 255) : ∀ k, f + k ≤ 8 * zs.length → ∀ p, bitOf (turns zs f m k) p = (bitOf zs p ^^ (decide (f ≤ p ∧ p < f + k) && m.getLsbD (p - f)))
  | 0, _, p => by
    have : decide (f ≤ p ∧ p < f + 0) = false := by rw [decide_eq_false_iff_not]; omega
    rw [this]; simp [turns]
  | k + 1, hk, p => by
    have ih := turns_bit (f := f) (m := m) hz k (by omega) p
    cases hb : m.getLsbD k
    · simp only [turns, hb, Bool.false_eq_true, if_false]
      rw [ih]
      congr 1
      by_cases hp : p = f + k
      · subst hp
        rw [show f + k - f = k from by omega, hb]; simp
      · have : decide (f ≤ p ∧ p < f + k) = decide (f ≤ p ∧ p < f + (k + 1)) := by rw [decide_eq_decide]; omega
        rw [this]
    · simp only [turns, hb, if_true]
      rw [turn_bit (turns_ok hz k) (by rw [turns_length]; omega), ih, Bool.xor_assoc]
      congr 1
      by_cases hp : p = f + k
      · subst hp
        rw [show f + k - f = k from by omega, hb]
        simp
      · have h1 : decide (f ≤ p ∧ p < f + k) = decide (f ≤ p ∧ p < f + (k + 1)) := by rw [decide_eq_decide]; omega
        have h2 : decide (p = f + k) = false := by rw [decide_eq_false_iff_not]; exact hp
        rw [h1, h2, Bool.xor_false]

theorem some_bit {m : BitVec 32} : ∀ k, some_ m k = true → ∃ j, j < k ∧ m.getLsbD j = true
  | k + 1, h => by
    simp only [some_, Bool.or_eq_true] at h
    rcases h with h | h
    · exact ⟨k, by omega, h⟩
    · obtain ⟨j, hj, hb⟩ := some_bit k h
      exact ⟨j, by omega, hb⟩

/-- Bits turned within 32: another sum. -/
theorem turned_sum {zs : List Int} {f : Nat} {m : BitVec 32} (hz : ∀ z ∈ zs, 0 ≤ z ∧ z ≤ 255) {k : Nat} (hk : k ≤ 32) (hf : f + k ≤ 8 * zs.length) (hs : some_ m k = true) :
    (Crc.nm (Crc.more 0 ((turns zs f m k).map Crc.bv)) != Crc.nm (Crc.more 0 (zs.map Crc.bv))) = true := by
  rw [bne_iff_ne, ne_eq, Crc.nm_inj]
  intro he
  have hlt : ∀ {T : List Int}, (∀ z ∈ T, 0 ≤ z ∧ z ≤ 255) → ∀ c ∈ T.map Crc.bv, c.toNat < 256 := by
    intro T hT c hc
    obtain ⟨z, hzm, rfl⟩ := List.mem_map.1 hc
    have := hT z hzm
    unfold Crc.bv
    rw [BitVec.toNat_ofInt]
    omega
  have hw : Crc.word (~~~ 0) ((turns zs f m k).map Crc.bv) = Crc.word (~~~ 0) (zs.map Crc.bv) := BitVec.not_inj.1 he
  have hall := Crc.turned (by simp [turns_length]) (hlt (turns_ok hz k)) (hlt hz) _ f (fun p hp => by
    have := turns_bit (m := m) hz k hf p
    have hd : decide (f ≤ p ∧ p < f + k) = false := by rw [decide_eq_false_iff_not]; omega
    rw [hd, Bool.false_and, Bool.xor_false] at this
    exact this) hw
  obtain ⟨j, hj, hb⟩ := some_bit k hs
  have h1 := turns_bit (m := m) hz k hf (f + j)
  have hd : decide (f ≤ f + j ∧ f + j < f + k) = true := by rw [decide_eq_true_eq]; omega
  rw [hd, show f + j - f = j from by omega, hb] at h1
  have h2 : bitOf (turns zs f m k) (f + j) = bitOf zs (f + j) := hall (f + j)
  rw [h2] at h1
  revert h1
  cases bitOf zs (f + j) <;> decide

set_option maxRecDepth 100000 in
set_option maxHeartbeats 1000000 in
theorem crcTurned_walk (A : Option Addr) (cap : Nat) (zs : List Int) (a : Int) (m : BitVec 32) (f : Nat) (w : World) (hf : a % (8 * (zs.length : Int)) = (f : Int)) (hfl : f < 8 * zs.length) (ha : 0 ≤ a ∧ a ≤ 65535) (h0 : 0 < zs.length) (hm0 : (Crc.nm m == 0) = false)
    (hR : Reads w A (zs.map (Value.int .u8))) (hz : ∀ z ∈ zs, 0 ≤ z ∧ z ≤ 255) (hm : zs.length ≤ 140737488351232) :
    Calls Try.prog 5 #[.slice A zs.length cap, .int .u16 a, .int .u32 (Crc.nm m)] w fun e w' => e = .returned (.bool true) ∧ Below w.heap.size w w' := by
  obtain ⟨i0, hi, hz0, hz1, hz2⟩ := info_parts infoT
  have HR := hide hR
  have Hz := hide hz
  have HT := hide (turns_ok (f := f) (m := m) hz)
  obtain ⟨ha0, ha1⟩ := ha
  have hmb := Crc.nm_lt m
  have hl0 : ((zs.length : Int) == 0) = false := by rw [beq_eq_false_iff_ne]; omega
  clear hR hz
  go_enter Try.func5, Try.ntmps5
  go_wp2_with fail
  refine (awake_any _).mono ?_
  rintro e w1 ⟨rfl, hb1⟩
  go_wp2_with (at_builtin; apply halted)
  refine unhalt (wpList_append_reads rfl (.tmp 22) (.tmp 23) 23 rfl w1.heap.size 5 i0 (.int .u8 0) 1 Try.underlying23 hi hz0 hz1 hz2 rfl _ 0 [] rfl (own_new w1 _ _ [] 0 (Nat.le_refl _) rfl (by unfold maxLen; omega)) A zs.length cap (zs.map (Value.int .u8)) rfl ((HR.out.below hb1).alloc _) (by simp) (ints_one _ _) (by unfold maxLen; omega) (by omega) (by simp) ?_)
  intro A2 c2 w2 n2 g2 t2
  simp only [Nat.zero_add, List.nil_append] at n2 t2
  have hb2 := (hb1.alloc hb1.size _).grown g2 (by have := hb1.size; simp; omega) (fun g hg => by cases hg; exact hb1.size)
  have N2 := hide n2
  clear n2 g2 t2
  go_wp2
  simp only [hf]
  clear hf
  obtain ⟨g, rfl⟩ : ∃ g, A2 = some ⟨g, 0, none⟩ := by
    rcases N2.out.2 with ⟨_, h⟩ | ⟨g, cg, _, h, _⟩
    · omega
    · injection h with h
      exact ⟨g, h⟩
  go_loopw [10, 11] (fun v i wr => ∃ k : Nat, k ≤ 32 ∧ f + k ≤ 8 * zs.length ∧ i = .int .i64 k ∧ v = .bool (some_ m k) ∧ wr.ownsRow w1.heap.size 5 1 (.slice (some ⟨g, 0, none⟩) zs.length c2) zs.length ((turns zs f m k).map (Value.int .u8)) ∧ Below w.heap.size w wr) (fun _ i _ => 32 - (intOf i).toNat)
  case atStart => exact ⟨0, by omega, by omega, rfl, rfl, N2.out, hb2⟩
  case round =>
    obtain ⟨k, hk, hfk, rfl, rfl, hown, hbr⟩ := hrel
    have Hown := hide hown
    clear hown
    by_cases h1 : k < 32
    · by_cases h2 : f + k < 8 * zs.length
      · obtain ⟨x, hx⟩ : ∃ x, x = (turns zs f m k).getD ((f + k) / 8) 0 := ⟨_, rfl⟩
        have hc : wr.cell? ⟨g, (f + k) / 8, none⟩ = some (.int .u8 x) := by
          rw [Hown.out.cellAt _ (by omega), List.getElem?_map, List.getElem?_eq_getElem (by rw [turns_length]; omega), hx]
          simp [List.getD_eq_getElem?_getD, turns_length, (show (f + k) / 8 < zs.length by omega)]
        have hfz := Hown.out.frozenAt ((f + k) / 8)
        have Hx := hide hx
        clear hx
        cases hbit : m.getLsbD k
        · have ht := bit_at m k
          rw [hbit] at ht
          simp only [Bool.false_eq_true, if_false] at ht
          go_wp2
          go_roundw
          case rel => exact ⟨k + 1, by omega, by omega, by go_num, by simp [some_, hbit], by simpa [turns, hbit] using Hown.out, hbr⟩
          case measure => simp [intOf]; omega
        · have ht := bit_at m k
          rw [hbit] at ht
          simp only [if_true] at ht
          go_wp2
          go_region
          obtain ⟨hst, hgr⟩ := Hown.out.stored ((f + k) / 8) (.int .u8 (bits .xor .u8 x (2 ^ ((f + k) % 8) % 256)))
          have Hst := hide hst
          have Hgr := hide hgr
          clear hst hgr
          go_wp2
          go_roundw
          case rel =>
            refine ⟨k + 1, by omega, by omega, by go_num, by simp [some_, hbit], ?_, (hbr.grown Hgr.out (Nat.le_trans hb1.size (Nat.le_trans (Nat.le_of_lt (Nat.lt_of_le_of_lt (Hown.out.lt g rfl).1 (Hown.out.lt g rfl).2)) (Nat.le_refl _))) (fun j hj => by cases hj; exact Nat.le_trans hb1.size (Hown.out.lt g rfl).1)).drew⟩
            have : turns zs f m (k + 1) = (turns zs f m k).set ((f + k) / 8) (bits .xor .u8 x (2 ^ ((f + k) % 8) % 256)) := by
              rw [Hx.out]; simp only [turns, hbit, if_true, turn]
            rw [this, List.map_set]
            exact Hst.out
          case measure => simp [intOf]; omega
      · have hq := hide (fun hs : some_ m k = true => turned_sum (m := m) Hz.out hk hfk hs)
        have r2 := Reads.of_own Hown.out
        have R2 := hide r2
        clear r2
        cases hs : some_ m k
        · go_wp2
          go_ret
          exact ⟨rfl, hbr⟩
        · have hq2 := hq.out hs
          have HQ := hide hq2
          clear hq2
          go_wp2_with fail
          refine (sum_at _ c2 zs.length (turns zs f m k) _ (turns_length _ _ _ _) R2.out (Below.refl _ _) (HT.out k) (by rw [turns_length]; omega)).mono ?_
          rintro e w2 ⟨rfl, hb2⟩
          go_wp2_with fail
          refine (sum_at A cap zs.length zs _ rfl (HR.out.below hbr) hb2 Hz.out (by omega)).mono ?_
          rintro e w3 ⟨rfl, hb3⟩
          have hq2 := HQ.out
          generalize Crc.nm (Crc.more 0 ((turns zs f m k).map Crc.bv)) = s1 at hq2 ⊢
          generalize Crc.nm (Crc.more 0 (zs.map Crc.bv)) = s2 at hq2 ⊢
          go_wp2
          go_ret
          exact ⟨rfl, below_next hbr hb3⟩
    · have hq := hide (fun hs : some_ m k = true => turned_sum (m := m) Hz.out hk hfk hs)
      have r2 := Reads.of_own Hown.out
      have R2 := hide r2
      clear r2
      cases hs : some_ m k
      · go_wp2
        go_ret
        exact ⟨rfl, hbr⟩
      · have hq2 := hq.out hs
        have HQ := hide hq2
        clear hq2
        go_wp2_with fail
        refine (sum_at _ c2 zs.length (turns zs f m k) _ (turns_length _ _ _ _) R2.out (Below.refl _ _) (HT.out k) (by rw [turns_length]; omega)).mono ?_
        rintro e w2 ⟨rfl, hb2⟩
        go_wp2_with fail
        refine (sum_at A cap zs.length zs _ rfl (HR.out.below hbr) hb2 Hz.out (by omega)).mono ?_
        rintro e w3 ⟨rfl, hb3⟩
        have hq2 := HQ.out
        generalize Crc.nm (Crc.more 0 ((turns zs f m k).map Crc.bv)) = s1 at hq2 ⊢
        generalize Crc.nm (Crc.more 0 (zs.map Crc.bv)) = s2 at hq2 ⊢
        go_wp2
        go_ret
        exact ⟨rfl, below_next hbr hb3⟩

set_option maxHeartbeats 400000 in
/-- No bytes, or no mask. -/
theorem crcTurned_none (A : Option Addr) (n cap : Nat) (a m : Int) (w : World) (h : ((n : Int) == 0) = true ∨ (((n : Int) == 0) = false ∧ (m == 0) = true)) :
    Calls Try.prog 5 #[.slice A n cap, .int .u16 a, .int .u32 m] w fun e w' => e = .returned (.bool true) ∧ Below w.heap.size w w' := by
  rcases h with h1 | ⟨h1, h2⟩
  all_goals
    go_enter Try.func5, Try.ntmps5
    go_wp2_with fail
    refine (awake_any _).mono ?_
    rintro e w1 ⟨rfl, hb1⟩
    go_wp2_with fail
    go_ret
    exact ⟨rfl, hb1⟩

theorem crcTurned_walk' (A : Option Addr) (cap : Nat) (zs : List Int) (a m : Int) (w : World) (ha : 0 ≤ a ∧ a ≤ 65535) (hm : 0 ≤ m ∧ m ≤ 4294967295)
    (hR : Reads w A (zs.map (Value.int .u8))) (hz : ∀ z ∈ zs, 0 ≤ z ∧ z ≤ 255) (hn : zs.length ≤ 140737488351232) :
    Calls Try.prog 5 #[.slice A zs.length cap, .int .u16 a, .int .u32 m] w fun e w' => e = .returned (.bool true) ∧ Below w.heap.size w w' := by
  by_cases h0 : zs.length = 0
  · exact crcTurned_none A _ cap a m w (.inl (by rw [beq_iff_eq]; omega))
  · by_cases hm0 : m = 0
    · exact crcTurned_none A _ cap a m w (.inr ⟨by rw [beq_eq_false_iff_ne]; omega, by rw [beq_iff_eq]; exact hm0⟩)
    · have h1 := Int.emod_nonneg a (show (8 * (zs.length : Int)) ≠ 0 by omega)
      have h2 := Int.emod_lt_of_pos a (show (0 : Int) < 8 * (zs.length : Int) by omega)
      have h := crcTurned_walk A cap zs a (Crc.bv m) (a % (8 * (zs.length : Int))).toNat w (by omega) (by omega) ha (by omega) (by rw [Crc.nm_bv hm.1 (by omega), beq_eq_false_iff_ne]; exact hm0) hR hz hn
      rw [Crc.nm_bv hm.1 (by omega)] at h
      exact h

set_option maxRecDepth 100000 in
theorem crcTurned_lifted (os : Os) (started : os.Started) (H : Type) (enc : TypeId × Value → H) :
    ReturnsInHanded {} Try.checked os 5 .any (Rows.crcTurnedSpec.pre6 enc Try.prog Try.f5 Rows.crcTurnedRow.domain false) (Rows.crcTurnedSpec.post enc Try.prog Try.f5 false true false false) := by
  refine returnsInHanded_of_change_sized (C := Try.checked) (by kernel_rfl) started (by kernel_rfl) Try.func5
    (ChangeSpec.witness6 (enc := enc) (C := Try.checked) false ⟨#[], #[.slice none 0 0, .int .u16 0, .int .u32 0], []⟩ 8 (by kernel_rfl) (by kernel_rfl) (by kernel_rfl) (by kernel_rfl)) ?_
  intro W base args ds gs before hval0 hW _ hsz0 _
  have hval : ∀ (j : Nat) t v, Try.f5.params[j]? = some t → args[j]? = some v → Value.okWide Try.prog W .any base t v := hval0
  have hW' := hW
  obtain ⟨p, q, hA0, hV, rfl, _, _⟩ := hW
  have hA : DataW.TrodAll enc Try.prog W 0 (fun _ => true) true Try.f5.params.toList args.toList ds p := hA0
  have hsz : (DataW.weightsEach Try.prog (Try.f5.params.toList ++ Rows.crcTurnedSpec.plain.varTypes Try.prog) (ds ++ gs)).all (· ≤ reachBytes) = true := hsz0
  rw [Try.params5] at hA hval hsz
  obtain ⟨v0, v1, v2, d0, d1, d2, p0, p1, p2, rfl, rfl, rfl, h0, h1, h2⟩ := trodAll_three hA
  obtain ⟨A0, cap0, z0, rfl, hcap0, hm0, hR0, hwf0, hn0⟩ := open_nums Try.underlying23 Try.underlying5 (by kernel_rfl) (hval 0 23 v0 rfl rfl) h0
  have hreach0 := reach_nums (m := 1) hsz (j := 0) (t := 23) rfl rfl Try.underlying23 hn0 (by kernel_rfl)
  have bd0 := fun z hz => bounds_u8 (hwf0 z hz)
  obtain ⟨x1, rfl, rfl, rfl, wf1⟩ := open_int Try.underlying28 (hval 1 28 v1 rfl rfl) h1
  have bd1 := bounds_u16 wf1
  obtain ⟨x2, rfl, rfl, rfl, wf2⟩ := open_int Try.underlying22 (hval 2 22 v2 rfl rfl) h2
  have bd2 := bounds_u32 wf2
  refine (crcTurned_walk' _ _ _ _ _ _ bd1 bd2 hR0 bd0 (by omega)).mono fun e W' ⟨he, hb⟩ => ?_
  subst he
  exact ⟨_, rfl, post_law (by kernel_rfl) (by kernel_rfl) rfl hW' (by rintro _ rfl; rfl) rfl Try.underlying4 hb⟩

theorem crcTurned_holds : Rows.CrcTurnedSaid :=
  OpenClaim.holds_of_wide 5 Try.f5 rfl rfl rfl rfl rfl rfl rfl ⟨rfl, rfl, rfl, rfl, rfl⟩ rfl rfl rfl rfl rfl (by kernel_rfl) Try.func5 (by kernel_rfl)
    (of_decide_eq_true (by kernel_rfl)) (by unfold Func.isWrapper; first | (rw [if_pos (by decide +kernel)]; kernel_rfl) | (rw [if_neg (by decide +kernel)]; exact ⟨rfl, rfl⟩))
    (fun os started H enc _ => crcTurned_lifted os started H enc)

end Go.Proofs.Ytodlabpgjgbbpaa
