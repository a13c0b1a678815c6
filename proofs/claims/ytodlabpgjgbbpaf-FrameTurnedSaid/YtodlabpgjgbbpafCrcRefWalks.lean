/-
  What the reference's functions of the sum do, each by a contract.
-/
import Derived.Test.YtodlabpgjgbbpafProg
import Derived.Test.YtodlabpgjgbbpafWords
import Derived.Test.YtodlabpgjgbbpafCrcWords
import Derived.Test.YtodlabpgjgbbpafCrcWalks
import Derived.WalkKit
import Derived.WalkSpells
import Derived.WalkLawsBesides
import Derived.Handy
namespace Go.Proofs.Ytodlabpgjgbbpaf
open Go.RowKit Go.Agio

set_option maxHeartbeats 400000 in
theorem step_any (W : BitVec 32) (c : Int) (w : World) (h0 : 0 ≤ c) (h1 : c < 256) :
    Calls Try.prog 29 #[.int .u32 (Crc.nm W), .int .u8 c] w fun e w' => e = .returned (.int .u32 (Crc.nm (Crc.byte W (Crc.bv c)))) ∧ w = w' := by
  have hx := Crc.xor_nm (Crc.nm W) c
  rw [Crc.bv_nm] at hx
  obtain ⟨V, hV⟩ : ∃ V, V = W ^^^ Crc.bv c := ⟨_, rfl⟩
  rw [← hV] at hx
  have hfin : Hid (Crc.byte W (Crc.bv c) = Crc.bits 8 V) := hide (by rw [hV]; rfl)
  clear hV
  go_enter Try.func29, Try.ntmps29
  go_wp2
  clear hx
  go_loop [0, 5] (fun v i => ∃ k : Nat, k ≤ 8 ∧ i = .int .i64 k ∧ v = .int .u32 (Crc.nm (Crc.bits k V))) (fun _ i => 8 - (intOf i).toNat)
  case atStart => exact ⟨0, by omega, rfl, rfl⟩
  case round =>
    obtain ⟨k, hk, rfl, rfl⟩ := hrel
    have hs : Hid (Crc.bits (k + 1) V = Crc.bit (Crc.bits k V)) := hide (Crc.bits_succ k V)
    obtain ⟨x, hx⟩ : ∃ x, x = Crc.bits k V := ⟨_, rfl⟩
    rw [← hx] at hs ⊢
    have Hx := hide hx
    clear hx
    have hb := Crc.nm_lt x
    by_cases hlt : k < 8
    · cases ho : x.getLsbD 0
      · have e1 := Crc.odd_nm x
        rw [ho] at e1
        simp only [Bool.false_eq_true, if_false] at e1
        have e2 := hide (Crc.bit_even ho)
        clear ho
        go_wp2
        go_round
        case rel => exact ⟨k + 1, by omega, by go_num, by rw [hs.out, ← e2.out]⟩
        case measure => simp [intOf]; omega
      · have e1 := Crc.odd_nm x
        rw [ho] at e1
        simp only [if_true] at e1
        have e2 := Crc.bit_odd ho
        clear ho
        go_wp2
        go_round
        case rel => exact ⟨k + 1, by omega, by go_num, by rw [hs.out]⟩
        case measure => simp [intOf]; omega
    · obtain rfl : k = 8 := by omega
      go_wp2
      go_ret
      exact ⟨by rw [hfin.out, ← Hx.out]; rfl, rfl⟩

set_option maxHeartbeats 400000 in
theorem rmore_any (s : BitVec 32) (A : Option Addr) (cap : Nat) (zs : List Int) (w : World) (hR : Reads w A (zs.map (Value.int .u8))) (hz : ∀ z ∈ zs, 0 ≤ z ∧ z < 256) (hm : zs.length ≤ 9223372036854775807) :
    Calls Try.prog 22 #[.int .u32 (Crc.nm s), .slice A zs.length cap] w fun e w' => e = .returned (.int .u32 (Crc.nm (Crc.more s (zs.map Crc.bv)))) ∧ w = w' := by
  have hn := Crc.flip_nm s
  have hR := hide hR
  have hz := hide hz
  go_enter Try.func22, Try.ntmps22
  go_wp2
  clear hn
  go_loop [5, 6] (fun v i => ∃ k : Nat, k ≤ zs.length ∧ i = .int .i64 k ∧ v = .int .u32 (Crc.nm (Crc.word (~~~ s) ((zs.map Crc.bv).take k)))) (fun _ i => zs.length - (intOf i).toNat)
  case atStart => exact ⟨0, Nat.zero_le _, rfl, rfl⟩
  case round =>
    obtain ⟨k, hk, rfl, rfl⟩ := hrel
    by_cases hlt : k < zs.length
    · obtain ⟨b, off, rfl, hb, hc⟩ := hR.out.at_ (k := k) (by simpa using hlt)
      have hck := hc k (by simpa using hlt)
      rw [getD_map_int _ _ hlt] at hck
      have hzk := hz.out (zs.getD k 0) (by simp [List.getD_eq_getElem?_getD, hlt])
      have hs := hide (take_bv zs k hlt)
      generalize zs.getD k 0 = c at *
      obtain ⟨hz0, hz1⟩ := hzk
      clear hc
      go_wp2_with fail
      refine (step_any _ c _ hz0 hz1).mono ?_
      rintro e w1 ⟨rfl, rfl⟩
      go_wp2
      go_round
      case rel => exact ⟨k + 1, by omega, by go_num, by rw [hs.out, Crc.word_snoc]⟩
      case measure => simp [intOf]; omega
    · obtain rfl : k = zs.length := by omega
      rw [List.take_of_length_le (by simp)]
      have hn := Crc.flip_nm (Crc.word (~~~ s) (zs.map Crc.bv))
      go_wp2
      go_ret
      exact ⟨rfl, rfl⟩

set_option maxHeartbeats 400000 in
theorem rsum_any (A : Option Addr) (cap : Nat) (zs : List Int) (w : World) (hR : Reads w A (zs.map (Value.int .u8))) (hz : ∀ z ∈ zs, 0 ≤ z ∧ z < 256) (hm : zs.length ≤ 9223372036854775807) :
    Calls Try.prog 23 #[.slice A zs.length cap] w fun e w' => e = .returned (.int .u32 (Crc.nm (Crc.more 0 (zs.map Crc.bv)))) ∧ w = w' := by
  have h := rmore_any 0 A cap zs w hR hz hm
  rw [show Crc.nm 0 = 0 from rfl] at h
  have H := hide h
  have hR := hide hR
  have hz := hide hz
  clear h
  go_enter Try.func23, Try.ntmps23
  go_wp2_with fail
  refine H.out.mono ?_
  rintro e w1 ⟨rfl, rfl⟩
  go_wp2
  go_ret
  exact ⟨rfl, rfl⟩

end Go.Proofs.Ytodlabpgjgbbpaf
