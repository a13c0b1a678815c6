/-
  What the functions of the sum do, each by a contract: a byte's step (the reference's, and the program's closure), many bytes, the sum.
-/
import Derived.Test.YtodlabpgjgbbpafProg
import Derived.Test.YtodlabpgjgbbpafWords
import Derived.Test.YtodlabpgjgbbpafCrcWords
import Derived.WalkKit
import Derived.WalkSpells
import Derived.WalkLawsBesides
import Derived.Handy
namespace Go.Proofs.Ytodlabpgjgbbpaf
open Go.RowKit Go.Agio

theorem take_bv (zs : List Int) (k : Nat) (h : k < zs.length) : (zs.map Crc.bv).take (k + 1) = (zs.map Crc.bv).take k ++ [Crc.bv (zs.getD k 0)] := by
  rw [take_snoc _ (Crc.bv 0) k (by simpa using h)]
  simp [List.getD_eq_getElem?_getD, h]

set_option maxHeartbeats 400000 in
theorem add_any (B : Nat) (V : BitVec 32) (c : Int) (w : World) (h0 : 0 ≤ c) (h1 : c < 256) (hB : w.heap[B]? = some (.cells #[.int .u32 (Crc.nm V)] 40 (0, 0))) :
    Calls Try.prog 30 #[.int .u8 c, .pointer (some ⟨B, 0, none⟩)] w fun e w' => e = .returned (.tuple #[]) ∧
      w'.heap[B]? = some (.cells #[.int .u32 (Crc.nm (Crc.byte V (Crc.bv c)))] 40 (0, 0)) ∧ w.grownBy w' (some B) := by
  have cC := cell_of_one hB
  have fC := free_of_one hB
  have HB := hide hB
  clear hB
  have hx := Crc.xor_nm (Crc.nm V) c
  rw [Crc.bv_nm] at hx
  obtain ⟨U, hU⟩ : ∃ U, U = V ^^^ Crc.bv c := ⟨_, rfl⟩
  rw [← hU] at hx
  have hfin : Hid (Crc.byte V (Crc.bv c) = Crc.bits 8 U) := hide (by rw [hU]; rfl)
  clear hU
  go_enter Try.func30, Try.ntmps30
  go_wp2
  clear hx
  go_loopw [8] (fun i wr => ∃ k : Nat, k ≤ 8 ∧ i = .int .i64 k ∧ wr.heap[B]? = some (.cells #[.int .u32 (Crc.nm (Crc.bits k U))] 40 (0, 0)) ∧ w.grownBy wr (some B)) (fun i _ => 8 - (intOf i).toNat)
  case atStart => exact ⟨0, by omega, rfl, one_setCell HB.out, grownBy_setCell (World.grownBy.refl _ _) _ _⟩
  case round =>
    obtain ⟨k, hk, rfl, hBr, hgr⟩ := hrel
    have hs : Hid (Crc.bits (k + 1) U = Crc.bit (Crc.bits k U)) := hide (Crc.bits_succ k U)
    obtain ⟨x, hx⟩ : ∃ x, x = Crc.bits k U := ⟨_, rfl⟩
    rw [← hx] at hs hBr
    have Hx := hide hx
    clear hx
    have hb := Crc.nm_lt x
    have cr := cell_of_one hBr
    have fr := free_of_one hBr
    have HBr := hide hBr
    clear hBr cC fC
    by_cases hlt : k < 8
    · cases ho : x.getLsbD 0
      · have e1 := Crc.low_nm x
        rw [ho] at e1
        simp only [Bool.false_eq_true, if_false] at e1
        have e2 := Crc.bit_even ho
        clear ho
        go_wp2
        go_roundw
        case rel => exact ⟨k + 1, by omega, by go_num, by rw [hs.out]; exact one_setCell HBr.out, grownBy_setCell hgr _ _⟩
        case measure => simp [intOf]; omega
      · have e1 := Crc.low_nm x
        rw [ho] at e1
        simp only [if_true] at e1
        have e2 := Crc.bit_odd ho
        clear ho
        go_wp2
        go_roundw
        case rel => exact ⟨k + 1, by omega, by go_num, by rw [hs.out]; exact one_setCell (one_setCell HBr.out), grownBy_setCell (grownBy_setCell hgr _ _) _ _⟩
        case measure => simp [intOf]; omega
    · obtain rfl : k = 8 := by omega
      go_wp2
      go_end0
      exact ⟨rfl, by rw [hfin.out, ← Hx.out]; exact HBr.out, hgr⟩

set_option maxHeartbeats 400000 in
theorem more_any (s : BitVec 32) (A : Option Addr) (cap : Nat) (zs : List Int) (w : World) (hR : Reads w A (zs.map (Value.int .u8))) (hz : ∀ z ∈ zs, 0 ≤ z ∧ z < 256) (hm : zs.length ≤ 9223372036854775807) :
    Calls Try.prog 27 #[.int .u32 (Crc.nm s), .slice A zs.length cap] w fun e w' => e = .returned (.int .u32 (Crc.nm (Crc.more s (zs.map Crc.bv)))) ∧ Below w.heap.size w w' := by
  have hn := Crc.not_nm s
  have hR := hide hR
  have hz := hide hz
  go_enter Try.func27, Try.ntmps27
  go_wp2
  clear hn
  go_loopw [14] (fun i wr => ∃ k : Nat, k ≤ zs.length ∧ i = .int .i64 k ∧
      wr.heap[w.heap.size]? = some (.cells #[.int .u32 (Crc.nm (Crc.word (~~~ s) ((zs.map Crc.bv).take k)))] 40 (0, 0)) ∧ Below w.heap.size w wr) (fun i _ => zs.length - (intOf i).toNat)
  case atStart => exact ⟨0, Nat.zero_le _, rfl, heap_new _ _, (Below.refl _ _).alloc (Nat.le_refl _) _⟩
  case round =>
    obtain ⟨k, hk, rfl, hBr, hgr⟩ := hrel
    by_cases hlt : k < zs.length
    · obtain ⟨b, off, rfl, hb, hc⟩ := (hR.out.below hgr).at_ (k := k) (by simpa using hlt)
      have hck := hc k (by simpa using hlt)
      rw [getD_map_int _ _ hlt] at hck
      have hzk := hz.out (zs.getD k 0) (by simp [List.getD_eq_getElem?_getD, hlt])
      have hs := hide (take_bv zs k hlt)
      generalize zs.getD k 0 = c at *
      obtain ⟨hz0, hz1⟩ := hzk
      clear hc
      have Hw : Hid _ := hide hBr
      clear hBr
      go_wp2_with fail
      refine (add_any _ _ c _ hz0 hz1 Hw.out).mono ?_
      rintro e w1 ⟨rfl, hB1, hg1⟩
      have HB1 := hide hB1
      clear hB1
      go_wp2
      go_roundw
      case rel => exact ⟨k + 1, by omega, by go_num, by rw [hs.out, Crc.word_snoc]; exact HB1.out, hgr.grown hg1 hgr.size (fun j hj => by cases hj; exact Nat.le_refl _)⟩
      case measure => simp [intOf]; omega
    · obtain rfl : k = zs.length := by omega
      rw [List.take_of_length_le (by simp)] at hBr
      have cr := cell_of_one hBr
      have hn := Crc.not_nm (Crc.word (~~~ s) (zs.map Crc.bv))
      clear hBr
      go_wp2
      go_ret
      exact ⟨rfl, hgr⟩

set_option maxHeartbeats 400000 in
theorem sum_any (A : Option Addr) (cap : Nat) (zs : List Int) (w : World) (hR : Reads w A (zs.map (Value.int .u8))) (hz : ∀ z ∈ zs, 0 ≤ z ∧ z < 256) (hm : zs.length ≤ 9223372036854775807) :
    Calls Try.prog 28 #[.slice A zs.length cap] w fun e w' => e = .returned (.int .u32 (Crc.nm (Crc.more 0 (zs.map Crc.bv)))) ∧ Below w.heap.size w w' := by
  have h := more_any 0 A cap zs w hR hz hm
  rw [show Crc.nm 0 = 0 from rfl] at h
  have H := hide h
  have hR := hide hR
  have hz := hide hz
  clear h
  go_enter Try.func28, Try.ntmps28
  go_wp2_with fail
  refine H.out.mono ?_
  rintro e w1 ⟨rfl, hb⟩
  go_wp2
  go_ret
  exact ⟨rfl, hb⟩

/-- The same, at a length by name, and behind whatever has kept what was there. -/
theorem sum_at {w0 : World} (A : Option Addr) (cap n : Nat) (zs : List Int) (w : World) (hn : zs.length = n) (hR : Reads w0 A (zs.map (Value.int .u8))) (hb : Below w0.heap.size w0 w) (hz : ∀ z ∈ zs, 0 ≤ z ∧ z ≤ 255) (hm : zs.length ≤ 4611686018427387904) :
    Calls Try.prog 28 #[.slice A n cap] w fun e w' => e = .returned (.int .u32 (Crc.nm (Crc.more 0 (zs.map Crc.bv)))) ∧ Below w0.heap.size w0 w' := by
  subst hn
  exact (sum_any A cap zs w (hR.below hb) (fun z hzm => by have := hz z hzm; omega) (by omega)).mono fun _ _ h => ⟨h.1, below_next hb h.2⟩
theorem more_at {w0 : World} (s : BitVec 32) (A : Option Addr) (cap n : Nat) (zs : List Int) (w : World) (hn : zs.length = n) (hR : Reads w0 A (zs.map (Value.int .u8))) (hb : Below w0.heap.size w0 w) (hz : ∀ z ∈ zs, 0 ≤ z ∧ z ≤ 255) (hm : zs.length ≤ 4611686018427387904) :
    Calls Try.prog 27 #[.int .u32 (Crc.nm s), .slice A n cap] w fun e w' => e = .returned (.int .u32 (Crc.nm (Crc.more s (zs.map Crc.bv)))) ∧ Below w0.heap.size w0 w' := by
  subst hn
  exact (more_any s A cap zs w (hR.below hb) (fun z hzm => by have := hz z hzm; omega) (by omega)).mono fun _ _ h => ⟨h.1, below_next hb h.2⟩

end Go.Proofs.Ytodlabpgjgbbpaf
