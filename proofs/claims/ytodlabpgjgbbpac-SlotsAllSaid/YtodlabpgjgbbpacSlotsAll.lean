/-
  SlotsAll: each slot between two is of just one site; all sites' together are as many as there are. No conditions.
-/
import Derived.Test.YtodlabpgjgbbpacSlotsAwake
import Derived.Test.YtodlabpgjgbbpacLaw
import Derived.Test.YtodlabpgjgbbpacRows
namespace Go.Proofs.Ytodlabpgjgbbpac
open Go.RowKit Go.Agio Go.ChangeShapes Go.WideShapes Go.ChangeAt

attribute [local irreducible] Slt.own Slt.next Slt.total

set_option maxRecDepth 100000 in
set_option maxHeartbeats 4000000 in
theorem slotsAll_walk (n x y : Int) (j a d : Nat) (w : World) (hn : 0 ≤ n ∧ n ≤ 255) (hx : 0 ≤ x ∧ x ≤ 65535) (hy : 0 ≤ y ∧ y ≤ 65535) (hj : n % 64 = (j : Int)) (hj1 : j ≤ 63)
    (ha : (if x ≤ y then x else y) % 4097 = (a : Int)) (ha1 : a ≤ 4096) (hd : (if x ≤ y then y else x) % 200 = (d : Int)) (hd1 : d ≤ 199) :
    Calls Try.prog 3 #[.int .u8 n, .int .u16 x, .int .u16 y] w fun e w' => e = .returned (.bool true) ∧ Below w.heap.size w w' := by
  obtain ⟨hn0, hn1⟩ := hn
  obtain ⟨hx0, hx1⟩ := hx
  obtain ⟨hy0, hy1⟩ := hy
  have HK : Hid (1 ≤ 1 + (j : Int) ∧ 1 + (j : Int) ≤ 64) := hide (by omega)
  rcases Int.lt_trichotomy x y with hxy | rfl | hyx
  · rw [if_pos (by omega)] at ha hd
    by_cases hE : (a : Int) + (d : Int) ≤ 4096
    · skip
      have HT : Hid (Slt.total (a : Int) ((a : Int) + (d : Int)) (1 + (j : Int)) (j + 1) = ((a : Int) + (d : Int)) - (a : Int)) := hide (by
        have := Slt.total_all (a := (a : Int)) (k := 1 + (j : Int)) HK.out (by omega) (((a : Int) + (d : Int)) - (a : Int)).toNat (by omega)
        rw [show (1 + (j : Int)).toNat = j + 1 by omega, show (a : Int) + (((((a : Int) + (d : Int)) - (a : Int)).toNat : Nat) : Int) = (a : Int) + (d : Int) by omega] at this
        rw [this]; omega)
      go_enter Try.func3, Try.ntmps3
      go_wp2_with fail
      refine (awake_any _).mono ?_
      rintro e w1 ⟨rfl, hb1⟩
      go_wp2_with fail
      simp only [ha, hd, hj]
      clear hj ha hd
      go_loopw [11, 12] (fun v i wr => ∃ p : Nat, p ≤ j + 1 ∧ i = .int .i64 p ∧ v = .int .i64 (Slt.total (a : Int) ((a : Int) + (d : Int)) (1 + (j : Int)) p) ∧ Below w.heap.size w wr) (fun _ i _ => j + 1 - (intOf i).toNat)
      case atStart => exact ⟨0, Nat.zero_le _, rfl, by rw [Slt.total_zero], hb1⟩
      case round =>
        obtain ⟨p, hp, rfl, rfl, hbr⟩ := hrel
        have hbd := Slt.total_bd (a : Int) ((a : Int) + (d : Int)) (1 + (j : Int)) p
        have hb0 := hbd.1
        have hb2 : Slt.total (a : Int) ((a : Int) + (d : Int)) (1 + (j : Int)) p ≤ 4096 * 65 := by omega
        clear hbd
        by_cases hlt : p < j + 1
        · have hol := Slt.own_len (site := (p : Int)) (lo := (a : Int)) (hi := (a : Int) + (d : Int)) (n := 1 + (j : Int))
          have HS := hide (show Slt.total (a : Int) ((a : Int) + (d : Int)) (1 + (j : Int)) (p + 1) = Slt.total (a : Int) ((a : Int) + (d : Int)) (1 + (j : Int)) p + ((Slt.own (p : Int) (a : Int) ((a : Int) + (d : Int)) (1 + (j : Int))).length : Int) from Slt.total_succ _ _ _ _)
          go_wp2_with fail
          refine (count_any _ _ _ _ _).mono ?_
          rintro e w2 ⟨rfl, hb3⟩
          go_wp2
          go_roundw
          case rel => exact ⟨p + 1, by omega, by go_num, by rw [HS.out], below_next hbr hb3⟩
          case measure => simp [intOf]; omega
        · obtain rfl : p = j + 1 := by omega
          clear hb0 hb2
          rw [HT.out, show ((j + 1 : Nat) : Int) = (j : Int) + 1 from by omega]
          go_wp2_with fail
          go_loopw [13, 14] (fun i o wr => ∃ p : Nat, a ≤ p ∧ (p : Int) ≤ (a : Int) + (d : Int) ∧ i = .int .i64 p ∧ Below w.heap.size w wr) (fun i _ _ => 5000 - (intOf i).toNat)
          case atStart => exact ⟨a, Nat.le_refl _, by omega, rfl, hbr⟩
          case round =>
            obtain ⟨p, hp, hp2, rfl, hbr2⟩ := hrel
            by_cases hlt2 : (p : Int) < (a : Int) + (d : Int)
            · obtain ⟨o, ho⟩ : ∃ o, o = Slt.owner (p : Int) (1 + (j : Int)) := ⟨_, rfl⟩
              have ho2 : o = (p : Int) % (1 + (j : Int)) := by rw [ho, Slt.owner_of (by omega) HK.out]
              have CO : Hid (∀ w, Calls Try.prog 11 #[.int .i64 (p : Int), .int .i64 (1 + (j : Int))] w fun e w' => e = .returned (.int .i64 o) ∧ w = w') := hide (fun w => by rw [ho]; exact owner_any _ _ w)
              have CN : Hid (∀ w, Calls Try.prog 12 #[.int .i64 o, .int .i64 (p : Int), .int .i64 (1 + (j : Int))] w fun e w' => e = .returned (.int .i64 (p : Int)) ∧ w = w') := hide (fun w => by
                have := next_any o (p : Int) (1 + (j : Int)) w
                rwa [ho2, Slt.next_self HK.out (by omega) (by omega), ← ho2] at this)
              have ho3 : 0 ≤ o := by rw [ho2]; exact Int.emod_nonneg _ (by omega)
              have ho4 : o < 1 + (j : Int) := by rw [ho2]; exact Int.emod_lt_of_pos _ (by omega)
              clear ho ho2
              go_wp2_with fail
              refine (CO.out _).mono ?_
              rintro e w3 ⟨rfl, rfl⟩
              go_wp2_with fail
              refine (CN.out _).mono ?_
              rintro e w3 ⟨rfl, rfl⟩
              go_wp2
              go_roundw
              case rel => exact ⟨p + 1, by omega, by omega, by go_num, hbr2⟩
              case measure => simp [intOf]; omega
            · go_wp2
              go_ret
              exact ⟨rfl, hbr2⟩
    · have hE4 : 4096 < (a : Int) + (d : Int) := by omega
      clear hE
      have HT : Hid (Slt.total (a : Int) (4096) (1 + (j : Int)) (j + 1) = (4096) - (a : Int)) := hide (by
        have := Slt.total_all (a := (a : Int)) (k := 1 + (j : Int)) HK.out (by omega) ((4096) - (a : Int)).toNat (by omega)
        rw [show (1 + (j : Int)).toNat = j + 1 by omega, show (a : Int) + ((((4096) - (a : Int)).toNat : Nat) : Int) = 4096 by omega] at this
        rw [this]; omega)
      go_enter Try.func3, Try.ntmps3
      go_wp2_with fail
      refine (awake_any _).mono ?_
      rintro e w1 ⟨rfl, hb1⟩
      go_wp2_with fail
      simp only [ha, hd, hj]
      clear hj ha hd
      go_loopw [11, 12] (fun v i wr => ∃ p : Nat, p ≤ j + 1 ∧ i = .int .i64 p ∧ v = .int .i64 (Slt.total (a : Int) (4096) (1 + (j : Int)) p) ∧ Below w.heap.size w wr) (fun _ i _ => j + 1 - (intOf i).toNat)
      case atStart => exact ⟨0, Nat.zero_le _, rfl, by rw [Slt.total_zero], hb1⟩
      case round =>
        obtain ⟨p, hp, rfl, rfl, hbr⟩ := hrel
        have hbd := Slt.total_bd (a : Int) (4096) (1 + (j : Int)) p
        have hb0 := hbd.1
        have hb2 : Slt.total (a : Int) (4096) (1 + (j : Int)) p ≤ 4096 * 65 := by omega
        clear hbd
        by_cases hlt : p < j + 1
        · have hol := Slt.own_len (site := (p : Int)) (lo := (a : Int)) (hi := 4096) (n := 1 + (j : Int))
          have HS := hide (show Slt.total (a : Int) (4096) (1 + (j : Int)) (p + 1) = Slt.total (a : Int) (4096) (1 + (j : Int)) p + ((Slt.own (p : Int) (a : Int) (4096) (1 + (j : Int))).length : Int) from Slt.total_succ _ _ _ _)
          go_wp2_with fail
          refine (count_any _ _ _ _ _).mono ?_
          rintro e w2 ⟨rfl, hb3⟩
          go_wp2
          go_roundw
          case rel => exact ⟨p + 1, by omega, by go_num, by rw [HS.out], below_next hbr hb3⟩
          case measure => simp [intOf]; omega
        · obtain rfl : p = j + 1 := by omega
          clear hb0 hb2
          rw [HT.out, show ((j + 1 : Nat) : Int) = (j : Int) + 1 from by omega]
          go_wp2_with fail
          go_loopw [13, 14] (fun i o wr => ∃ p : Nat, a ≤ p ∧ (p : Int) ≤ 4096 ∧ i = .int .i64 p ∧ Below w.heap.size w wr) (fun i _ _ => 5000 - (intOf i).toNat)
          case atStart => exact ⟨a, Nat.le_refl _, by omega, rfl, hbr⟩
          case round =>
            obtain ⟨p, hp, hp2, rfl, hbr2⟩ := hrel
            by_cases hlt2 : (p : Int) < 4096
            · obtain ⟨o, ho⟩ : ∃ o, o = Slt.owner (p : Int) (1 + (j : Int)) := ⟨_, rfl⟩
              have ho2 : o = (p : Int) % (1 + (j : Int)) := by rw [ho, Slt.owner_of (by omega) HK.out]
              have CO : Hid (∀ w, Calls Try.prog 11 #[.int .i64 (p : Int), .int .i64 (1 + (j : Int))] w fun e w' => e = .returned (.int .i64 o) ∧ w = w') := hide (fun w => by rw [ho]; exact owner_any _ _ w)
              have CN : Hid (∀ w, Calls Try.prog 12 #[.int .i64 o, .int .i64 (p : Int), .int .i64 (1 + (j : Int))] w fun e w' => e = .returned (.int .i64 (p : Int)) ∧ w = w') := hide (fun w => by
                have := next_any o (p : Int) (1 + (j : Int)) w
                rwa [ho2, Slt.next_self HK.out (by omega) (by omega), ← ho2] at this)
              have ho3 : 0 ≤ o := by rw [ho2]; exact Int.emod_nonneg _ (by omega)
              have ho4 : o < 1 + (j : Int) := by rw [ho2]; exact Int.emod_lt_of_pos _ (by omega)
              clear ho ho2
              go_wp2_with fail
              refine (CO.out _).mono ?_
              rintro e w3 ⟨rfl, rfl⟩
              go_wp2_with fail
              refine (CN.out _).mono ?_
              rintro e w3 ⟨rfl, rfl⟩
              go_wp2
              go_roundw
              case rel => exact ⟨p + 1, by omega, by omega, by go_num, hbr2⟩
              case measure => simp [intOf]; omega
            · go_wp2
              go_ret
              exact ⟨rfl, hbr2⟩
  · simp only [ite_self] at ha hd
    by_cases hE : (a : Int) + (d : Int) ≤ 4096
    · skip
      have HT : Hid (Slt.total (a : Int) ((a : Int) + (d : Int)) (1 + (j : Int)) (j + 1) = ((a : Int) + (d : Int)) - (a : Int)) := hide (by
        have := Slt.total_all (a := (a : Int)) (k := 1 + (j : Int)) HK.out (by omega) (((a : Int) + (d : Int)) - (a : Int)).toNat (by omega)
        rw [show (1 + (j : Int)).toNat = j + 1 by omega, show (a : Int) + (((((a : Int) + (d : Int)) - (a : Int)).toNat : Nat) : Int) = (a : Int) + (d : Int) by omega] at this
        rw [this]; omega)
      go_enter Try.func3, Try.ntmps3
      go_wp2_with fail
      refine (awake_any _).mono ?_
      rintro e w1 ⟨rfl, hb1⟩
      go_wp2_with fail
      simp only [ha, hd, hj]
      clear hj ha hd
      go_loopw [11, 12] (fun v i wr => ∃ p : Nat, p ≤ j + 1 ∧ i = .int .i64 p ∧ v = .int .i64 (Slt.total (a : Int) ((a : Int) + (d : Int)) (1 + (j : Int)) p) ∧ Below w.heap.size w wr) (fun _ i _ => j + 1 - (intOf i).toNat)
      case atStart => exact ⟨0, Nat.zero_le _, rfl, by rw [Slt.total_zero], hb1⟩
      case round =>
        obtain ⟨p, hp, rfl, rfl, hbr⟩ := hrel
        have hbd := Slt.total_bd (a : Int) ((a : Int) + (d : Int)) (1 + (j : Int)) p
        have hb0 := hbd.1
        have hb2 : Slt.total (a : Int) ((a : Int) + (d : Int)) (1 + (j : Int)) p ≤ 4096 * 65 := by omega
        clear hbd
        by_cases hlt : p < j + 1
        · have hol := Slt.own_len (site := (p : Int)) (lo := (a : Int)) (hi := (a : Int) + (d : Int)) (n := 1 + (j : Int))
          have HS := hide (show Slt.total (a : Int) ((a : Int) + (d : Int)) (1 + (j : Int)) (p + 1) = Slt.total (a : Int) ((a : Int) + (d : Int)) (1 + (j : Int)) p + ((Slt.own (p : Int) (a : Int) ((a : Int) + (d : Int)) (1 + (j : Int))).length : Int) from Slt.total_succ _ _ _ _)
          go_wp2_with fail
          refine (count_any _ _ _ _ _).mono ?_
          rintro e w2 ⟨rfl, hb3⟩
          go_wp2
          go_roundw
          case rel => exact ⟨p + 1, by omega, by go_num, by rw [HS.out], below_next hbr hb3⟩
          case measure => simp [intOf]; omega
        · obtain rfl : p = j + 1 := by omega
          clear hb0 hb2
          rw [HT.out, show ((j + 1 : Nat) : Int) = (j : Int) + 1 from by omega]
          go_wp2_with fail
          go_loopw [13, 14] (fun i o wr => ∃ p : Nat, a ≤ p ∧ (p : Int) ≤ (a : Int) + (d : Int) ∧ i = .int .i64 p ∧ Below w.heap.size w wr) (fun i _ _ => 5000 - (intOf i).toNat)
          case atStart => exact ⟨a, Nat.le_refl _, by omega, rfl, hbr⟩
          case round =>
            obtain ⟨p, hp, hp2, rfl, hbr2⟩ := hrel
            by_cases hlt2 : (p : Int) < (a : Int) + (d : Int)
            · obtain ⟨o, ho⟩ : ∃ o, o = Slt.owner (p : Int) (1 + (j : Int)) := ⟨_, rfl⟩
              have ho2 : o = (p : Int) % (1 + (j : Int)) := by rw [ho, Slt.owner_of (by omega) HK.out]
              have CO : Hid (∀ w, Calls Try.prog 11 #[.int .i64 (p : Int), .int .i64 (1 + (j : Int))] w fun e w' => e = .returned (.int .i64 o) ∧ w = w') := hide (fun w => by rw [ho]; exact owner_any _ _ w)
              have CN : Hid (∀ w, Calls Try.prog 12 #[.int .i64 o, .int .i64 (p : Int), .int .i64 (1 + (j : Int))] w fun e w' => e = .returned (.int .i64 (p : Int)) ∧ w = w') := hide (fun w => by
                have := next_any o (p : Int) (1 + (j : Int)) w
                rwa [ho2, Slt.next_self HK.out (by omega) (by omega), ← ho2] at this)
              have ho3 : 0 ≤ o := by rw [ho2]; exact Int.emod_nonneg _ (by omega)
              have ho4 : o < 1 + (j : Int) := by rw [ho2]; exact Int.emod_lt_of_pos _ (by omega)
              clear ho ho2
              go_wp2_with fail
              refine (CO.out _).mono ?_
              rintro e w3 ⟨rfl, rfl⟩
              go_wp2_with fail
              refine (CN.out _).mono ?_
              rintro e w3 ⟨rfl, rfl⟩
              go_wp2
              go_roundw
              case rel => exact ⟨p + 1, by omega, by omega, by go_num, hbr2⟩
              case measure => simp [intOf]; omega
            · go_wp2
              go_ret
              exact ⟨rfl, hbr2⟩
    · have hE4 : 4096 < (a : Int) + (d : Int) := by omega
      clear hE
      have HT : Hid (Slt.total (a : Int) (4096) (1 + (j : Int)) (j + 1) = (4096) - (a : Int)) := hide (by
        have := Slt.total_all (a := (a : Int)) (k := 1 + (j : Int)) HK.out (by omega) ((4096) - (a : Int)).toNat (by omega)
        rw [show (1 + (j : Int)).toNat = j + 1 by omega, show (a : Int) + ((((4096) - (a : Int)).toNat : Nat) : Int) = 4096 by omega] at this
        rw [this]; omega)
      go_enter Try.func3, Try.ntmps3
      go_wp2_with fail
      refine (awake_any _).mono ?_
      rintro e w1 ⟨rfl, hb1⟩
      go_wp2_with fail
      simp only [ha, hd, hj]
      clear hj ha hd
      go_loopw [11, 12] (fun v i wr => ∃ p : Nat, p ≤ j + 1 ∧ i = .int .i64 p ∧ v = .int .i64 (Slt.total (a : Int) (4096) (1 + (j : Int)) p) ∧ Below w.heap.size w wr) (fun _ i _ => j + 1 - (intOf i).toNat)
      case atStart => exact ⟨0, Nat.zero_le _, rfl, by rw [Slt.total_zero], hb1⟩
      case round =>
        obtain ⟨p, hp, rfl, rfl, hbr⟩ := hrel
        have hbd := Slt.total_bd (a : Int) (4096) (1 + (j : Int)) p
        have hb0 := hbd.1
        have hb2 : Slt.total (a : Int) (4096) (1 + (j : Int)) p ≤ 4096 * 65 := by omega
        clear hbd
        by_cases hlt : p < j + 1
        · have hol := Slt.own_len (site := (p : Int)) (lo := (a : Int)) (hi := 4096) (n := 1 + (j : Int))
          have HS := hide (show Slt.total (a : Int) (4096) (1 + (j : Int)) (p + 1) = Slt.total (a : Int) (4096) (1 + (j : Int)) p + ((Slt.own (p : Int) (a : Int) (4096) (1 + (j : Int))).length : Int) from Slt.total_succ _ _ _ _)
          go_wp2_with fail
          refine (count_any _ _ _ _ _).mono ?_
          rintro e w2 ⟨rfl, hb3⟩
          go_wp2
          go_roundw
          case rel => exact ⟨p + 1, by omega, by go_num, by rw [HS.out], below_next hbr hb3⟩
          case measure => simp [intOf]; omega
        · obtain rfl : p = j + 1 := by omega
          clear hb0 hb2
          rw [HT.out, show ((j + 1 : Nat) : Int) = (j : Int) + 1 from by omega]
          go_wp2_with fail
          go_loopw [13, 14] (fun i o wr => ∃ p : Nat, a ≤ p ∧ (p : Int) ≤ 4096 ∧ i = .int .i64 p ∧ Below w.heap.size w wr) (fun i _ _ => 5000 - (intOf i).toNat)
          case atStart => exact ⟨a, Nat.le_refl _, by omega, rfl, hbr⟩
          case round =>
            obtain ⟨p, hp, hp2, rfl, hbr2⟩ := hrel
            by_cases hlt2 : (p : Int) < 4096
            · obtain ⟨o, ho⟩ : ∃ o, o = Slt.owner (p : Int) (1 + (j : Int)) := ⟨_, rfl⟩
              have ho2 : o = (p : Int) % (1 + (j : Int)) := by rw [ho, Slt.owner_of (by omega) HK.out]
              have CO : Hid (∀ w, Calls Try.prog 11 #[.int .i64 (p : Int), .int .i64 (1 + (j : Int))] w fun e w' => e = .returned (.int .i64 o) ∧ w = w') := hide (fun w => by rw [ho]; exact owner_any _ _ w)
              have CN : Hid (∀ w, Calls Try.prog 12 #[.int .i64 o, .int .i64 (p : Int), .int .i64 (1 + (j : Int))] w fun e w' => e = .returned (.int .i64 (p : Int)) ∧ w = w') := hide (fun w => by
                have := next_any o (p : Int) (1 + (j : Int)) w
                rwa [ho2, Slt.next_self HK.out (by omega) (by omega), ← ho2] at this)
              have ho3 : 0 ≤ o := by rw [ho2]; exact Int.emod_nonneg _ (by omega)
              have ho4 : o < 1 + (j : Int) := by rw [ho2]; exact Int.emod_lt_of_pos _ (by omega)
              clear ho ho2
              go_wp2_with fail
              refine (CO.out _).mono ?_
              rintro e w3 ⟨rfl, rfl⟩
              go_wp2_with fail
              refine (CN.out _).mono ?_
              rintro e w3 ⟨rfl, rfl⟩
              go_wp2
              go_roundw
              case rel => exact ⟨p + 1, by omega, by omega, by go_num, hbr2⟩
              case measure => simp [intOf]; omega
            · go_wp2
              go_ret
              exact ⟨rfl, hbr2⟩
  · rw [if_neg (by omega)] at ha hd
    by_cases hE : (a : Int) + (d : Int) ≤ 4096
    · skip
      have HT : Hid (Slt.total (a : Int) ((a : Int) + (d : Int)) (1 + (j : Int)) (j + 1) = ((a : Int) + (d : Int)) - (a : Int)) := hide (by
        have := Slt.total_all (a := (a : Int)) (k := 1 + (j : Int)) HK.out (by omega) (((a : Int) + (d : Int)) - (a : Int)).toNat (by omega)
        rw [show (1 + (j : Int)).toNat = j + 1 by omega, show (a : Int) + (((((a : Int) + (d : Int)) - (a : Int)).toNat : Nat) : Int) = (a : Int) + (d : Int) by omega] at this
        rw [this]; omega)
      go_enter Try.func3, Try.ntmps3
      go_wp2_with fail
      refine (awake_any _).mono ?_
      rintro e w1 ⟨rfl, hb1⟩
      go_wp2_with fail
      simp only [ha, hd, hj]
      clear hj ha hd
      go_loopw [11, 12] (fun v i wr => ∃ p : Nat, p ≤ j + 1 ∧ i = .int .i64 p ∧ v = .int .i64 (Slt.total (a : Int) ((a : Int) + (d : Int)) (1 + (j : Int)) p) ∧ Below w.heap.size w wr) (fun _ i _ => j + 1 - (intOf i).toNat)
      case atStart => exact ⟨0, Nat.zero_le _, rfl, by rw [Slt.total_zero], hb1⟩
      case round =>
        obtain ⟨p, hp, rfl, rfl, hbr⟩ := hrel
        have hbd := Slt.total_bd (a : Int) ((a : Int) + (d : Int)) (1 + (j : Int)) p
        have hb0 := hbd.1
        have hb2 : Slt.total (a : Int) ((a : Int) + (d : Int)) (1 + (j : Int)) p ≤ 4096 * 65 := by omega
        clear hbd
        by_cases hlt : p < j + 1
        · have hol := Slt.own_len (site := (p : Int)) (lo := (a : Int)) (hi := (a : Int) + (d : Int)) (n := 1 + (j : Int))
          have HS := hide (show Slt.total (a : Int) ((a : Int) + (d : Int)) (1 + (j : Int)) (p + 1) = Slt.total (a : Int) ((a : Int) + (d : Int)) (1 + (j : Int)) p + ((Slt.own (p : Int) (a : Int) ((a : Int) + (d : Int)) (1 + (j : Int))).length : Int) from Slt.total_succ _ _ _ _)
          go_wp2_with fail
          refine (count_any _ _ _ _ _).mono ?_
          rintro e w2 ⟨rfl, hb3⟩
          go_wp2
          go_roundw
          case rel => exact ⟨p + 1, by omega, by go_num, by rw [HS.out], below_next hbr hb3⟩
          case measure => simp [intOf]; omega
        · obtain rfl : p = j + 1 := by omega
          clear hb0 hb2
          rw [HT.out, show ((j + 1 : Nat) : Int) = (j : Int) + 1 from by omega]
          go_wp2_with fail
          go_loopw [13, 14] (fun i o wr => ∃ p : Nat, a ≤ p ∧ (p : Int) ≤ (a : Int) + (d : Int) ∧ i = .int .i64 p ∧ Below w.heap.size w wr) (fun i _ _ => 5000 - (intOf i).toNat)
          case atStart => exact ⟨a, Nat.le_refl _, by omega, rfl, hbr⟩
          case round =>
            obtain ⟨p, hp, hp2, rfl, hbr2⟩ := hrel
            by_cases hlt2 : (p : Int) < (a : Int) + (d : Int)
            · obtain ⟨o, ho⟩ : ∃ o, o = Slt.owner (p : Int) (1 + (j : Int)) := ⟨_, rfl⟩
              have ho2 : o = (p : Int) % (1 + (j : Int)) := by rw [ho, Slt.owner_of (by omega) HK.out]
              have CO : Hid (∀ w, Calls Try.prog 11 #[.int .i64 (p : Int), .int .i64 (1 + (j : Int))] w fun e w' => e = .returned (.int .i64 o) ∧ w = w') := hide (fun w => by rw [ho]; exact owner_any _ _ w)
              have CN : Hid (∀ w, Calls Try.prog 12 #[.int .i64 o, .int .i64 (p : Int), .int .i64 (1 + (j : Int))] w fun e w' => e = .returned (.int .i64 (p : Int)) ∧ w = w') := hide (fun w => by
                have := next_any o (p : Int) (1 + (j : Int)) w
                rwa [ho2, Slt.next_self HK.out (by omega) (by omega), ← ho2] at this)
              have ho3 : 0 ≤ o := by rw [ho2]; exact Int.emod_nonneg _ (by omega)
              have ho4 : o < 1 + (j : Int) := by rw [ho2]; exact Int.emod_lt_of_pos _ (by omega)
              clear ho ho2
              go_wp2_with fail
              refine (CO.out _).mono ?_
              rintro e w3 ⟨rfl, rfl⟩
              go_wp2_with fail
              refine (CN.out _).mono ?_
              rintro e w3 ⟨rfl, rfl⟩
              go_wp2
              go_roundw
              case rel => exact ⟨p + 1, by omega, by omega, by go_num, hbr2⟩
              case measure => simp [intOf]; omega
            · go_wp2
              go_ret
              exact ⟨rfl, hbr2⟩
    · have hE4 : 4096 < (a : Int) + (d : Int) := by omega
      clear hE
      have HT : Hid (Slt.total (a : Int) (4096) (1 + (j : Int)) (j + 1) = (4096) - (a : Int)) := hide (by
        have := Slt.total_all (a := (a : Int)) (k := 1 + (j : Int)) HK.out (by omega) ((4096) - (a : Int)).toNat (by omega)
        rw [show (1 + (j : Int)).toNat = j + 1 by omega, show (a : Int) + ((((4096) - (a : Int)).toNat : Nat) : Int) = 4096 by omega] at this
        rw [this]; omega)
      go_enter Try.func3, Try.ntmps3
      go_wp2_with fail
      refine (awake_any _).mono ?_
      rintro e w1 ⟨rfl, hb1⟩
      go_wp2_with fail
      simp only [ha, hd, hj]
      clear hj ha hd
      go_loopw [11, 12] (fun v i wr => ∃ p : Nat, p ≤ j + 1 ∧ i = .int .i64 p ∧ v = .int .i64 (Slt.total (a : Int) (4096) (1 + (j : Int)) p) ∧ Below w.heap.size w wr) (fun _ i _ => j + 1 - (intOf i).toNat)
      case atStart => exact ⟨0, Nat.zero_le _, rfl, by rw [Slt.total_zero], hb1⟩
      case round =>
        obtain ⟨p, hp, rfl, rfl, hbr⟩ := hrel
        have hbd := Slt.total_bd (a : Int) (4096) (1 + (j : Int)) p
        have hb0 := hbd.1
        have hb2 : Slt.total (a : Int) (4096) (1 + (j : Int)) p ≤ 4096 * 65 := by omega
        clear hbd
        by_cases hlt : p < j + 1
        · have hol := Slt.own_len (site := (p : Int)) (lo := (a : Int)) (hi := 4096) (n := 1 + (j : Int))
          have HS := hide (show Slt.total (a : Int) (4096) (1 + (j : Int)) (p + 1) = Slt.total (a : Int) (4096) (1 + (j : Int)) p + ((Slt.own (p : Int) (a : Int) (4096) (1 + (j : Int))).length : Int) from Slt.total_succ _ _ _ _)
          go_wp2_with fail
          refine (count_any _ _ _ _ _).mono ?_
          rintro e w2 ⟨rfl, hb3⟩
          go_wp2
          go_roundw
          case rel => exact ⟨p + 1, by omega, by go_num, by rw [HS.out], below_next hbr hb3⟩
          case measure => simp [intOf]; omega
        · obtain rfl : p = j + 1 := by omega
          clear hb0 hb2
          rw [HT.out, show ((j + 1 : Nat) : Int) = (j : Int) + 1 from by omega]
          go_wp2_with fail
          go_loopw [13, 14] (fun i o wr => ∃ p : Nat, a ≤ p ∧ (p : Int) ≤ 4096 ∧ i = .int .i64 p ∧ Below w.heap.size w wr) (fun i _ _ => 5000 - (intOf i).toNat)
          case atStart => exact ⟨a, Nat.le_refl _, by omega, rfl, hbr⟩
          case round =>
            obtain ⟨p, hp, hp2, rfl, hbr2⟩ := hrel
            by_cases hlt2 : (p : Int) < 4096
            · obtain ⟨o, ho⟩ : ∃ o, o = Slt.owner (p : Int) (1 + (j : Int)) := ⟨_, rfl⟩
              have ho2 : o = (p : Int) % (1 + (j : Int)) := by rw [ho, Slt.owner_of (by omega) HK.out]
              have CO : Hid (∀ w, Calls Try.prog 11 #[.int .i64 (p : Int), .int .i64 (1 + (j : Int))] w fun e w' => e = .returned (.int .i64 o) ∧ w = w') := hide (fun w => by rw [ho]; exact owner_any _ _ w)
              have CN : Hid (∀ w, Calls Try.prog 12 #[.int .i64 o, .int .i64 (p : Int), .int .i64 (1 + (j : Int))] w fun e w' => e = .returned (.int .i64 (p : Int)) ∧ w = w') := hide (fun w => by
                have := next_any o (p : Int) (1 + (j : Int)) w
                rwa [ho2, Slt.next_self HK.out (by omega) (by omega), ← ho2] at this)
              have ho3 : 0 ≤ o := by rw [ho2]; exact Int.emod_nonneg _ (by omega)
              have ho4 : o < 1 + (j : Int) := by rw [ho2]; exact Int.emod_lt_of_pos _ (by omega)
              clear ho ho2
              go_wp2_with fail
              refine (CO.out _).mono ?_
              rintro e w3 ⟨rfl, rfl⟩
              go_wp2_with fail
              refine (CN.out _).mono ?_
              rintro e w3 ⟨rfl, rfl⟩
              go_wp2
              go_roundw
              case rel => exact ⟨p + 1, by omega, by omega, by go_num, hbr2⟩
              case measure => simp [intOf]; omega
            · go_wp2
              go_ret
              exact ⟨rfl, hbr2⟩

theorem slotsAll_walk' (n x y : Int) (w : World) (hn : 0 ≤ n ∧ n ≤ 255) (hx : 0 ≤ x ∧ x ≤ 65535) (hy : 0 ≤ y ∧ y ≤ 65535) :
    Calls Try.prog 3 #[.int .u8 n, .int .u16 x, .int .u16 y] w fun e w' => e = .returned (.bool true) ∧ Below w.heap.size w w' :=
  slotsAll_walk n x y (n % 64).toNat ((if x ≤ y then x else y) % 4097).toNat ((if x ≤ y then y else x) % 200).toNat w hn hx hy (by omega) (by omega) (by split <;> omega) (by split <;> omega) (by split <;> omega) (by split <;> omega)

set_option maxRecDepth 100000 in
theorem slotsAll_lifted (os : Os) (started : os.Started) (H : Type) (enc : TypeId × Value → H) :
    ReturnsInHanded {} Try.checked os 3 .any (Rows.slotsAllSpec.pre6 enc Try.prog Try.f3 Rows.slotsAllRow.domain false) (Rows.slotsAllSpec.post enc Try.prog Try.f3 false true false false) := by
  refine returnsInHanded_of_change_sized (C := Try.checked) (by kernel_rfl) started (by kernel_rfl) Try.func3
    (ChangeSpec.witness6 (enc := enc) (C := Try.checked) false ⟨#[], #[.int .u8 0, .int .u16 0, .int .u16 0], []⟩ 8 (by kernel_rfl) (by kernel_rfl) (by kernel_rfl) (by kernel_rfl)) ?_
  intro W base args ds gs before hval0 hW _ hsz0 _
  have hval : ∀ (j : Nat) t v, Try.f3.params[j]? = some t → args[j]? = some v → Value.okWide Try.prog W .any base t v := hval0
  have hW' := hW
  obtain ⟨p, q, hA0, hV, rfl, _, _⟩ := hW
  have hA : DataW.TrodAll enc Try.prog W 0 (fun _ => true) true Try.f3.params.toList args.toList ds p := hA0
  have _hsz : (DataW.weightsEach Try.prog (Try.f3.params.toList ++ Rows.slotsAllSpec.plain.varTypes Try.prog) (ds ++ gs)).all (· ≤ reachBytes) = true := hsz0
  rw [Try.params3] at hA hval
  obtain ⟨v0, v1, v2, d0, d1, d2, p0, p1, p2, rfl, rfl, rfl, h0, h1, h2⟩ := trodAll_three hA
  obtain ⟨x0, rfl, rfl, rfl, wf0⟩ := open_int Try.underlying5 (hval 0 5 v0 rfl rfl) h0
  have bd0 := bounds_u8 wf0
  obtain ⟨x1, rfl, rfl, rfl, wf1⟩ := open_int Try.underlying22 (hval 1 22 v1 rfl rfl) h1
  have bd1 := bounds_u16 wf1
  obtain ⟨x2, rfl, rfl, rfl, wf2⟩ := open_int Try.underlying22 (hval 2 22 v2 rfl rfl) h2
  have bd2 := bounds_u16 wf2
  refine (slotsAll_walk' _ _ _ _ bd0 bd1 bd2).mono fun e W' ⟨he, hb⟩ => ?_
  subst he
  exact ⟨_, rfl, post_law (by kernel_rfl) (by kernel_rfl) rfl hW' (by rintro _ rfl; rfl) rfl Try.underlying4 hb⟩

theorem slotsAll_holds : Rows.SlotsAllSaid :=
  OpenClaim.holds_of_wide 3 Try.f3 rfl rfl rfl rfl rfl rfl rfl ⟨rfl, rfl, rfl, rfl, rfl⟩ rfl rfl rfl rfl rfl (by kernel_rfl) Try.func3 (by kernel_rfl)
    (of_decide_eq_true (by kernel_rfl)) (by unfold Func.isWrapper; first | (rw [if_pos (by decide +kernel)]; kernel_rfl) | (rw [if_neg (by decide +kernel)]; exact ⟨rfl, rfl⟩))
    (fun os started H enc _ => slotsAll_lifted os started H enc)

end Go.Proofs.Ytodlabpgjgbbpac
