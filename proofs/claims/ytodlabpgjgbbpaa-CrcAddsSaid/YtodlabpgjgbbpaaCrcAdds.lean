/-
  CrcAdds: of three rows of as many bytes the sum of all three added is their sums added. No conditions.
-/
import Derived.Test.YtodlabpgjgbbpaaCrcAwake
import Derived.Test.YtodlabpgjgbbpaaAppend
import Derived.Test.YtodlabpgjgbbpaaLaw
import Derived.Test.YtodlabpgjgbbpaaRows
namespace Go.Proofs.Ytodlabpgjgbbpaa
open Go.RowKit Go.Agio Go.ChangeShapes Go.WideShapes Go.ChangeAt

theorem infoB : (Try.prog.info? 5).map (fun i => (i.zero, i.size, i.bytes)) = some (some (.int .u8 0), 1, 1) := by kernel_rfl

/-- The first k numbers of a row. -/
def row (X : Nat → Int) (k : Nat) : List Int := (List.range k).map X
theorem row_succ (X : Nat → Int) (k : Nat) : row X (k + 1) = row X k ++ [X k] := by simp [row, List.range_succ]
theorem row_length (X : Nat → Int) (k : Nat) : (row X k).length = k := by simp [row]
theorem row_snoc (X : Nat → Int) (k : Nat) : (row X k).map (Value.int .u8) ++ [.int .u8 (X k)] = (row X (k + 1)).map (Value.int .u8) := by simp [row_succ]
/-- Three numbers added. -/
def sum3 (X Y Z : Nat → Int) (i : Nat) : Int := bits .xor .u8 (bits .xor .u8 (X i) (Y i)) (Z i)

theorem xor8 {a b : Int} (ha : 0 ≤ a ∧ a ≤ 255) (hb : 0 ≤ b ∧ b ≤ 255) : (0 ≤ bits .xor .u8 a b ∧ bits .xor .u8 a b ≤ 255) ∧ Crc.bv (bits .xor .u8 a b) = Crc.bv a ^^^ Crc.bv b := by
  rw [u8_xor a b ha.1 (by omega) hb.1 (by omega)]
  obtain ⟨A, rfl⟩ := Int.eq_ofNat_of_zero_le ha.1
  obtain ⟨B, rfl⟩ := Int.eq_ofNat_of_zero_le hb.1
  have h : A ^^^ B < 2 ^ 8 := Nat.xor_lt_two_pow (by omega) (by omega)
  simp only [Int.toNat_natCast]
  refine ⟨by omega, ?_⟩
  unfold Crc.bv
  simp only [BitVec.ofInt_natCast]
  apply BitVec.eq_of_toNat_eq
  rw [BitVec.toNat_xor, BitVec.toNat_ofNat, BitVec.toNat_ofNat, BitVec.toNat_ofNat, Nat.mod_eq_of_lt (by omega), Nat.mod_eq_of_lt (by omega), Nat.mod_eq_of_lt (by omega)]

theorem row_add {X Y : Nat → Int} {k : Nat} (hX : ∀ i, i < k → 0 ≤ X i ∧ X i ≤ 255) (hY : ∀ i, i < k → 0 ≤ Y i ∧ Y i ≤ 255) :
    (row (fun i => bits .xor .u8 (X i) (Y i)) k).map Crc.bv = Crc.add ((row X k).map Crc.bv) ((row Y k).map Crc.bv) := by
  have gen : ∀ l : List Nat, (∀ i ∈ l, i < k) → (l.map fun i => Crc.bv (bits .xor .u8 (X i) (Y i))) = Crc.add (l.map fun i => Crc.bv (X i)) (l.map fun i => Crc.bv (Y i)) := by
    intro l
    induction l with
    | nil => intro _; rfl
    | cons i l ih =>
      intro h
      have hi := h i (by simp)
      simp only [List.map_cons, Crc.add]
      rw [(xor8 (hX i hi) (hY i hi)).2, ih (fun j hj => h j (by simp [hj]))]
  have := gen (List.range k) (fun i hi => List.mem_range.1 hi)
  simpa [row, List.map_map, Function.comp_def] using this

theorem row_ok {X : Nat → Int} {k : Nat} (hX : ∀ i, i < k → 0 ≤ X i ∧ X i ≤ 255) : ∀ z ∈ row X k, 0 ≤ z ∧ z ≤ 255 := by
  intro z hz
  obtain ⟨i, hi, rfl⟩ := List.mem_map.1 hz
  exact hX i (List.mem_range.1 hi)

/-- The sum of all three added. -/
theorem sum_row {X Y Z : Nat → Int} {k : Nat} (hX : ∀ i, i < k → 0 ≤ X i ∧ X i ≤ 255) (hY : ∀ i, i < k → 0 ≤ Y i ∧ Y i ≤ 255) (hZ : ∀ i, i < k → 0 ≤ Z i ∧ Z i ≤ 255) :
    bits .xor .u32 (bits .xor .u32 (Crc.nm (Crc.more 0 ((row X k).map Crc.bv))) (Crc.nm (Crc.more 0 ((row Y k).map Crc.bv)))) (Crc.nm (Crc.more 0 ((row Z k).map Crc.bv))) = Crc.nm (Crc.more 0 ((row (sum3 X Y Z) k).map Crc.bv)) := by
  have h1 := row_add (X := fun i => bits .xor .u8 (X i) (Y i)) (Y := Z) (k := k) (fun i hi => (xor8 (hX i hi) (hY i hi)).1) hZ
  have h2 := row_add hX hY
  rw [Crc.xor_nm, Crc.xor_nm]
  simp only [Crc.bv_nm]
  rw [Crc.nm_inj, ← Crc.more_add3 (by simp [row]) (by simp [row]), ← h2, ← h1]
  rfl

set_option maxRecDepth 100000 in
set_option maxHeartbeats 4000000 in
theorem crcAdds_walk (A : Option Addr) (n cap : Nat) (X Y Z : Nat → Int) (w : World) (hR : Agio.Rows w A n 3 (fun i => [.int .u8 (X i), .int .u8 (Y i), .int .u8 (Z i)]))
    (hX : ∀ i, i < n → 0 ≤ X i ∧ X i ≤ 255) (hY : ∀ i, i < n → 0 ≤ Y i ∧ Y i ≤ 255) (hZ : ∀ i, i < n → 0 ≤ Z i ∧ Z i ≤ 255) :
    Calls Try.prog 6 #[.slice A n cap] w fun e w' => e = .returned (.bool true) ∧ Below w.heap.size w w' := by
  obtain ⟨i0, hi, hz0, hz1, hz2⟩ := info_parts infoB
  have HR := hide hR
  have HX := hide hX
  have HY := hide hY
  have HZ := hide hZ
  clear hR hX hY hZ
  go_enter Try.func6, Try.ntmps6
  go_wp2_with fail
  refine (awake_any _).mono ?_
  rintro e w1 ⟨rfl, hb1⟩
  go_wp2_with fail
  go_loopw [4, 5, 6, 7, 8] (fun v4 v5 v6 v7 i wr => ∃ (k : Nat) (A4 A5 A6 A7 : Option Addr) (c4 c5 c6 c7 : Nat), k ≤ n ∧ k ≤ 1000 ∧ i = .int .i64 k ∧ v4 = .slice A4 k c4 ∧ v5 = .slice A5 k c5 ∧ v6 = .slice A6 k c6 ∧ v7 = .slice A7 k c7 ∧
      (wr.ownsRow w.heap.size 5 1 (.slice A4 k c4) k ((row X k).map (Value.int .u8)) ∧ wr.ownsRow w.heap.size 5 1 (.slice A5 k c5) k ((row Y k).map (Value.int .u8)) ∧
        wr.ownsRow w.heap.size 5 1 (.slice A6 k c6) k ((row Z k).map (Value.int .u8)) ∧ wr.ownsRow w.heap.size 5 1 (.slice A7 k c7) k ((row (sum3 X Y Z) k).map (Value.int .u8))) ∧
      (Apart (.slice A4 k c4) (.slice A5 k c5) ∧ Apart (.slice A4 k c4) (.slice A6 k c6) ∧ Apart (.slice A4 k c4) (.slice A7 k c7) ∧ Apart (.slice A5 k c5) (.slice A6 k c6) ∧ Apart (.slice A5 k c5) (.slice A7 k c7) ∧ Apart (.slice A6 k c6) (.slice A7 k c7)) ∧
      Below w.heap.size w wr) (fun _ _ _ _ i _ => n - (intOf i).toNat)
  case atStart =>
    exact ⟨0, none, none, none, none, 0, 0, 0, 0, Nat.zero_le _, by omega, rfl, rfl, rfl, rfl, rfl, ⟨World.ownsRow_nil _ _ _ _, World.ownsRow_nil _ _ _ _, World.ownsRow_nil _ _ _ _, World.ownsRow_nil _ _ _ _⟩,
      ⟨apart_nil _, apart_nil _, apart_nil _, apart_nil _, apart_nil _, apart_nil _⟩, hb1⟩
  case round =>
    obtain ⟨k, A4, A5, A6, A7, c4, c5, c6, c7, hkn, hk1, rfl, rfl, rfl, rfl, rfl, hown, hap, hbr⟩ := hrel
    have Hown := hide hown
    have Hap := hide hap
    clear hown hap
    by_cases h1 : k < n
    · by_cases h2 : k < 1000
      · obtain ⟨b, off, rfl, hb, hc⟩ := HR.out.at_ h1
        have hk0 : wr.cell? ⟨b, off + k * 3, none⟩ = some (.int .u8 (X k)) := (hbr.cell (p := ⟨b, off + k * 3, none⟩) hb).trans (hc k h1 0 (by omega))
        have hk1 : wr.cell? ⟨b, off + k * 3 + 1, none⟩ = some (.int .u8 (Y k)) := (hbr.cell (p := ⟨b, off + k * 3 + 1, none⟩) hb).trans (hc k h1 1 (by omega))
        have hk2 : wr.cell? ⟨b, off + k * 3 + 2, none⟩ = some (.int .u8 (Z k)) := (hbr.cell (p := ⟨b, off + k * 3 + 2, none⟩) hb).trans (hc k h1 2 (by omega))
        clear hc
        obtain ⟨⟨o4, o5, o6, o7⟩, a45, a46, a47, a56, a57, a67⟩ := And.intro Hown.out Hap.out
        have H4 := hide o4; have H5 := hide o5; have H6 := hide o6; have H7 := hide o7
        clear o4 o5 o6 o7 Hown Hap
        have hwr := hbr.size
        have U1 : ∀ x : Int, ∀ u ∈ [Value.int .u8 x], u.oneCell' = true := fun x => one_one _ rfl
        have HU := hide U1
        clear U1
        go_wp2_with (at_builtin; apply halted)
        refine unhalt (wpList_append_reads rfl (.tmp 25) (.tmp 28) 23 rfl w.heap.size 5 i0 (.int .u8 0) 1 Try.underlying23 hi hz0 hz1 hz2 rfl _ k ((row X k).map (Value.int .u8)) rfl ((H4.out.alloc _).alloc _) (some ⟨wr.heap.size + 1, 0, none⟩) 1 1 [.int .u8 (X k)] rfl (Reads.new_at _ _ _ _ _ (by simp)) rfl (HU.out _) (by unfold maxLen; omega) (by omega) (by simp; omega) ?_)
        intro A4' c4' w4 n4 g4 t4
        rw [row_snoc] at n4
        have B4 := blk_grown (blk_alloc (heap_new wr (.cells #[.int .u8 (X k), .int .u8 (Y k), .int .u8 (Z k)] 32)) _) H4.out (Nat.le_refl _) g4
        obtain ⟨o5, b45⟩ := own_aside ((H5.out.alloc _).alloc _) a45.symm g4 t4 (Nat.le_refl _)
        obtain ⟨o6, b46⟩ := own_aside ((H6.out.alloc _).alloc _) a46.symm g4 t4 (Nat.le_refl _)
        obtain ⟨o7, b47⟩ := own_aside ((H7.out.alloc _).alloc _) a47.symm g4 t4 (Nat.le_refl _)
        have d0 : w4.cell? ⟨wr.heap.size, 0, none⟩ = some (.int .u8 (X k)) := cell_blk B4 0
        have d1 : w4.cell? ⟨wr.heap.size, 1, none⟩ = some (.int .u8 (Y k)) := cell_blk B4 1
        have d2 : w4.cell? ⟨wr.heap.size, 2, none⟩ = some (.int .u8 (Z k)) := cell_blk B4 2
        have hb4 := ((hbr.alloc hwr _).alloc (by simp; omega) _).grown g4 (by simp; omega) (fun g hg => (H4.out.lt g hg).1)
        have hw4 := hb4.size
        have HB4 := hide B4; have N4 := hide n4; have G4 := hide g4; have O5 := hide o5; have O6 := hide o6; have O7 := hide o7
        clear B4 n4 g4 t4 o5 o6 o7 H4 H5 H6 H7 hk0 hk1 hk2
        go_wp2_with (at_builtin; apply halted)
        refine unhalt (wpList_append_reads rfl (.tmp 30) (.tmp 33) 23 rfl w.heap.size 5 i0 (.int .u8 0) 1 Try.underlying23 hi hz0 hz1 hz2 rfl _ k ((row Y k).map (Value.int .u8)) rfl (O5.out.alloc _) (some ⟨w4.heap.size, 0, none⟩) 1 1 [.int .u8 (Y k)] rfl (Reads.new_at _ _ _ _ _ rfl) rfl (HU.out _) (by unfold maxLen; omega) (by omega) (by simp; omega) ?_)
        intro A5' c5' w5 n5 g5 t5
        rw [row_snoc] at n5
        have B5 := blk_other (blk_alloc HB4.out _) (O5.out.alloc _) (by decide) g5
        obtain ⟨o4, b54⟩ := own_aside (N4.out.alloc _) b45.symm g5 t5 (Nat.le_refl _)
        obtain ⟨o6, b56⟩ := own_aside (O6.out.alloc _) a56.symm g5 t5 (Nat.le_refl _)
        obtain ⟨o7, b57⟩ := own_aside (O7.out.alloc _) a57.symm g5 t5 (Nat.le_refl _)
        have hb5 := (hb4.alloc hw4 _).grown g5 (by simp; omega) (fun g hg => (O5.out.lt g hg).1)
        have hw5 := hb5.size
        clear d0 d1 d2
        have d0 : w5.cell? ⟨wr.heap.size, 0, none⟩ = some (.int .u8 (X k)) := cell_blk B5 0
        have d1 : w5.cell? ⟨wr.heap.size, 1, none⟩ = some (.int .u8 (Y k)) := cell_blk B5 1
        have d2 : w5.cell? ⟨wr.heap.size, 2, none⟩ = some (.int .u8 (Z k)) := cell_blk B5 2
        have HB5 := hide B5; have N5 := hide n5; have P4 := hide o4; have P6 := hide o6; have P7 := hide o7
        clear B5 n5 g5 t5 o4 o6 o7 N4 O5 O6 O7 HB4 G4
        go_wp2_with (at_builtin; apply halted)
        refine unhalt (wpList_append_reads rfl (.tmp 35) (.tmp 38) 23 rfl w.heap.size 5 i0 (.int .u8 0) 1 Try.underlying23 hi hz0 hz1 hz2 rfl _ k ((row Z k).map (Value.int .u8)) rfl (P6.out.alloc _) (some ⟨w5.heap.size, 0, none⟩) 1 1 [.int .u8 (Z k)] rfl (Reads.new_at _ _ _ _ _ rfl) rfl (HU.out _) (by unfold maxLen; omega) (by omega) (by simp; omega) ?_)
        intro A6' c6' w6 n6 g6 t6
        rw [row_snoc] at n6
        have B6 := blk_other (blk_alloc HB5.out _) (P6.out.alloc _) (by decide) g6
        obtain ⟨o4, b64⟩ := own_aside (P4.out.alloc _) b46.symm g6 t6 (Nat.le_refl _)
        obtain ⟨o5, b65⟩ := own_aside (N5.out.alloc _) b56.symm g6 t6 (Nat.le_refl _)
        obtain ⟨o7, b67⟩ := own_aside (P7.out.alloc _) a67.symm g6 t6 (Nat.le_refl _)
        have hb6 := (hb5.alloc hw5 _).grown g6 (by simp; omega) (fun g hg => (P6.out.lt g hg).1)
        have hw6 := hb6.size
        clear d0 d1 d2
        have d0 : w6.cell? ⟨wr.heap.size, 0, none⟩ = some (.int .u8 (X k)) := cell_blk B6 0
        have d1 : w6.cell? ⟨wr.heap.size, 1, none⟩ = some (.int .u8 (Y k)) := cell_blk B6 1
        have d2 : w6.cell? ⟨wr.heap.size, 2, none⟩ = some (.int .u8 (Z k)) := cell_blk B6 2
        have hs3 : bits .xor .u8 (bits .xor .u8 (X k) (Y k)) (Z k) = sum3 X Y Z k := rfl
        have N6 := hide n6; have R4 := hide o4; have R5 := hide o5; have R7 := hide o7
        clear B6 n6 g6 t6 o4 o5 o7 N5 P4 P6 P7 HB5
        go_wp2_with (at_builtin; apply halted)
        refine unhalt (wpList_append_reads rfl (.tmp 40) (.tmp 49) 23 rfl w.heap.size 5 i0 (.int .u8 0) 1 Try.underlying23 hi hz0 hz1 hz2 rfl _ k ((row (sum3 X Y Z) k).map (Value.int .u8)) rfl (R7.out.alloc _) (some ⟨w6.heap.size, 0, none⟩) 1 1 [.int .u8 (sum3 X Y Z k)] rfl (Reads.new_at _ _ _ _ _ rfl) rfl (HU.out _) (by unfold maxLen; omega) (by omega) (by simp; omega) ?_)
        intro A7' c7' w7 n7 g7 t7
        rw [row_snoc] at n7
        obtain ⟨o4, b74⟩ := own_aside (R4.out.alloc _) b47.symm g7 t7 (Nat.le_refl _)
        obtain ⟨o5, b75⟩ := own_aside (R5.out.alloc _) b57.symm g7 t7 (Nat.le_refl _)
        obtain ⟨o6, b76⟩ := own_aside (N6.out.alloc _) b67.symm g7 t7 (Nat.le_refl _)
        have hb7 := (hb6.alloc hw6 _).grown g7 (by simp; omega) (fun g hg => (R7.out.lt g hg).1)
        have S4 := hide o4; have S5 := hide o5; have S6 := hide o6; have S7 := hide n7
        clear n7 g7 t7 o4 o5 o6 R4 R5 R7 N6 d0 d1 d2 hs3
        go_wp2
        go_roundw
        case rel => exact ⟨k + 1, A4', A5', A6', A7', c4', c5', c6', c7', by omega, by omega, by go_num, rfl, rfl, rfl, rfl, ⟨S4.out, S5.out, S6.out, S7.out⟩, ⟨b54, b64, b74, b65, b75, b76⟩, hb7⟩
        case measure => simp [intOf]; omega
      · have hx3 := hide (sum_row (X := X) (Y := Y) (Z := Z) (k := k) (fun i hi => HX.out i (by omega)) (fun i hi => HY.out i (by omega)) (fun i hi => HZ.out i (by omega)))
        have r4 := hide (Reads.of_own Hown.out.1); have r5 := hide (Reads.of_own Hown.out.2.1); have r6 := hide (Reads.of_own Hown.out.2.2.1); have r7 := hide (Reads.of_own Hown.out.2.2.2)
        have q4 := hide (row_ok (X := X) (k := k) (fun i hi => HX.out i (by omega))); have q5 := hide (row_ok (X := Y) (k := k) (fun i hi => HY.out i (by omega))); have q6 := hide (row_ok (X := Z) (k := k) (fun i hi => HZ.out i (by omega)))
        have q7 := hide (row_ok (X := sum3 X Y Z) (k := k) (fun i hi => (xor8 (xor8 (HX.out i (by omega)) (HY.out i (by omega))).1 (HZ.out i (by omega))).1))
        go_wp2_with fail
        refine (sum_at A7 c7 k (row (sum3 X Y Z) k) _ (row_length _ _) r7.out (Below.refl _ _) q7.out (by rw [row_length]; omega)).mono ?_
        rintro e w2 ⟨rfl, hb2⟩
        go_wp2_with fail
        refine (sum_at A4 c4 k (row X k) _ (row_length _ _) r4.out hb2 q4.out (by rw [row_length]; omega)).mono ?_
        rintro e w3 ⟨rfl, hb3⟩
        go_wp2_with fail
        refine (sum_at A5 c5 k (row Y k) _ (row_length _ _) r5.out hb3 q5.out (by rw [row_length]; omega)).mono ?_
        rintro e w4 ⟨rfl, hb4⟩
        go_wp2_with fail
        refine (sum_at A6 c6 k (row Z k) _ (row_length _ _) r6.out hb4 q6.out (by rw [row_length]; omega)).mono ?_
        rintro e w5 ⟨rfl, hb5⟩
        have hx := hx3.out
        generalize Crc.nm (Crc.more 0 ((row (sum3 X Y Z) k).map Crc.bv)) = s7 at hx ⊢
        generalize Crc.nm (Crc.more 0 ((row X k).map Crc.bv)) = s4 at hx ⊢
        generalize Crc.nm (Crc.more 0 ((row Y k).map Crc.bv)) = s5 at hx ⊢
        generalize Crc.nm (Crc.more 0 ((row Z k).map Crc.bv)) = s6 at hx ⊢
        go_wp2
        go_ret
        exact ⟨rfl, below_next hbr hb5⟩
    · have hx3 := hide (sum_row (X := X) (Y := Y) (Z := Z) (k := k) (fun i hi => HX.out i (by omega)) (fun i hi => HY.out i (by omega)) (fun i hi => HZ.out i (by omega)))
      have r4 := hide (Reads.of_own Hown.out.1); have r5 := hide (Reads.of_own Hown.out.2.1); have r6 := hide (Reads.of_own Hown.out.2.2.1); have r7 := hide (Reads.of_own Hown.out.2.2.2)
      have q4 := hide (row_ok (X := X) (k := k) (fun i hi => HX.out i (by omega))); have q5 := hide (row_ok (X := Y) (k := k) (fun i hi => HY.out i (by omega))); have q6 := hide (row_ok (X := Z) (k := k) (fun i hi => HZ.out i (by omega)))
      have q7 := hide (row_ok (X := sum3 X Y Z) (k := k) (fun i hi => (xor8 (xor8 (HX.out i (by omega)) (HY.out i (by omega))).1 (HZ.out i (by omega))).1))
      go_wp2_with fail
      refine (sum_at A7 c7 k (row (sum3 X Y Z) k) _ (row_length _ _) r7.out (Below.refl _ _) q7.out (by rw [row_length]; omega)).mono ?_
      rintro e w2 ⟨rfl, hb2⟩
      go_wp2_with fail
      refine (sum_at A4 c4 k (row X k) _ (row_length _ _) r4.out hb2 q4.out (by rw [row_length]; omega)).mono ?_
      rintro e w3 ⟨rfl, hb3⟩
      go_wp2_with fail
      refine (sum_at A5 c5 k (row Y k) _ (row_length _ _) r5.out hb3 q5.out (by rw [row_length]; omega)).mono ?_
      rintro e w4 ⟨rfl, hb4⟩
      go_wp2_with fail
      refine (sum_at A6 c6 k (row Z k) _ (row_length _ _) r6.out hb4 q6.out (by rw [row_length]; omega)).mono ?_
      rintro e w5 ⟨rfl, hb5⟩
      have hx := hx3.out
      generalize Crc.nm (Crc.more 0 ((row (sum3 X Y Z) k).map Crc.bv)) = s7 at hx ⊢
      generalize Crc.nm (Crc.more 0 ((row X k).map Crc.bv)) = s4 at hx ⊢
      generalize Crc.nm (Crc.more 0 ((row Y k).map Crc.bv)) = s5 at hx ⊢
      generalize Crc.nm (Crc.more 0 ((row Z k).map Crc.bv)) = s6 at hx ⊢
      go_wp2
      go_ret
      exact ⟨rfl, below_next hbr hb5⟩

/-- The three cells of an element. -/
theorem three_cells {H : Type} {enc : TypeId × Value → H} {W : World} {fuel : Nat} {cs : List Value} {D : DataW H} {Pl : List MemPlace} (hl : cs.length = 3) (h : DataW.trod enc Try.prog W 0 (fun _ => true) true fuel 32 cs = some (D, Pl)) :
    ∃ x y z : Int, cs = [.int .u8 x, .int .u8 y, .int .u8 z] ∧ (0 ≤ x ∧ x ≤ 255) ∧ (0 ≤ y ∧ y ≤ 255) ∧ (0 ≤ z ∧ z ≤ 255) := by
  obtain ⟨xs, m, _, _, _, hn, hel⟩ := DataW.trod_array Try.underlying32 h
  have hc : Try.prog.cellsOf 5 = 1 := by kernel_rfl
  rw [hc] at hel
  match cs, hl with
  | [a, b, c], _ =>
    match xs, hn with
    | [p, q, r], _ =>
      obtain ⟨x, e1, _, w1⟩ := DataW.trod_int Try.underlying5 (hel 0 (by omega))
      obtain ⟨y, e2, _, w2⟩ := DataW.trod_int Try.underlying5 (hel 1 (by omega))
      obtain ⟨z, e3, _, w3⟩ := DataW.trod_int Try.underlying5 (hel 2 (by omega))
      simp at e1 e2 e3
      subst e1 e2 e3
      exact ⟨x, y, z, rfl, bounds_u8 w1, bounds_u8 w2, bounds_u8 w3⟩

theorem choose3 {n : Nat} {p : Nat → Int → Int → Int → Prop} (h : ∀ i, i < n → ∃ x y z : Int, p i x y z) : ∃ X Y Z : Nat → Int, ∀ i, i < n → p i (X i) (Y i) (Z i) := by
  have h' : ∀ i, ∃ q : Int × Int × Int, i < n → p i q.1 q.2.1 q.2.2 := fun i => by
    by_cases hi : i < n
    · obtain ⟨x, y, z, hp⟩ := h i hi
      exact ⟨(x, y, z), fun _ => hp⟩
    · exact ⟨(0, 0, 0), fun hh => absurd hh hi⟩
  exact ⟨fun i => (Classical.choose (h' i)).1, fun i => (Classical.choose (h' i)).2.1, fun i => (Classical.choose (h' i)).2.2, fun i hi => Classical.choose_spec (h' i) hi⟩

set_option maxRecDepth 100000 in
theorem crcAdds_lifted (os : Os) (started : os.Started) (H : Type) (enc : TypeId × Value → H) :
    ReturnsInHanded {} Try.checked os 6 .any (Rows.crcAddsSpec.pre6 enc Try.prog Try.f6 Rows.crcAddsRow.domain false) (Rows.crcAddsSpec.post enc Try.prog Try.f6 false true false false) := by
  refine returnsInHanded_of_change_sized (C := Try.checked) (by kernel_rfl) started (by kernel_rfl) Try.func6
    (ChangeSpec.witness6 (enc := enc) (C := Try.checked) false ⟨#[], #[.slice none 0 0], []⟩ 8 (by kernel_rfl) (by kernel_rfl) (by kernel_rfl) (by kernel_rfl)) ?_
  intro W base args ds gs before hval0 hW _ hsz0 _
  have hval : ∀ (j : Nat) t v, Try.f6.params[j]? = some t → args[j]? = some v → Value.okWide Try.prog W .any base t v := hval0
  have hW' := hW
  obtain ⟨p, q, hA0, hV, rfl, _, _⟩ := hW
  have hA : DataW.TrodAll enc Try.prog W 0 (fun _ => true) true Try.f6.params.toList args.toList ds p := hA0
  have _hsz : (DataW.weightsEach Try.prog (Try.f6.params.toList ++ Rows.crcAddsSpec.plain.varTypes Try.prog) (ds ++ gs)).all (· ≤ reachBytes) = true := hsz0
  rw [Try.params6] at hA hval
  obtain ⟨v0, d0, rfl, rfl, h0⟩ := trodAll_one hA
  obtain ⟨A0, cap0, n0, V, fuel, D, rfl, _, _, hR0, hel, _⟩ := open_rows Try.underlying31 (C := 3) (by kernel_rfl) (by omega) (hval 0 31 v0 rfl rfl) h0
  obtain ⟨X, Y, Z, hV⟩ := choose3 (n := n0) (p := fun i x y z => V i = [.int .u8 x, .int .u8 y, .int .u8 z] ∧ (0 ≤ x ∧ x ≤ 255) ∧ (0 ≤ y ∧ y ≤ 255) ∧ (0 ≤ z ∧ z ≤ 255)) (fun i hi => three_cells (hel i hi).1 (hel i hi).2.choose_spec)
  have hR3 := hR0.congr (fun i hi => (hV i hi).1)
  refine (crcAdds_walk A0 n0 cap0 X Y Z W hR3 (fun i hi => (hV i hi).2.1) (fun i hi => (hV i hi).2.2.1) (fun i hi => (hV i hi).2.2.2)).mono fun e W' ⟨he, hb⟩ => ?_
  subst he
  exact ⟨_, rfl, post_law (by kernel_rfl) (by kernel_rfl) rfl hW' (by rintro _ rfl; rfl) rfl Try.underlying4 hb⟩

theorem crcAdds_holds : Rows.CrcAddsSaid :=
  OpenClaim.holds_of_wide 6 Try.f6 rfl rfl rfl rfl rfl rfl rfl ⟨rfl, rfl, rfl, rfl, rfl⟩ rfl rfl rfl rfl rfl (by kernel_rfl) Try.func6 (by kernel_rfl)
    (of_decide_eq_true (by kernel_rfl)) (by unfold Func.isWrapper; first | (rw [if_pos (by decide +kernel)]; kernel_rfl) | (rw [if_neg (by decide +kernel)]; exact ⟨rfl, rfl⟩))
    (fun os started H enc _ => crcAdds_lifted os started H enc)

end Go.Proofs.Ytodlabpgjgbbpaa
