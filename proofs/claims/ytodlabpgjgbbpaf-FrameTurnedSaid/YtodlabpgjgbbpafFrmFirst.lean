/-
  The first frame of any bytes: what the program's function says of it.
-/
import Derived.Test.YtodlabpgjgbbpafFour
import Derived.Laws.Cover3
namespace Go.Proofs.Ytodlabpgjgbbpaf
open Go.RowKit Go.Agio

theorem or_add (a b : Int) (k : Nat) (ha : 0 ≤ a) (hak : a < ((2 ^ k : Nat) : Int)) (hb : 0 ≤ b) (hs : b * ((2 ^ k : Nat) : Int) + a < 4294967296) : Go.bits .or .u32 a (b * ((2 ^ k : Nat) : Int)) = a + b * ((2 ^ k : Nat) : Int) := by
  obtain ⟨x, rfl⟩ := Int.eq_ofNat_of_zero_le ha
  obtain ⟨y, rfl⟩ := Int.eq_ofNat_of_zero_le hb
  have hx : x < 2 ^ k := Int.ofNat_lt.1 hak
  have e1 : Go.bits .or .u32 (x : Int) ((y : Int) * ((2 ^ k : Nat) : Int)) = Crc.nm (Crc.bv (x : Int) ||| Crc.bv ((y : Int) * ((2 ^ k : Nat) : Int))) := by
    show IntKind.u32.wrap ((BitVec.ofInt 32 (x : Int) ||| BitVec.ofInt 32 ((y : Int) * ((2 ^ k : Nat) : Int))).toNat : Int) = _
    rw [IntKind.wrap_u32']
    have := Crc.nm_lt (Crc.bv (x : Int) ||| Crc.bv ((y : Int) * ((2 ^ k : Nat) : Int)))
    exact Int.emod_eq_of_lt this.1 this.2
  rw [e1]
  unfold Crc.nm
  rw [BitVec.toNat_or]
  have hp : (y : Int) * ((2 ^ k : Nat) : Int) = ((2 ^ k * y : Nat) : Int) := by rw [Nat.mul_comm]; exact (Int.natCast_mul _ _).symm
  have hs' : 2 ^ k * y + x < 4294967296 := by rw [hp] at hs; generalize 2 ^ k * y = z at hs ⊢; omega
  have b1 : (Crc.bv (x : Int)).toNat = x := by unfold Crc.bv; rw [BitVec.ofInt_natCast, BitVec.toNat_ofNat]; exact Nat.mod_eq_of_lt (by omega)
  have b2 : (Crc.bv ((y : Int) * ((2 ^ k : Nat) : Int))).toNat = 2 ^ k * y := by rw [hp]; unfold Crc.bv; rw [BitVec.ofInt_natCast, BitVec.toNat_ofNat]; exact Nat.mod_eq_of_lt (by omega)
  rw [b1, b2, hp, Nat.or_comm, ← Nat.two_pow_add_eq_or_of_lt hx y]
  omega
theorem or_add' (a b m : Int) (k : Nat) (hm : m = ((2 ^ k : Nat) : Int)) (ha : 0 ≤ a) (hak : a < m) (hb : 0 ≤ b) (hs : b * m + a < 4294967296) : Go.bits .or .u32 a (b * m) = a + b * m := by
  subst hm
  exact or_add a b k ha hak hb hs
theorem or_four {b0 b1 b2 b3 : Int} (h0 : 0 ≤ b0 ∧ b0 ≤ 255) (h1 : 0 ≤ b1 ∧ b1 ≤ 255) (h2 : 0 ≤ b2 ∧ b2 ≤ 255) (h3 : 0 ≤ b3 ∧ b3 ≤ 255) :
    Go.bits .or .u32 (Go.bits .or .u32 (Go.bits .or .u32 b0 (b1 * 256)) (b2 * 65536)) (b3 * 16777216) = b0 + 256 * b1 + 65536 * b2 + 16777216 * b3 := by
  rw [or_add' b0 b1 256 8 (by decide) (by omega) (by omega) (by omega) (by omega), or_add' (b0 + b1 * 256) b2 65536 16 (by decide) (by omega) (by omega) (by omega) (by omega),
    or_add' (b0 + b1 * 256 + b2 * 65536) b3 16777216 24 (by decide) (by omega) (by omega) (by omega) (by omega)]
  omega

theorem cut_at {P : Program} (T : TypeId) (hT : P.underlying T = some (.slice (P.elem T))) (hz : ∀ w : World, (sizeOf (P.elem T)).run P w = .ok 1 w) (b off n cap l h : Nat) (hl : l ≤ h) (hh : h ≤ n) (hn : n ≤ cap) (hlc : l < cap) (h0 : 0 < l) :
    ∀ w : World, (Instr.slice T (.slice (some ⟨b, off, none⟩) n cap) (some (.int .i64 (l : Int))) (some (.int .i64 (h : Int))) none).run P w = .ok (.slice (some ⟨b, off + l, none⟩) (h - l) (cap - l)) w := by
  intro w
  have := run_slice_lh w T (some ⟨b, off, none⟩) n cap hT .i64 .i64 (l : Int) (h : Int) (by omega) (by omega) (by omega)
  rw [this, hz]
  have e1 : ¬ cap = l := by omega
  have e2 : ¬ l = 0 := by omega
  simp [sliced, Addr.add, e1, e2]

/-- What is said of the first frame: how many bytes are in it, and the code. -/
def FirstGot (xs : List Int) (w : World) (e : Ending) (w' : World) : Prop := e = .returned (.tuple #[.int .i64 (if Frm.code xs = 0 then (Frm.bodyN xs : Int) else 0), .int .i64 (Frm.code xs)]) ∧ Below w.heap.size w w'
theorem first_bad {xs : List Int} {w w' : World} {k : Int} (h : Frm.code xs = k) (hk : k ≠ 0) (hb : Below w.heap.size w w') : FirstGot xs w (.returned (.tuple #[.int .i64 0, .int .i64 k])) w' := by
  unfold FirstGot
  rw [h, if_neg hk]
  exact ⟨rfl, hb⟩
theorem first_good {xs : List Int} {w w' : World} {m : Nat} (h : Frm.code xs = 0) (hm : Frm.bodyN xs = m) (hb : Below w.heap.size w w') : FirstGot xs w (.returned (.tuple #[.int .i64 (m : Int), .int .i64 0])) w' := by
  unfold FirstGot
  rw [h, if_pos rfl, hm]
  exact ⟨rfl, hb⟩

set_option maxRecDepth 100000 in
set_option maxHeartbeats 4000000 in
theorem first_any (A : Option Addr) (c : Nat) (xs : List Int) (w : World) (hR : Reads w A (bys xs)) (hx : Frm.ok xs) (hl : xs.length ≤ 4611686018427387904) (hc : xs.length ≤ c) :
    Calls Try.prog 24 #[.slice A xs.length c] w (FirstGot xs w) := by
  have HR := hide hR
  by_cases h1 : xs.length < 8
  · have HC := hide (show Frm.code xs = 3 by unfold Frm.code; rw [if_pos h1])
    go_enter Try.func24, Try.ntmps24
    go_wp2
    go_ret2
    exact first_bad HC.out (by decide) (Below.refl _ _)
  · have hs1 := cut_h 22 elem8 size8 A xs.length c 4 (by omega)
    obtain ⟨b, off, rfl, hb, hcell⟩ := hR.at_ (k := 0) (by simp; omega)
    have hk : ∀ i, i < xs.length → w.cell? ⟨b, off + i, none⟩ = some (.int .u8 (xs.getD i 0)) := fun i hi => by
      rw [hcell i (by simpa using hi), getD_map_int _ _ hi]
    have g := fun i => (show 0 ≤ xs.getD i 0 ∧ xs.getD i 0 ≤ 255 by
      rcases Nat.lt_or_ge i xs.length with h | h
      · rw [List.getD_eq_getElem?_getD, List.getElem?_eq_getElem h]; exact hx _ (List.getElem_mem h)
      · rw [List.getD_eq_getElem?_getD, List.getElem?_eq_none h]; simp)
    have k0 := hk 0 (by omega)
    have k1 := hk 1 (by omega)
    have k2 := hk 2 (by omega)
    have k3 := hk 3 (by omega)
    rw [Nat.add_zero] at k0
    obtain ⟨g00, g01⟩ := g 0
    obtain ⟨g10, g11⟩ := g 1
    obtain ⟨g20, g21⟩ := g 2
    obtain ⟨g30, g31⟩ := g 3
    have HN := hide (show Frm.num xs = xs.getD 0 0 + 256 * xs.getD 1 0 + 65536 * xs.getD 2 0 + 16777216 * xs.getD 3 0 from rfl)
    generalize xs.getD 0 0 = b0 at *
    generalize xs.getD 1 0 = b1 at *
    generalize xs.getD 2 0 = b2 at *
    generalize xs.getD 3 0 = b3 at *
    have k4 := hk 4 (by omega)
    have k5 := hk 5 (by omega)
    have k6 := hk 6 (by omega)
    have k7 := hk 7 (by omega)
    have G4 := hide (g 4); have G5 := hide (g 5); have G6 := hide (g 6); have G7 := hide (g 7)
    have HD4 := hide (show (xs.drop 4).take 4 = [xs.getD 4 0, xs.getD 5 0, xs.getD 6 0, xs.getD 7 0] by
      rw [Frm.list4 (by rw [List.length_drop]; omega)]
      simp [List.getD_eq_getElem?_getD])
    generalize xs.getD 4 0 = b4 at *
    generalize xs.getD 5 0 = b5 at *
    generalize xs.getD 6 0 = b6 at *
    generalize xs.getD 7 0 = b7 at *
    have HK4 := hide (And.intro k4 (And.intro k5 (And.intro k6 k7)))
    clear hcell g hk hR k4 k5 k6 k7
    have ha := fun (w : World) (a : Option Addr) (n c : Nat) (h : 4 ≤ n) => run_arrayAt (P := Try.prog) (w := w) 47 5 4 a n c Try.underlying47 h
    go_enter Try.func24, Try.ntmps24
    go_upto_region 5 with fail
    have hor := or_four ⟨g00, g01⟩ ⟨g10, g11⟩ ⟨g20, g21⟩ ⟨g30, g31⟩
    rw [hor, ← HN.out]
    clear hor
    obtain ⟨hn0, hn1⟩ := Frm.num_bd hx
    have K0 := heap_new w (.cells #[.int .u8 b0, .int .u8 b1, .int .u8 b2, .int .u8 b3] 47)
    have HBW := hide ((Below.refl w.heap.size w).alloc (Nat.le_refl _) (.cells #[.int .u8 b0, .int .u8 b1, .int .u8 b2, .int .u8 b3] 47))
    have HT4 := hide (show (fourv (Frm.num xs)) = #[.int .u8 b0, .int .u8 b1, .int .u8 b2, .int .u8 b3] by
      have e0 : Frm.num xs % 256 = b0 := by rw [HN.out]; omega
      have e1 : Frm.num xs / 256 % 256 = b1 := by rw [HN.out]; omega
      have e2 : Frm.num xs / 65536 % 256 = b2 := by rw [HN.out]; omega
      have e3 : Frm.num xs / 16777216 = b3 := by rw [HN.out]; omega
      unfold fourv
      rw [e0, e1, e2, e3])
    have HCD := hide (show Frm.code xs = if 4096 < Frm.num xs then 5 else if (xs.length : Int) - 8 < Frm.num xs then 3 else if (xs.drop 4).take 4 = Frm.four (Frm.chk (xs.take 4) ((xs.drop 8).take (Frm.bodyN xs))) then 0 else 4 by unfold Frm.code; rw [if_neg h1])
    clear k0 k1 k2 k3 HN
    rw [← HT4.out] at K0 HBW ⊢
    generalize w.alloc (.cells (fourv (Frm.num xs)) 47) = W0 at *
    have K0 := hide K0
    clear hs1 ha
    by_cases h2 : 4096 < Frm.num xs
    · have HC := hide (show Frm.code xs = 5 by rw [HCD.out, if_pos h2])
      go_wp2
      go_ret2
      exact first_bad HC.out (by decide) HBW.out
    · by_cases h3 : (xs.length : Int) - 8 < Frm.num xs
      · have HC := hide (show Frm.code xs = 3 by rw [HCD.out, if_neg h2, if_pos h3])
        go_wp2
        go_ret2
        exact first_bad HC.out (by decide) HBW.out
      · obtain ⟨m, hm⟩ : ∃ m : Nat, Frm.num xs = (m : Int) := ⟨(Frm.num xs).toNat, by omega⟩
        have HBN := hide (show Frm.bodyN xs = m by unfold Frm.bodyN; omega)
        have HCE := hide (show Frm.code xs = if [b4, b5, b6, b7] = Frm.four (Frm.chk (Frm.four (Frm.num xs)) ((xs.drop 8).take m)) then 0 else 4 by rw [HCD.out, if_neg h2, if_neg h3, HD4.out, HBN.out, Frm.four_num hx (by omega)])
        have hs2 := cut_at 22 elem8 size8 b off xs.length c 4 8 (by omega) (by omega) hc (by omega) (by omega)
        obtain ⟨A3, n3, c3, hn3, hc3, hs3, hr3⟩ := cut_lh 22 elem8 size8 (some ⟨b, off, none⟩) xs.length c 8 (8 + m) (by omega) (by omega) hc
        have RB := hr3 W0 _ (HR.out.below HBW.out) (by rw [List.length_map])
        rw [← List.map_drop, ← List.map_take, show n3 = m by omega] at RB
        rw [show n3 = m by omega] at hs3
        have HLB : Hid (((xs.drop 8).take m).length = m) := hide (by rw [List.length_take, List.length_drop]; omega)
        have HOB : Hid (Frm.ok ((xs.drop 8).take m)) := hide (Frm.ok_take (Frm.ok_drop hx _) _)
        have CS := hide (fun (W : World) (hW : Below W0.heap.size W0 W) => (fsum_any (Frm.num xs) A3 c3 m ((xs.drop 8).take m) W hn0 hn1 (RB.below hW) HLB.out HOB.out (by omega)).mono fun _ _ g => (⟨g.1, below_next hW g.2⟩ : _ ∧ Below W0.heap.size W0 _))
        have hck := Frm.chk_bd (Frm.four (Frm.num xs)) ((xs.drop 8).take m)
        generalize Frm.chk (Frm.four (Frm.num xs)) ((xs.drop 8).take m) = q at *
        obtain ⟨hq0, hq1⟩ := hck
        clear RB hr3 hn3 hc3
        have ha := fun (W : World) => run_arrayAt (P := Try.prog) (w := W) 47 5 4 (some ⟨b, off + 4, none⟩) 4 (c - 4) Try.underlying47 (by omega)
        rw [show ((8 + m : Nat) : Int) = 8 + (m : Int) by omega] at hs3
        replace hs2 : ∀ W : World, (Instr.slice 22 (.slice (some ⟨b, off, none⟩) xs.length c) (some (.int .i64 4)) (some (.int .i64 8)) none).run Try.prog W = .ok (.slice (some ⟨b, off + 4, none⟩) 4 (c - 4)) W := hs2
        replace hs3 : ∀ W : World, (Instr.slice 22 (.slice (some ⟨b, off, none⟩) xs.length c) (some (.int .i64 8)) (some (.int .i64 (8 + (m : Int)))) none).run Try.prog W = .ok (.slice A3 m c3) W := hs3
        have k4 := (HBW.out.cell (p := ⟨b, off + 4, none⟩) hb).trans HK4.out.1
        have k5 := (HBW.out.cell (p := ⟨b, off + 5, none⟩) hb).trans HK4.out.2.1
        have k6 := (HBW.out.cell (p := ⟨b, off + 6, none⟩) hb).trans HK4.out.2.2.1
        have k7 := (HBW.out.cell (p := ⟨b, off + 7, none⟩) hb).trans HK4.out.2.2.2
        obtain ⟨z0, z1, z2, z3⟩ := four_at K0.out
        have LZ := blk_lt K0.out
        have hb0 : b < W0.heap.size := Nat.lt_of_lt_of_le hb HBW.out.size
        generalize hx0 : Frm.num xs = N at *
        have HX0 := hide hx0
        have HM := hide hm
        clear hx0
        subst hm
        have hg4 := guard4
        by_cases hcmp : [b4, b5, b6, b7] = Frm.four q
        · have HC := hide (show Frm.code xs = 0 by rw [HCE.out, if_pos hcmp])
          simp only [Frm.four, List.cons.injEq, and_true] at hcmp
          obtain ⟨rfl, rfl, rfl, hb7⟩ := hcmp
          rw [show q / 16777216 % 256 = q / 16777216 by omega] at hb7
          subst hb7
          clear HCE
          have hnq := fun (W : World) => neq_four W (q % 256) (q / 256 % 256) (q / 65536 % 256) (q / 16777216) (q % 256) (q / 256 % 256) (q / 65536 % 256) (q / 16777216)
          rw [show (!decide (q % 256 = q % 256 ∧ q / 256 % 256 = q / 256 % 256 ∧ q / 65536 % 256 = q / 65536 % 256 ∧ q / 16777216 = q / 16777216)) = false by simp] at hnq
          go_wp2_with fail
          have hw1 : IntKind.i64.wrap (8 + (m : Int)) = 8 + (m : Int) := IntWalk.i64_in _ (by omega)
          have hw2 : IntKind.i64.wrap (m : Int) = (m : Int) := IntWalk.i64_in _ (by omega)
          go_region_held3 (fun W => W.cell? ⟨b, off + 4, none⟩ = some (.int .u8 (q % 256)) ∧ W.cell? ⟨b, off + 5, none⟩ = some (.int .u8 (q / 256 % 256)) ∧ W.cell? ⟨b, off + 6, none⟩ = some (.int .u8 (q / 65536 % 256)) ∧ W.cell? ⟨b, off + 7, none⟩ = some (.int .u8 (q / 16777216)) ∧ W.cell? ⟨w.heap.size, 0, none⟩ = some (.int .u8 ((m : Int) % 256)) ∧ W.cell? ⟨w.heap.size, 1, none⟩ = some (.int .u8 ((m : Int) / 256 % 256)) ∧ W.cell? ⟨w.heap.size, 2, none⟩ = some (.int .u8 ((m : Int) / 65536 % 256)) ∧ W.cell? ⟨w.heap.size, 3, none⟩ = some (.int .u8 ((m : Int) / 16777216))) (go_keep) ((go_at_call 20; refine (CS.out _ (by first | exact Below.refl _ _ | exact (Below.refl _ _).drew)).mono ?_; rintro e w5 ⟨rfl, hb5'⟩; have hb5 : Below W0.heap.size W0 w5 := hb5'; have k4 := (hb5.cell (p := ⟨b, off + 4, none⟩) hb0).trans k4; have k5 := (hb5.cell (p := ⟨b, off + 5, none⟩) hb0).trans k5; have k6 := (hb5.cell (p := ⟨b, off + 6, none⟩) hb0).trans k6; have k7 := (hb5.cell (p := ⟨b, off + 7, none⟩) hb0).trans k7; have z0 := (hb5.cell (p := ⟨w.heap.size, 0, none⟩) LZ).trans z0; have z1 := (hb5.cell (p := ⟨w.heap.size, 1, none⟩) LZ).trans z1; have z2 := (hb5.cell (p := ⟨w.heap.size, 2, none⟩) LZ).trans z2; have z3 := (hb5.cell (p := ⟨w.heap.size, 3, none⟩) LZ).trans z3; have HB5 := hide hb5; clear hb5 hb5'))
          all_goals clear hw1 hw2 hnq hg4
          all_goals go_wp2
          all_goals go_ret2
          all_goals exact first_good HC.out HBN.out (below_next HBW.out HB5.out)
        · have HC := hide (show Frm.code xs = 4 by rw [HCE.out, if_neg hcmp])
          have hno : (!decide (b4 = q % 256 ∧ b5 = q / 256 % 256 ∧ b6 = q / 65536 % 256 ∧ b7 = q / 16777216)) = true := by
            rw [Bool.not_eq_true', decide_eq_false_iff_not]
            rintro ⟨r4, r5, r6, r7⟩
            apply hcmp
            have r8 : q / 16777216 % 256 = q / 16777216 := by omega
            unfold Frm.four
            rw [r4, r5, r6, r7, r8]
          have hnq := fun (W : World) => neq_four W b4 b5 b6 b7 (q % 256) (q / 256 % 256) (q / 65536 % 256) (q / 16777216)
          rw [hno] at hnq
          clear HCE hcmp hno
          go_wp2_with fail
          have hw1 : IntKind.i64.wrap (8 + (m : Int)) = 8 + (m : Int) := IntWalk.i64_in _ (by omega)
          have hw2 : IntKind.i64.wrap (m : Int) = (m : Int) := IntWalk.i64_in _ (by omega)
          go_region_held3 (fun W => W.cell? ⟨b, off + 4, none⟩ = some (.int .u8 b4) ∧ W.cell? ⟨b, off + 5, none⟩ = some (.int .u8 b5) ∧ W.cell? ⟨b, off + 6, none⟩ = some (.int .u8 b6) ∧ W.cell? ⟨b, off + 7, none⟩ = some (.int .u8 b7) ∧ W.cell? ⟨w.heap.size, 0, none⟩ = some (.int .u8 ((m : Int) % 256)) ∧ W.cell? ⟨w.heap.size, 1, none⟩ = some (.int .u8 ((m : Int) / 256 % 256)) ∧ W.cell? ⟨w.heap.size, 2, none⟩ = some (.int .u8 ((m : Int) / 65536 % 256)) ∧ W.cell? ⟨w.heap.size, 3, none⟩ = some (.int .u8 ((m : Int) / 16777216))) (go_keep) ((go_at_call 20; refine (CS.out _ (by first | exact Below.refl _ _ | exact (Below.refl _ _).drew)).mono ?_; rintro e w5 ⟨rfl, hb5'⟩; have hb5 : Below W0.heap.size W0 w5 := hb5'; have k4 := (hb5.cell (p := ⟨b, off + 4, none⟩) hb0).trans k4; have k5 := (hb5.cell (p := ⟨b, off + 5, none⟩) hb0).trans k5; have k6 := (hb5.cell (p := ⟨b, off + 6, none⟩) hb0).trans k6; have k7 := (hb5.cell (p := ⟨b, off + 7, none⟩) hb0).trans k7; have z0 := (hb5.cell (p := ⟨w.heap.size, 0, none⟩) LZ).trans z0; have z1 := (hb5.cell (p := ⟨w.heap.size, 1, none⟩) LZ).trans z1; have z2 := (hb5.cell (p := ⟨w.heap.size, 2, none⟩) LZ).trans z2; have z3 := (hb5.cell (p := ⟨w.heap.size, 3, none⟩) LZ).trans z3; have HB5 := hide hb5; clear hb5 hb5'))
          all_goals clear hw1 hw2 hnq hg4
          all_goals go_wp2
          all_goals go_ret2
          all_goals exact first_bad HC.out (by decide) (below_next HBW.out HB5.out)

end Go.Proofs.Ytodlabpgjgbbpaf
