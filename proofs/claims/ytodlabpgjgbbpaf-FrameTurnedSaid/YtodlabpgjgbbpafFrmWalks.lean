/-
  What the functions of frames do, each by a contract.
-/
import Derived.Test.YtodlabpgjgbbpafCrcWalks
import Derived.Test.YtodlabpgjgbbpafBytes
import Derived.Test.YtodlabpgjgbbpafCells
import Derived.Test.YtodlabpgjgbbpafFrmPlain
import Derived.Deep.RegionHeld3
import Derived.Deep.DeepCutAuto
namespace Go.Proofs.Ytodlabpgjgbbpaf
open Go.RowKit Go.Agio

/-- Four bytes, as a value. -/
abbrev fourv (n : Int) : Array Value := #[.int .u8 (n % 256), .int .u8 (n / 256 % 256), .int .u8 (n / 65536 % 256), .int .u8 (n / 16777216)]
theorem fourv_list {n : Int} (h0 : 0 ≤ n) (h1 : n < 4294967296) : bys (Frm.four n) = (fourv n).toList := by
  have : n / 16777216 % 256 = n / 16777216 := by omega
  simp [Frm.four, this]
/-- A block known whole reads as its cells. -/
theorem Reads.blk {w : World} {b : Nat} {C : Array Value} {t : TypeId} {fr : Nat × Nat} (h : w.heap[b]? = some (.cells C t fr)) : Reads w (some ⟨b, 0, none⟩) C.toList := by
  right
  refine ⟨b, 0, rfl, blk_lt h, fun i hi => ?_⟩
  have hi' : i < C.size := by simpa using hi
  rw [cell_blk h]
  simp [List.getD_eq_getElem?_getD, hi']

set_option maxHeartbeats 1000000 in
theorem four_any (n : Int) (w : World) (h0 : 0 ≤ n) (h1 : n < 4294967296) :
    Calls Try.prog 19 #[.int .u32 n] w fun e w' => e = .returned (.agg (fourv n)) ∧ Below w.heap.size w w' := by
  go_enter Try.func19, Try.ntmps19
  go_wp2
  refine bodyPost_ret (v := .agg (fourv n)) (by simp [results, Try.results19, go_sem]) rfl ?_
  exact ⟨rfl, (Below.refl _ _).alloc (Nat.le_refl _) _⟩

set_option maxHeartbeats 1000000 in
theorem fsum_any (n : Int) (A : Option Addr) (c m : Nat) (xs : List Int) (w : World) (h0 : 0 ≤ n) (h1 : n < 4294967296) (hR : Reads w A (bys xs)) (hm : xs.length = m) (hx : Frm.ok xs) (hl : m ≤ 140737488355328) :
    Calls Try.prog 20 #[.agg (fourv n), .slice A m c] w fun e w' => e = .returned (.agg (fourv (Frm.chk (Frm.four n) xs))) ∧ Below w.heap.size w w' := by
  have HR := hide hR
  go_enter Try.func20, Try.ntmps20
  go_wp2_with fail
  have hN := two_new w (.cells (fourv n) 47) (.cells #[.int .u8 0, .int .u8 0, .int .u8 0, .int .u8 0] 47)
  generalize (w.alloc (.cells (fourv n) 47)).alloc (.cells #[.int .u8 0, .int .u8 0, .int .u8 0, .int .u8 0] 47) = W0 at *
  obtain ⟨K0, K1, hs, hb⟩ := hN
  have R0 : Reads W0 (some ⟨w.heap.size, 0, none⟩) (bys (Frm.four n)) := by rw [fourv_list h0 h1]; exact Reads.blk K0
  have HF := Frm.four_ok n
  refine (sum_at (w0 := W0) (some ⟨w.heap.size, 0, none⟩) 4 4 (Frm.four n) W0 rfl R0 (Below.refl _ _) (fun z hz => by have := HF z hz; omega) (by simp [Frm.four])).mono ?_
  rintro e w1 ⟨rfl, hb1⟩
  have HB1 := hide hb1; have HB0 := hide hb; have K1 := hide K1
  clear hb1 hb hs K0 R0
  go_wp2_with fail
  refine (more_at (w0 := W0) (Crc.more 0 ((Frm.four n).map Crc.bv)) A c m xs w1 hm (HR.out.below HB0.out) HB1.out (fun z hz => hx z hz) (by omega)).mono ?_
  rintro e w2 ⟨rfl, hb2⟩
  have HB2 := hide hb2
  clear hb2
  have CF := hide (fun (W : World) => four_any (Frm.chk (Frm.four n) xs) W (Frm.chk_bd _ _).1 (Frm.chk_bd _ _).2)
  change Hid (∀ W : World, Calls Try.prog 19 #[.int .u32 (Crc.nm (Crc.more (Crc.more 0 ((Frm.four n).map Crc.bv)) (xs.map Crc.bv)))] W _) at CF
  go_wp2_with fail
  refine (CF.out _).mono ?_
  rintro e w3 ⟨rfl, hb3⟩
  have k1 := (hb3.block _ (blk_lt ((HB2.out.block _ (blk_lt K1.out)).trans K1.out))).trans ((HB2.out.block _ (blk_lt K1.out)).trans K1.out)
  obtain ⟨z0, z1, z2, z3⟩ := four_at k1
  obtain ⟨zf0, zf1, zf2, zf3⟩ := four_live k1
  have HB3 := hide (below_next HB0.out (below_next HB2.out hb3))
  clear hb3 k1
  generalize hq : Frm.chk (Frm.four n) xs = q at *
  have HQ := hide hq
  clear hq
  go_wp2
  refine bodyPost_ret (v := .agg (fourv q)) (by simp [results, Try.results20, go_sem, z0, z1, z2, z3]) rfl ?_
  exact ⟨by rw [HQ.out], (((HB3.out.setCell (p := ⟨w.heap.size + 1, 0, none⟩) (by simp) _).setCell (p := ⟨w.heap.size + 1, 1, none⟩) (by simp) _).setCell (p := ⟨w.heap.size + 1, 2, none⟩) (by simp) _).setCell (p := ⟨w.heap.size + 1, 3, none⟩) (by simp) _⟩

theorem own_lower {w : World} {base b : Nat} {e : TypeId} {v : Value} {n : Nat} {xs : List Value} (h : w.ownsRow base e 1 v n xs) (hb : b ≤ base) : w.ownsRow b e 1 v n xs := by
  refine ⟨h.1, ?_⟩
  rcases h.2 with h | ⟨g, cap, cur, he, hg, r⟩
  · exact .inl h
  · exact .inr ⟨g, cap, cur, he, Nat.le_trans hb hg, r⟩
theorem only_new {a w : World} (h : a.grownBy w none) : Below a.heap.size a w := ⟨h.os, h.tape, h.output, h.size, fun i hi => h.block i hi (by simp)⟩

set_option maxHeartbeats 2000000 in
theorem put_any (A : Option Addr) (c : Nat) (xs : List Int) (w : World) (hR : Reads w A (bys xs)) (hx : Frm.ok xs) (hl : xs.length ≤ 4096) :
    Calls Try.prog 10 #[.slice A xs.length c] w fun e w' => ∃ A' c', e = .returned (.tuple #[.slice A' (Frm.put xs).length c', .int .i64 0]) ∧ w'.ownsRow w.heap.size 5 1 (.slice A' (Frm.put xs).length c') (Frm.put xs).length (bys (Frm.put xs)) ∧ Below w.heap.size w w' := by
  obtain ⟨i0, hi, hz0, hz1, hz2⟩ := info_parts info8
  have HP := hide (show bys (Frm.put xs) = bys (Frm.four xs.length) ++ (bys (Frm.four (Frm.chk (Frm.four xs.length) xs)) ++ bys xs) by simp [Frm.put])
  have HPL := hide (Frm.put_length xs)
  have F1 := hide (fourv_list (n := (xs.length : Int)) (by omega) (by omega))
  have F2 := hide (fourv_list (n := Frm.chk (Frm.four xs.length) xs) (Frm.chk_bd _ _).1 (Frm.chk_bd _ _).2)
  have hck := Frm.chk_bd (Frm.four xs.length) xs
  have CS := hide (fun (W : World) (hb : Below w.heap.size w W) => fsum_any (xs.length : Int) A c xs.length xs W (by omega) (by omega) (hR.below hb) rfl hx (by omega))
  have HR := hide hR
  clear hR hx
  generalize hq : Frm.chk (Frm.four xs.length) xs = q at *
  have HQ := hide hq
  clear hq
  generalize hn : xs.length = n at *
  have HN := hide hn
  clear hn
  go_enter Try.func10, Try.ntmps10
  go_wp2_with fail
  refine (four_any (n : Int) w (by omega) (by omega)).mono ?_
  rintro e w1 ⟨rfl, hb1⟩
  have hN := one_new w1 (.cells (fourv (n : Int)) 47)
  go_upto_region 4 with fail
  generalize w1.alloc (.cells (fourv (n : Int)) 47) = W1 at *
  obtain ⟨K4, hs, hbw⟩ := hN
  have HB1 := hide (below_next hb1 hbw)
  have hlt1 := blk_lt K4
  have hge1 : w.heap.size ≤ w1.heap.size := hb1.size
  obtain ⟨x0, x1, x2, x3⟩ := four_at K4
  have K4 := hide K4
  clear hb1 hbw hs
  go_wp2_with fail
  refine (CS.out W1 HB1.out).mono ?_
  rintro e w2 ⟨rfl, hb2⟩
  clear x0 x1 x2 x3
  have hN := one_new w2 (.cells (fourv q) 47)
  have K4 := hide ((hb2.block _ hlt1).trans K4.out)
  have hge2 : w1.heap.size < w2.heap.size := Nat.lt_of_lt_of_le hlt1 hb2.size
  go_upto_region 5 with fail
  generalize w2.alloc (.cells (fourv q) 47) = W2 at *
  obtain ⟨K5, hs, hbw⟩ := hN
  have hlt2 := blk_lt K5
  have K4 := hide ((hbw.block _ (blk_lt K4.out)).trans K4.out)
  have HB2 := hide (below_next HB1.out (below_next hb2 hbw))
  replace K5 := hide K5
  clear hb2 hbw hs
  go_wp2_with (at_make; apply halted)
  refine unhalt (wpList_make_own W2 rfl (.const (.int .i64 0)) (.tmp 19) 22 rfl W2.heap.size 5 i0 (.int .u8 0) 1 Try.underlying22 hi hz0 hz1 .i64 .i64 (8 + (n : Int)) (8 + n) rfl rfl (by omega) (by rw [hz2]; omega) (by unfold maxLen; omega) (Nat.le_refl _) ?_)
  intro w3 n3 g3
  have hb3 := only_new g3
  have K4 := hide ((hb3.block _ (blk_lt K4.out)).trans K4.out)
  have K5 := hide ((hb3.block _ (blk_lt K5.out)).trans K5.out)
  have N3 := hide n3
  have HB3 := hide hb3
  clear n3 g3 hb3
  have RA4 : Hid (Reads w3 (some ⟨w1.heap.size, 0, none⟩) (bys (Frm.four (n : Int)))) := hide (by rw [F1.out]; exact Reads.blk K4.out)
  obtain ⟨x0, x1, x2, x3⟩ := four_at K4.out
  go_wp2_with (at_builtin; apply halted)
  refine unhalt (wpList_append_reads rfl (.tmp 21) (.tmp 22) 22 rfl W2.heap.size 5 i0 (.int .u8 0) 1 Try.underlying22 hi hz0 hz1 hz2 rfl _ 0 [] rfl N3.out _ 4 4 (bys (Frm.four (n : Int))) rfl RA4.out rfl (ints_one _ _) (by unfold maxLen; omega) (by omega) HB3.out.size ?_)
  intro A4 c4 w4 n4 g4 t4
  rw [Nat.zero_add, List.nil_append] at n4
  rw [Nat.zero_add]
  have N4 := hide n4
  have HB4 := hide (HB3.out.grown g4 HB3.out.size (fun g hg => (N3.out.lt g hg).1))
  have K5' := hide ((g4.block _ (blk_lt K5.out) (fun he => by have := (N3.out.lt _ he.symm).1; omega)).trans K5.out)
  clear n4 g4 t4 x0 x1 x2 x3
  have RA5 : Hid (Reads w4 (some ⟨w2.heap.size, 0, none⟩) (bys (Frm.four q))) := hide (by rw [F2.out]; exact Reads.blk K5'.out)
  obtain ⟨x0, x1, x2, x3⟩ := four_at K5'.out
  go_wp2_with (at_builtin; apply halted)
  refine unhalt (wpList_append_reads rfl (.tmp 24) (.tmp 25) 22 rfl W2.heap.size 5 i0 (.int .u8 0) 1 Try.underlying22 hi hz0 hz1 hz2 rfl _ 4 (bys (Frm.four (n : Int))) rfl N4.out _ 4 4 (bys (Frm.four q)) rfl RA5.out rfl (ints_one _ _) (by unfold maxLen; omega) (by omega) HB4.out.size ?_)
  intro A5 c5 w5 n5 g5 t5
  have N5 := hide n5
  have HB5 := hide (HB4.out.grown g5 HB4.out.size (fun g hg => (N4.out.lt g hg).1))
  clear n5 g5 t5 x0 x1 x2 x3
  go_wp2_with (at_builtin; apply halted)
  refine unhalt (wpList_append_reads rfl (.tmp 27) (.tmp 28) 22 rfl W2.heap.size 5 i0 (.int .u8 0) 1 Try.underlying22 hi hz0 hz1 hz2 rfl _ (4 + 4) (bys (Frm.four (n : Int)) ++ bys (Frm.four q)) rfl N5.out A n c (bys xs) rfl (HR.out.below (below_next HB2.out HB5.out)) (by rw [List.length_map]; exact HN.out) (ints_one _ _) (by unfold maxLen; omega) (by omega) HB5.out.size ?_)
  intro A6 c6 w6 n6 g6 t6
  rw [List.append_assoc, ← HP.out, show 4 + 4 + n = (Frm.put xs).length by rw [HPL.out]; omega] at n6
  have N6 := hide n6
  have HB6 := hide (HB5.out.grown g6 HB5.out.size (fun g hg => (N5.out.lt g hg).1))
  clear n6 g6 t6
  go_wp2
  go_ret2
  exact ⟨A6, c6, by rw [show (Frm.put xs).length = 4 + 4 + n by rw [HPL.out]; omega]; rfl, own_lower N6.out HB2.out.size, below_next HB2.out HB6.out⟩

theorem put_full (A : Option Addr) (n c : Nat) (w : World) (hl : 4096 < n) (hm : n ≤ 9223372036854775807) :
    Calls Try.prog 10 #[.slice A n c] w fun e w' => e = .returned (.tuple #[.slice none 0 0, .int .i64 5]) ∧ w = w' := by
  go_enter Try.func10, Try.ntmps10
  go_wp2
  go_ret2
  exact ⟨rfl, rfl⟩

end Go.Proofs.Ytodlabpgjgbbpaf
