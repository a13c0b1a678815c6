/-
  What the reference's functions of frames do, each by a contract.
-/
import Derived.Test.YtodlabpgjgbbpafFrmWalks
import Derived.Test.YtodlabpgjgbbpafCrcRefWalks
namespace Go.Frm

/-- A number without its k lowest bytes; its k lowest bytes. -/
def dv : Nat → Int → Int
  | 0, n => n
  | k + 1, n => dv k n / 256
def dl (k : Nat) (n : Int) : Row := (List.range k).map (fun i => dv i n % 256)
theorem dl_succ (k : Nat) (n : Int) : dl (k + 1) n = dl k n ++ [dv k n % 256] := by simp [dl, List.range_succ]
theorem dl_four (n : Int) : dl 4 n = four n := by
  simp only [dl, four, List.range_succ, List.range_zero, List.nil_append, List.map_cons, List.map_nil, List.cons_append, dv, List.cons.injEq, and_true, true_and]
  refine ⟨?_, ?_⟩ <;> omega
theorem dv_bd (k : Nat) {n : Int} (h0 : 0 ≤ n) (h1 : n < 4294967296) : 0 ≤ dv k n ∧ dv k n < 4294967296 := by
  induction k with
  | zero => exact ⟨h0, h1⟩
  | succ k ih => unfold dv; omega

end Go.Frm
namespace Go.Proofs.Ytodlabpgjgbbpaf
open Go.RowKit Go.Agio

set_option maxHeartbeats 2000000 in
theorem rfour_any (n : Int) (w : World) (h0 : 0 ≤ n) (h1 : n < 4294967296) :
    Calls Try.prog 21 #[.int .u32 n] w fun e w' => ∃ A c, e = .returned (.slice A 4 c) ∧ w'.ownsRow w.heap.size 5 1 (.slice A 4 c) 4 (bys (Frm.four n)) ∧ Below w.heap.size w w' := by
  obtain ⟨i0, hi, hz0, hz1, hz2⟩ := info_parts info8
  have HF := hide (Frm.dl_four n)
  go_enter Try.func21, Try.ntmps21
  go_wp2_with fail
  go_loopw [0, 3, 4] (fun s v i wr => ∃ (k : Nat) (A : Option Addr) (c : Nat), k ≤ 4 ∧ i = .int .i64 k ∧ s = .int .u32 (Frm.dv k n) ∧ v = .slice A k c ∧ wr.ownsRow w.heap.size 5 1 (.slice A k c) k (bys (Frm.dl k n)) ∧ Below w.heap.size w wr) (fun _ _ i _ => 4 - (intOf i).toNat)
  case atStart => exact ⟨0, none, 0, by omega, rfl, rfl, rfl, World.ownsRow_nil _ _ _ _, Below.refl _ _⟩
  case round =>
    obtain ⟨k, A, c, hk, rfl, rfl, rfl, hO, hB⟩ := hrel
    have HO := hide hO; have HB := hide hB
    have hsz := hB.size
    clear hO hB
    by_cases hlt : k < 4
    · have hd := Frm.dv_bd k h0 h1
      have HS := hide (Frm.dl_succ k n)
      have HD := hide (show Frm.dv (k + 1) n = Frm.dv k n / 256 from rfl)
      generalize Frm.dv k n = m at *
      obtain ⟨hd0, hd1⟩ := hd
      go_wp2_with (at_builtin; apply halted)
      refine unhalt (wpList_append_reads rfl (.tmp 9) (.tmp 13) 22 rfl w.heap.size 5 i0 (.int .u8 0) 1 Try.underlying22 hi hz0 hz1 hz2 rfl _ k (bys (Frm.dl k n)) rfl (HO.out.alloc _) _ 1 1 (bys [m % 256]) rfl (Reads.new wr _ _ _) rfl (ints_one _ _) (by unfold maxLen; omega) (by omega) (by simp; omega) ?_)
      intro A4 c4 w4 n4 g4 t4
      rw [show bys (Frm.dl k n) ++ bys [m % 256] = bys (Frm.dl (k + 1) n) by rw [HS.out]; simp] at n4
      have N4 := hide n4
      have HB4 := hide ((HB.out.alloc HB.out.size (.cells (bys [m % 256]).toArray 5)).grown g4 (by simp; omega) (fun g hg => (HO.out.lt g hg).1))
      clear n4 g4 t4
      go_wp2
      go_roundw
      case rel => exact ⟨k + 1, A4, c4, by omega, by go_num, by rw [HD.out], rfl, N4.out, HB4.out⟩
      case measure => simp [intOf]; omega
    · obtain rfl : k = 4 := by omega
      go_wp2
      go_ret
      exact ⟨A, c, rfl, by rw [← HF.out]; exact HO.out, HB.out⟩

theorem own_below {w w' : World} {base : Nat} {e : TypeId} {v : Value} {n : Nat} {xs : List Value} (h : w.ownsRow base e 1 v n xs) (hb : Below w.heap.size w w') : w'.ownsRow base e 1 v n xs := by
  refine ⟨h.1, ?_⟩
  rcases h.2 with h2 | ⟨g, cap, cur, he, hg, hh, r⟩
  · exact .inl h2
  · refine .inr ⟨g, cap, cur, he, hg, ?_, r⟩
    subst he
    exact (hb.block g (h.lt g rfl).2).trans hh

set_option maxHeartbeats 2000000 in
theorem rput_any (A : Option Addr) (c : Nat) (xs : List Int) (w : World) (hR : Reads w A (bys xs)) (hx : Frm.ok xs) (hl : xs.length ≤ 4096) :
    Calls Try.prog 11 #[.slice A xs.length c] w fun e w' => ∃ A' c', e = .returned (.tuple #[.slice A' (Frm.put xs).length c', .int .i64 0]) ∧ w'.ownsRow w.heap.size 5 1 (.slice A' (Frm.put xs).length c') (Frm.put xs).length (bys (Frm.put xs)) ∧ Below w.heap.size w w' := by
  obtain ⟨i0, hi, hz0, hz1, hz2⟩ := info_parts info8
  have HP := hide (show bys (Frm.put xs) = bys (Frm.four xs.length) ++ (bys (Frm.four (Frm.chk (Frm.four xs.length) xs)) ++ bys xs) by simp [Frm.put])
  have HPL := hide (Frm.put_length xs)
  have HF := Frm.four_ok (xs.length : Int)
  have hck := Frm.chk_bd (Frm.four xs.length) xs
  have C2 := hide (fun (B : Option Addr) (d : Nat) (W : World) (hB : Reads W B (bys (Frm.four (xs.length : Int)))) => rsum_any B d (Frm.four (xs.length : Int)) W hB (fun z hz => by have := HF z hz; omega) (by simp [Frm.four]))
  have C3 := hide (fun (W : World) (hW : Below w.heap.size w W) => rmore_any (Crc.more 0 ((Frm.four (xs.length : Int)).map Crc.bv)) A c xs W (hR.below hW) (fun z hz => by have := hx z hz; omega) (by omega))
  change Hid (∀ (W : World) (hW : Below w.heap.size w W), Calls Try.prog 22 _ W fun e w' => e = .returned (.int .u32 (Frm.chk (Frm.four xs.length) xs)) ∧ W = w') at C3
  have HR := hide hR
  clear hR hx HF
  generalize hq : Frm.chk (Frm.four xs.length) xs = q at *
  have HQ := hide hq
  clear hq
  generalize hn : xs.length = n at *
  have HN := hide hn
  clear hn
  go_enter Try.func11, Try.ntmps11
  go_wp2_with fail
  refine (rfour_any (n : Int) w (by omega) (by omega)).mono ?_
  rintro e w1 ⟨A1, c1, rfl, O1, hb1⟩
  have HO1 := hide O1; have HB1 := hide hb1
  clear O1 hb1
  go_wp2_with fail
  refine (C2.out A1 c1 w1 (Reads.of_own HO1.out)).mono ?_
  rintro e w2 ⟨rfl, rfl⟩
  go_wp2_with fail
  refine (C3.out _ HB1.out).mono ?_
  rintro e w2 ⟨rfl, rfl⟩
  go_wp2_with fail
  refine (rfour_any q w1 (by omega) (by omega)).mono ?_
  rintro e w3 ⟨A3, c3, rfl, O3, hb3⟩
  have R3 := hide (Reads.of_own O3)
  have HO3 := hide (own_below HO1.out hb3)
  have HB3 := hide (below_next HB1.out hb3)
  clear O3 hb3
  go_wp2_with (at_builtin; apply halted)
  refine unhalt (wpList_append_reads rfl (.tmp 17) (.tmp 19) 22 rfl w.heap.size 5 i0 (.int .u8 0) 1 Try.underlying22 hi hz0 hz1 hz2 rfl _ 4 (bys (Frm.four (n : Int))) rfl HO3.out A3 4 c3 (bys (Frm.four q)) rfl R3.out rfl (ints_one _ _) (by unfold maxLen; omega) (by omega) HB3.out.size ?_)
  intro A5 c5 w5 n5 g5 t5
  have N5 := hide n5
  have HB5 := hide (HB3.out.grown g5 HB3.out.size (fun g hg => (HO3.out.lt g hg).1))
  clear n5 g5 t5
  go_wp2_with (at_builtin; apply halted)
  refine unhalt (wpList_append_reads rfl (.tmp 21) (.tmp 22) 22 rfl w.heap.size 5 i0 (.int .u8 0) 1 Try.underlying22 hi hz0 hz1 hz2 rfl _ (4 + 4) (bys (Frm.four (n : Int)) ++ bys (Frm.four q)) rfl N5.out A n c (bys xs) rfl (HR.out.below HB5.out) (by rw [List.length_map]; exact HN.out) (ints_one _ _) (by unfold maxLen; omega) (by omega) HB5.out.size ?_)
  intro A6 c6 w6 n6 g6 t6
  rw [List.append_assoc, ← HP.out, show 4 + 4 + n = (Frm.put xs).length by rw [HPL.out]; omega] at n6
  have N6 := hide n6
  have HB6 := hide (HB5.out.grown g6 HB5.out.size (fun g hg => (N5.out.lt g hg).1))
  clear n6 g6 t6
  go_wp2
  go_ret2
  exact ⟨A6, c6, by rw [show (Frm.put xs).length = 4 + 4 + n by rw [HPL.out]; omega]; rfl, N6.out, HB6.out⟩

theorem rput_full (A : Option Addr) (n c : Nat) (w : World) (hl : 4096 < n) (hm : n ≤ 9223372036854775807) :
    Calls Try.prog 11 #[.slice A n c] w fun e w' => e = .returned (.tuple #[.slice none 0 0, .int .i64 5]) ∧ w = w' := by
  go_enter Try.func11, Try.ntmps11
  go_wp2
  go_ret2
  exact ⟨rfl, rfl⟩

end Go.Proofs.Ytodlabpgjgbbpaf
