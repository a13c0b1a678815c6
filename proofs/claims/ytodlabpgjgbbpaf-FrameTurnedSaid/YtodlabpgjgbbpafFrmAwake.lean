/-
  The laws' own first question: two frames, and a torn one.
-/
import Derived.Test.YtodlabpgjgbbpafFrmScan
import Derived.Lib.SlBytesConst
namespace Go.Proofs.Ytodlabpgjgbbpaf
open Go.RowKit Go.Agio

theorem own_cap' {w : World} {base : Nat} {e : TypeId} {A : Option Addr} {n c : Nat} {xs : List Value} (h : w.ownsRow base e 1 (.slice A n c) n xs) : n ≤ c := by
  rcases h.2 with ⟨he, h0⟩ | ⟨g, cap, cur, he, _, _, hnc, _⟩
  · omega
  · injection he with _ _ he; omega
theorem ok_97 : Frm.ok [97] := fun z hz => by simp at hz; omega
theorem ok_nil : Frm.ok [] := fun z hz => by simp at hz
theorem len_a : (Frm.put [97]).length = 9 := by rw [Frm.put_length]; rfl
theorem len_b : (Frm.put []).length = 8 := by rw [Frm.put_length]; rfl
theorem row_scan : Frm.scan (Frm.put [97] ++ Frm.put [] ++ (Frm.put [97]).take 8) = ([[97], []], 17) := by
  have e : Frm.put [97] ++ Frm.put [] ++ (Frm.put [97]).take 8 = Frm.puts [[97], []] ++ (Frm.put [97]).take 8 := by simp [Frm.puts]
  rw [e, Frm.scan_puts _ _ (fun x hx => by simp at hx; rcases hx with rfl | rfl <;> simp), Frm.scan_end (Frm.torn_code (by simp) (by rw [len_a]; omega))]
  simp [Frm.puts, len_a, len_b]
theorem row_ok : Frm.ok (Frm.put [97] ++ Frm.put [] ++ (Frm.put [97]).take 8) := Frm.ok_append (Frm.ok_append (Frm.put_ok ok_97) (Frm.put_ok ok_nil)) (Frm.ok_take (Frm.put_ok ok_97) 8)
theorem row_len : (Frm.put [97] ++ Frm.put [] ++ (Frm.put [97]).take 8).length = 25 := by simp [len_a, len_b]
theorem str_a : strOfNums [97] = ⟨#[97]⟩ := rfl

set_option maxRecDepth 100000 in
set_option maxHeartbeats 8000000 in
theorem awake_any (w : World) : Calls Try.prog 9 #[] w fun e w' => e = .returned (.bool true) ∧ Below w.heap.size w w' := by
  have kc := fun (w : World) (C : Array Value) (n c : Nat) => Lib.run_convert_bytes_const (P := Try.prog) w 22 5 C n c Try.underlying22 Try.underlying5
  obtain ⟨i0, hi, hz0, hz1, hz2⟩ := info_parts info8
  go_enter Try.func9, Try.ntmps9
  go_wp2_with fail
  have hb0 := (Below.refl w.heap.size w).alloc (Nat.le_refl _) (.cells #[.int .u8 97] 5 (1, 2))
  have C1 := put_any (some ⟨w.heap.size, 0, none⟩) 1 [97] (w.alloc (.cells #[.int .u8 97] 5 (1, 2))) (Reads.new w [.int .u8 97] _ _) ok_97 (by decide)
  rw [len_a] at C1
  have C1 := hide C1
  refine C1.out.mono ?_
  rintro e w1 ⟨A1, c1, rfl, O1, hb1⟩
  have HB1 := hide (below_alloc (Below.refl _ w) hb1 (by simp))
  have R1 := hide (Reads.of_own O1)
  have HC1 := own_cap' O1
  clear O1 hb1 hb0 C1
  have C2 := put_any none 0 [] w1 (.nil _ _) ok_nil (by decide)
  rw [len_b] at C2
  have C2 := hide C2
  go_wp2_with fail
  refine C2.out.mono ?_
  rintro e w2 ⟨A2, c2, rfl, O2, hb2⟩
  have HB2 := hide (below_next HB1.out hb2)
  have R2 := hide (Reads.of_own O2)
  replace R1 := hide (R1.out.below hb2)
  clear O2 hb2 C2
  have hs1 : ∀ W : World, (Instr.slice 22 (.slice A1 9 c1) none (some (.int .i64 8)) none).run Try.prog W = .ok (.slice A1 8 c1) W := cut_h 22 elem8 size8 A1 9 c1 8 (by omega)
  have hbA := hide ((Below.refl w2.heap.size w2).alloc (Nat.le_refl _) (.cells #[] 5))
  have LA := hide (show (bys (Frm.put [97])).length = 9 by rw [List.length_map, len_a])
  have LB := hide (show (bys (Frm.put [])).length = 8 by rw [List.length_map, len_b])
  have LC := hide (show ((bys (Frm.put [97])).take 8).length = 8 by rw [List.length_take, List.length_map, len_a]; rfl)
  go_wp2_with fail
  go_region_held3 (fun _ => True) (trivial) (first
    | (refine step_append_own (by rfl) (.tmp 21) (.tmp 22) 22 (by rfl) w2.heap.size 5 i0 (.int .u8 0) 1 Try.underlying22 hi hz0 hz1 hz2 rfl _ 0 [] (by rfl) (own_new w2 _ _ [] 0 (Nat.le_refl _) rfl (by unfold maxLen; omega)).drew A1 9 c1 (bys (Frm.put [97])) (by rfl) ((R1.out.alloc _).drew) LA.out (ints_one _ _) (by unfold maxLen; omega) (by omega) (by simp) ?_; intro A3 c3 w3 n3 g3 t3; have N3 := hide n3; have HB3 := hide (hbA.out.drew.grown g3 (by simp) (fun g hg => by cases hg; exact Nat.le_refl _)); clear n3 g3 t3)
    | (refine step_append_own (by rfl) (.tmp 23) (.tmp 24) 22 (by rfl) w2.heap.size 5 i0 (.int .u8 0) 1 Try.underlying22 hi hz0 hz1 hz2 rfl _ (0 + 9) ([] ++ bys (Frm.put [97])) (by rfl) N3.out A2 8 c2 (bys (Frm.put [])) (by rfl) (R2.out.below HB3.out) LB.out (ints_one _ _) (by unfold maxLen; omega) (by omega) HB3.out.size ?_; intro A4 c4 w4 n4 g4 t4; have N4 := hide n4; have HB4 := hide (HB3.out.grown g4 HB3.out.size (fun g hg => (N3.out.lt g hg).1)); clear n4 g4 t4)
    | (refine step_append_own (by rfl) (.tmp 25) (.tmp 27) 22 (by rfl) w2.heap.size 5 i0 (.int .u8 0) 1 Try.underlying22 hi hz0 hz1 hz2 rfl _ (0 + 9 + 8) ([] ++ bys (Frm.put [97]) ++ bys (Frm.put [])) (by rfl) N4.out A1 8 c1 ((bys (Frm.put [97])).take 8) (by rfl) ((R1.out.below HB4.out).take 8) LC.out (fun u hu => ints_one _ _ u (List.mem_of_mem_take hu)) (by unfold maxLen; omega) (by omega) HB4.out.size ?_; intro A5 c5 w5 n5 g5 t5; have N5 := hide n5; have HB5 := hide (HB4.out.grown g5 HB4.out.size (fun g hg => (N4.out.lt g hg).1)); clear n5 g5 t5))
  have HB6 := hide (below_next HB2.out HB5.out)
  have R5 : Hid (Reads w5 A5 (bys (Frm.put [97] ++ Frm.put [] ++ (Frm.put [97]).take 8))) := hide (by
    have := Reads.of_own N5.out
    rw [List.nil_append, ← List.map_take, ← List.map_append, ← List.map_append] at this
    exact this)
  have HC5 := own_cap' N5.out
  have CS := scan_any A5 c5 (Frm.put [97] ++ Frm.put [] ++ (Frm.put [97]).take 8) w5 R5.out row_ok (by rw [row_len]; omega) (by rw [row_len]; omega)
  rw [row_scan, row_len] at CS
  have CS := hide CS
  clear hs1
  go_wp2_with fail
  refine CS.out.mono ?_
  rintro e w6 ⟨L, d, rfl, hL, hb6⟩
  have HB7 := hide (below_next HB6.out hb6)
  obtain ⟨vals, v1, v2, v3⟩ := hL
  obtain ⟨A0, c0, u1, u2, _⟩ := v3 0 (by simp)
  have q := str_reads w6 A0 1 c0 [97] u2 rfl
  rw [str_a] at q
  obtain ⟨b, off, rfl, hbl, hcell⟩ := (Reads.of_own v1).at_ (k := 0) (by rw [v2]; simp)
  have k0 := hcell 0 (by rw [v2]; simp)
  have k0 : w6.cell? ⟨b, off, none⟩ = some (.slice A0 1 c0) := by
    rw [Nat.add_zero] at k0
    rw [k0, List.getD_eq_getElem?_getD, u1]
    rfl
  clear v1 v2 v3 u1 u2 hcell hb6 CS
  go_wp2
  go_ret
  exact ⟨rfl, HB7.out⟩

end Go.Proofs.Ytodlabpgjgbbpaf
