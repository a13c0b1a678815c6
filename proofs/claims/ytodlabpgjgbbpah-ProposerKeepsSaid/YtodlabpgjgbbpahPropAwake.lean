/-
  The laws' own awake: what promises leave, and what votes decide.
-/
import Derived.Test.YtodlabpgjgbbpahPropRdec
namespace Go.Proofs.Ytodlabpgjgbbpah
open Go.RowKit Go.Agio Go.Prp

theorem aw1 : may_ 3 [⟨0, false, 0, 0, []⟩, ⟨2, true, 1, 1, [120]⟩] = true := by decide
theorem aw2 : chosen 3 [⟨0, false, 0, 0, []⟩, ⟨2, true, 1, 1, [120]⟩] = [120] := by decide
theorem aw3 : may_ 3 [⟨0, false, 0, 0, []⟩] = false := by decide
theorem aw4 : decided 0 0 3 [⟨0, 0, 0⟩, ⟨1, 0, 0⟩] = true := by decide
theorem str_x : strOfNums [120] = ⟨#[120]⟩ := rfl

set_option maxRecDepth 100000 in
set_option maxHeartbeats 4000000 in
theorem awake_any (w : World) : Calls Try.prog 9 #[] w fun e w' => e = .returned (.bool true) ∧ Below w.heap.size w w' := by
  have kc := fun (w : World) (C : Array Value) (n c : Nat) => Lib.run_convert_bytes_const (P := Try.prog) w 24 5 C n c Try.underlying24 Try.underlying5
  go_enter Try.func9, Try.ntmps9
  go_wp2_with fail
  have hb0 := ((Below.refl w.heap.size w).alloc (Nat.le_refl _) (.cells #[.int .u8 120] 5 (1, 2))).alloc (by simp) (.cells #[.int .i64 0, .bool false, .int .i64 0, .int .i64 0, .slice none 0 0, .int .i64 2, .bool true, .int .i64 1, .int .i64 1, .slice (some ⟨w.heap.size, 0, none⟩) 1 1] 34)
  have R0 : PsRd ((w.alloc (.cells #[.int .u8 120] 5 (1, 2))).alloc (.cells #[.int .i64 0, .bool false, .int .i64 0, .int .i64 0, .slice none 0 0, .int .i64 2, .bool true, .int .i64 1, .int .i64 1, .slice (some ⟨w.heap.size, 0, none⟩) 1 1] 34)) (some ⟨w.heap.size + 1, 0, none⟩) [pa0, ⟨⟨2, true, 1, 1, [120]⟩, some ⟨w.heap.size, 0, none⟩, 1⟩] := ⟨Reads.new_at (w.alloc (.cells #[.int .u8 120] 5 (1, 2))) (List.flatMap PAt.cells [pa0, ⟨⟨2, true, 1, 1, [120]⟩, some ⟨w.heap.size, 0, none⟩, 1⟩]) _ _ _ (by simp), fun x hx => by
    simp only [List.mem_cons, List.not_mem_nil, or_false] at hx
    rcases hx with rfl | rfl
    · exact .nil _ _
    · exact (Reads.new w [.int .u8 120] _ _).alloc _⟩
  generalize (w.alloc (.cells #[.int .u8 120] 5 (1, 2))).alloc (.cells #[.int .i64 0, .bool false, .int .i64 0, .int .i64 0, .slice none 0 0, .int .i64 2, .bool true, .int .i64 1, .int .i64 1, .slice (some ⟨w.heap.size, 0, none⟩) 1 1] 34) = W0 at *
  have HB0 := hide hb0
  have CH := hide (choose_any (some ⟨w.heap.size + 1, 0, none⟩) 2 [pa0, ⟨⟨2, true, 1, 1, [120]⟩, some ⟨w.heap.size, 0, none⟩, 1⟩] 3 W0 R0 (fun x hx => by
    simp only [List.mem_cons, List.not_mem_nil, or_false] at hx
    rcases hx with rfl | rfl
    · exact ⟨rfl, by simp [pa0, pm0]⟩
    · exact ⟨rfl, by simp⟩) (by simp) (by omega))
  unfold CGot at CH
  rw [show pms [pa0, ⟨⟨2, true, 1, 1, [120]⟩, some ⟨w.heap.size, 0, none⟩, 1⟩] = [⟨0, false, 0, 0, []⟩, ⟨2, true, 1, 1, [120]⟩] from rfl, aw1, aw2] at CH
  clear R0 hb0
  refine CH.out.mono ?_
  rintro e w1 ⟨V1, c1, rfl, r1, hb1⟩
  have HR1 := hide r1
  have HB1 := hide (below_next HB0.out hb1)
  clear CH hb1 r1
  go_wp2_with fail
  have hb2 := (Below.refl w1.heap.size w1).alloc (Nat.le_refl _) (.cells #[.int .i64 0, .bool false, .int .i64 0, .int .i64 0, .slice none 0 0] 34)
  have R1 : PsRd (w1.alloc (.cells #[.int .i64 0, .bool false, .int .i64 0, .int .i64 0, .slice none 0 0] 34)) (some ⟨w1.heap.size, 0, none⟩) [pa0] := ⟨Reads.new w1 (List.flatMap PAt.cells [pa0]) _ _, fun x hx => by
    simp only [List.mem_cons, List.not_mem_nil, or_false] at hx
    subst hx
    exact .nil _ _⟩
  have CH := hide (choose_any (some ⟨w1.heap.size, 0, none⟩) 1 [pa0] 3 _ R1 (fun x hx => by
    simp only [List.mem_cons, List.not_mem_nil, or_false] at hx
    subst hx
    exact ⟨rfl, by simp [pa0, pm0]⟩) (by simp) (by omega))
  unfold CGot at CH
  rw [show pms [pa0] = [⟨0, false, 0, 0, []⟩] from rfl, aw3] at CH
  clear R1
  refine CH.out.mono ?_
  rintro e w2 ⟨V2, c2, rfl, _, hb3⟩
  have HB2 := hide (below_next HB1.out (below_next hb2 hb3))
  have s1 := str_reads w2 V1 1 c1 [120] ((HR1.out.below hb2).below hb3) rfl
  rw [str_x] at s1
  clear CH hb2 hb3
  go_wp2_with fail
  have CD := hide (decided_any (some ⟨w2.heap.size, 0, none⟩) 2 [⟨0, 0, 0⟩, ⟨1, 0, 0⟩] 0 0 3 (w2.alloc (.cells #[.int .i64 0, .int .i64 0, .int .i64 0, .int .i64 1, .int .i64 0, .int .i64 0] 44)) (Reads.new w2 (List.flatMap Vt.cells [⟨0, 0, 0⟩, ⟨1, 0, 0⟩]) _ _) (fun x hx => by
    simp only [List.mem_cons, List.not_mem_nil, or_false] at hx
    rcases hx with rfl | rfl <;> rfl) (by simp) (by omega))
  rw [aw4] at CD
  refine CD.out.mono ?_
  rintro e w3 ⟨rfl, hb4⟩
  have HB3 := hide (below_next HB2.out (below_next ((Below.refl _ _).alloc (Nat.le_refl _) _) hb4))
  clear CD hb4 s1
  go_wp2
  go_ret
  exact ⟨rfl, HB3.out⟩

end Go.Proofs.Ytodlabpgjgbbpah
