/-
  What begun does: a slot whose owner puts a value in.
-/
import Derived.Test.YtodlabpgjgbbpahPaxMid
import Derived.Deep.MidRow
namespace Go.Proofs.Ytodlabpgjgbbpah
open Go.RowKit Go.Agio Go.Prp Go.Pax

theorem heap_setCells {b k : Nat} (h : k ≠ b) : ∀ (vs : List Value) (o : Nat) (w : World), (w.setCells b o vs).heap[k]? = w.heap[k]?
  | [], _, _ => rfl
  | v :: vs, o, w => (heap_setCells h vs (o + 1) (w.setCell ⟨b, o, none⟩ v)).trans (Below.heap_setCell w _ v k h)
theorem below_setCells {n b : Nat} {a : World} (hn : n ≤ b) : ∀ (vs : List Value) (o : Nat) (w : World), Below n a w → Below n a (w.setCells b o vs)
  | [], _, _, h => h
  | v :: vs, o, w, h => below_setCells hn vs (o + 1) (w.setCell ⟨b, o, none⟩ v) (h.setCell (p := ⟨b, o, none⟩) hn v)
theorem reads_setCells {w : World} {b o : Nat} {vs : List Value} {A : Option Addr} {xs : List Value} (h : Reads w A xs) (hA : ∀ a, A = some a → a.block ≠ b) : Reads (w.setCells b o vs) A xs := by
  rcases h with h | ⟨b', off, e, hb, hc⟩
  · exact .inl h
  · exact .inr ⟨b', off, e, Nat.lt_of_lt_of_le hb (below_setCells (Nat.zero_le b) vs o w (Below.refl 0 w)).size, fun i hi => (cell_of_heap (heap_setCells (hA _ e) vs o w) _).trans (hc i hi)⟩
theorem info55 : (Try.prog.info? 55).map (·.size) = some 44 := by kernel_rfl
theorem slotC_one (n : Int) (all : List StA) (A : Option Addr) (k c : Nat) : ∀ u ∈ slotC n all (.slice A k c), u.oneCell' = true := fun u hu => by
  unfold slotC at hu
  rcases List.mem_cons.1 hu with rfl | hu
  · rfl
  · rcases List.mem_append.1 hu with hu | hu
    · obtain ⟨x, _, h⟩ := List.mem_flatMap.1 hu
      simp only [StA.cells, List.mem_cons, List.not_mem_nil, or_false] at h
      rcases h with rfl | rfl | rfl | rfl | rfl | rfl <;> rfl
    · simp only [List.mem_cons, List.not_mem_nil, or_false] at hu
      subst hu; rfl

set_option maxRecDepth 100000 in
set_option maxHeartbeats 4000000 in
theorem begun_any (n owner : Int) (A : Option Addr) (c : Nat) (v : List Int) (w : World) (hR : Reads w A (bys v)) (hm : v.length ≤ 140737488351232) :
    Calls Try.prog 19 #[.int .i64 n, .int .i64 owner, .slice A v.length c] w fun e w' => ∃ V vc g, e = .returned (.agg (slotC n (List.replicate 7 sa0) (.slice (some ⟨g, 0, none⟩) 1 1)).toArray) ∧ w.heap.size ≤ g ∧ w'.heap[g]? = some (.cells (RnA.cells ⟨0, owner, none, 0, [], true, V, vc, v, none, 0, []⟩).toArray 62) ∧ Reads w' V (bys v) ∧ (∀ a, V = some a → w.heap.size ≤ a.block ∧ a.block ≠ g) ∧ Below w.heap.size w w' := by
  obtain ⟨i0, hi, hz0, hz1, hz2⟩ := info_parts info8
  have HR := hide hR
  clear hR
  go_enter Try.func19, Try.ntmps19
  go_wp2_with (at_builtin; apply halted)
  refine unhalt (wpList_append_reads rfl (.tmp 10) (.tmp 11) 24 rfl w.heap.size 5 i0 (.int .u8 0) 1 Try.underlying24 hi hz0 hz1 hz2 rfl _ 0 [] rfl (own_new_at _ _ _ [] 0 _ (by simp) (by omega) rfl (by unfold maxLen; omega)) A v.length c (bys v) rfl ((HR.out.alloc _).alloc _) (by rw [List.length_map]) (ints_one _ _) (by unfold maxLen; omega) (by omega) (by simp; omega) ?_)
  intro A4 c4 w4 n4 g4 t4
  simp only [Nat.zero_add, List.nil_append] at n4 ⊢
  have K0 : w4.heap[w.heap.size]? = some (.cells #[.int .i64 0, .int .i64 0, .int .i64 0, .bool false, .int .i64 0, .int .i64 0, .slice none 0 0, .int .i64 0, .int .i64 0, .bool false, .int .i64 0, .int .i64 0, .slice none 0 0, .int .i64 0, .int .i64 0, .bool false, .int .i64 0, .int .i64 0, .slice none 0 0, .int .i64 0, .int .i64 0, .bool false, .int .i64 0, .int .i64 0, .slice none 0 0, .int .i64 0, .int .i64 0, .bool false, .int .i64 0, .int .i64 0, .slice none 0 0, .int .i64 0, .int .i64 0, .bool false, .int .i64 0, .int .i64 0, .slice none 0 0, .int .i64 0, .int .i64 0, .bool false, .int .i64 0, .int .i64 0, .slice none 0 0, .slice none 0 0] 55) := by
    rw [g4.block w.heap.size (by simp; omega) (fun h => by have h' : some w.heap.size = some (w.heap.size + 1) := h; injection h'; omega)]
    rw [Below.heap_alloc _ _ _ (by simp)]
    exact heap_new w _
  have hb4 := (((Below.refl w.heap.size w).alloc (Nat.le_refl _) (.cells #[.int .i64 0, .int .i64 0, .int .i64 0, .bool false, .int .i64 0, .int .i64 0, .slice none 0 0, .int .i64 0, .int .i64 0, .bool false, .int .i64 0, .int .i64 0, .slice none 0 0, .int .i64 0, .int .i64 0, .bool false, .int .i64 0, .int .i64 0, .slice none 0 0, .int .i64 0, .int .i64 0, .bool false, .int .i64 0, .int .i64 0, .slice none 0 0, .int .i64 0, .int .i64 0, .bool false, .int .i64 0, .int .i64 0, .slice none 0 0, .int .i64 0, .int .i64 0, .bool false, .int .i64 0, .int .i64 0, .slice none 0 0, .int .i64 0, .int .i64 0, .bool false, .int .i64 0, .int .i64 0, .slice none 0 0, .slice none 0 0] 55)).alloc (by simp) (.cells #[] 5)).grown g4 (by simp; omega) (fun g hg => by have h : some (w.heap.size + 1) = some g := hg; injection h; omega)
  have HB4 := hide hb4; have N4 := hide n4; have HK0 := hide K0
  have hl4 := blk_lt K0
  have ht4 : w4.there w.heap.size 0 44 := fun j hj => ⟨by rw [Nat.zero_add, cell_blk K0 j, Array.getElem?_eq_getElem (by simpa using hj)]; rfl, by rw [Nat.zero_add]; exact live K0 j⟩
  have HT4 := hide ht4
  clear n4 g4 t4 hb4 K0 ht4
  go_wp2_with (refine wpList_store_mid rfl 55 (.tmp 6) (.tmp 15) rfl w.heap.size 0 (slotC n (List.replicate 7 sa0) (.slice (some ⟨w4.heap.size, 0, none⟩) 1 1)).toArray rfl rfl (World.there_alloc HT4.out _) info55 (all_oneCell_toArray (slotC_one _ _ _ _ _)) ?_; apply halted)
  refine unhalt ?_
  have hb5 := HB4.out.alloc HB4.out.size (.cells (RnA.cells ⟨0, owner, none, 0, [], true, A4, c4, v, none, 0, []⟩).toArray 62)
  have HF : Hid (Below w.heap.size w ((w4.alloc (.cells (RnA.cells ⟨0, owner, none, 0, [], true, A4, c4, v, none, 0, []⟩).toArray 62)).setCells w.heap.size 0 (slotC n (List.replicate 7 sa0) (.slice (some ⟨w4.heap.size, 0, none⟩) 1 1)).toArray.toList)) := hide (below_setCells (Nat.le_refl _) _ _ _ hb5)
  have HG : Hid (((w4.alloc (.cells (RnA.cells ⟨0, owner, none, 0, [], true, A4, c4, v, none, 0, []⟩).toArray 62)).setCells w.heap.size 0 (slotC n (List.replicate 7 sa0) (.slice (some ⟨w4.heap.size, 0, none⟩) 1 1)).toArray.toList).heap[w4.heap.size]? = some (.cells (RnA.cells ⟨0, owner, none, 0, [], true, A4, c4, v, none, 0, []⟩).toArray 62)) := hide ((heap_setCells (by omega) _ _ _).trans (heap_new _ _))
  have HL : Hid (((w4.alloc (.cells (RnA.cells ⟨0, owner, none, 0, [], true, A4, c4, v, none, 0, []⟩).toArray 62)).setCells w.heap.size 0 (slotC n (List.replicate 7 sa0) (.slice (some ⟨w4.heap.size, 0, none⟩) 1 1)).toArray.toList).rangeAt w.heap.size 0 (slotC n (List.replicate 7 sa0) (.slice (some ⟨w4.heap.size, 0, none⟩) 1 1))) := hide (World.rangeAt_setCells_same _ _ _ _ (World.there_alloc HT4.out _))
  have HA4 := hide (fun (a : Addr) (ha : A4 = some a) => (show w.heap.size ≤ a.block ∧ a.block < w4.heap.size ∧ a.block ≠ w.heap.size from by
    rcases N4.out.2 with ⟨he, _⟩ | ⟨g, cap, cur, he, hg, hh, _⟩
    · injection he with he; rw [ha] at he; cases he
    · injection he with he
      rw [ha] at he
      injection he with he
      subst he
      refine ⟨hg, blk_lt hh, fun h => ?_⟩
      have h2 : g = w.heap.size := h
      rw [h2, HK0.out] at hh
      injection hh with hh
      injection hh with _ hh
      revert hh; decide))
  have HRd : Hid (Reads ((w4.alloc (.cells (RnA.cells ⟨0, owner, none, 0, [], true, A4, c4, v, none, 0, []⟩).toArray 62)).setCells w.heap.size 0 (slotC n (List.replicate 7 sa0) (.slice (some ⟨w4.heap.size, 0, none⟩) 1 1)).toArray.toList) A4 (bys v)) := hide (reads_setCells ((Reads.of_own N4.out).alloc _) (fun a ha => (HA4.out a ha).2.2))
  have hW : ∃ W5, W5 = (w4.alloc (.cells (RnA.cells ⟨0, owner, none, 0, [], true, A4, c4, v, none, 0, []⟩).toArray 62)).setCells w.heap.size 0 (slotC n (List.replicate 7 sa0) (.slice (some ⟨w4.heap.size, 0, none⟩) 1 1)).toArray.toList := ⟨_, rfl⟩
  obtain ⟨W5, hW5⟩ := hW
  rw [← hW5] at HF HG HL HRd
  have hld := run_loadVar_mid (P := Try.prog) W5 w.heap.size 0 55 _ _ HL.out Try.underlying55 rfl info55
  change wpList Try.prog _ _ _ _ ((w4.alloc (.cells (RnA.cells ⟨0, owner, none, 0, [], true, A4, c4, v, none, 0, []⟩).toArray 62)).setCells w.heap.size 0 (slotC n (List.replicate 7 sa0) (.slice (some ⟨w4.heap.size, 0, none⟩) 1 1)).toArray.toList)
  rw [← hW5]
  clear hW5
  have HLD := hide hld
  clear hld
  go_wp2
  refine bodyPost_ret (v := .agg (slotC n (List.replicate 7 sa0) (.slice (some ⟨w4.heap.size, 0, none⟩) 1 1)).toArray) (by simp [results, Try.results19]; exact HLD.out) rfl ?_
  exact ⟨A4, c4, w4.heap.size, rfl, HB4.out.size, HG.out, HRd.out, fun a ha => ⟨(HA4.out a ha).1, by have := (HA4.out a ha).2.1; omega⟩, HF.out⟩

end Go.Proofs.Ytodlabpgjgbbpah
