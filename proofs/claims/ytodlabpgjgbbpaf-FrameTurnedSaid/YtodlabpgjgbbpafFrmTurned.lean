/-
  FrameTurned: with bits turned within 32, one behind the other, in one frame, all those ahead of it are scanned as they were, and it is not scanned as it was. No conditions.
-/
import Derived.Test.YtodlabpgjgbbpafFrmTurns
import Derived.Test.YtodlabpgjgbbpafHeld
namespace Go.Proofs.Ytodlabpgjgbbpaf
open Go.RowKit Go.Agio Go.ChangeShapes Go.WideShapes Go.ChangeAt

end Go.Proofs.Ytodlabpgjgbbpaf
namespace Go.Frm
open Go.Proofs.Ytodlabpgjgbbpaf
theorem puts_mid {l : List Row} {k : Nat} (h : k < l.length) : puts l = puts (l.take k) ++ (put (l.getD k []) ++ puts (l.drop (k + 1))) := by
  have h1 := puts_append (l.take (k + 1)) (l.drop (k + 1))
  rw [List.take_append_drop, puts_next h, List.append_assoc] at h1
  exact h1
/-- What is scanned behind bits turned in one frame. -/
theorem turned_rows {l : List Row} {P : Row} {k fr M f j : Nat} {m : BitVec 32} (hall : ∀ x ∈ l, x.length ≤ 4096) (hok : ∀ x ∈ l, ok x) (hk : k < l.length) (hP : P = puts l) (hfr : fr = (puts (l.take k)).length) (hM : M = (put (l.getD k [])).length) (hj : f + j ≤ 8 * M) (hs : some_ m j = true) :
    ∃ s E, scan (turns P (8 * fr + f) m j) = (l.take k ++ s, E) ∧ (s = [] ∨ s.getD 0 [] ≠ l.getD k []) ∧ ok (turns P (8 * fr + f) m j) := by
  have hmem : l.getD k [] ∈ l := by rw [List.getD_eq_getElem?_getD, List.getElem?_eq_getElem hk]; exact List.getElem_mem hk
  have hput : ok (put (l.getD k [])) := by
    have h := puts_ok (l := [l.getD k []]) (fun x hx => by simp at hx; subst hx; exact hok _ hmem)
    simpa [puts] using h
  have e : turns P (8 * fr + f) m j = puts (l.take k) ++ (turns (put (l.getD k [])) f m j ++ puts (l.drop (k + 1))) := by
    rw [hP, puts_mid hk, hfr]
    exact turns_mid _ _ _ _ _ _ (by rw [← hM]; exact hj)
  obtain ⟨s, h1, h2⟩ := turned_scan (l := l) (k := k) (fun x hx => ⟨hall x hx, hok x hx⟩) (y := turns (put (l.getD k [])) f m j) (turns_ok hput j) (turns_length _ _ _ _) (turned_ne hput (by rw [← hM]; exact hj) hs)
  refine ⟨s, (scan (turns P (8 * fr + f) m j)).2, ?_, h2, turns_ok (by rw [hP]; exact puts_ok hok) j⟩
  rw [e, ← h1]
end Go.Frm
namespace Go.Proofs.Ytodlabpgjgbbpaf
open Go.RowKit Go.Agio Go.ChangeShapes Go.WideShapes Go.ChangeAt

theorem set_else (w : World) (g o : Nat) (u : Value) {p : Addr} (h : g ≠ p.block) : (w.setCell ⟨g, o, none⟩ u).cell? p = w.cell? p := by
  unfold World.cell?
  rw [heap_setCell_other w ⟨g, o, none⟩ p.block u (fun e => h e.symm)]

set_option maxRecDepth 100000 in
set_option maxHeartbeats 8000000 in
theorem frameTurned_walk (L : Option Addr) (cap : Nat) (ls : List (List Int)) (x : Int) (m : BitVec 32) (w : World) (hL : RowsRd w L ls) (hx : ∀ x ∈ ls, Frm.ok x) (hxl : ∀ x ∈ ls, x.length ≤ 140737488351232) (hm : ls.length ≤ 9223372036854775807) (hcap : ls.length ≤ cap) (hx0 : 0 ≤ x) (hx1 : x ≤ 65535) (hm0 : (Crc.nm m == 0) = false) :
    Calls Try.prog 5 #[.slice L ls.length cap, .int .u16 x, .int .u32 (Crc.nm m)] w fun e w' => e = .returned (.bool true) ∧ Below w.heap.size w w' := by
  have HL := hide hL; have HX := hide hx; have HXL := hide hxl
  have hmb := Crc.nm_lt m
  clear hL hx hxl
  go_enter Try.func5, Try.ntmps5
  go_wp2_with fail
  refine (awake_any _).mono ?_
  rintro e w1 ⟨rfl, hb1⟩
  have HB1 := hide hb1
  clear hb1
  go_wp2_with fail
  refine (row_any L cap ls w1 (HL.out.below HB1.out) HX.out HXL.out hm).mono ?_
  rintro e w2 ⟨hb2, hg⟩
  have HB2 := hide (HB1.out.trans (hb2.mono HB1.out.size))
  rcases hg with ⟨A, c, B, d, rfl, ho, hq, hall, hlen⟩ | rfl
  · have HO := hide ho; have HQ := hide hq; have HALL := hide hall
    have HC := hide (own_cap ho)
    have hs12 := hb2.size
    clear ho hq hall hb2
    obtain ⟨l, hl⟩ : ∃ l, l = ls.take 30 := ⟨_, rfl⟩
    rw [← hl] at HO HQ HALL HC hlen ⊢
    have hl30 : l.length ≤ 30 := by rw [hl, List.length_take]; omega
    have hlls : l.length ≤ ls.length := by rw [hl, List.length_take]; omega
    have HLT := hide (fun (n : Nat) (h : n ≤ l.length) => show l.take n = ls.take n from by rw [hl, List.take_take, Nat.min_eq_left (by omega)])
    have HLX := hide (fun y (hy : y ∈ l) => HX.out y (List.mem_of_mem_take (by rw [← hl]; exact hy)))
    clear hl
    by_cases h0 : l.length = 0
    · have h0' : (l.length : Int) = 0 := by omega
      rw [h0] at *
      clear HO HQ HC
      go_wp2
      go_ret
      exact ⟨rfl, HB2.out⟩
    · have h0' : ¬ (l.length : Int) = 0 := by omega
      have h0'' : ((l.length : Int) == 0) = false := by simpa using h0
      obtain ⟨P, hP⟩ : ∃ P, P = Frm.puts l := ⟨_, rfl⟩
      rw [← hP] at HO HC hlen ⊢
      have HPP := hide hP
      clear hP
      obtain ⟨k, hk⟩ : ∃ k : Nat, x % (l.length : Int) = (k : Int) := ⟨(x % (l.length : Int)).toNat, by have := Int.emod_nonneg x h0'; omega⟩
      have hkl : k < l.length := by have := Int.emod_lt_of_pos x (show (0 : Int) < (l.length : Int) by omega); omega
      obtain ⟨fr, hfr⟩ : ∃ fr, fr = (Frm.puts (l.take k)).length := ⟨_, rfl⟩
      obtain ⟨M, hM⟩ : ∃ M, M = (Frm.put (l.getD k [])).length := ⟨_, rfl⟩
      have hnx : (Frm.puts (l.take (k + 1))).length = fr + M := by rw [Frm.puts_next hkl, List.length_append, hfr, hM]
      have hM8 : 8 ≤ M := by rw [hM, Frm.put_length]; omega
      have hen1 := Frm.ends_at (l := l) hkl
      rw [hnx] at hen1
      have HEN1 := hide hen1
      have HEN0 := hide (fun (k' : Nat) (h : k = k' + 1) => show (Frm.ends l).getD k' 0 = (fr : Int) from by rw [Frm.ends_at (by omega), ← h, ← hfr])
      obtain ⟨en, hen⟩ : ∃ en, en = Frm.ends l := ⟨_, rfl⟩
      rw [← hen] at HQ HEN1 HEN0
      have HEL : Hid (en.length = l.length) := hide (by rw [hen, Frm.ends_length])
      clear hen hen1
      obtain ⟨b, off, rfl, hbb, hc⟩ := (Reads.of_own (HEL.out ▸ HQ.out)).at_ (k := k) (by rw [List.length_map, HEL.out]; omega)
      have hck := hc k (by rw [List.length_map, HEL.out]; omega)
      rw [getD_map_int _ _ (by rw [HEL.out]; omega), HEN1.out] at hck
      have HCK := hide (fun (k' : Nat) (h : k = k' + 1) => show w2.cell? ⟨b, off + k', none⟩ = some (.int .i64 (fr : Int)) from by
        have h' := hc k' (by rw [List.length_map, HEL.out]; omega)
        rw [getD_map_int _ _ (by rw [HEL.out]; omega), HEN0.out k' h] at h'
        exact h')
      obtain ⟨f, hf⟩ : ∃ f : Nat, x % (8 * (M : Int)) = (f : Int) := ⟨(x % (8 * (M : Int))).toNat, by have := Int.emod_nonneg x (show (8 * (M : Int)) ≠ 0 by omega); omega⟩
      have hf8 : f < 8 * M := by have := Int.emod_lt_of_pos x (show (0 : Int) < 8 * (M : Int) by omega); omega
      have hfrP : fr + M ≤ P.length := by
        have h := congrArg List.length (Frm.puts_append (l.take (k + 1)) (l.drop (k + 1)))
        rw [List.take_append_drop, List.length_append, hnx, ← HPP.out] at h
        omega
      obtain ⟨g, rfl⟩ : ∃ g, A = some ⟨g, 0, none⟩ := by
        rcases HO.out.2 with ⟨_, h⟩ | ⟨g, cg, _, h, _⟩
        · omega
        · injection h with h
          exact ⟨g, h⟩
      have hgb : g ≠ b := fun h => apart_types HO.out HQ.out (by decide) g rfl (by rw [h]; rfl)
      have HFR := hide hfr; have HMM := hide hM
      have HFR0 := hide (fun (h : k = 0) => show fr = 0 from by rw [hfr, h]; simp [Frm.puts])
      clear hc hfr hM hnx
      have hkl' : (k : Int) < (l.length : Int) := by omega
      by_cases hk0 : k = 0
      · subst hk0
        obtain rfl : fr = 0 := HFR0.out rfl
        rw [Nat.add_zero] at hck
        rw [Nat.zero_add] at hck
        replace hk : x % (l.length : Int) = 0 := hk
        clear HCK HFR0
        go_wp2_with fail
        simp only [hk, hf]
        clear hk hf
        go_loopw [13, 14] (fun v i wr => ∃ j : Nat, j ≤ 32 ∧ f + j ≤ 8 * M ∧ i = .int .i64 j ∧ v = .bool (some_ m j) ∧ wr.ownsRow w1.heap.size 5 1 (.slice (some ⟨g, 0, none⟩) P.length c) P.length (bys (turns P f m j)) ∧ (wr.cell? ⟨b, off, none⟩ = some (.int .i64 (M : Int))) ∧ b < wr.heap.size ∧ Below w.heap.size w wr) (fun _ i _ => 32 - (intOf i).toNat)
        case atStart => exact ⟨0, by omega, by omega, rfl, rfl, HO.out, hck, hbb, HB2.out⟩
        case round =>
          obtain ⟨j, hj, hfj, rfl, rfl, hown, hck, hbb, hbr⟩ := hrel
          have Hown := hide hown; have HBR := hide hbr
          clear hown hbr
          by_cases h1 : j < 32
          · by_cases h2 : f + j < 8 * M
            · have hix : (f + j) / 8 < P.length := by omega
              have h2' : (f : Int) + (j : Int) < 8 * (M : Int) := by omega
              obtain ⟨x0, hx0'⟩ : ∃ x0, x0 = (turns P f m j).getD ((f + j) / 8) 0 := ⟨_, rfl⟩
              have hc : wr.cell? ⟨g, (f + j) / 8, none⟩ = some (.int .u8 x0) := by
                rw [Hown.out.cellAt _ (by omega), List.getElem?_map, List.getElem?_eq_getElem (by rw [turns_length]; omega), hx0']
                simp [List.getD_eq_getElem?_getD, turns_length, hix]
              have hfz := Hown.out.frozenAt ((f + j) / 8)
              have Hx := hide hx0'
              clear hx0'
              cases hbit : m.getLsbD j
              · have ht := bit_at m j
                rw [hbit] at ht
                simp only [Bool.false_eq_true, if_false] at ht
                go_wp2
                go_roundw
                case rel => exact ⟨j + 1, by omega, by omega, by go_num, by simp [some_, hbit], by simpa [turns, hbit] using Hown.out, hck, hbb, HBR.out⟩
                case measure => simp [intOf]; omega
              · have ht := bit_at m j
                rw [hbit] at ht
                simp only [if_true] at ht
                go_wp2
                go_region
                obtain ⟨hst, hgr⟩ := Hown.out.stored ((f + j) / 8) (.int .u8 (bits .xor .u8 x0 (2 ^ ((f + j) % 8) % 256)))
                have Hst := hide hst
                have Hgr := hide hgr
                clear hst hgr
                go_wp2
                go_roundw
                case rel =>
                  refine ⟨j + 1, by omega, by omega, by go_num, by simp [some_, hbit], ?_, ?_, ?_, ?_⟩
                  · have e1 : (8 * 0 + f + j) / 8 = 0 + (f + j) / 8 := by omega
                    have e2 : (8 * 0 + f + j) % 8 = (f + j) % 8 := by omega
                    have : turns P f m (j + 1) = (turns P f m j).set ((f + j) / 8) (bits .xor .u8 x0 (2 ^ ((f + j) % 8) % 256)) := by
                      rw [Hx.out]; simp only [turns, hbit, if_true, turn]
                    rw [this, bys, List.map_set]
                    exact Hst.out
                  · exact (set_else _ _ _ _ hgb).trans hck

                  · exact Nat.lt_of_lt_of_le hbb Hgr.out.size
                  · exact (HBR.out.grown Hgr.out HBR.out.size (fun i hi => by cases hi; exact Nat.le_trans HB1.out.size (Hown.out.lt g rfl).1)).drew
                case measure => simp [intOf]; omega
            · have h2' : 8 * (M : Int) ≤ (f : Int) + (j : Int) := by omega
              clear h2
              cases hs : some_ m j
              · go_wp2
                go_ret
                exact ⟨rfl, HBR.out⟩
              · obtain ⟨s, E, hsc, hs2, hok⟩ := Frm.turned_rows (j := j) HALL.out HLX.out hkl HPP.out HFR.out HMM.out (by omega) hs
                rw [show 8 * 0 + f = f by omega] at hsc hok
                obtain ⟨m1, hm1⟩ : ∃ m1, m1 = l.take 0 ++ s := ⟨_, rfl⟩
                rw [← hm1] at hsc
                have HSC := hide hsc; have HOK := hide hok; have HS2 := hide hs2
                have hml : m1.length = 0 + s.length := by rw [hm1, List.length_append, List.length_take]; omega
                have HMT := hide (show m1.take 0 = l.take 0 from by rw [hm1, List.take_append_of_le_length (by rw [List.length_take]; omega), List.take_take, Nat.min_self])
                have HMD := hide (show m1.getD 0 [] = s.getD 0 [] from by rw [hm1, List.getD_eq_getElem?_getD, List.getElem?_append_right (by rw [List.length_take]; omega), List.length_take, Nat.min_eq_left (by omega), Nat.sub_self, List.getD_eq_getElem?_getD])
                have HML := hide hml
                have hag := Frm.scan_again _ _ (Nat.le_refl _) hok
                rw [hsc] at hag
                have HMO := hide (fun x hx => (hag.2.2 x hx).2)
                clear hm1 hsc hok hs2 hml hag
                go_wp2_with fail
                clear hck 
                refine (scan_is HSC.out (turns_length _ _ _ _) wr (Reads.of_own Hown.out) HOK.out (by omega) HC.out).mono ?_
                rintro e w3 ⟨L1, d1, rfl, hr1, hd1, hb3⟩
                have HR1 := hide hr1
                have HB3 := hide (HBR.out.trans (hb3.mono HBR.out.size))
                clear hr1 hb3 HSC
                have hKd : 0 ≤ d1 := by have := HML.out; omega
                have hs1 := cut_h 30 elem22 size22 L1 m1.length d1 0 hKd
                have hs2 := cut_h 30 elem22 size22 L ls.length cap 0 (by omega)
                replace hs1 : ∀ w : World, (Instr.slice 30 (.slice L1 m1.length d1) none (some (.int .i64 0)) none).run Try.prog w = .ok (.slice L1 0 d1) w := hs1
                replace hs2 : ∀ w : World, (Instr.slice 30 (.slice L ls.length cap) none (some (.int .i64 0)) none).run Try.prog w = .ok (.slice L 0 cap) w := hs2
                have SY := hide (fun (W : World) (hb : Below w3.heap.size w3 W) => (same_is (c := d1) (d := cap) (n := 0) (m := 0) (xs := m1.take 0) (ys := l.take 0) (by rw [List.length_take]; have := HML.out; omega) (by rw [List.length_take]; omega) HMT.out W ((HR1.out.below hb).take _) (by rw [HLT.out _ (by omega)]; exact (HL.out.below (HB3.out.trans (hb.mono HB3.out.size))).take _) (fun y hy => HLX.out y (List.mem_of_mem_take (by rw [HMT.out] at hy; exact hy))) (by omega)).mono (fun e w' h => (show e = .returned (.bool true) ∧ Below w3.heap.size w3 w' from ⟨h.1, below_next hb h.2⟩)))
                have tlt : decide ((m1.length : Int) < 0) = false := by rw [decide_eq_false_iff_not]; have := HML.out; omega
                go_wp2_with fail
                have hd0 := (Below.refl w3.heap.size w3).drew
                refine wp_region_held_drew (S := fun W => Below w3.heap.size w3 W) (by kernel_rfl) hd0 (fun hH => ?_)
                refine wpAnyH_take (i := 0) (v := ?vaap0) rfl (by kernel_rfl) (by kernel_rfl) (by kernel_rfl) (fun _ _ _ h => h) (Or.inl ⟨by rfl, ?yaap0⟩) hH ?raap0
                case yaap0 => (intro W hSw; (try dsimp only at hSw); (try simp only [List.getElem_toArray, List.getElem_cons_zero]); go_simp; first | done | with_reducible rfl)
                try simp only [Act.put, List.getElem_toArray, List.getElem_cons_zero, List.setIfInBounds_toArray, List.set_cons_zero, List.set_cons_succ]
                refine wpAnyH_take (i := 1) (v := ?vaap1) rfl (by kernel_rfl) (by kernel_rfl) (by kernel_rfl) (fun _ _ _ h => h) (Or.inl ⟨by rfl, ?yaap1⟩) hH ?raap1
                case yaap1 => (intro W hSw; (try dsimp only at hSw); (try simp only [List.getElem_toArray, List.getElem_cons_succ, List.getElem_cons_zero]); go_simp; first | done | with_reducible rfl)
                try simp only [Act.put, List.getElem_toArray, List.getElem_cons_succ, List.getElem_cons_zero, List.setIfInBounds_toArray, List.set_cons_zero, List.set_cons_succ]
                refine wpAnyH_take (i := 2) (v := ?vaap2) rfl (by kernel_rfl) (by kernel_rfl) (by kernel_rfl) (fun _ _ _ h => h) (Or.inl ⟨by rfl, ?yaap2⟩) hH ?raap2
                case yaap2 => (intro W hSw; (try dsimp only at hSw); (try simp only [List.getElem_toArray, List.getElem_cons_succ, List.getElem_cons_zero]); go_simp; first | done | with_reducible rfl)
                try simp only [Act.put, List.getElem_toArray, List.getElem_cons_succ, List.getElem_cons_zero, List.setIfInBounds_toArray, List.set_cons_zero, List.set_cons_succ]
                refine wpAnyH_take (i := 3) (v := .bool false) rfl (by kernel_rfl) (by kernel_rfl) (by kernel_rfl) (fun _ _ _ h => h) (Or.inl ⟨by rfl, ?yaap3⟩) hH ?raap3
                case yaap3 => (intro W hSw; (try dsimp only at hSw); (try simp only [List.getElem_toArray, List.getElem_cons_succ, List.getElem_cons_zero]); go_simp; (try (simp only [tlt])); first | done | with_reducible rfl)
                try simp only [Act.put, List.getElem_toArray, List.getElem_cons_succ, List.getElem_cons_zero, List.setIfInBounds_toArray, List.set_cons_zero, List.set_cons_succ]
                refine wpAnyH_take (i := 4) (v := .bool false) rfl (by kernel_rfl) (by kernel_rfl) (by kernel_rfl) (fun _ _ _ h => h) (Or.inl ⟨by rfl, ?yaap4⟩) hH ?raap4
                case yaap4 => (intro W hSw; (try dsimp only at hSw); (try simp only [List.getElem_toArray, List.getElem_cons_succ, List.getElem_cons_zero]); go_simp; first | done | with_reducible rfl)
                try simp only [Act.put, List.getElem_toArray, List.getElem_cons_succ, List.getElem_cons_zero, List.setIfInBounds_toArray, List.set_cons_zero, List.set_cons_succ]
                refine wpAnyH_take (i := 5) (v := ?vaap5) rfl (by kernel_rfl) (by kernel_rfl) (by kernel_rfl) (fun _ _ _ h => h) (Or.inl ⟨by rfl, ?yaap5⟩) hH ?raap5
                case yaap5 => (intro W hSw; (try dsimp only at hSw); (try simp only [List.getElem_toArray, List.getElem_cons_succ, List.getElem_cons_zero]); go_simp; first | done | with_reducible rfl)
                try simp only [Act.put, List.getElem_toArray, List.getElem_cons_succ, List.getElem_cons_zero, List.setIfInBounds_toArray, List.set_cons_zero, List.set_cons_succ]
                refine wpAnyH_take (i := 6) (v := ?vaap6) rfl (by kernel_rfl) (by kernel_rfl) (by kernel_rfl) (fun _ _ _ h => h) (Or.inl ⟨by rfl, ?yaap6⟩) hH ?raap6
                case yaap6 => (intro W hSw; (try dsimp only at hSw); (try simp only [List.getElem_toArray, List.getElem_cons_succ, List.getElem_cons_zero]); go_simp; first | done | with_reducible rfl)
                try simp only [Act.put, List.getElem_toArray, List.getElem_cons_succ, List.getElem_cons_zero, List.setIfInBounds_toArray, List.set_cons_zero, List.set_cons_succ]
                refine wpAnyH_take (i := 7) (v := ?vaap7) rfl (by kernel_rfl) (by kernel_rfl) (by kernel_rfl) (fun _ _ _ h => h) (Or.inl ⟨by rfl, ?yaap7⟩) hH ?raap7
                case yaap7 => (intro W hSw; (try dsimp only at hSw); (try simp only [List.getElem_toArray, List.getElem_cons_succ, List.getElem_cons_zero]); go_simp; first | done | with_reducible rfl)
                try simp only [Act.put, List.getElem_toArray, List.getElem_cons_succ, List.getElem_cons_zero, List.setIfInBounds_toArray, List.set_cons_zero, List.set_cons_succ]
                refine wpAnyH_take (i := 8) (v := ?vaap8) rfl (by kernel_rfl) (by kernel_rfl) (by kernel_rfl) (fun _ _ _ h => h) (Or.inl ⟨by rfl, ?yaap8⟩) hH ?raap8
                case yaap8 => (intro W hSw; (try dsimp only at hSw); (try simp only [List.getElem_toArray, List.getElem_cons_succ, List.getElem_cons_zero]); go_simp; first | done | with_reducible rfl)
                try simp only [Act.put, List.getElem_toArray, List.getElem_cons_succ, List.getElem_cons_zero, List.setIfInBounds_toArray, List.set_cons_zero, List.set_cons_succ]
                refine wpAnyH_take (i := 9) (v := ?vaap9) rfl (by kernel_rfl) (by kernel_rfl) (by kernel_rfl) (fun _ _ _ h => h) (Or.inl ⟨by rfl, ?yaap9⟩) hH ?raap9
                case yaap9 => (intro W hSw; (try dsimp only at hSw); (try simp only [List.getElem_toArray, List.getElem_cons_succ, List.getElem_cons_zero]); go_simp; first | done | with_reducible rfl)
                try simp only [Act.put, List.getElem_toArray, List.getElem_cons_succ, List.getElem_cons_zero, List.setIfInBounds_toArray, List.set_cons_zero, List.set_cons_succ]
                refine wpAnyH_take (i := 10) (v := ?vaap10) rfl (by kernel_rfl) (by kernel_rfl) (by kernel_rfl) (fun _ _ _ h => h) (Or.inl ⟨by rfl, ?yaap10⟩) hH ?raap10
                case yaap10 => (intro W hSw; (try dsimp only at hSw); (try simp only [List.getElem_toArray, List.getElem_cons_succ, List.getElem_cons_zero]); go_simp; first | done | with_reducible rfl)
                try simp only [Act.put, List.getElem_toArray, List.getElem_cons_succ, List.getElem_cons_zero, List.setIfInBounds_toArray, List.set_cons_zero, List.set_cons_succ]
                refine wpAnyH_ready (rs := [11]) (by kernel_rfl) (by simp) ?_
                refine AllReadyH.cons rfl (fun K hK => ?_) AllReadyH.nil
                simp only [List.getElem_toArray, List.getElem_cons_succ, List.getElem_cons_zero]
                go_simp
                refine (SY.out _ hd0).mono ?_
                rintro e w10 ⟨rfl, hb10⟩
                refine hK.out _ _ hb10 (fun hH2 => ?_)
                clear hK
                refine held_less (S' := fun W => W = w10) (fun W h => by subst h; exact hb10) ?_
                have hS3 : (fun W => W = w10) w10 := rfl
                refine wpAnyH_take (i := 12) (v := .bool false) rfl (by kernel_rfl) (by kernel_rfl) (by kernel_rfl) (fun _ _ _ h => h) (Or.inl ⟨by rfl, ?yaaq12⟩) hS3 ?raaq12
                case yaaq12 => (intro W hSw; (try dsimp only at hSw); (try simp only [List.getElem_toArray, List.getElem_cons_succ, List.getElem_cons_zero]); go_simp; first | done | with_reducible rfl)
                try simp only [Act.put, List.getElem_toArray, List.getElem_cons_succ, List.getElem_cons_zero, List.setIfInBounds_toArray, List.set_cons_zero, List.set_cons_succ]
                refine wpAnyH_take (i := 13) (v := .bool false) rfl (by kernel_rfl) (by kernel_rfl) (by kernel_rfl) (fun _ _ _ h => h) (Or.inl ⟨by rfl, ?yaaq13⟩) hS3 ?raaq13
                case yaaq13 => (intro W hSw; (try dsimp only at hSw); (try simp only [List.getElem_toArray, List.getElem_cons_succ, List.getElem_cons_zero]); go_simp; first | done | with_reducible rfl)
                try simp only [Act.put, List.getElem_toArray, List.getElem_cons_succ, List.getElem_cons_zero, List.setIfInBounds_toArray, List.set_cons_zero, List.set_cons_succ]
                refine wpAnyH_done (by kernel_rfl) ?_ _
                go_wp2_with fail
                clear hs1 hs2 SY tlt
                have HBW := hide (HB3.out.trans (hb10.mono HB3.out.size))
                have HR2 := hide (HR1.out.below hb10)
                clear HR1 hb10
                by_cases hse : s = []
                · have tk : ((m1.length : Int) == 0) = true := by rw [beq_iff_eq, HML.out, hse]; simp
                  refine wp_region_held_drew (S := fun _ => True) (by kernel_rfl) trivial (fun hH => ?_)
                  refine wpAnyH_take (i := 0) (v := .bool true) rfl (by kernel_rfl) (by kernel_rfl) (by kernel_rfl) (fun _ _ _ h => h) (Or.inl ⟨by rfl, ?yaar0⟩) hH ?raar0
                  case yaar0 => (intro W hSw; (try dsimp only at hSw); (try simp only [List.getElem_toArray, List.getElem_cons_zero]); go_simp; first | done | with_reducible rfl)
                  try simp only [Act.put, List.getElem_toArray, List.getElem_cons_zero, List.setIfInBounds_toArray, List.set_cons_zero, List.set_cons_succ]
                  refine wpAnyH_take (i := 1) (v := .bool true) rfl (by kernel_rfl) (by kernel_rfl) (by kernel_rfl) (fun _ _ _ h => h) (Or.inl ⟨by rfl, ?yaar1⟩) hH ?raar1
                  case yaar1 => (intro W hSw; (try dsimp only at hSw); (try simp only [List.getElem_toArray, List.getElem_cons_succ, List.getElem_cons_zero]); go_simp; first | done | with_reducible rfl)
                  try simp only [Act.put, List.getElem_toArray, List.getElem_cons_succ, List.getElem_cons_zero, List.setIfInBounds_toArray, List.set_cons_zero, List.set_cons_succ]
                  refine wpAnyH_take (i := 2) (v := ?vaar2) rfl (by kernel_rfl) (by kernel_rfl) (by kernel_rfl) (fun _ _ _ h => h) (Or.inl ⟨by rfl, ?yaar2⟩) hH ?raar2
                  case yaar2 => (intro W hSw; (try dsimp only at hSw); (try simp only [List.getElem_toArray, List.getElem_cons_succ, List.getElem_cons_zero]); go_simp; first | done | with_reducible rfl)
                  try simp only [Act.put, List.getElem_toArray, List.getElem_cons_succ, List.getElem_cons_zero, List.setIfInBounds_toArray, List.set_cons_zero, List.set_cons_succ]
                  refine wpAnyH_take (i := 3) (v := ?vaar3) rfl (by kernel_rfl) (by kernel_rfl) (by kernel_rfl) (fun _ _ _ h => h) (Or.inl ⟨by rfl, ?yaar3⟩) hH ?raar3
                  case yaar3 => (intro W hSw; (try dsimp only at hSw); (try simp only [List.getElem_toArray, List.getElem_cons_succ, List.getElem_cons_zero]); go_simp; first | done | with_reducible rfl)
                  try simp only [Act.put, List.getElem_toArray, List.getElem_cons_succ, List.getElem_cons_zero, List.setIfInBounds_toArray, List.set_cons_zero, List.set_cons_succ]
                  refine wpAnyH_take (i := 4) (v := ?vaar4) rfl (by kernel_rfl) (by kernel_rfl) (by kernel_rfl) (fun _ _ _ h => h) (Or.inl ⟨by rfl, ?yaar4⟩) hH ?raar4
                  case yaar4 => (intro W hSw; (try dsimp only at hSw); (try simp only [List.getElem_toArray, List.getElem_cons_succ, List.getElem_cons_zero]); go_simp; first | done | with_reducible rfl)
                  try simp only [Act.put, List.getElem_toArray, List.getElem_cons_succ, List.getElem_cons_zero, List.setIfInBounds_toArray, List.set_cons_zero, List.set_cons_succ]
                  refine wpAnyH_take (i := 5) (v := .bool true) rfl (by kernel_rfl) (by kernel_rfl) (by kernel_rfl) (fun _ _ _ h => h) (Or.inl ⟨by rfl, ?yaar5⟩) hH ?raar5
                  case yaar5 => (intro W hSw; (try dsimp only at hSw); (try simp only [List.getElem_toArray, List.getElem_cons_succ, List.getElem_cons_zero]); go_simp; (try (simp only [tk])); first | done | with_reducible rfl)
                  try simp only [Act.put, List.getElem_toArray, List.getElem_cons_succ, List.getElem_cons_zero, List.setIfInBounds_toArray, List.set_cons_zero, List.set_cons_succ]
                  refine wpAnyH_take (i := 6) (v := .bool true) rfl (by kernel_rfl) (by kernel_rfl) (by kernel_rfl) (fun _ _ _ h => h) (Or.inl ⟨by rfl, ?yaar6⟩) hH ?raar6
                  case yaar6 => (intro W hSw; (try dsimp only at hSw); (try simp only [List.getElem_toArray, List.getElem_cons_succ, List.getElem_cons_zero]); go_simp; first | done | with_reducible rfl)
                  try simp only [Act.put, List.getElem_toArray, List.getElem_cons_succ, List.getElem_cons_zero, List.setIfInBounds_toArray, List.set_cons_zero, List.set_cons_succ]
                  refine wpAnyH_take (i := 7) (v := undef) rfl (by kernel_rfl) (by kernel_rfl) (by kernel_rfl) (fun _ _ _ h => h) (Or.inr ⟨by rfl, rfl⟩) hH ?raas7
                  try simp only [Act.put, List.getElem_toArray, List.getElem_cons_succ, List.getElem_cons_zero, List.setIfInBounds_toArray, List.set_cons_zero, List.set_cons_succ]
                  refine wpAnyH_take (i := 8) (v := undef) rfl (by kernel_rfl) (by kernel_rfl) (by kernel_rfl) (fun _ _ _ h => h) (Or.inr ⟨by rfl, rfl⟩) hH ?raas8
                  try simp only [Act.put, List.getElem_toArray, List.getElem_cons_succ, List.getElem_cons_zero, List.setIfInBounds_toArray, List.set_cons_zero, List.set_cons_succ]
                  refine wpAnyH_take (i := 9) (v := undef) rfl (by kernel_rfl) (by kernel_rfl) (by kernel_rfl) (fun _ _ _ h => h) (Or.inr ⟨by rfl, rfl⟩) hH ?raas9
                  try simp only [Act.put, List.getElem_toArray, List.getElem_cons_succ, List.getElem_cons_zero, List.setIfInBounds_toArray, List.set_cons_zero, List.set_cons_succ]
                  refine wpAnyH_take (i := 10) (v := undef) rfl (by kernel_rfl) (by kernel_rfl) (by kernel_rfl) (fun _ _ _ h => h) (Or.inr ⟨by rfl, rfl⟩) hH ?raas10
                  try simp only [Act.put, List.getElem_toArray, List.getElem_cons_succ, List.getElem_cons_zero, List.setIfInBounds_toArray, List.set_cons_zero, List.set_cons_succ]
                  refine wpAnyH_take (i := 11) (v := undef) rfl (by kernel_rfl) (by kernel_rfl) (by kernel_rfl) (fun _ _ _ h => h) (Or.inr ⟨by rfl, rfl⟩) hH ?raas11
                  try simp only [Act.put, List.getElem_toArray, List.getElem_cons_succ, List.getElem_cons_zero, List.setIfInBounds_toArray, List.set_cons_zero, List.set_cons_succ]
                  refine wpAnyH_take (i := 12) (v := undef) rfl (by kernel_rfl) (by kernel_rfl) (by kernel_rfl) (fun _ _ _ h => h) (Or.inr ⟨by rfl, rfl⟩) hH ?raas12
                  try simp only [Act.put, List.getElem_toArray, List.getElem_cons_succ, List.getElem_cons_zero, List.setIfInBounds_toArray, List.set_cons_zero, List.set_cons_succ]
                  refine wpAnyH_take (i := 13) (v := undef) rfl (by kernel_rfl) (by kernel_rfl) (by kernel_rfl) (fun _ _ _ h => h) (Or.inr ⟨by rfl, rfl⟩) hH ?raas13
                  try simp only [Act.put, List.getElem_toArray, List.getElem_cons_succ, List.getElem_cons_zero, List.setIfInBounds_toArray, List.set_cons_zero, List.set_cons_succ]
                  refine wpAnyH_take (i := 14) (v := undef) rfl (by kernel_rfl) (by kernel_rfl) (by kernel_rfl) (fun _ _ _ h => h) (Or.inr ⟨by rfl, rfl⟩) hH ?raas14
                  try simp only [Act.put, List.getElem_toArray, List.getElem_cons_succ, List.getElem_cons_zero, List.setIfInBounds_toArray, List.set_cons_zero, List.set_cons_succ]
                  refine wpAnyH_take (i := 15) (v := undef) rfl (by kernel_rfl) (by kernel_rfl) (by kernel_rfl) (fun _ _ _ h => h) (Or.inr ⟨by rfl, rfl⟩) hH ?raas15
                  try simp only [Act.put, List.getElem_toArray, List.getElem_cons_succ, List.getElem_cons_zero, List.setIfInBounds_toArray, List.set_cons_zero, List.set_cons_succ]
                  refine wpAnyH_take (i := 16) (v := undef) rfl (by kernel_rfl) (by kernel_rfl) (by kernel_rfl) (fun _ _ _ h => h) (Or.inr ⟨by rfl, rfl⟩) hH ?raas16
                  try simp only [Act.put, List.getElem_toArray, List.getElem_cons_succ, List.getElem_cons_zero, List.setIfInBounds_toArray, List.set_cons_zero, List.set_cons_succ]
                  refine wpAnyH_take (i := 17) (v := undef) rfl (by kernel_rfl) (by kernel_rfl) (by kernel_rfl) (fun _ _ _ h => h) (Or.inr ⟨by rfl, rfl⟩) hH ?raas17
                  try simp only [Act.put, List.getElem_toArray, List.getElem_cons_succ, List.getElem_cons_zero, List.setIfInBounds_toArray, List.set_cons_zero, List.set_cons_succ]
                  refine wpAnyH_take (i := 18) (v := .bool true) rfl (by kernel_rfl) (by kernel_rfl) (by kernel_rfl) (fun _ _ _ h => h) (Or.inl ⟨by rfl, ?yaar18⟩) hH ?raar18
                  case yaar18 => (intro W hSw; (try dsimp only at hSw); (try simp only [List.getElem_toArray, List.getElem_cons_succ, List.getElem_cons_zero]); go_simp; first | done | with_reducible rfl)
                  try simp only [Act.put, List.getElem_toArray, List.getElem_cons_succ, List.getElem_cons_zero, List.setIfInBounds_toArray, List.set_cons_zero, List.set_cons_succ]
                  refine wpAnyH_take (i := 19) (v := .bool true) rfl (by kernel_rfl) (by kernel_rfl) (by kernel_rfl) (fun _ _ _ h => h) (Or.inl ⟨by rfl, ?yaar19⟩) hH ?raar19
                  case yaar19 => (intro W hSw; (try dsimp only at hSw); (try simp only [List.getElem_toArray, List.getElem_cons_succ, List.getElem_cons_zero]); go_simp; first | done | with_reducible rfl)
                  try simp only [Act.put, List.getElem_toArray, List.getElem_cons_succ, List.getElem_cons_zero, List.setIfInBounds_toArray, List.set_cons_zero, List.set_cons_succ]
                  refine wpAnyH_take (i := 20) (v := ?vaar20) rfl (by kernel_rfl) (by kernel_rfl) (by kernel_rfl) (fun _ _ _ h => h) (Or.inl ⟨by rfl, ?yaar20⟩) hH ?raar20
                  case yaar20 => (intro W hSw; (try dsimp only at hSw); (try simp only [List.getElem_toArray, List.getElem_cons_succ, List.getElem_cons_zero]); go_simp; first | done | with_reducible rfl)
                  try simp only [Act.put, List.getElem_toArray, List.getElem_cons_succ, List.getElem_cons_zero, List.setIfInBounds_toArray, List.set_cons_zero, List.set_cons_succ]
                  refine wpAnyH_done (by kernel_rfl) ?_ _
                  go_wp2
                  go_ret
                  exact ⟨rfl, HBW.out.drew⟩
                · have hsl : 0 < s.length := List.length_pos_iff.2 hse
                  have tk : ((m1.length : Int) == 0) = false := by rw [beq_eq_false_iff_ne, HML.out]; omega
                  have hle : ls.getD 0 [] = l.getD 0 [] := by
                    have h := HLT.out l.length (Nat.le_refl _)
                    rw [List.take_length] at h
                    conv => rhs; rw [h]
                    simp [List.getD_eq_getElem?_getD, hkl]
                  have hne : m1.getD 0 [] ≠ ls.getD 0 [] := by rw [HMD.out, hle]; exact HS2.out.resolve_left hse
                  have hok1 : Frm.ok (m1.getD 0 []) := HMO.out _ (by rw [List.getD_eq_getElem?_getD, List.getElem?_eq_getElem (by rw [HML.out]; omega)]; exact List.getElem_mem _)
                  have hok2 : Frm.ok (ls.getD 0 []) := HX.out _ (by rw [List.getD_eq_getElem?_getD, List.getElem?_eq_getElem (by omega)]; exact List.getElem_mem _)
                  have hmK : 0 < m1.length := by rw [HML.out]; omega
                  obtain ⟨b1, off1, P1, pc1, rfl, hbl1, c1, r1⟩ := HR2.out.at_ (k := 0) hmK
                  obtain ⟨b2, off2, P2, pc2, rfl, hbl2, c2, r2⟩ := (HL.out.below HBW.out).at_ (k := 0) (by omega)
                  generalize m1.getD 0 [] = y1 at *
                  generalize ls.getD 0 [] = y2 at *
                  rw [Nat.add_zero] at c1 c2
                  have tne : ((strOfNums y1).toList == (strOfNums y2).toList) = false := by rw [str_beq hok1 hok2]; exact decide_eq_false hne
                  have v1 := str_reads _ P1 y1.length pc1 y1 r1.drew rfl
                  have v2 := str_reads _ P2 y2.length pc2 y2 r2.drew rfl
                  have i1 : 0 < (m1.length : Int) := by omega
                  have i2 : 0 < (ls.length : Int) := by omega
                  have i3 : 0 < ls.length := by omega

                  clear hle hne hok1 hok2 r1 r2 HS2 HMD HMO HR2
                  refine wp_region_held_drew (S := fun W => (convert 22 9 (.slice P1 y1.length pc1)).run Try.prog W = .ok (.string (strOfNums y1)) W ∧ (convert 22 9 (.slice P2 y2.length pc2)).run Try.prog W = .ok (.string (strOfNums y2)) W ∧ W.cell? ⟨b1, off1, none⟩ = some (.slice P1 y1.length pc1) ∧ W.cell? ⟨b2, off2, none⟩ = some (.slice P2 y2.length pc2)) (by kernel_rfl) ⟨v1, v2, c1, c2⟩ (fun hH => ?_)
                  refine wpAnyH_take (i := 0) (v := .bool true) rfl (by kernel_rfl) (by kernel_rfl) (by kernel_rfl) (fun _ _ _ h => h) (Or.inl ⟨by rfl, ?yaau0⟩) hH ?raau0
                  case yaau0 => (intro W hSw; (try dsimp only at hSw); (try simp only [List.getElem_toArray, List.getElem_cons_zero]); obtain ⟨q1, q2, q3, q4⟩ := hSw; go_simp; first | done | with_reducible rfl)
                  try simp only [Act.put, List.getElem_toArray, List.getElem_cons_zero, List.setIfInBounds_toArray, List.set_cons_zero, List.set_cons_succ]
                  refine wpAnyH_take (i := 1) (v := .bool true) rfl (by kernel_rfl) (by kernel_rfl) (by kernel_rfl) (fun _ _ _ h => h) (Or.inl ⟨by rfl, ?yaau1⟩) hH ?raau1
                  case yaau1 => (intro W hSw; (try dsimp only at hSw); (try simp only [List.getElem_toArray, List.getElem_cons_succ, List.getElem_cons_zero]); obtain ⟨q1, q2, q3, q4⟩ := hSw; go_simp; first | done | with_reducible rfl)
                  try simp only [Act.put, List.getElem_toArray, List.getElem_cons_succ, List.getElem_cons_zero, List.setIfInBounds_toArray, List.set_cons_zero, List.set_cons_succ]
                  refine wpAnyH_take (i := 2) (v := ?waa2) rfl (by kernel_rfl) (by kernel_rfl) (by kernel_rfl) (fun _ _ _ h => h) (Or.inl ⟨by rfl, ?yaau2⟩) hH ?raau2
                  case yaau2 => (intro W hSw; (try dsimp only at hSw); (try simp only [List.getElem_toArray, List.getElem_cons_succ, List.getElem_cons_zero]); obtain ⟨q1, q2, q3, q4⟩ := hSw; go_simp; first | done | with_reducible rfl)
                  try simp only [Act.put, List.getElem_toArray, List.getElem_cons_succ, List.getElem_cons_zero, List.setIfInBounds_toArray, List.set_cons_zero, List.set_cons_succ]
                  refine wpAnyH_take (i := 3) (v := ?waa3) rfl (by kernel_rfl) (by kernel_rfl) (by kernel_rfl) (fun _ _ _ h => h) (Or.inl ⟨by rfl, ?yaau3⟩) hH ?raau3
                  case yaau3 => (intro W hSw; (try dsimp only at hSw); (try simp only [List.getElem_toArray, List.getElem_cons_succ, List.getElem_cons_zero]); obtain ⟨q1, q2, q3, q4⟩ := hSw; go_simp; first | done | with_reducible rfl)
                  try simp only [Act.put, List.getElem_toArray, List.getElem_cons_succ, List.getElem_cons_zero, List.setIfInBounds_toArray, List.set_cons_zero, List.set_cons_succ]
                  refine wpAnyH_take (i := 4) (v := ?waa4) rfl (by kernel_rfl) (by kernel_rfl) (by kernel_rfl) (fun _ _ _ h => h) (Or.inl ⟨by rfl, ?yaau4⟩) hH ?raau4
                  case yaau4 => (intro W hSw; (try dsimp only at hSw); (try simp only [List.getElem_toArray, List.getElem_cons_succ, List.getElem_cons_zero]); obtain ⟨q1, q2, q3, q4⟩ := hSw; go_simp; first | done | with_reducible rfl)
                  try simp only [Act.put, List.getElem_toArray, List.getElem_cons_succ, List.getElem_cons_zero, List.setIfInBounds_toArray, List.set_cons_zero, List.set_cons_succ]
                  refine wpAnyH_take (i := 5) (v := .bool false) rfl (by kernel_rfl) (by kernel_rfl) (by kernel_rfl) (fun _ _ _ h => h) (Or.inl ⟨by rfl, ?yaau5⟩) hH ?raau5
                  case yaau5 => (intro W hSw; (try dsimp only at hSw); (try simp only [List.getElem_toArray, List.getElem_cons_succ, List.getElem_cons_zero]); go_simp; (try (simp only [tk])); first | done | with_reducible rfl)
                  try simp only [Act.put, List.getElem_toArray, List.getElem_cons_succ, List.getElem_cons_zero, List.setIfInBounds_toArray, List.set_cons_zero, List.set_cons_succ]
                  refine wpAnyH_take (i := 6) (v := .bool false) rfl (by kernel_rfl) (by kernel_rfl) (by kernel_rfl) (fun _ _ _ h => h) (Or.inl ⟨by rfl, ?yaau6⟩) hH ?raau6
                  case yaau6 => (intro W hSw; (try dsimp only at hSw); (try simp only [List.getElem_toArray, List.getElem_cons_succ, List.getElem_cons_zero]); obtain ⟨q1, q2, q3, q4⟩ := hSw; go_simp; first | done | with_reducible rfl)
                  try simp only [Act.put, List.getElem_toArray, List.getElem_cons_succ, List.getElem_cons_zero, List.setIfInBounds_toArray, List.set_cons_zero, List.set_cons_succ]
                  refine wpAnyH_take (i := 7) (v := ?waa7) rfl (by kernel_rfl) (by kernel_rfl) (by kernel_rfl) (fun _ _ _ h => h) (Or.inl ⟨by rfl, ?yaau7⟩) hH ?raau7
                  case yaau7 => (intro W hSw; (try dsimp only at hSw); (try simp only [List.getElem_toArray, List.getElem_cons_succ, List.getElem_cons_zero]); obtain ⟨q1, q2, q3, q4⟩ := hSw; go_simp; first | done | with_reducible rfl)
                  try simp only [Act.put, List.getElem_toArray, List.getElem_cons_succ, List.getElem_cons_zero, List.setIfInBounds_toArray, List.set_cons_zero, List.set_cons_succ]
                  refine wpAnyH_take (i := 8) (v := ?waa8) rfl (by kernel_rfl) (by kernel_rfl) (by kernel_rfl) (fun _ _ _ h => h) (Or.inl ⟨by rfl, ?yaau8⟩) hH ?raau8
                  case yaau8 => (intro W hSw; (try dsimp only at hSw); (try simp only [List.getElem_toArray, List.getElem_cons_succ, List.getElem_cons_zero]); obtain ⟨q1, q2, q3, q4⟩ := hSw; go_simp; first | done | with_reducible rfl)
                  try simp only [Act.put, List.getElem_toArray, List.getElem_cons_succ, List.getElem_cons_zero, List.setIfInBounds_toArray, List.set_cons_zero, List.set_cons_succ]
                  refine wpAnyH_take (i := 9) (v := ?waa9) rfl (by kernel_rfl) (by kernel_rfl) (by kernel_rfl) (fun _ _ _ h => h) (Or.inl ⟨by rfl, ?yaau9⟩) hH ?raau9
                  case yaau9 => (intro W hSw; (try dsimp only at hSw); (try simp only [List.getElem_toArray, List.getElem_cons_succ, List.getElem_cons_zero]); obtain ⟨q1, q2, q3, q4⟩ := hSw; go_simp; first | done | with_reducible rfl)
                  try simp only [Act.put, List.getElem_toArray, List.getElem_cons_succ, List.getElem_cons_zero, List.setIfInBounds_toArray, List.set_cons_zero, List.set_cons_succ]
                  refine wpAnyH_take (i := 10) (v := ?waa10) rfl (by kernel_rfl) (by kernel_rfl) (by kernel_rfl) (fun _ _ _ h => h) (Or.inl ⟨by rfl, ?yaau10⟩) hH ?raau10
                  case yaau10 => (intro W hSw; (try dsimp only at hSw); (try simp only [List.getElem_toArray, List.getElem_cons_succ, List.getElem_cons_zero]); obtain ⟨q1, q2, q3, q4⟩ := hSw; go_simp; first | done | with_reducible rfl)
                  try simp only [Act.put, List.getElem_toArray, List.getElem_cons_succ, List.getElem_cons_zero, List.setIfInBounds_toArray, List.set_cons_zero, List.set_cons_succ]
                  refine wpAnyH_take (i := 11) (v := ?waa11) rfl (by kernel_rfl) (by kernel_rfl) (by kernel_rfl) (fun _ _ _ h => h) (Or.inl ⟨by rfl, ?yaau11⟩) hH ?raau11
                  case yaau11 => (intro W hSw; (try dsimp only at hSw); (try simp only [List.getElem_toArray, List.getElem_cons_succ, List.getElem_cons_zero]); obtain ⟨q1, q2, q3, q4⟩ := hSw; go_simp; first | done | with_reducible rfl)
                  try simp only [Act.put, List.getElem_toArray, List.getElem_cons_succ, List.getElem_cons_zero, List.setIfInBounds_toArray, List.set_cons_zero, List.set_cons_succ]
                  refine wpAnyH_take (i := 12) (v := ?waa12) rfl (by kernel_rfl) (by kernel_rfl) (by kernel_rfl) (fun _ _ _ h => h) (Or.inl ⟨by rfl, ?yaau12⟩) hH ?raau12
                  case yaau12 => (intro W hSw; (try dsimp only at hSw); (try simp only [List.getElem_toArray, List.getElem_cons_succ, List.getElem_cons_zero]); obtain ⟨q1, q2, q3, q4⟩ := hSw; go_simp; first | done | with_reducible rfl)
                  try simp only [Act.put, List.getElem_toArray, List.getElem_cons_succ, List.getElem_cons_zero, List.setIfInBounds_toArray, List.set_cons_zero, List.set_cons_succ]
                  refine wpAnyH_take (i := 13) (v := ?waa13) rfl (by kernel_rfl) (by kernel_rfl) (by kernel_rfl) (fun _ _ _ h => h) (Or.inl ⟨by rfl, ?yaau13⟩) hH ?raau13
                  case yaau13 => (intro W hSw; (try dsimp only at hSw); (try simp only [List.getElem_toArray, List.getElem_cons_succ, List.getElem_cons_zero]); obtain ⟨q1, q2, q3, q4⟩ := hSw; go_simp; first | done | with_reducible rfl)
                  try simp only [Act.put, List.getElem_toArray, List.getElem_cons_succ, List.getElem_cons_zero, List.setIfInBounds_toArray, List.set_cons_zero, List.set_cons_succ]
                  refine wpAnyH_take (i := 14) (v := ?waa14) rfl (by kernel_rfl) (by kernel_rfl) (by kernel_rfl) (fun _ _ _ h => h) (Or.inl ⟨by rfl, ?yaau14⟩) hH ?raau14
                  case yaau14 => (intro W hSw; (try dsimp only at hSw); (try simp only [List.getElem_toArray, List.getElem_cons_succ, List.getElem_cons_zero]); obtain ⟨q1, q2, q3, q4⟩ := hSw; go_simp; first | done | with_reducible rfl)
                  try simp only [Act.put, List.getElem_toArray, List.getElem_cons_succ, List.getElem_cons_zero, List.setIfInBounds_toArray, List.set_cons_zero, List.set_cons_succ]
                  refine wpAnyH_take (i := 15) (v := ?waa15) rfl (by kernel_rfl) (by kernel_rfl) (by kernel_rfl) (fun _ _ _ h => h) (Or.inl ⟨by rfl, ?yaau15⟩) hH ?raau15
                  case yaau15 => (intro W hSw; (try dsimp only at hSw); (try simp only [List.getElem_toArray, List.getElem_cons_succ, List.getElem_cons_zero]); obtain ⟨q1, q2, q3, q4⟩ := hSw; go_simp; first | done | with_reducible rfl)
                  try simp only [Act.put, List.getElem_toArray, List.getElem_cons_succ, List.getElem_cons_zero, List.setIfInBounds_toArray, List.set_cons_zero, List.set_cons_succ]
                  refine wpAnyH_take (i := 16) (v := ?waa16) rfl (by kernel_rfl) (by kernel_rfl) (by kernel_rfl) (fun _ _ _ h => h) (Or.inl ⟨by rfl, ?yaau16⟩) hH ?raau16
                  case yaau16 => (intro W hSw; (try dsimp only at hSw); (try simp only [List.getElem_toArray, List.getElem_cons_succ, List.getElem_cons_zero]); obtain ⟨q1, q2, q3, q4⟩ := hSw; go_simp; first | done | with_reducible rfl)
                  try simp only [Act.put, List.getElem_toArray, List.getElem_cons_succ, List.getElem_cons_zero, List.setIfInBounds_toArray, List.set_cons_zero, List.set_cons_succ]
                  refine wpAnyH_take (i := 17) (v := .bool true) rfl (by kernel_rfl) (by kernel_rfl) (by kernel_rfl) (fun _ _ _ h => h) (Or.inl ⟨by rfl, ?yaau17⟩) hH ?raau17
                  case yaau17 => (intro W hSw; (try dsimp only at hSw); (try simp only [List.getElem_toArray, List.getElem_cons_succ, List.getElem_cons_zero]); obtain ⟨q1, q2, q3, q4⟩ := hSw; go_simp; first | done | with_reducible rfl)
                  try simp only [Act.put, List.getElem_toArray, List.getElem_cons_succ, List.getElem_cons_zero, List.setIfInBounds_toArray, List.set_cons_zero, List.set_cons_succ]
                  refine wpAnyH_take (i := 18) (v := .bool true) rfl (by kernel_rfl) (by kernel_rfl) (by kernel_rfl) (fun _ _ _ h => h) (Or.inl ⟨by rfl, ?yaau18⟩) hH ?raau18
                  case yaau18 => (intro W hSw; (try dsimp only at hSw); (try simp only [List.getElem_toArray, List.getElem_cons_succ, List.getElem_cons_zero]); obtain ⟨q1, q2, q3, q4⟩ := hSw; go_simp; first | done | with_reducible rfl)
                  try simp only [Act.put, List.getElem_toArray, List.getElem_cons_succ, List.getElem_cons_zero, List.setIfInBounds_toArray, List.set_cons_zero, List.set_cons_succ]
                  refine wpAnyH_take (i := 19) (v := .bool true) rfl (by kernel_rfl) (by kernel_rfl) (by kernel_rfl) (fun _ _ _ h => h) (Or.inl ⟨by rfl, ?yaau19⟩) hH ?raau19
                  case yaau19 => (intro W hSw; (try dsimp only at hSw); (try simp only [List.getElem_toArray, List.getElem_cons_succ, List.getElem_cons_zero]); obtain ⟨q1, q2, q3, q4⟩ := hSw; go_simp; first | done | with_reducible rfl)
                  try simp only [Act.put, List.getElem_toArray, List.getElem_cons_succ, List.getElem_cons_zero, List.setIfInBounds_toArray, List.set_cons_zero, List.set_cons_succ]
                  refine wpAnyH_take (i := 20) (v := ?vaau20) rfl (by kernel_rfl) (by kernel_rfl) (by kernel_rfl) (fun _ _ _ h => h) (Or.inl ⟨by rfl, ?yaau20⟩) hH ?raau20
                  case yaau20 => (intro W hSw; (try dsimp only at hSw); (try simp only [List.getElem_toArray, List.getElem_cons_succ, List.getElem_cons_zero]); go_simp; first | done | with_reducible rfl)
                  try simp only [Act.put, List.getElem_toArray, List.getElem_cons_succ, List.getElem_cons_zero, List.setIfInBounds_toArray, List.set_cons_zero, List.set_cons_succ]
                  refine wpAnyH_done (by kernel_rfl) ?_ _
                  go_wp2
                  go_ret
                  exact ⟨rfl, HBW.out.drew⟩
          · have h1' : (32 : Int) ≤ (j : Int) := by omega
            clear h1
            cases hs : some_ m j
            · go_wp2
              go_ret
              exact ⟨rfl, HBR.out⟩
            · obtain ⟨s, E, hsc, hs2, hok⟩ := Frm.turned_rows (j := j) HALL.out HLX.out hkl HPP.out HFR.out HMM.out (by omega) hs
              rw [show 8 * 0 + f = f by omega] at hsc hok
              obtain ⟨m1, hm1⟩ : ∃ m1, m1 = l.take 0 ++ s := ⟨_, rfl⟩
              rw [← hm1] at hsc
              have HSC := hide hsc; have HOK := hide hok; have HS2 := hide hs2
              have hml : m1.length = 0 + s.length := by rw [hm1, List.length_append, List.length_take]; omega
              have HMT := hide (show m1.take 0 = l.take 0 from by rw [hm1, List.take_append_of_le_length (by rw [List.length_take]; omega), List.take_take, Nat.min_self])
              have HMD := hide (show m1.getD 0 [] = s.getD 0 [] from by rw [hm1, List.getD_eq_getElem?_getD, List.getElem?_append_right (by rw [List.length_take]; omega), List.length_take, Nat.min_eq_left (by omega), Nat.sub_self, List.getD_eq_getElem?_getD])
              have HML := hide hml
              have hag := Frm.scan_again _ _ (Nat.le_refl _) hok
              rw [hsc] at hag
              have HMO := hide (fun x hx => (hag.2.2 x hx).2)
              clear hm1 hsc hok hs2 hml hag
              go_wp2_with fail
              clear hck 
              refine (scan_is HSC.out (turns_length _ _ _ _) wr (Reads.of_own Hown.out) HOK.out (by omega) HC.out).mono ?_
              rintro e w3 ⟨L1, d1, rfl, hr1, hd1, hb3⟩
              have HR1 := hide hr1
              have HB3 := hide (HBR.out.trans (hb3.mono HBR.out.size))
              clear hr1 hb3 HSC
              have hKd : 0 ≤ d1 := by have := HML.out; omega
              have hs1 := cut_h 30 elem22 size22 L1 m1.length d1 0 hKd
              have hs2 := cut_h 30 elem22 size22 L ls.length cap 0 (by omega)
              replace hs1 : ∀ w : World, (Instr.slice 30 (.slice L1 m1.length d1) none (some (.int .i64 0)) none).run Try.prog w = .ok (.slice L1 0 d1) w := hs1
              replace hs2 : ∀ w : World, (Instr.slice 30 (.slice L ls.length cap) none (some (.int .i64 0)) none).run Try.prog w = .ok (.slice L 0 cap) w := hs2
              have SY := hide (fun (W : World) (hb : Below w3.heap.size w3 W) => (same_is (c := d1) (d := cap) (n := 0) (m := 0) (xs := m1.take 0) (ys := l.take 0) (by rw [List.length_take]; have := HML.out; omega) (by rw [List.length_take]; omega) HMT.out W ((HR1.out.below hb).take _) (by rw [HLT.out _ (by omega)]; exact (HL.out.below (HB3.out.trans (hb.mono HB3.out.size))).take _) (fun y hy => HLX.out y (List.mem_of_mem_take (by rw [HMT.out] at hy; exact hy))) (by omega)).mono (fun e w' h => (show e = .returned (.bool true) ∧ Below w3.heap.size w3 w' from ⟨h.1, below_next hb h.2⟩)))
              have tlt : decide ((m1.length : Int) < 0) = false := by rw [decide_eq_false_iff_not]; have := HML.out; omega
              go_wp2_with fail
              have hd0 := (Below.refl w3.heap.size w3).drew
              refine wp_region_held_drew (S := fun W => Below w3.heap.size w3 W) (by kernel_rfl) hd0 (fun hH => ?_)
              refine wpAnyH_take (i := 0) (v := ?vabp0) rfl (by kernel_rfl) (by kernel_rfl) (by kernel_rfl) (fun _ _ _ h => h) (Or.inl ⟨by rfl, ?yabp0⟩) hH ?rabp0
              case yabp0 => (intro W hSw; (try dsimp only at hSw); (try simp only [List.getElem_toArray, List.getElem_cons_zero]); go_simp; first | done | with_reducible rfl)
              try simp only [Act.put, List.getElem_toArray, List.getElem_cons_zero, List.setIfInBounds_toArray, List.set_cons_zero, List.set_cons_succ]
              refine wpAnyH_take (i := 1) (v := ?vabp1) rfl (by kernel_rfl) (by kernel_rfl) (by kernel_rfl) (fun _ _ _ h => h) (Or.inl ⟨by rfl, ?yabp1⟩) hH ?rabp1
              case yabp1 => (intro W hSw; (try dsimp only at hSw); (try simp only [List.getElem_toArray, List.getElem_cons_succ, List.getElem_cons_zero]); go_simp; first | done | with_reducible rfl)
              try simp only [Act.put, List.getElem_toArray, List.getElem_cons_succ, List.getElem_cons_zero, List.setIfInBounds_toArray, List.set_cons_zero, List.set_cons_succ]
              refine wpAnyH_take (i := 2) (v := ?vabp2) rfl (by kernel_rfl) (by kernel_rfl) (by kernel_rfl) (fun _ _ _ h => h) (Or.inl ⟨by rfl, ?yabp2⟩) hH ?rabp2
              case yabp2 => (intro W hSw; (try dsimp only at hSw); (try simp only [List.getElem_toArray, List.getElem_cons_succ, List.getElem_cons_zero]); go_simp; first | done | with_reducible rfl)
              try simp only [Act.put, List.getElem_toArray, List.getElem_cons_succ, List.getElem_cons_zero, List.setIfInBounds_toArray, List.set_cons_zero, List.set_cons_succ]
              refine wpAnyH_take (i := 3) (v := .bool false) rfl (by kernel_rfl) (by kernel_rfl) (by kernel_rfl) (fun _ _ _ h => h) (Or.inl ⟨by rfl, ?yabp3⟩) hH ?rabp3
              case yabp3 => (intro W hSw; (try dsimp only at hSw); (try simp only [List.getElem_toArray, List.getElem_cons_succ, List.getElem_cons_zero]); go_simp; (try (simp only [tlt])); first | done | with_reducible rfl)
              try simp only [Act.put, List.getElem_toArray, List.getElem_cons_succ, List.getElem_cons_zero, List.setIfInBounds_toArray, List.set_cons_zero, List.set_cons_succ]
              refine wpAnyH_take (i := 4) (v := .bool false) rfl (by kernel_rfl) (by kernel_rfl) (by kernel_rfl) (fun _ _ _ h => h) (Or.inl ⟨by rfl, ?yabp4⟩) hH ?rabp4
              case yabp4 => (intro W hSw; (try dsimp only at hSw); (try simp only [List.getElem_toArray, List.getElem_cons_succ, List.getElem_cons_zero]); go_simp; first | done | with_reducible rfl)
              try simp only [Act.put, List.getElem_toArray, List.getElem_cons_succ, List.getElem_cons_zero, List.setIfInBounds_toArray, List.set_cons_zero, List.set_cons_succ]
              refine wpAnyH_take (i := 5) (v := ?vabp5) rfl (by kernel_rfl) (by kernel_rfl) (by kernel_rfl) (fun _ _ _ h => h) (Or.inl ⟨by rfl, ?yabp5⟩) hH ?rabp5
              case yabp5 => (intro W hSw; (try dsimp only at hSw); (try simp only [List.getElem_toArray, List.getElem_cons_succ, List.getElem_cons_zero]); go_simp; first | done | with_reducible rfl)
              try simp only [Act.put, List.getElem_toArray, List.getElem_cons_succ, List.getElem_cons_zero, List.setIfInBounds_toArray, List.set_cons_zero, List.set_cons_succ]
              refine wpAnyH_take (i := 6) (v := ?vabp6) rfl (by kernel_rfl) (by kernel_rfl) (by kernel_rfl) (fun _ _ _ h => h) (Or.inl ⟨by rfl, ?yabp6⟩) hH ?rabp6
              case yabp6 => (intro W hSw; (try dsimp only at hSw); (try simp only [List.getElem_toArray, List.getElem_cons_succ, List.getElem_cons_zero]); go_simp; first | done | with_reducible rfl)
              try simp only [Act.put, List.getElem_toArray, List.getElem_cons_succ, List.getElem_cons_zero, List.setIfInBounds_toArray, List.set_cons_zero, List.set_cons_succ]
              refine wpAnyH_take (i := 7) (v := ?vabp7) rfl (by kernel_rfl) (by kernel_rfl) (by kernel_rfl) (fun _ _ _ h => h) (Or.inl ⟨by rfl, ?yabp7⟩) hH ?rabp7
              case yabp7 => (intro W hSw; (try dsimp only at hSw); (try simp only [List.getElem_toArray, List.getElem_cons_succ, List.getElem_cons_zero]); go_simp; first | done | with_reducible rfl)
              try simp only [Act.put, List.getElem_toArray, List.getElem_cons_succ, List.getElem_cons_zero, List.setIfInBounds_toArray, List.set_cons_zero, List.set_cons_succ]
              refine wpAnyH_take (i := 8) (v := ?vabp8) rfl (by kernel_rfl) (by kernel_rfl) (by kernel_rfl) (fun _ _ _ h => h) (Or.inl ⟨by rfl, ?yabp8⟩) hH ?rabp8
              case yabp8 => (intro W hSw; (try dsimp only at hSw); (try simp only [List.getElem_toArray, List.getElem_cons_succ, List.getElem_cons_zero]); go_simp; first | done | with_reducible rfl)
              try simp only [Act.put, List.getElem_toArray, List.getElem_cons_succ, List.getElem_cons_zero, List.setIfInBounds_toArray, List.set_cons_zero, List.set_cons_succ]
              refine wpAnyH_take (i := 9) (v := ?vabp9) rfl (by kernel_rfl) (by kernel_rfl) (by kernel_rfl) (fun _ _ _ h => h) (Or.inl ⟨by rfl, ?yabp9⟩) hH ?rabp9
              case yabp9 => (intro W hSw; (try dsimp only at hSw); (try simp only [List.getElem_toArray, List.getElem_cons_succ, List.getElem_cons_zero]); go_simp; first | done | with_reducible rfl)
              try simp only [Act.put, List.getElem_toArray, List.getElem_cons_succ, List.getElem_cons_zero, List.setIfInBounds_toArray, List.set_cons_zero, List.set_cons_succ]
              refine wpAnyH_take (i := 10) (v := ?vabp10) rfl (by kernel_rfl) (by kernel_rfl) (by kernel_rfl) (fun _ _ _ h => h) (Or.inl ⟨by rfl, ?yabp10⟩) hH ?rabp10
              case yabp10 => (intro W hSw; (try dsimp only at hSw); (try simp only [List.getElem_toArray, List.getElem_cons_succ, List.getElem_cons_zero]); go_simp; first | done | with_reducible rfl)
              try simp only [Act.put, List.getElem_toArray, List.getElem_cons_succ, List.getElem_cons_zero, List.setIfInBounds_toArray, List.set_cons_zero, List.set_cons_succ]
              refine wpAnyH_ready (rs := [11]) (by kernel_rfl) (by simp) ?_
              refine AllReadyH.cons rfl (fun K hK => ?_) AllReadyH.nil
              simp only [List.getElem_toArray, List.getElem_cons_succ, List.getElem_cons_zero]
              go_simp
              refine (SY.out _ hd0).mono ?_
              rintro e w10 ⟨rfl, hb10⟩
              refine hK.out _ _ hb10 (fun hH2 => ?_)
              clear hK
              refine held_less (S' := fun W => W = w10) (fun W h => by subst h; exact hb10) ?_
              have hS3 : (fun W => W = w10) w10 := rfl
              refine wpAnyH_take (i := 12) (v := .bool false) rfl (by kernel_rfl) (by kernel_rfl) (by kernel_rfl) (fun _ _ _ h => h) (Or.inl ⟨by rfl, ?yabq12⟩) hS3 ?rabq12
              case yabq12 => (intro W hSw; (try dsimp only at hSw); (try simp only [List.getElem_toArray, List.getElem_cons_succ, List.getElem_cons_zero]); go_simp; first | done | with_reducible rfl)
              try simp only [Act.put, List.getElem_toArray, List.getElem_cons_succ, List.getElem_cons_zero, List.setIfInBounds_toArray, List.set_cons_zero, List.set_cons_succ]
              refine wpAnyH_take (i := 13) (v := .bool false) rfl (by kernel_rfl) (by kernel_rfl) (by kernel_rfl) (fun _ _ _ h => h) (Or.inl ⟨by rfl, ?yabq13⟩) hS3 ?rabq13
              case yabq13 => (intro W hSw; (try dsimp only at hSw); (try simp only [List.getElem_toArray, List.getElem_cons_succ, List.getElem_cons_zero]); go_simp; first | done | with_reducible rfl)
              try simp only [Act.put, List.getElem_toArray, List.getElem_cons_succ, List.getElem_cons_zero, List.setIfInBounds_toArray, List.set_cons_zero, List.set_cons_succ]
              refine wpAnyH_done (by kernel_rfl) ?_ _
              go_wp2_with fail
              clear hs1 hs2 SY tlt
              have HBW := hide (HB3.out.trans (hb10.mono HB3.out.size))
              have HR2 := hide (HR1.out.below hb10)
              clear HR1 hb10
              by_cases hse : s = []
              · have tk : ((m1.length : Int) == 0) = true := by rw [beq_iff_eq, HML.out, hse]; simp
                refine wp_region_held_drew (S := fun _ => True) (by kernel_rfl) trivial (fun hH => ?_)
                refine wpAnyH_take (i := 0) (v := .bool true) rfl (by kernel_rfl) (by kernel_rfl) (by kernel_rfl) (fun _ _ _ h => h) (Or.inl ⟨by rfl, ?yabr0⟩) hH ?rabr0
                case yabr0 => (intro W hSw; (try dsimp only at hSw); (try simp only [List.getElem_toArray, List.getElem_cons_zero]); go_simp; first | done | with_reducible rfl)
                try simp only [Act.put, List.getElem_toArray, List.getElem_cons_zero, List.setIfInBounds_toArray, List.set_cons_zero, List.set_cons_succ]
                refine wpAnyH_take (i := 1) (v := .bool true) rfl (by kernel_rfl) (by kernel_rfl) (by kernel_rfl) (fun _ _ _ h => h) (Or.inl ⟨by rfl, ?yabr1⟩) hH ?rabr1
                case yabr1 => (intro W hSw; (try dsimp only at hSw); (try simp only [List.getElem_toArray, List.getElem_cons_succ, List.getElem_cons_zero]); go_simp; first | done | with_reducible rfl)
                try simp only [Act.put, List.getElem_toArray, List.getElem_cons_succ, List.getElem_cons_zero, List.setIfInBounds_toArray, List.set_cons_zero, List.set_cons_succ]
                refine wpAnyH_take (i := 2) (v := ?vabr2) rfl (by kernel_rfl) (by kernel_rfl) (by kernel_rfl) (fun _ _ _ h => h) (Or.inl ⟨by rfl, ?yabr2⟩) hH ?rabr2
                case yabr2 => (intro W hSw; (try dsimp only at hSw); (try simp only [List.getElem_toArray, List.getElem_cons_succ, List.getElem_cons_zero]); go_simp; first | done | with_reducible rfl)
                try simp only [Act.put, List.getElem_toArray, List.getElem_cons_succ, List.getElem_cons_zero, List.setIfInBounds_toArray, List.set_cons_zero, List.set_cons_succ]
                refine wpAnyH_take (i := 3) (v := ?vabr3) rfl (by kernel_rfl) (by kernel_rfl) (by kernel_rfl) (fun _ _ _ h => h) (Or.inl ⟨by rfl, ?yabr3⟩) hH ?rabr3
                case yabr3 => (intro W hSw; (try dsimp only at hSw); (try simp only [List.getElem_toArray, List.getElem_cons_succ, List.getElem_cons_zero]); go_simp; first | done | with_reducible rfl)
                try simp only [Act.put, List.getElem_toArray, List.getElem_cons_succ, List.getElem_cons_zero, List.setIfInBounds_toArray, List.set_cons_zero, List.set_cons_succ]
                refine wpAnyH_take (i := 4) (v := ?vabr4) rfl (by kernel_rfl) (by kernel_rfl) (by kernel_rfl) (fun _ _ _ h => h) (Or.inl ⟨by rfl, ?yabr4⟩) hH ?rabr4
                case yabr4 => (intro W hSw; (try dsimp only at hSw); (try simp only [List.getElem_toArray, List.getElem_cons_succ, List.getElem_cons_zero]); go_simp; first | done | with_reducible rfl)
                try simp only [Act.put, List.getElem_toArray, List.getElem_cons_succ, List.getElem_cons_zero, List.setIfInBounds_toArray, List.set_cons_zero, List.set_cons_succ]
                refine wpAnyH_take (i := 5) (v := .bool true) rfl (by kernel_rfl) (by kernel_rfl) (by kernel_rfl) (fun _ _ _ h => h) (Or.inl ⟨by rfl, ?yabr5⟩) hH ?rabr5
                case yabr5 => (intro W hSw; (try dsimp only at hSw); (try simp only [List.getElem_toArray, List.getElem_cons_succ, List.getElem_cons_zero]); go_simp; (try (simp only [tk])); first | done | with_reducible rfl)
                try simp only [Act.put, List.getElem_toArray, List.getElem_cons_succ, List.getElem_cons_zero, List.setIfInBounds_toArray, List.set_cons_zero, List.set_cons_succ]
                refine wpAnyH_take (i := 6) (v := .bool true) rfl (by kernel_rfl) (by kernel_rfl) (by kernel_rfl) (fun _ _ _ h => h) (Or.inl ⟨by rfl, ?yabr6⟩) hH ?rabr6
                case yabr6 => (intro W hSw; (try dsimp only at hSw); (try simp only [List.getElem_toArray, List.getElem_cons_succ, List.getElem_cons_zero]); go_simp; first | done | with_reducible rfl)
                try simp only [Act.put, List.getElem_toArray, List.getElem_cons_succ, List.getElem_cons_zero, List.setIfInBounds_toArray, List.set_cons_zero, List.set_cons_succ]
                refine wpAnyH_take (i := 7) (v := undef) rfl (by kernel_rfl) (by kernel_rfl) (by kernel_rfl) (fun _ _ _ h => h) (Or.inr ⟨by rfl, rfl⟩) hH ?rabs7
                try simp only [Act.put, List.getElem_toArray, List.getElem_cons_succ, List.getElem_cons_zero, List.setIfInBounds_toArray, List.set_cons_zero, List.set_cons_succ]
                refine wpAnyH_take (i := 8) (v := undef) rfl (by kernel_rfl) (by kernel_rfl) (by kernel_rfl) (fun _ _ _ h => h) (Or.inr ⟨by rfl, rfl⟩) hH ?rabs8
                try simp only [Act.put, List.getElem_toArray, List.getElem_cons_succ, List.getElem_cons_zero, List.setIfInBounds_toArray, List.set_cons_zero, List.set_cons_succ]
                refine wpAnyH_take (i := 9) (v := undef) rfl (by kernel_rfl) (by kernel_rfl) (by kernel_rfl) (fun _ _ _ h => h) (Or.inr ⟨by rfl, rfl⟩) hH ?rabs9
                try simp only [Act.put, List.getElem_toArray, List.getElem_cons_succ, List.getElem_cons_zero, List.setIfInBounds_toArray, List.set_cons_zero, List.set_cons_succ]
                refine wpAnyH_take (i := 10) (v := undef) rfl (by kernel_rfl) (by kernel_rfl) (by kernel_rfl) (fun _ _ _ h => h) (Or.inr ⟨by rfl, rfl⟩) hH ?rabs10
                try simp only [Act.put, List.getElem_toArray, List.getElem_cons_succ, List.getElem_cons_zero, List.setIfInBounds_toArray, List.set_cons_zero, List.set_cons_succ]
                refine wpAnyH_take (i := 11) (v := undef) rfl (by kernel_rfl) (by kernel_rfl) (by kernel_rfl) (fun _ _ _ h => h) (Or.inr ⟨by rfl, rfl⟩) hH ?rabs11
                try simp only [Act.put, List.getElem_toArray, List.getElem_cons_succ, List.getElem_cons_zero, List.setIfInBounds_toArray, List.set_cons_zero, List.set_cons_succ]
                refine wpAnyH_take (i := 12) (v := undef) rfl (by kernel_rfl) (by kernel_rfl) (by kernel_rfl) (fun _ _ _ h => h) (Or.inr ⟨by rfl, rfl⟩) hH ?rabs12
                try simp only [Act.put, List.getElem_toArray, List.getElem_cons_succ, List.getElem_cons_zero, List.setIfInBounds_toArray, List.set_cons_zero, List.set_cons_succ]
                refine wpAnyH_take (i := 13) (v := undef) rfl (by kernel_rfl) (by kernel_rfl) (by kernel_rfl) (fun _ _ _ h => h) (Or.inr ⟨by rfl, rfl⟩) hH ?rabs13
                try simp only [Act.put, List.getElem_toArray, List.getElem_cons_succ, List.getElem_cons_zero, List.setIfInBounds_toArray, List.set_cons_zero, List.set_cons_succ]
                refine wpAnyH_take (i := 14) (v := undef) rfl (by kernel_rfl) (by kernel_rfl) (by kernel_rfl) (fun _ _ _ h => h) (Or.inr ⟨by rfl, rfl⟩) hH ?rabs14
                try simp only [Act.put, List.getElem_toArray, List.getElem_cons_succ, List.getElem_cons_zero, List.setIfInBounds_toArray, List.set_cons_zero, List.set_cons_succ]
                refine wpAnyH_take (i := 15) (v := undef) rfl (by kernel_rfl) (by kernel_rfl) (by kernel_rfl) (fun _ _ _ h => h) (Or.inr ⟨by rfl, rfl⟩) hH ?rabs15
                try simp only [Act.put, List.getElem_toArray, List.getElem_cons_succ, List.getElem_cons_zero, List.setIfInBounds_toArray, List.set_cons_zero, List.set_cons_succ]
                refine wpAnyH_take (i := 16) (v := undef) rfl (by kernel_rfl) (by kernel_rfl) (by kernel_rfl) (fun _ _ _ h => h) (Or.inr ⟨by rfl, rfl⟩) hH ?rabs16
                try simp only [Act.put, List.getElem_toArray, List.getElem_cons_succ, List.getElem_cons_zero, List.setIfInBounds_toArray, List.set_cons_zero, List.set_cons_succ]
                refine wpAnyH_take (i := 17) (v := undef) rfl (by kernel_rfl) (by kernel_rfl) (by kernel_rfl) (fun _ _ _ h => h) (Or.inr ⟨by rfl, rfl⟩) hH ?rabs17
                try simp only [Act.put, List.getElem_toArray, List.getElem_cons_succ, List.getElem_cons_zero, List.setIfInBounds_toArray, List.set_cons_zero, List.set_cons_succ]
                refine wpAnyH_take (i := 18) (v := .bool true) rfl (by kernel_rfl) (by kernel_rfl) (by kernel_rfl) (fun _ _ _ h => h) (Or.inl ⟨by rfl, ?yabr18⟩) hH ?rabr18
                case yabr18 => (intro W hSw; (try dsimp only at hSw); (try simp only [List.getElem_toArray, List.getElem_cons_succ, List.getElem_cons_zero]); go_simp; first | done | with_reducible rfl)
                try simp only [Act.put, List.getElem_toArray, List.getElem_cons_succ, List.getElem_cons_zero, List.setIfInBounds_toArray, List.set_cons_zero, List.set_cons_succ]
                refine wpAnyH_take (i := 19) (v := .bool true) rfl (by kernel_rfl) (by kernel_rfl) (by kernel_rfl) (fun _ _ _ h => h) (Or.inl ⟨by rfl, ?yabr19⟩) hH ?rabr19
                case yabr19 => (intro W hSw; (try dsimp only at hSw); (try simp only [List.getElem_toArray, List.getElem_cons_succ, List.getElem_cons_zero]); go_simp; first | done | with_reducible rfl)
                try simp only [Act.put, List.getElem_toArray, List.getElem_cons_succ, List.getElem_cons_zero, List.setIfInBounds_toArray, List.set_cons_zero, List.set_cons_succ]
                refine wpAnyH_take (i := 20) (v := ?vabr20) rfl (by kernel_rfl) (by kernel_rfl) (by kernel_rfl) (fun _ _ _ h => h) (Or.inl ⟨by rfl, ?yabr20⟩) hH ?rabr20
                case yabr20 => (intro W hSw; (try dsimp only at hSw); (try simp only [List.getElem_toArray, List.getElem_cons_succ, List.getElem_cons_zero]); go_simp; first | done | with_reducible rfl)
                try simp only [Act.put, List.getElem_toArray, List.getElem_cons_succ, List.getElem_cons_zero, List.setIfInBounds_toArray, List.set_cons_zero, List.set_cons_succ]
                refine wpAnyH_done (by kernel_rfl) ?_ _
                go_wp2
                go_ret
                exact ⟨rfl, HBW.out.drew⟩
              · have hsl : 0 < s.length := List.length_pos_iff.2 hse
                have tk : ((m1.length : Int) == 0) = false := by rw [beq_eq_false_iff_ne, HML.out]; omega
                have hle : ls.getD 0 [] = l.getD 0 [] := by
                  have h := HLT.out l.length (Nat.le_refl _)
                  rw [List.take_length] at h
                  conv => rhs; rw [h]
                  simp [List.getD_eq_getElem?_getD, hkl]
                have hne : m1.getD 0 [] ≠ ls.getD 0 [] := by rw [HMD.out, hle]; exact HS2.out.resolve_left hse
                have hok1 : Frm.ok (m1.getD 0 []) := HMO.out _ (by rw [List.getD_eq_getElem?_getD, List.getElem?_eq_getElem (by rw [HML.out]; omega)]; exact List.getElem_mem _)
                have hok2 : Frm.ok (ls.getD 0 []) := HX.out _ (by rw [List.getD_eq_getElem?_getD, List.getElem?_eq_getElem (by omega)]; exact List.getElem_mem _)
                have hmK : 0 < m1.length := by rw [HML.out]; omega
                obtain ⟨b1, off1, P1, pc1, rfl, hbl1, c1, r1⟩ := HR2.out.at_ (k := 0) hmK
                obtain ⟨b2, off2, P2, pc2, rfl, hbl2, c2, r2⟩ := (HL.out.below HBW.out).at_ (k := 0) (by omega)
                generalize m1.getD 0 [] = y1 at *
                generalize ls.getD 0 [] = y2 at *
                rw [Nat.add_zero] at c1 c2
                have tne : ((strOfNums y1).toList == (strOfNums y2).toList) = false := by rw [str_beq hok1 hok2]; exact decide_eq_false hne
                have v1 := str_reads _ P1 y1.length pc1 y1 r1.drew rfl
                have v2 := str_reads _ P2 y2.length pc2 y2 r2.drew rfl
                have i1 : 0 < (m1.length : Int) := by omega
                have i2 : 0 < (ls.length : Int) := by omega
                have i3 : 0 < ls.length := by omega

                clear hle hne hok1 hok2 r1 r2 HS2 HMD HMO HR2
                refine wp_region_held_drew (S := fun W => (convert 22 9 (.slice P1 y1.length pc1)).run Try.prog W = .ok (.string (strOfNums y1)) W ∧ (convert 22 9 (.slice P2 y2.length pc2)).run Try.prog W = .ok (.string (strOfNums y2)) W ∧ W.cell? ⟨b1, off1, none⟩ = some (.slice P1 y1.length pc1) ∧ W.cell? ⟨b2, off2, none⟩ = some (.slice P2 y2.length pc2)) (by kernel_rfl) ⟨v1, v2, c1, c2⟩ (fun hH => ?_)
                refine wpAnyH_take (i := 0) (v := .bool true) rfl (by kernel_rfl) (by kernel_rfl) (by kernel_rfl) (fun _ _ _ h => h) (Or.inl ⟨by rfl, ?yabu0⟩) hH ?rabu0
                case yabu0 => (intro W hSw; (try dsimp only at hSw); (try simp only [List.getElem_toArray, List.getElem_cons_zero]); obtain ⟨q1, q2, q3, q4⟩ := hSw; go_simp; first | done | with_reducible rfl)
                try simp only [Act.put, List.getElem_toArray, List.getElem_cons_zero, List.setIfInBounds_toArray, List.set_cons_zero, List.set_cons_succ]
                refine wpAnyH_take (i := 1) (v := .bool true) rfl (by kernel_rfl) (by kernel_rfl) (by kernel_rfl) (fun _ _ _ h => h) (Or.inl ⟨by rfl, ?yabu1⟩) hH ?rabu1
                case yabu1 => (intro W hSw; (try dsimp only at hSw); (try simp only [List.getElem_toArray, List.getElem_cons_succ, List.getElem_cons_zero]); obtain ⟨q1, q2, q3, q4⟩ := hSw; go_simp; first | done | with_reducible rfl)
                try simp only [Act.put, List.getElem_toArray, List.getElem_cons_succ, List.getElem_cons_zero, List.setIfInBounds_toArray, List.set_cons_zero, List.set_cons_succ]
                refine wpAnyH_take (i := 2) (v := ?wab2) rfl (by kernel_rfl) (by kernel_rfl) (by kernel_rfl) (fun _ _ _ h => h) (Or.inl ⟨by rfl, ?yabu2⟩) hH ?rabu2
                case yabu2 => (intro W hSw; (try dsimp only at hSw); (try simp only [List.getElem_toArray, List.getElem_cons_succ, List.getElem_cons_zero]); obtain ⟨q1, q2, q3, q4⟩ := hSw; go_simp; first | done | with_reducible rfl)
                try simp only [Act.put, List.getElem_toArray, List.getElem_cons_succ, List.getElem_cons_zero, List.setIfInBounds_toArray, List.set_cons_zero, List.set_cons_succ]
                refine wpAnyH_take (i := 3) (v := ?wab3) rfl (by kernel_rfl) (by kernel_rfl) (by kernel_rfl) (fun _ _ _ h => h) (Or.inl ⟨by rfl, ?yabu3⟩) hH ?rabu3
                case yabu3 => (intro W hSw; (try dsimp only at hSw); (try simp only [List.getElem_toArray, List.getElem_cons_succ, List.getElem_cons_zero]); obtain ⟨q1, q2, q3, q4⟩ := hSw; go_simp; first | done | with_reducible rfl)
                try simp only [Act.put, List.getElem_toArray, List.getElem_cons_succ, List.getElem_cons_zero, List.setIfInBounds_toArray, List.set_cons_zero, List.set_cons_succ]
                refine wpAnyH_take (i := 4) (v := ?wab4) rfl (by kernel_rfl) (by kernel_rfl) (by kernel_rfl) (fun _ _ _ h => h) (Or.inl ⟨by rfl, ?yabu4⟩) hH ?rabu4
                case yabu4 => (intro W hSw; (try dsimp only at hSw); (try simp only [List.getElem_toArray, List.getElem_cons_succ, List.getElem_cons_zero]); obtain ⟨q1, q2, q3, q4⟩ := hSw; go_simp; first | done | with_reducible rfl)
                try simp only [Act.put, List.getElem_toArray, List.getElem_cons_succ, List.getElem_cons_zero, List.setIfInBounds_toArray, List.set_cons_zero, List.set_cons_succ]
                refine wpAnyH_take (i := 5) (v := .bool false) rfl (by kernel_rfl) (by kernel_rfl) (by kernel_rfl) (fun _ _ _ h => h) (Or.inl ⟨by rfl, ?yabu5⟩) hH ?rabu5
                case yabu5 => (intro W hSw; (try dsimp only at hSw); (try simp only [List.getElem_toArray, List.getElem_cons_succ, List.getElem_cons_zero]); go_simp; (try (simp only [tk])); first | done | with_reducible rfl)
                try simp only [Act.put, List.getElem_toArray, List.getElem_cons_succ, List.getElem_cons_zero, List.setIfInBounds_toArray, List.set_cons_zero, List.set_cons_succ]
                refine wpAnyH_take (i := 6) (v := .bool false) rfl (by kernel_rfl) (by kernel_rfl) (by kernel_rfl) (fun _ _ _ h => h) (Or.inl ⟨by rfl, ?yabu6⟩) hH ?rabu6
                case yabu6 => (intro W hSw; (try dsimp only at hSw); (try simp only [List.getElem_toArray, List.getElem_cons_succ, List.getElem_cons_zero]); obtain ⟨q1, q2, q3, q4⟩ := hSw; go_simp; first | done | with_reducible rfl)
                try simp only [Act.put, List.getElem_toArray, List.getElem_cons_succ, List.getElem_cons_zero, List.setIfInBounds_toArray, List.set_cons_zero, List.set_cons_succ]
                refine wpAnyH_take (i := 7) (v := ?wab7) rfl (by kernel_rfl) (by kernel_rfl) (by kernel_rfl) (fun _ _ _ h => h) (Or.inl ⟨by rfl, ?yabu7⟩) hH ?rabu7
                case yabu7 => (intro W hSw; (try dsimp only at hSw); (try simp only [List.getElem_toArray, List.getElem_cons_succ, List.getElem_cons_zero]); obtain ⟨q1, q2, q3, q4⟩ := hSw; go_simp; first | done | with_reducible rfl)
                try simp only [Act.put, List.getElem_toArray, List.getElem_cons_succ, List.getElem_cons_zero, List.setIfInBounds_toArray, List.set_cons_zero, List.set_cons_succ]
                refine wpAnyH_take (i := 8) (v := ?wab8) rfl (by kernel_rfl) (by kernel_rfl) (by kernel_rfl) (fun _ _ _ h => h) (Or.inl ⟨by rfl, ?yabu8⟩) hH ?rabu8
                case yabu8 => (intro W hSw; (try dsimp only at hSw); (try simp only [List.getElem_toArray, List.getElem_cons_succ, List.getElem_cons_zero]); obtain ⟨q1, q2, q3, q4⟩ := hSw; go_simp; first | done | with_reducible rfl)
                try simp only [Act.put, List.getElem_toArray, List.getElem_cons_succ, List.getElem_cons_zero, List.setIfInBounds_toArray, List.set_cons_zero, List.set_cons_succ]
                refine wpAnyH_take (i := 9) (v := ?wab9) rfl (by kernel_rfl) (by kernel_rfl) (by kernel_rfl) (fun _ _ _ h => h) (Or.inl ⟨by rfl, ?yabu9⟩) hH ?rabu9
                case yabu9 => (intro W hSw; (try dsimp only at hSw); (try simp only [List.getElem_toArray, List.getElem_cons_succ, List.getElem_cons_zero]); obtain ⟨q1, q2, q3, q4⟩ := hSw; go_simp; first | done | with_reducible rfl)
                try simp only [Act.put, List.getElem_toArray, List.getElem_cons_succ, List.getElem_cons_zero, List.setIfInBounds_toArray, List.set_cons_zero, List.set_cons_succ]
                refine wpAnyH_take (i := 10) (v := ?wab10) rfl (by kernel_rfl) (by kernel_rfl) (by kernel_rfl) (fun _ _ _ h => h) (Or.inl ⟨by rfl, ?yabu10⟩) hH ?rabu10
                case yabu10 => (intro W hSw; (try dsimp only at hSw); (try simp only [List.getElem_toArray, List.getElem_cons_succ, List.getElem_cons_zero]); obtain ⟨q1, q2, q3, q4⟩ := hSw; go_simp; first | done | with_reducible rfl)
                try simp only [Act.put, List.getElem_toArray, List.getElem_cons_succ, List.getElem_cons_zero, List.setIfInBounds_toArray, List.set_cons_zero, List.set_cons_succ]
                refine wpAnyH_take (i := 11) (v := ?wab11) rfl (by kernel_rfl) (by kernel_rfl) (by kernel_rfl) (fun _ _ _ h => h) (Or.inl ⟨by rfl, ?yabu11⟩) hH ?rabu11
                case yabu11 => (intro W hSw; (try dsimp only at hSw); (try simp only [List.getElem_toArray, List.getElem_cons_succ, List.getElem_cons_zero]); obtain ⟨q1, q2, q3, q4⟩ := hSw; go_simp; first | done | with_reducible rfl)
                try simp only [Act.put, List.getElem_toArray, List.getElem_cons_succ, List.getElem_cons_zero, List.setIfInBounds_toArray, List.set_cons_zero, List.set_cons_succ]
                refine wpAnyH_take (i := 12) (v := ?wab12) rfl (by kernel_rfl) (by kernel_rfl) (by kernel_rfl) (fun _ _ _ h => h) (Or.inl ⟨by rfl, ?yabu12⟩) hH ?rabu12
                case yabu12 => (intro W hSw; (try dsimp only at hSw); (try simp only [List.getElem_toArray, List.getElem_cons_succ, List.getElem_cons_zero]); obtain ⟨q1, q2, q3, q4⟩ := hSw; go_simp; first | done | with_reducible rfl)
                try simp only [Act.put, List.getElem_toArray, List.getElem_cons_succ, List.getElem_cons_zero, List.setIfInBounds_toArray, List.set_cons_zero, List.set_cons_succ]
                refine wpAnyH_take (i := 13) (v := ?wab13) rfl (by kernel_rfl) (by kernel_rfl) (by kernel_rfl) (fun _ _ _ h => h) (Or.inl ⟨by rfl, ?yabu13⟩) hH ?rabu13
                case yabu13 => (intro W hSw; (try dsimp only at hSw); (try simp only [List.getElem_toArray, List.getElem_cons_succ, List.getElem_cons_zero]); obtain ⟨q1, q2, q3, q4⟩ := hSw; go_simp; first | done | with_reducible rfl)
                try simp only [Act.put, List.getElem_toArray, List.getElem_cons_succ, List.getElem_cons_zero, List.setIfInBounds_toArray, List.set_cons_zero, List.set_cons_succ]
                refine wpAnyH_take (i := 14) (v := ?wab14) rfl (by kernel_rfl) (by kernel_rfl) (by kernel_rfl) (fun _ _ _ h => h) (Or.inl ⟨by rfl, ?yabu14⟩) hH ?rabu14
                case yabu14 => (intro W hSw; (try dsimp only at hSw); (try simp only [List.getElem_toArray, List.getElem_cons_succ, List.getElem_cons_zero]); obtain ⟨q1, q2, q3, q4⟩ := hSw; go_simp; first | done | with_reducible rfl)
                try simp only [Act.put, List.getElem_toArray, List.getElem_cons_succ, List.getElem_cons_zero, List.setIfInBounds_toArray, List.set_cons_zero, List.set_cons_succ]
                refine wpAnyH_take (i := 15) (v := ?wab15) rfl (by kernel_rfl) (by kernel_rfl) (by kernel_rfl) (fun _ _ _ h => h) (Or.inl ⟨by rfl, ?yabu15⟩) hH ?rabu15
                case yabu15 => (intro W hSw; (try dsimp only at hSw); (try simp only [List.getElem_toArray, List.getElem_cons_succ, List.getElem_cons_zero]); obtain ⟨q1, q2, q3, q4⟩ := hSw; go_simp; first | done | with_reducible rfl)
                try simp only [Act.put, List.getElem_toArray, List.getElem_cons_succ, List.getElem_cons_zero, List.setIfInBounds_toArray, List.set_cons_zero, List.set_cons_succ]
                refine wpAnyH_take (i := 16) (v := ?wab16) rfl (by kernel_rfl) (by kernel_rfl) (by kernel_rfl) (fun _ _ _ h => h) (Or.inl ⟨by rfl, ?yabu16⟩) hH ?rabu16
                case yabu16 => (intro W hSw; (try dsimp only at hSw); (try simp only [List.getElem_toArray, List.getElem_cons_succ, List.getElem_cons_zero]); obtain ⟨q1, q2, q3, q4⟩ := hSw; go_simp; first | done | with_reducible rfl)
                try simp only [Act.put, List.getElem_toArray, List.getElem_cons_succ, List.getElem_cons_zero, List.setIfInBounds_toArray, List.set_cons_zero, List.set_cons_succ]
                refine wpAnyH_take (i := 17) (v := .bool true) rfl (by kernel_rfl) (by kernel_rfl) (by kernel_rfl) (fun _ _ _ h => h) (Or.inl ⟨by rfl, ?yabu17⟩) hH ?rabu17
                case yabu17 => (intro W hSw; (try dsimp only at hSw); (try simp only [List.getElem_toArray, List.getElem_cons_succ, List.getElem_cons_zero]); obtain ⟨q1, q2, q3, q4⟩ := hSw; go_simp; first | done | with_reducible rfl)
                try simp only [Act.put, List.getElem_toArray, List.getElem_cons_succ, List.getElem_cons_zero, List.setIfInBounds_toArray, List.set_cons_zero, List.set_cons_succ]
                refine wpAnyH_take (i := 18) (v := .bool true) rfl (by kernel_rfl) (by kernel_rfl) (by kernel_rfl) (fun _ _ _ h => h) (Or.inl ⟨by rfl, ?yabu18⟩) hH ?rabu18
                case yabu18 => (intro W hSw; (try dsimp only at hSw); (try simp only [List.getElem_toArray, List.getElem_cons_succ, List.getElem_cons_zero]); obtain ⟨q1, q2, q3, q4⟩ := hSw; go_simp; first | done | with_reducible rfl)
                try simp only [Act.put, List.getElem_toArray, List.getElem_cons_succ, List.getElem_cons_zero, List.setIfInBounds_toArray, List.set_cons_zero, List.set_cons_succ]
                refine wpAnyH_take (i := 19) (v := .bool true) rfl (by kernel_rfl) (by kernel_rfl) (by kernel_rfl) (fun _ _ _ h => h) (Or.inl ⟨by rfl, ?yabu19⟩) hH ?rabu19
                case yabu19 => (intro W hSw; (try dsimp only at hSw); (try simp only [List.getElem_toArray, List.getElem_cons_succ, List.getElem_cons_zero]); obtain ⟨q1, q2, q3, q4⟩ := hSw; go_simp; first | done | with_reducible rfl)
                try simp only [Act.put, List.getElem_toArray, List.getElem_cons_succ, List.getElem_cons_zero, List.setIfInBounds_toArray, List.set_cons_zero, List.set_cons_succ]
                refine wpAnyH_take (i := 20) (v := ?vabu20) rfl (by kernel_rfl) (by kernel_rfl) (by kernel_rfl) (fun _ _ _ h => h) (Or.inl ⟨by rfl, ?yabu20⟩) hH ?rabu20
                case yabu20 => (intro W hSw; (try dsimp only at hSw); (try simp only [List.getElem_toArray, List.getElem_cons_succ, List.getElem_cons_zero]); go_simp; first | done | with_reducible rfl)
                try simp only [Act.put, List.getElem_toArray, List.getElem_cons_succ, List.getElem_cons_zero, List.setIfInBounds_toArray, List.set_cons_zero, List.set_cons_succ]
                refine wpAnyH_done (by kernel_rfl) ?_ _
                go_wp2
                go_ret
                exact ⟨rfl, HBW.out.drew⟩
      · obtain ⟨k', rfl⟩ : ∃ k', k = k' + 1 := ⟨k - 1, by omega⟩
        have hck2 := HCK.out k' rfl
        replace hk : x % (l.length : Int) = (k' : Int) + 1 := by rw [hk]; omega
        rw [show ((fr + M : Nat) : Int) = (fr : Int) + (M : Int) by omega] at hck
        have HSB := hide (show (fr : Int) + (M : Int) - (fr : Int) = (M : Int) by omega)
        clear HCK HFR0
        go_wp2_with fail
        simp only [hk, hf, HSB.out]
        clear hk hf
        go_loopw [13, 14] (fun v i wr => ∃ j : Nat, j ≤ 32 ∧ f + j ≤ 8 * M ∧ i = .int .i64 j ∧ v = .bool (some_ m j) ∧ wr.ownsRow w1.heap.size 5 1 (.slice (some ⟨g, 0, none⟩) P.length c) P.length (bys (turns P (8 * fr + f) m j)) ∧ (wr.cell? ⟨b, off + (k' + 1), none⟩ = some (.int .i64 ((fr : Int) + (M : Int))) ∧ wr.cell? ⟨b, off + k', none⟩ = some (.int .i64 (fr : Int))) ∧ b < wr.heap.size ∧ Below w.heap.size w wr) (fun _ i _ => 32 - (intOf i).toNat)
        case atStart => exact ⟨0, by omega, by omega, rfl, rfl, HO.out, ⟨hck, hck2⟩, hbb, HB2.out⟩
        case round =>
          obtain ⟨j, hj, hfj, rfl, rfl, hown, ⟨hck, hck2⟩, hbb, hbr⟩ := hrel
          have Hown := hide hown; have HBR := hide hbr
          clear hown hbr
          by_cases h1 : j < 32
          · by_cases h2 : f + j < 8 * M
            · have hix : fr + (f + j) / 8 < P.length := by omega
              have h2' : (f : Int) + (j : Int) < 8 * (M : Int) := by omega
              obtain ⟨x0, hx0'⟩ : ∃ x0, x0 = (turns P (8 * fr + f) m j).getD (fr + (f + j) / 8) 0 := ⟨_, rfl⟩
              have hc : wr.cell? ⟨g, fr + (f + j) / 8, none⟩ = some (.int .u8 x0) := by
                rw [Hown.out.cellAt _ (by omega), List.getElem?_map, List.getElem?_eq_getElem (by rw [turns_length]; omega), hx0']
                simp [List.getD_eq_getElem?_getD, turns_length, hix]
              have hfz := Hown.out.frozenAt (fr + (f + j) / 8)
              have Hx := hide hx0'
              clear hx0'
              cases hbit : m.getLsbD j
              · have ht := bit_at m j
                rw [hbit] at ht
                simp only [Bool.false_eq_true, if_false] at ht
                go_wp2
                go_roundw
                case rel => exact ⟨j + 1, by omega, by omega, by go_num, by simp [some_, hbit], by simpa [turns, hbit] using Hown.out, ⟨hck, hck2⟩, hbb, HBR.out⟩
                case measure => simp [intOf]; omega
              · have ht := bit_at m j
                rw [hbit] at ht
                simp only [if_true] at ht
                go_wp2
                go_region
                obtain ⟨hst, hgr⟩ := Hown.out.stored (fr + (f + j) / 8) (.int .u8 (bits .xor .u8 x0 (2 ^ ((f + j) % 8) % 256)))
                have Hst := hide hst
                have Hgr := hide hgr
                clear hst hgr
                go_wp2
                go_roundw
                case rel =>
                  refine ⟨j + 1, by omega, by omega, by go_num, by simp [some_, hbit], ?_, ⟨?_, ?_⟩, ?_, ?_⟩
                  · have e1 : (8 * fr + f + j) / 8 = fr + (f + j) / 8 := by omega
                    have e2 : (8 * fr + f + j) % 8 = (f + j) % 8 := by omega
                    have : turns P (8 * fr + f) m (j + 1) = (turns P (8 * fr + f) m j).set (fr + (f + j) / 8) (bits .xor .u8 x0 (2 ^ ((f + j) % 8) % 256)) := by
                      rw [Hx.out]; simp only [turns, hbit, if_true, turn, e1, e2]
                    rw [this, bys, List.map_set]
                    exact Hst.out
                  · exact (set_else _ _ _ _ hgb).trans hck
                  · exact (set_else _ _ _ _ hgb).trans hck2
                  · exact Nat.lt_of_lt_of_le hbb Hgr.out.size
                  · exact (HBR.out.grown Hgr.out HBR.out.size (fun i hi => by cases hi; exact Nat.le_trans HB1.out.size (Hown.out.lt g rfl).1)).drew
                case measure => simp [intOf]; omega
            · have h2' : 8 * (M : Int) ≤ (f : Int) + (j : Int) := by omega
              clear h2
              cases hs : some_ m j
              · go_wp2
                go_ret
                exact ⟨rfl, HBR.out⟩
              · obtain ⟨s, E, hsc, hs2, hok⟩ := Frm.turned_rows (j := j) HALL.out HLX.out hkl HPP.out HFR.out HMM.out (by omega) hs

                obtain ⟨m1, hm1⟩ : ∃ m1, m1 = l.take (k' + 1) ++ s := ⟨_, rfl⟩
                rw [← hm1] at hsc
                have HSC := hide hsc; have HOK := hide hok; have HS2 := hide hs2
                have hml : m1.length = (k' + 1) + s.length := by rw [hm1, List.length_append, List.length_take]; omega
                have HMT := hide (show m1.take (k' + 1) = l.take (k' + 1) from by rw [hm1, List.take_append_of_le_length (by rw [List.length_take]; omega), List.take_take, Nat.min_self])
                have HMD := hide (show m1.getD (k' + 1) [] = s.getD 0 [] from by rw [hm1, List.getD_eq_getElem?_getD, List.getElem?_append_right (by rw [List.length_take]; omega), List.length_take, Nat.min_eq_left (by omega), Nat.sub_self, List.getD_eq_getElem?_getD])
                have HML := hide hml
                have hag := Frm.scan_again _ _ (Nat.le_refl _) hok
                rw [hsc] at hag
                have HMO := hide (fun x hx => (hag.2.2 x hx).2)
                clear hm1 hsc hok hs2 hml hag
                go_wp2_with fail
                clear hck hck2
                refine (scan_is HSC.out (turns_length _ _ _ _) wr (Reads.of_own Hown.out) HOK.out (by omega) HC.out).mono ?_
                rintro e w3 ⟨L1, d1, rfl, hr1, hd1, hb3⟩
                have HR1 := hide hr1
                have HB3 := hide (HBR.out.trans (hb3.mono HBR.out.size))
                clear hr1 hb3 HSC
                have hKd : (k' + 1) ≤ d1 := by have := HML.out; omega
                have hs1 := cut_h 30 elem22 size22 L1 m1.length d1 (k' + 1) hKd
                have hs2 := cut_h 30 elem22 size22 L ls.length cap (k' + 1) (by omega)
                rw [show ((k' + 1 : Nat) : Int) = (k' : Int) + 1 by omega] at hs1 hs2
                have SY := hide (fun (W : World) (hb : Below w3.heap.size w3 W) => (same_is (c := d1) (d := cap) (n := (k' + 1)) (m := (k' + 1)) (xs := m1.take (k' + 1)) (ys := l.take (k' + 1)) (by rw [List.length_take]; have := HML.out; omega) (by rw [List.length_take]; omega) HMT.out W ((HR1.out.below hb).take _) (by rw [HLT.out _ (by omega)]; exact (HL.out.below (HB3.out.trans (hb.mono HB3.out.size))).take _) (fun y hy => HLX.out y (List.mem_of_mem_take (by rw [HMT.out] at hy; exact hy))) (by omega)).mono (fun e w' h => (show e = .returned (.bool true) ∧ Below w3.heap.size w3 w' from ⟨h.1, below_next hb h.2⟩)))
                have tlt : decide ((m1.length : Int) < ((k' : Int) + 1)) = false := by rw [decide_eq_false_iff_not]; have := HML.out; omega
                go_wp2_with fail
                have hd0 := (Below.refl w3.heap.size w3).drew
                refine wp_region_held_drew (S := fun W => Below w3.heap.size w3 W) (by kernel_rfl) hd0 (fun hH => ?_)
                refine wpAnyH_take (i := 0) (v := ?vbap0) rfl (by kernel_rfl) (by kernel_rfl) (by kernel_rfl) (fun _ _ _ h => h) (Or.inl ⟨by rfl, ?ybap0⟩) hH ?rbap0
                case ybap0 => (intro W hSw; (try dsimp only at hSw); (try simp only [List.getElem_toArray, List.getElem_cons_zero]); go_simp; first | done | with_reducible rfl)
                try simp only [Act.put, List.getElem_toArray, List.getElem_cons_zero, List.setIfInBounds_toArray, List.set_cons_zero, List.set_cons_succ]
                refine wpAnyH_take (i := 1) (v := ?vbap1) rfl (by kernel_rfl) (by kernel_rfl) (by kernel_rfl) (fun _ _ _ h => h) (Or.inl ⟨by rfl, ?ybap1⟩) hH ?rbap1
                case ybap1 => (intro W hSw; (try dsimp only at hSw); (try simp only [List.getElem_toArray, List.getElem_cons_succ, List.getElem_cons_zero]); go_simp; first | done | with_reducible rfl)
                try simp only [Act.put, List.getElem_toArray, List.getElem_cons_succ, List.getElem_cons_zero, List.setIfInBounds_toArray, List.set_cons_zero, List.set_cons_succ]
                refine wpAnyH_take (i := 2) (v := ?vbap2) rfl (by kernel_rfl) (by kernel_rfl) (by kernel_rfl) (fun _ _ _ h => h) (Or.inl ⟨by rfl, ?ybap2⟩) hH ?rbap2
                case ybap2 => (intro W hSw; (try dsimp only at hSw); (try simp only [List.getElem_toArray, List.getElem_cons_succ, List.getElem_cons_zero]); go_simp; first | done | with_reducible rfl)
                try simp only [Act.put, List.getElem_toArray, List.getElem_cons_succ, List.getElem_cons_zero, List.setIfInBounds_toArray, List.set_cons_zero, List.set_cons_succ]
                refine wpAnyH_take (i := 3) (v := .bool false) rfl (by kernel_rfl) (by kernel_rfl) (by kernel_rfl) (fun _ _ _ h => h) (Or.inl ⟨by rfl, ?ybap3⟩) hH ?rbap3
                case ybap3 => (intro W hSw; (try dsimp only at hSw); (try simp only [List.getElem_toArray, List.getElem_cons_succ, List.getElem_cons_zero]); go_simp; (try (simp only [tlt])); first | done | with_reducible rfl)
                try simp only [Act.put, List.getElem_toArray, List.getElem_cons_succ, List.getElem_cons_zero, List.setIfInBounds_toArray, List.set_cons_zero, List.set_cons_succ]
                refine wpAnyH_take (i := 4) (v := .bool false) rfl (by kernel_rfl) (by kernel_rfl) (by kernel_rfl) (fun _ _ _ h => h) (Or.inl ⟨by rfl, ?ybap4⟩) hH ?rbap4
                case ybap4 => (intro W hSw; (try dsimp only at hSw); (try simp only [List.getElem_toArray, List.getElem_cons_succ, List.getElem_cons_zero]); go_simp; first | done | with_reducible rfl)
                try simp only [Act.put, List.getElem_toArray, List.getElem_cons_succ, List.getElem_cons_zero, List.setIfInBounds_toArray, List.set_cons_zero, List.set_cons_succ]
                refine wpAnyH_take (i := 5) (v := ?vbap5) rfl (by kernel_rfl) (by kernel_rfl) (by kernel_rfl) (fun _ _ _ h => h) (Or.inl ⟨by rfl, ?ybap5⟩) hH ?rbap5
                case ybap5 => (intro W hSw; (try dsimp only at hSw); (try simp only [List.getElem_toArray, List.getElem_cons_succ, List.getElem_cons_zero]); go_simp; first | done | with_reducible rfl)
                try simp only [Act.put, List.getElem_toArray, List.getElem_cons_succ, List.getElem_cons_zero, List.setIfInBounds_toArray, List.set_cons_zero, List.set_cons_succ]
                refine wpAnyH_take (i := 6) (v := ?vbap6) rfl (by kernel_rfl) (by kernel_rfl) (by kernel_rfl) (fun _ _ _ h => h) (Or.inl ⟨by rfl, ?ybap6⟩) hH ?rbap6
                case ybap6 => (intro W hSw; (try dsimp only at hSw); (try simp only [List.getElem_toArray, List.getElem_cons_succ, List.getElem_cons_zero]); go_simp; first | done | with_reducible rfl)
                try simp only [Act.put, List.getElem_toArray, List.getElem_cons_succ, List.getElem_cons_zero, List.setIfInBounds_toArray, List.set_cons_zero, List.set_cons_succ]
                refine wpAnyH_take (i := 7) (v := ?vbap7) rfl (by kernel_rfl) (by kernel_rfl) (by kernel_rfl) (fun _ _ _ h => h) (Or.inl ⟨by rfl, ?ybap7⟩) hH ?rbap7
                case ybap7 => (intro W hSw; (try dsimp only at hSw); (try simp only [List.getElem_toArray, List.getElem_cons_succ, List.getElem_cons_zero]); go_simp; first | done | with_reducible rfl)
                try simp only [Act.put, List.getElem_toArray, List.getElem_cons_succ, List.getElem_cons_zero, List.setIfInBounds_toArray, List.set_cons_zero, List.set_cons_succ]
                refine wpAnyH_take (i := 8) (v := ?vbap8) rfl (by kernel_rfl) (by kernel_rfl) (by kernel_rfl) (fun _ _ _ h => h) (Or.inl ⟨by rfl, ?ybap8⟩) hH ?rbap8
                case ybap8 => (intro W hSw; (try dsimp only at hSw); (try simp only [List.getElem_toArray, List.getElem_cons_succ, List.getElem_cons_zero]); go_simp; first | done | with_reducible rfl)
                try simp only [Act.put, List.getElem_toArray, List.getElem_cons_succ, List.getElem_cons_zero, List.setIfInBounds_toArray, List.set_cons_zero, List.set_cons_succ]
                refine wpAnyH_take (i := 9) (v := ?vbap9) rfl (by kernel_rfl) (by kernel_rfl) (by kernel_rfl) (fun _ _ _ h => h) (Or.inl ⟨by rfl, ?ybap9⟩) hH ?rbap9
                case ybap9 => (intro W hSw; (try dsimp only at hSw); (try simp only [List.getElem_toArray, List.getElem_cons_succ, List.getElem_cons_zero]); go_simp; first | done | with_reducible rfl)
                try simp only [Act.put, List.getElem_toArray, List.getElem_cons_succ, List.getElem_cons_zero, List.setIfInBounds_toArray, List.set_cons_zero, List.set_cons_succ]
                refine wpAnyH_take (i := 10) (v := ?vbap10) rfl (by kernel_rfl) (by kernel_rfl) (by kernel_rfl) (fun _ _ _ h => h) (Or.inl ⟨by rfl, ?ybap10⟩) hH ?rbap10
                case ybap10 => (intro W hSw; (try dsimp only at hSw); (try simp only [List.getElem_toArray, List.getElem_cons_succ, List.getElem_cons_zero]); go_simp; first | done | with_reducible rfl)
                try simp only [Act.put, List.getElem_toArray, List.getElem_cons_succ, List.getElem_cons_zero, List.setIfInBounds_toArray, List.set_cons_zero, List.set_cons_succ]
                refine wpAnyH_ready (rs := [11]) (by kernel_rfl) (by simp) ?_
                refine AllReadyH.cons rfl (fun K hK => ?_) AllReadyH.nil
                simp only [List.getElem_toArray, List.getElem_cons_succ, List.getElem_cons_zero]
                go_simp
                refine (SY.out _ hd0).mono ?_
                rintro e w10 ⟨rfl, hb10⟩
                refine hK.out _ _ hb10 (fun hH2 => ?_)
                clear hK
                refine held_less (S' := fun W => W = w10) (fun W h => by subst h; exact hb10) ?_
                have hS3 : (fun W => W = w10) w10 := rfl
                refine wpAnyH_take (i := 12) (v := .bool false) rfl (by kernel_rfl) (by kernel_rfl) (by kernel_rfl) (fun _ _ _ h => h) (Or.inl ⟨by rfl, ?ybaq12⟩) hS3 ?rbaq12
                case ybaq12 => (intro W hSw; (try dsimp only at hSw); (try simp only [List.getElem_toArray, List.getElem_cons_succ, List.getElem_cons_zero]); go_simp; first | done | with_reducible rfl)
                try simp only [Act.put, List.getElem_toArray, List.getElem_cons_succ, List.getElem_cons_zero, List.setIfInBounds_toArray, List.set_cons_zero, List.set_cons_succ]
                refine wpAnyH_take (i := 13) (v := .bool false) rfl (by kernel_rfl) (by kernel_rfl) (by kernel_rfl) (fun _ _ _ h => h) (Or.inl ⟨by rfl, ?ybaq13⟩) hS3 ?rbaq13
                case ybaq13 => (intro W hSw; (try dsimp only at hSw); (try simp only [List.getElem_toArray, List.getElem_cons_succ, List.getElem_cons_zero]); go_simp; first | done | with_reducible rfl)
                try simp only [Act.put, List.getElem_toArray, List.getElem_cons_succ, List.getElem_cons_zero, List.setIfInBounds_toArray, List.set_cons_zero, List.set_cons_succ]
                refine wpAnyH_done (by kernel_rfl) ?_ _
                go_wp2_with fail
                clear hs1 hs2 SY tlt
                have HBW := hide (HB3.out.trans (hb10.mono HB3.out.size))
                have HR2 := hide (HR1.out.below hb10)
                clear HR1 hb10
                by_cases hse : s = []
                · have tk : ((m1.length : Int) == ((k' : Int) + 1)) = true := by rw [beq_iff_eq, HML.out, hse]; simp
                  refine wp_region_held_drew (S := fun _ => True) (by kernel_rfl) trivial (fun hH => ?_)
                  refine wpAnyH_take (i := 0) (v := .bool true) rfl (by kernel_rfl) (by kernel_rfl) (by kernel_rfl) (fun _ _ _ h => h) (Or.inl ⟨by rfl, ?ybar0⟩) hH ?rbar0
                  case ybar0 => (intro W hSw; (try dsimp only at hSw); (try simp only [List.getElem_toArray, List.getElem_cons_zero]); go_simp; first | done | with_reducible rfl)
                  try simp only [Act.put, List.getElem_toArray, List.getElem_cons_zero, List.setIfInBounds_toArray, List.set_cons_zero, List.set_cons_succ]
                  refine wpAnyH_take (i := 1) (v := .bool true) rfl (by kernel_rfl) (by kernel_rfl) (by kernel_rfl) (fun _ _ _ h => h) (Or.inl ⟨by rfl, ?ybar1⟩) hH ?rbar1
                  case ybar1 => (intro W hSw; (try dsimp only at hSw); (try simp only [List.getElem_toArray, List.getElem_cons_succ, List.getElem_cons_zero]); go_simp; first | done | with_reducible rfl)
                  try simp only [Act.put, List.getElem_toArray, List.getElem_cons_succ, List.getElem_cons_zero, List.setIfInBounds_toArray, List.set_cons_zero, List.set_cons_succ]
                  refine wpAnyH_take (i := 2) (v := ?vbar2) rfl (by kernel_rfl) (by kernel_rfl) (by kernel_rfl) (fun _ _ _ h => h) (Or.inl ⟨by rfl, ?ybar2⟩) hH ?rbar2
                  case ybar2 => (intro W hSw; (try dsimp only at hSw); (try simp only [List.getElem_toArray, List.getElem_cons_succ, List.getElem_cons_zero]); go_simp; first | done | with_reducible rfl)
                  try simp only [Act.put, List.getElem_toArray, List.getElem_cons_succ, List.getElem_cons_zero, List.setIfInBounds_toArray, List.set_cons_zero, List.set_cons_succ]
                  refine wpAnyH_take (i := 3) (v := ?vbar3) rfl (by kernel_rfl) (by kernel_rfl) (by kernel_rfl) (fun _ _ _ h => h) (Or.inl ⟨by rfl, ?ybar3⟩) hH ?rbar3
                  case ybar3 => (intro W hSw; (try dsimp only at hSw); (try simp only [List.getElem_toArray, List.getElem_cons_succ, List.getElem_cons_zero]); go_simp; first | done | with_reducible rfl)
                  try simp only [Act.put, List.getElem_toArray, List.getElem_cons_succ, List.getElem_cons_zero, List.setIfInBounds_toArray, List.set_cons_zero, List.set_cons_succ]
                  refine wpAnyH_take (i := 4) (v := ?vbar4) rfl (by kernel_rfl) (by kernel_rfl) (by kernel_rfl) (fun _ _ _ h => h) (Or.inl ⟨by rfl, ?ybar4⟩) hH ?rbar4
                  case ybar4 => (intro W hSw; (try dsimp only at hSw); (try simp only [List.getElem_toArray, List.getElem_cons_succ, List.getElem_cons_zero]); go_simp; first | done | with_reducible rfl)
                  try simp only [Act.put, List.getElem_toArray, List.getElem_cons_succ, List.getElem_cons_zero, List.setIfInBounds_toArray, List.set_cons_zero, List.set_cons_succ]
                  refine wpAnyH_take (i := 5) (v := .bool true) rfl (by kernel_rfl) (by kernel_rfl) (by kernel_rfl) (fun _ _ _ h => h) (Or.inl ⟨by rfl, ?ybar5⟩) hH ?rbar5
                  case ybar5 => (intro W hSw; (try dsimp only at hSw); (try simp only [List.getElem_toArray, List.getElem_cons_succ, List.getElem_cons_zero]); go_simp; (try (simp only [tk])); first | done | with_reducible rfl)
                  try simp only [Act.put, List.getElem_toArray, List.getElem_cons_succ, List.getElem_cons_zero, List.setIfInBounds_toArray, List.set_cons_zero, List.set_cons_succ]
                  refine wpAnyH_take (i := 6) (v := .bool true) rfl (by kernel_rfl) (by kernel_rfl) (by kernel_rfl) (fun _ _ _ h => h) (Or.inl ⟨by rfl, ?ybar6⟩) hH ?rbar6
                  case ybar6 => (intro W hSw; (try dsimp only at hSw); (try simp only [List.getElem_toArray, List.getElem_cons_succ, List.getElem_cons_zero]); go_simp; first | done | with_reducible rfl)
                  try simp only [Act.put, List.getElem_toArray, List.getElem_cons_succ, List.getElem_cons_zero, List.setIfInBounds_toArray, List.set_cons_zero, List.set_cons_succ]
                  refine wpAnyH_take (i := 7) (v := undef) rfl (by kernel_rfl) (by kernel_rfl) (by kernel_rfl) (fun _ _ _ h => h) (Or.inr ⟨by rfl, rfl⟩) hH ?rbas7
                  try simp only [Act.put, List.getElem_toArray, List.getElem_cons_succ, List.getElem_cons_zero, List.setIfInBounds_toArray, List.set_cons_zero, List.set_cons_succ]
                  refine wpAnyH_take (i := 8) (v := undef) rfl (by kernel_rfl) (by kernel_rfl) (by kernel_rfl) (fun _ _ _ h => h) (Or.inr ⟨by rfl, rfl⟩) hH ?rbas8
                  try simp only [Act.put, List.getElem_toArray, List.getElem_cons_succ, List.getElem_cons_zero, List.setIfInBounds_toArray, List.set_cons_zero, List.set_cons_succ]
                  refine wpAnyH_take (i := 9) (v := undef) rfl (by kernel_rfl) (by kernel_rfl) (by kernel_rfl) (fun _ _ _ h => h) (Or.inr ⟨by rfl, rfl⟩) hH ?rbas9
                  try simp only [Act.put, List.getElem_toArray, List.getElem_cons_succ, List.getElem_cons_zero, List.setIfInBounds_toArray, List.set_cons_zero, List.set_cons_succ]
                  refine wpAnyH_take (i := 10) (v := undef) rfl (by kernel_rfl) (by kernel_rfl) (by kernel_rfl) (fun _ _ _ h => h) (Or.inr ⟨by rfl, rfl⟩) hH ?rbas10
                  try simp only [Act.put, List.getElem_toArray, List.getElem_cons_succ, List.getElem_cons_zero, List.setIfInBounds_toArray, List.set_cons_zero, List.set_cons_succ]
                  refine wpAnyH_take (i := 11) (v := undef) rfl (by kernel_rfl) (by kernel_rfl) (by kernel_rfl) (fun _ _ _ h => h) (Or.inr ⟨by rfl, rfl⟩) hH ?rbas11
                  try simp only [Act.put, List.getElem_toArray, List.getElem_cons_succ, List.getElem_cons_zero, List.setIfInBounds_toArray, List.set_cons_zero, List.set_cons_succ]
                  refine wpAnyH_take (i := 12) (v := undef) rfl (by kernel_rfl) (by kernel_rfl) (by kernel_rfl) (fun _ _ _ h => h) (Or.inr ⟨by rfl, rfl⟩) hH ?rbas12
                  try simp only [Act.put, List.getElem_toArray, List.getElem_cons_succ, List.getElem_cons_zero, List.setIfInBounds_toArray, List.set_cons_zero, List.set_cons_succ]
                  refine wpAnyH_take (i := 13) (v := undef) rfl (by kernel_rfl) (by kernel_rfl) (by kernel_rfl) (fun _ _ _ h => h) (Or.inr ⟨by rfl, rfl⟩) hH ?rbas13
                  try simp only [Act.put, List.getElem_toArray, List.getElem_cons_succ, List.getElem_cons_zero, List.setIfInBounds_toArray, List.set_cons_zero, List.set_cons_succ]
                  refine wpAnyH_take (i := 14) (v := undef) rfl (by kernel_rfl) (by kernel_rfl) (by kernel_rfl) (fun _ _ _ h => h) (Or.inr ⟨by rfl, rfl⟩) hH ?rbas14
                  try simp only [Act.put, List.getElem_toArray, List.getElem_cons_succ, List.getElem_cons_zero, List.setIfInBounds_toArray, List.set_cons_zero, List.set_cons_succ]
                  refine wpAnyH_take (i := 15) (v := undef) rfl (by kernel_rfl) (by kernel_rfl) (by kernel_rfl) (fun _ _ _ h => h) (Or.inr ⟨by rfl, rfl⟩) hH ?rbas15
                  try simp only [Act.put, List.getElem_toArray, List.getElem_cons_succ, List.getElem_cons_zero, List.setIfInBounds_toArray, List.set_cons_zero, List.set_cons_succ]
                  refine wpAnyH_take (i := 16) (v := undef) rfl (by kernel_rfl) (by kernel_rfl) (by kernel_rfl) (fun _ _ _ h => h) (Or.inr ⟨by rfl, rfl⟩) hH ?rbas16
                  try simp only [Act.put, List.getElem_toArray, List.getElem_cons_succ, List.getElem_cons_zero, List.setIfInBounds_toArray, List.set_cons_zero, List.set_cons_succ]
                  refine wpAnyH_take (i := 17) (v := undef) rfl (by kernel_rfl) (by kernel_rfl) (by kernel_rfl) (fun _ _ _ h => h) (Or.inr ⟨by rfl, rfl⟩) hH ?rbas17
                  try simp only [Act.put, List.getElem_toArray, List.getElem_cons_succ, List.getElem_cons_zero, List.setIfInBounds_toArray, List.set_cons_zero, List.set_cons_succ]
                  refine wpAnyH_take (i := 18) (v := .bool true) rfl (by kernel_rfl) (by kernel_rfl) (by kernel_rfl) (fun _ _ _ h => h) (Or.inl ⟨by rfl, ?ybar18⟩) hH ?rbar18
                  case ybar18 => (intro W hSw; (try dsimp only at hSw); (try simp only [List.getElem_toArray, List.getElem_cons_succ, List.getElem_cons_zero]); go_simp; first | done | with_reducible rfl)
                  try simp only [Act.put, List.getElem_toArray, List.getElem_cons_succ, List.getElem_cons_zero, List.setIfInBounds_toArray, List.set_cons_zero, List.set_cons_succ]
                  refine wpAnyH_take (i := 19) (v := .bool true) rfl (by kernel_rfl) (by kernel_rfl) (by kernel_rfl) (fun _ _ _ h => h) (Or.inl ⟨by rfl, ?ybar19⟩) hH ?rbar19
                  case ybar19 => (intro W hSw; (try dsimp only at hSw); (try simp only [List.getElem_toArray, List.getElem_cons_succ, List.getElem_cons_zero]); go_simp; first | done | with_reducible rfl)
                  try simp only [Act.put, List.getElem_toArray, List.getElem_cons_succ, List.getElem_cons_zero, List.setIfInBounds_toArray, List.set_cons_zero, List.set_cons_succ]
                  refine wpAnyH_take (i := 20) (v := ?vbar20) rfl (by kernel_rfl) (by kernel_rfl) (by kernel_rfl) (fun _ _ _ h => h) (Or.inl ⟨by rfl, ?ybar20⟩) hH ?rbar20
                  case ybar20 => (intro W hSw; (try dsimp only at hSw); (try simp only [List.getElem_toArray, List.getElem_cons_succ, List.getElem_cons_zero]); go_simp; first | done | with_reducible rfl)
                  try simp only [Act.put, List.getElem_toArray, List.getElem_cons_succ, List.getElem_cons_zero, List.setIfInBounds_toArray, List.set_cons_zero, List.set_cons_succ]
                  refine wpAnyH_done (by kernel_rfl) ?_ _
                  go_wp2
                  go_ret
                  exact ⟨rfl, HBW.out.drew⟩
                · have hsl : 0 < s.length := List.length_pos_iff.2 hse
                  have tk : ((m1.length : Int) == ((k' : Int) + 1)) = false := by rw [beq_eq_false_iff_ne, HML.out]; omega
                  have hle : ls.getD (k' + 1) [] = l.getD (k' + 1) [] := by
                    have h := HLT.out l.length (Nat.le_refl _)
                    rw [List.take_length] at h
                    conv => rhs; rw [h]
                    simp [List.getD_eq_getElem?_getD, hkl]
                  have hne : m1.getD (k' + 1) [] ≠ ls.getD (k' + 1) [] := by rw [HMD.out, hle]; exact HS2.out.resolve_left hse
                  have hok1 : Frm.ok (m1.getD (k' + 1) []) := HMO.out _ (by rw [List.getD_eq_getElem?_getD, List.getElem?_eq_getElem (by rw [HML.out]; omega)]; exact List.getElem_mem _)
                  have hok2 : Frm.ok (ls.getD (k' + 1) []) := HX.out _ (by rw [List.getD_eq_getElem?_getD, List.getElem?_eq_getElem (by omega)]; exact List.getElem_mem _)
                  have hmK : (k' + 1) < m1.length := by rw [HML.out]; omega
                  obtain ⟨b1, off1, P1, pc1, rfl, hbl1, c1, r1⟩ := HR2.out.at_ (k := (k' + 1)) hmK
                  obtain ⟨b2, off2, P2, pc2, rfl, hbl2, c2, r2⟩ := (HL.out.below HBW.out).at_ (k := (k' + 1)) (by omega)
                  generalize m1.getD (k' + 1) [] = y1 at *
                  generalize ls.getD (k' + 1) [] = y2 at *

                  have tne : ((strOfNums y1).toList == (strOfNums y2).toList) = false := by rw [str_beq hok1 hok2]; exact decide_eq_false hne
                  have v1 := str_reads _ P1 y1.length pc1 y1 r1.drew rfl
                  have v2 := str_reads _ P2 y2.length pc2 y2 r2.drew rfl
                  have i1 : ((k' : Int) + 1) < (m1.length : Int) := by omega
                  have i2 : ((k' : Int) + 1) < (ls.length : Int) := by omega
                  have i3 : (k' + 1) < ls.length := by omega
                  have i4 : (0 : Int) ≤ ((k' : Int) + 1) := by omega
                  clear hle hne hok1 hok2 r1 r2 HS2 HMD HMO HR2
                  refine wp_region_held_drew (S := fun W => (convert 22 9 (.slice P1 y1.length pc1)).run Try.prog W = .ok (.string (strOfNums y1)) W ∧ (convert 22 9 (.slice P2 y2.length pc2)).run Try.prog W = .ok (.string (strOfNums y2)) W ∧ W.cell? ⟨b1, off1 + (k' + 1), none⟩ = some (.slice P1 y1.length pc1) ∧ W.cell? ⟨b2, off2 + (k' + 1), none⟩ = some (.slice P2 y2.length pc2)) (by kernel_rfl) ⟨v1, v2, c1, c2⟩ (fun hH => ?_)
                  refine wpAnyH_take (i := 0) (v := .bool true) rfl (by kernel_rfl) (by kernel_rfl) (by kernel_rfl) (fun _ _ _ h => h) (Or.inl ⟨by rfl, ?ybau0⟩) hH ?rbau0
                  case ybau0 => (intro W hSw; (try dsimp only at hSw); (try simp only [List.getElem_toArray, List.getElem_cons_zero]); obtain ⟨q1, q2, q3, q4⟩ := hSw; go_simp; first | done | with_reducible rfl)
                  try simp only [Act.put, List.getElem_toArray, List.getElem_cons_zero, List.setIfInBounds_toArray, List.set_cons_zero, List.set_cons_succ]
                  refine wpAnyH_take (i := 1) (v := .bool true) rfl (by kernel_rfl) (by kernel_rfl) (by kernel_rfl) (fun _ _ _ h => h) (Or.inl ⟨by rfl, ?ybau1⟩) hH ?rbau1
                  case ybau1 => (intro W hSw; (try dsimp only at hSw); (try simp only [List.getElem_toArray, List.getElem_cons_succ, List.getElem_cons_zero]); obtain ⟨q1, q2, q3, q4⟩ := hSw; go_simp; first | done | with_reducible rfl)
                  try simp only [Act.put, List.getElem_toArray, List.getElem_cons_succ, List.getElem_cons_zero, List.setIfInBounds_toArray, List.set_cons_zero, List.set_cons_succ]
                  refine wpAnyH_take (i := 2) (v := ?wba2) rfl (by kernel_rfl) (by kernel_rfl) (by kernel_rfl) (fun _ _ _ h => h) (Or.inl ⟨by rfl, ?ybau2⟩) hH ?rbau2
                  case ybau2 => (intro W hSw; (try dsimp only at hSw); (try simp only [List.getElem_toArray, List.getElem_cons_succ, List.getElem_cons_zero]); obtain ⟨q1, q2, q3, q4⟩ := hSw; go_simp; first | done | with_reducible rfl)
                  try simp only [Act.put, List.getElem_toArray, List.getElem_cons_succ, List.getElem_cons_zero, List.setIfInBounds_toArray, List.set_cons_zero, List.set_cons_succ]
                  refine wpAnyH_take (i := 3) (v := ?wba3) rfl (by kernel_rfl) (by kernel_rfl) (by kernel_rfl) (fun _ _ _ h => h) (Or.inl ⟨by rfl, ?ybau3⟩) hH ?rbau3
                  case ybau3 => (intro W hSw; (try dsimp only at hSw); (try simp only [List.getElem_toArray, List.getElem_cons_succ, List.getElem_cons_zero]); obtain ⟨q1, q2, q3, q4⟩ := hSw; go_simp; first | done | with_reducible rfl)
                  try simp only [Act.put, List.getElem_toArray, List.getElem_cons_succ, List.getElem_cons_zero, List.setIfInBounds_toArray, List.set_cons_zero, List.set_cons_succ]
                  refine wpAnyH_take (i := 4) (v := ?wba4) rfl (by kernel_rfl) (by kernel_rfl) (by kernel_rfl) (fun _ _ _ h => h) (Or.inl ⟨by rfl, ?ybau4⟩) hH ?rbau4
                  case ybau4 => (intro W hSw; (try dsimp only at hSw); (try simp only [List.getElem_toArray, List.getElem_cons_succ, List.getElem_cons_zero]); obtain ⟨q1, q2, q3, q4⟩ := hSw; go_simp; first | done | with_reducible rfl)
                  try simp only [Act.put, List.getElem_toArray, List.getElem_cons_succ, List.getElem_cons_zero, List.setIfInBounds_toArray, List.set_cons_zero, List.set_cons_succ]
                  refine wpAnyH_take (i := 5) (v := .bool false) rfl (by kernel_rfl) (by kernel_rfl) (by kernel_rfl) (fun _ _ _ h => h) (Or.inl ⟨by rfl, ?ybau5⟩) hH ?rbau5
                  case ybau5 => (intro W hSw; (try dsimp only at hSw); (try simp only [List.getElem_toArray, List.getElem_cons_succ, List.getElem_cons_zero]); go_simp; (try (simp only [tk])); first | done | with_reducible rfl)
                  try simp only [Act.put, List.getElem_toArray, List.getElem_cons_succ, List.getElem_cons_zero, List.setIfInBounds_toArray, List.set_cons_zero, List.set_cons_succ]
                  refine wpAnyH_take (i := 6) (v := .bool false) rfl (by kernel_rfl) (by kernel_rfl) (by kernel_rfl) (fun _ _ _ h => h) (Or.inl ⟨by rfl, ?ybau6⟩) hH ?rbau6
                  case ybau6 => (intro W hSw; (try dsimp only at hSw); (try simp only [List.getElem_toArray, List.getElem_cons_succ, List.getElem_cons_zero]); obtain ⟨q1, q2, q3, q4⟩ := hSw; go_simp; first | done | with_reducible rfl)
                  try simp only [Act.put, List.getElem_toArray, List.getElem_cons_succ, List.getElem_cons_zero, List.setIfInBounds_toArray, List.set_cons_zero, List.set_cons_succ]
                  refine wpAnyH_take (i := 7) (v := ?wba7) rfl (by kernel_rfl) (by kernel_rfl) (by kernel_rfl) (fun _ _ _ h => h) (Or.inl ⟨by rfl, ?ybau7⟩) hH ?rbau7
                  case ybau7 => (intro W hSw; (try dsimp only at hSw); (try simp only [List.getElem_toArray, List.getElem_cons_succ, List.getElem_cons_zero]); obtain ⟨q1, q2, q3, q4⟩ := hSw; go_simp; first | done | with_reducible rfl)
                  try simp only [Act.put, List.getElem_toArray, List.getElem_cons_succ, List.getElem_cons_zero, List.setIfInBounds_toArray, List.set_cons_zero, List.set_cons_succ]
                  refine wpAnyH_take (i := 8) (v := ?wba8) rfl (by kernel_rfl) (by kernel_rfl) (by kernel_rfl) (fun _ _ _ h => h) (Or.inl ⟨by rfl, ?ybau8⟩) hH ?rbau8
                  case ybau8 => (intro W hSw; (try dsimp only at hSw); (try simp only [List.getElem_toArray, List.getElem_cons_succ, List.getElem_cons_zero]); obtain ⟨q1, q2, q3, q4⟩ := hSw; go_simp; first | done | with_reducible rfl)
                  try simp only [Act.put, List.getElem_toArray, List.getElem_cons_succ, List.getElem_cons_zero, List.setIfInBounds_toArray, List.set_cons_zero, List.set_cons_succ]
                  refine wpAnyH_take (i := 9) (v := ?wba9) rfl (by kernel_rfl) (by kernel_rfl) (by kernel_rfl) (fun _ _ _ h => h) (Or.inl ⟨by rfl, ?ybau9⟩) hH ?rbau9
                  case ybau9 => (intro W hSw; (try dsimp only at hSw); (try simp only [List.getElem_toArray, List.getElem_cons_succ, List.getElem_cons_zero]); obtain ⟨q1, q2, q3, q4⟩ := hSw; go_simp; first | done | with_reducible rfl)
                  try simp only [Act.put, List.getElem_toArray, List.getElem_cons_succ, List.getElem_cons_zero, List.setIfInBounds_toArray, List.set_cons_zero, List.set_cons_succ]
                  refine wpAnyH_take (i := 10) (v := ?wba10) rfl (by kernel_rfl) (by kernel_rfl) (by kernel_rfl) (fun _ _ _ h => h) (Or.inl ⟨by rfl, ?ybau10⟩) hH ?rbau10
                  case ybau10 => (intro W hSw; (try dsimp only at hSw); (try simp only [List.getElem_toArray, List.getElem_cons_succ, List.getElem_cons_zero]); obtain ⟨q1, q2, q3, q4⟩ := hSw; go_simp; first | done | with_reducible rfl)
                  try simp only [Act.put, List.getElem_toArray, List.getElem_cons_succ, List.getElem_cons_zero, List.setIfInBounds_toArray, List.set_cons_zero, List.set_cons_succ]
                  refine wpAnyH_take (i := 11) (v := ?wba11) rfl (by kernel_rfl) (by kernel_rfl) (by kernel_rfl) (fun _ _ _ h => h) (Or.inl ⟨by rfl, ?ybau11⟩) hH ?rbau11
                  case ybau11 => (intro W hSw; (try dsimp only at hSw); (try simp only [List.getElem_toArray, List.getElem_cons_succ, List.getElem_cons_zero]); obtain ⟨q1, q2, q3, q4⟩ := hSw; go_simp; first | done | with_reducible rfl)
                  try simp only [Act.put, List.getElem_toArray, List.getElem_cons_succ, List.getElem_cons_zero, List.setIfInBounds_toArray, List.set_cons_zero, List.set_cons_succ]
                  refine wpAnyH_take (i := 12) (v := ?wba12) rfl (by kernel_rfl) (by kernel_rfl) (by kernel_rfl) (fun _ _ _ h => h) (Or.inl ⟨by rfl, ?ybau12⟩) hH ?rbau12
                  case ybau12 => (intro W hSw; (try dsimp only at hSw); (try simp only [List.getElem_toArray, List.getElem_cons_succ, List.getElem_cons_zero]); obtain ⟨q1, q2, q3, q4⟩ := hSw; go_simp; first | done | with_reducible rfl)
                  try simp only [Act.put, List.getElem_toArray, List.getElem_cons_succ, List.getElem_cons_zero, List.setIfInBounds_toArray, List.set_cons_zero, List.set_cons_succ]
                  refine wpAnyH_take (i := 13) (v := ?wba13) rfl (by kernel_rfl) (by kernel_rfl) (by kernel_rfl) (fun _ _ _ h => h) (Or.inl ⟨by rfl, ?ybau13⟩) hH ?rbau13
                  case ybau13 => (intro W hSw; (try dsimp only at hSw); (try simp only [List.getElem_toArray, List.getElem_cons_succ, List.getElem_cons_zero]); obtain ⟨q1, q2, q3, q4⟩ := hSw; go_simp; first | done | with_reducible rfl)
                  try simp only [Act.put, List.getElem_toArray, List.getElem_cons_succ, List.getElem_cons_zero, List.setIfInBounds_toArray, List.set_cons_zero, List.set_cons_succ]
                  refine wpAnyH_take (i := 14) (v := ?wba14) rfl (by kernel_rfl) (by kernel_rfl) (by kernel_rfl) (fun _ _ _ h => h) (Or.inl ⟨by rfl, ?ybau14⟩) hH ?rbau14
                  case ybau14 => (intro W hSw; (try dsimp only at hSw); (try simp only [List.getElem_toArray, List.getElem_cons_succ, List.getElem_cons_zero]); obtain ⟨q1, q2, q3, q4⟩ := hSw; go_simp; first | done | with_reducible rfl)
                  try simp only [Act.put, List.getElem_toArray, List.getElem_cons_succ, List.getElem_cons_zero, List.setIfInBounds_toArray, List.set_cons_zero, List.set_cons_succ]
                  refine wpAnyH_take (i := 15) (v := ?wba15) rfl (by kernel_rfl) (by kernel_rfl) (by kernel_rfl) (fun _ _ _ h => h) (Or.inl ⟨by rfl, ?ybau15⟩) hH ?rbau15
                  case ybau15 => (intro W hSw; (try dsimp only at hSw); (try simp only [List.getElem_toArray, List.getElem_cons_succ, List.getElem_cons_zero]); obtain ⟨q1, q2, q3, q4⟩ := hSw; go_simp; first | done | with_reducible rfl)
                  try simp only [Act.put, List.getElem_toArray, List.getElem_cons_succ, List.getElem_cons_zero, List.setIfInBounds_toArray, List.set_cons_zero, List.set_cons_succ]
                  refine wpAnyH_take (i := 16) (v := ?wba16) rfl (by kernel_rfl) (by kernel_rfl) (by kernel_rfl) (fun _ _ _ h => h) (Or.inl ⟨by rfl, ?ybau16⟩) hH ?rbau16
                  case ybau16 => (intro W hSw; (try dsimp only at hSw); (try simp only [List.getElem_toArray, List.getElem_cons_succ, List.getElem_cons_zero]); obtain ⟨q1, q2, q3, q4⟩ := hSw; go_simp; first | done | with_reducible rfl)
                  try simp only [Act.put, List.getElem_toArray, List.getElem_cons_succ, List.getElem_cons_zero, List.setIfInBounds_toArray, List.set_cons_zero, List.set_cons_succ]
                  refine wpAnyH_take (i := 17) (v := .bool true) rfl (by kernel_rfl) (by kernel_rfl) (by kernel_rfl) (fun _ _ _ h => h) (Or.inl ⟨by rfl, ?ybau17⟩) hH ?rbau17
                  case ybau17 => (intro W hSw; (try dsimp only at hSw); (try simp only [List.getElem_toArray, List.getElem_cons_succ, List.getElem_cons_zero]); obtain ⟨q1, q2, q3, q4⟩ := hSw; go_simp; first | done | with_reducible rfl)
                  try simp only [Act.put, List.getElem_toArray, List.getElem_cons_succ, List.getElem_cons_zero, List.setIfInBounds_toArray, List.set_cons_zero, List.set_cons_succ]
                  refine wpAnyH_take (i := 18) (v := .bool true) rfl (by kernel_rfl) (by kernel_rfl) (by kernel_rfl) (fun _ _ _ h => h) (Or.inl ⟨by rfl, ?ybau18⟩) hH ?rbau18
                  case ybau18 => (intro W hSw; (try dsimp only at hSw); (try simp only [List.getElem_toArray, List.getElem_cons_succ, List.getElem_cons_zero]); obtain ⟨q1, q2, q3, q4⟩ := hSw; go_simp; first | done | with_reducible rfl)
                  try simp only [Act.put, List.getElem_toArray, List.getElem_cons_succ, List.getElem_cons_zero, List.setIfInBounds_toArray, List.set_cons_zero, List.set_cons_succ]
                  refine wpAnyH_take (i := 19) (v := .bool true) rfl (by kernel_rfl) (by kernel_rfl) (by kernel_rfl) (fun _ _ _ h => h) (Or.inl ⟨by rfl, ?ybau19⟩) hH ?rbau19
                  case ybau19 => (intro W hSw; (try dsimp only at hSw); (try simp only [List.getElem_toArray, List.getElem_cons_succ, List.getElem_cons_zero]); obtain ⟨q1, q2, q3, q4⟩ := hSw; go_simp; first | done | with_reducible rfl)
                  try simp only [Act.put, List.getElem_toArray, List.getElem_cons_succ, List.getElem_cons_zero, List.setIfInBounds_toArray, List.set_cons_zero, List.set_cons_succ]
                  refine wpAnyH_take (i := 20) (v := ?vbau20) rfl (by kernel_rfl) (by kernel_rfl) (by kernel_rfl) (fun _ _ _ h => h) (Or.inl ⟨by rfl, ?ybau20⟩) hH ?rbau20
                  case ybau20 => (intro W hSw; (try dsimp only at hSw); (try simp only [List.getElem_toArray, List.getElem_cons_succ, List.getElem_cons_zero]); go_simp; first | done | with_reducible rfl)
                  try simp only [Act.put, List.getElem_toArray, List.getElem_cons_succ, List.getElem_cons_zero, List.setIfInBounds_toArray, List.set_cons_zero, List.set_cons_succ]
                  refine wpAnyH_done (by kernel_rfl) ?_ _
                  go_wp2
                  go_ret
                  exact ⟨rfl, HBW.out.drew⟩
          · have h1' : (32 : Int) ≤ (j : Int) := by omega
            clear h1
            cases hs : some_ m j
            · go_wp2
              go_ret
              exact ⟨rfl, HBR.out⟩
            · obtain ⟨s, E, hsc, hs2, hok⟩ := Frm.turned_rows (j := j) HALL.out HLX.out hkl HPP.out HFR.out HMM.out (by omega) hs

              obtain ⟨m1, hm1⟩ : ∃ m1, m1 = l.take (k' + 1) ++ s := ⟨_, rfl⟩
              rw [← hm1] at hsc
              have HSC := hide hsc; have HOK := hide hok; have HS2 := hide hs2
              have hml : m1.length = (k' + 1) + s.length := by rw [hm1, List.length_append, List.length_take]; omega
              have HMT := hide (show m1.take (k' + 1) = l.take (k' + 1) from by rw [hm1, List.take_append_of_le_length (by rw [List.length_take]; omega), List.take_take, Nat.min_self])
              have HMD := hide (show m1.getD (k' + 1) [] = s.getD 0 [] from by rw [hm1, List.getD_eq_getElem?_getD, List.getElem?_append_right (by rw [List.length_take]; omega), List.length_take, Nat.min_eq_left (by omega), Nat.sub_self, List.getD_eq_getElem?_getD])
              have HML := hide hml
              have hag := Frm.scan_again _ _ (Nat.le_refl _) hok
              rw [hsc] at hag
              have HMO := hide (fun x hx => (hag.2.2 x hx).2)
              clear hm1 hsc hok hs2 hml hag
              go_wp2_with fail
              clear hck hck2
              refine (scan_is HSC.out (turns_length _ _ _ _) wr (Reads.of_own Hown.out) HOK.out (by omega) HC.out).mono ?_
              rintro e w3 ⟨L1, d1, rfl, hr1, hd1, hb3⟩
              have HR1 := hide hr1
              have HB3 := hide (HBR.out.trans (hb3.mono HBR.out.size))
              clear hr1 hb3 HSC
              have hKd : (k' + 1) ≤ d1 := by have := HML.out; omega
              have hs1 := cut_h 30 elem22 size22 L1 m1.length d1 (k' + 1) hKd
              have hs2 := cut_h 30 elem22 size22 L ls.length cap (k' + 1) (by omega)
              rw [show ((k' + 1 : Nat) : Int) = (k' : Int) + 1 by omega] at hs1 hs2
              have SY := hide (fun (W : World) (hb : Below w3.heap.size w3 W) => (same_is (c := d1) (d := cap) (n := (k' + 1)) (m := (k' + 1)) (xs := m1.take (k' + 1)) (ys := l.take (k' + 1)) (by rw [List.length_take]; have := HML.out; omega) (by rw [List.length_take]; omega) HMT.out W ((HR1.out.below hb).take _) (by rw [HLT.out _ (by omega)]; exact (HL.out.below (HB3.out.trans (hb.mono HB3.out.size))).take _) (fun y hy => HLX.out y (List.mem_of_mem_take (by rw [HMT.out] at hy; exact hy))) (by omega)).mono (fun e w' h => (show e = .returned (.bool true) ∧ Below w3.heap.size w3 w' from ⟨h.1, below_next hb h.2⟩)))
              have tlt : decide ((m1.length : Int) < ((k' : Int) + 1)) = false := by rw [decide_eq_false_iff_not]; have := HML.out; omega
              go_wp2_with fail
              have hd0 := (Below.refl w3.heap.size w3).drew
              refine wp_region_held_drew (S := fun W => Below w3.heap.size w3 W) (by kernel_rfl) hd0 (fun hH => ?_)
              refine wpAnyH_take (i := 0) (v := ?vbbp0) rfl (by kernel_rfl) (by kernel_rfl) (by kernel_rfl) (fun _ _ _ h => h) (Or.inl ⟨by rfl, ?ybbp0⟩) hH ?rbbp0
              case ybbp0 => (intro W hSw; (try dsimp only at hSw); (try simp only [List.getElem_toArray, List.getElem_cons_zero]); go_simp; first | done | with_reducible rfl)
              try simp only [Act.put, List.getElem_toArray, List.getElem_cons_zero, List.setIfInBounds_toArray, List.set_cons_zero, List.set_cons_succ]
              refine wpAnyH_take (i := 1) (v := ?vbbp1) rfl (by kernel_rfl) (by kernel_rfl) (by kernel_rfl) (fun _ _ _ h => h) (Or.inl ⟨by rfl, ?ybbp1⟩) hH ?rbbp1
              case ybbp1 => (intro W hSw; (try dsimp only at hSw); (try simp only [List.getElem_toArray, List.getElem_cons_succ, List.getElem_cons_zero]); go_simp; first | done | with_reducible rfl)
              try simp only [Act.put, List.getElem_toArray, List.getElem_cons_succ, List.getElem_cons_zero, List.setIfInBounds_toArray, List.set_cons_zero, List.set_cons_succ]
              refine wpAnyH_take (i := 2) (v := ?vbbp2) rfl (by kernel_rfl) (by kernel_rfl) (by kernel_rfl) (fun _ _ _ h => h) (Or.inl ⟨by rfl, ?ybbp2⟩) hH ?rbbp2
              case ybbp2 => (intro W hSw; (try dsimp only at hSw); (try simp only [List.getElem_toArray, List.getElem_cons_succ, List.getElem_cons_zero]); go_simp; first | done | with_reducible rfl)
              try simp only [Act.put, List.getElem_toArray, List.getElem_cons_succ, List.getElem_cons_zero, List.setIfInBounds_toArray, List.set_cons_zero, List.set_cons_succ]
              refine wpAnyH_take (i := 3) (v := .bool false) rfl (by kernel_rfl) (by kernel_rfl) (by kernel_rfl) (fun _ _ _ h => h) (Or.inl ⟨by rfl, ?ybbp3⟩) hH ?rbbp3
              case ybbp3 => (intro W hSw; (try dsimp only at hSw); (try simp only [List.getElem_toArray, List.getElem_cons_succ, List.getElem_cons_zero]); go_simp; (try (simp only [tlt])); first | done | with_reducible rfl)
              try simp only [Act.put, List.getElem_toArray, List.getElem_cons_succ, List.getElem_cons_zero, List.setIfInBounds_toArray, List.set_cons_zero, List.set_cons_succ]
              refine wpAnyH_take (i := 4) (v := .bool false) rfl (by kernel_rfl) (by kernel_rfl) (by kernel_rfl) (fun _ _ _ h => h) (Or.inl ⟨by rfl, ?ybbp4⟩) hH ?rbbp4
              case ybbp4 => (intro W hSw; (try dsimp only at hSw); (try simp only [List.getElem_toArray, List.getElem_cons_succ, List.getElem_cons_zero]); go_simp; first | done | with_reducible rfl)
              try simp only [Act.put, List.getElem_toArray, List.getElem_cons_succ, List.getElem_cons_zero, List.setIfInBounds_toArray, List.set_cons_zero, List.set_cons_succ]
              refine wpAnyH_take (i := 5) (v := ?vbbp5) rfl (by kernel_rfl) (by kernel_rfl) (by kernel_rfl) (fun _ _ _ h => h) (Or.inl ⟨by rfl, ?ybbp5⟩) hH ?rbbp5
              case ybbp5 => (intro W hSw; (try dsimp only at hSw); (try simp only [List.getElem_toArray, List.getElem_cons_succ, List.getElem_cons_zero]); go_simp; first | done | with_reducible rfl)
              try simp only [Act.put, List.getElem_toArray, List.getElem_cons_succ, List.getElem_cons_zero, List.setIfInBounds_toArray, List.set_cons_zero, List.set_cons_succ]
              refine wpAnyH_take (i := 6) (v := ?vbbp6) rfl (by kernel_rfl) (by kernel_rfl) (by kernel_rfl) (fun _ _ _ h => h) (Or.inl ⟨by rfl, ?ybbp6⟩) hH ?rbbp6
              case ybbp6 => (intro W hSw; (try dsimp only at hSw); (try simp only [List.getElem_toArray, List.getElem_cons_succ, List.getElem_cons_zero]); go_simp; first | done | with_reducible rfl)
              try simp only [Act.put, List.getElem_toArray, List.getElem_cons_succ, List.getElem_cons_zero, List.setIfInBounds_toArray, List.set_cons_zero, List.set_cons_succ]
              refine wpAnyH_take (i := 7) (v := ?vbbp7) rfl (by kernel_rfl) (by kernel_rfl) (by kernel_rfl) (fun _ _ _ h => h) (Or.inl ⟨by rfl, ?ybbp7⟩) hH ?rbbp7
              case ybbp7 => (intro W hSw; (try dsimp only at hSw); (try simp only [List.getElem_toArray, List.getElem_cons_succ, List.getElem_cons_zero]); go_simp; first | done | with_reducible rfl)
              try simp only [Act.put, List.getElem_toArray, List.getElem_cons_succ, List.getElem_cons_zero, List.setIfInBounds_toArray, List.set_cons_zero, List.set_cons_succ]
              refine wpAnyH_take (i := 8) (v := ?vbbp8) rfl (by kernel_rfl) (by kernel_rfl) (by kernel_rfl) (fun _ _ _ h => h) (Or.inl ⟨by rfl, ?ybbp8⟩) hH ?rbbp8
              case ybbp8 => (intro W hSw; (try dsimp only at hSw); (try simp only [List.getElem_toArray, List.getElem_cons_succ, List.getElem_cons_zero]); go_simp; first | done | with_reducible rfl)
              try simp only [Act.put, List.getElem_toArray, List.getElem_cons_succ, List.getElem_cons_zero, List.setIfInBounds_toArray, List.set_cons_zero, List.set_cons_succ]
              refine wpAnyH_take (i := 9) (v := ?vbbp9) rfl (by kernel_rfl) (by kernel_rfl) (by kernel_rfl) (fun _ _ _ h => h) (Or.inl ⟨by rfl, ?ybbp9⟩) hH ?rbbp9
              case ybbp9 => (intro W hSw; (try dsimp only at hSw); (try simp only [List.getElem_toArray, List.getElem_cons_succ, List.getElem_cons_zero]); go_simp; first | done | with_reducible rfl)
              try simp only [Act.put, List.getElem_toArray, List.getElem_cons_succ, List.getElem_cons_zero, List.setIfInBounds_toArray, List.set_cons_zero, List.set_cons_succ]
              refine wpAnyH_take (i := 10) (v := ?vbbp10) rfl (by kernel_rfl) (by kernel_rfl) (by kernel_rfl) (fun _ _ _ h => h) (Or.inl ⟨by rfl, ?ybbp10⟩) hH ?rbbp10
              case ybbp10 => (intro W hSw; (try dsimp only at hSw); (try simp only [List.getElem_toArray, List.getElem_cons_succ, List.getElem_cons_zero]); go_simp; first | done | with_reducible rfl)
              try simp only [Act.put, List.getElem_toArray, List.getElem_cons_succ, List.getElem_cons_zero, List.setIfInBounds_toArray, List.set_cons_zero, List.set_cons_succ]
              refine wpAnyH_ready (rs := [11]) (by kernel_rfl) (by simp) ?_
              refine AllReadyH.cons rfl (fun K hK => ?_) AllReadyH.nil
              simp only [List.getElem_toArray, List.getElem_cons_succ, List.getElem_cons_zero]
              go_simp
              refine (SY.out _ hd0).mono ?_
              rintro e w10 ⟨rfl, hb10⟩
              refine hK.out _ _ hb10 (fun hH2 => ?_)
              clear hK
              refine held_less (S' := fun W => W = w10) (fun W h => by subst h; exact hb10) ?_
              have hS3 : (fun W => W = w10) w10 := rfl
              refine wpAnyH_take (i := 12) (v := .bool false) rfl (by kernel_rfl) (by kernel_rfl) (by kernel_rfl) (fun _ _ _ h => h) (Or.inl ⟨by rfl, ?ybbq12⟩) hS3 ?rbbq12
              case ybbq12 => (intro W hSw; (try dsimp only at hSw); (try simp only [List.getElem_toArray, List.getElem_cons_succ, List.getElem_cons_zero]); go_simp; first | done | with_reducible rfl)
              try simp only [Act.put, List.getElem_toArray, List.getElem_cons_succ, List.getElem_cons_zero, List.setIfInBounds_toArray, List.set_cons_zero, List.set_cons_succ]
              refine wpAnyH_take (i := 13) (v := .bool false) rfl (by kernel_rfl) (by kernel_rfl) (by kernel_rfl) (fun _ _ _ h => h) (Or.inl ⟨by rfl, ?ybbq13⟩) hS3 ?rbbq13
              case ybbq13 => (intro W hSw; (try dsimp only at hSw); (try simp only [List.getElem_toArray, List.getElem_cons_succ, List.getElem_cons_zero]); go_simp; first | done | with_reducible rfl)
              try simp only [Act.put, List.getElem_toArray, List.getElem_cons_succ, List.getElem_cons_zero, List.setIfInBounds_toArray, List.set_cons_zero, List.set_cons_succ]
              refine wpAnyH_done (by kernel_rfl) ?_ _
              go_wp2_with fail
              clear hs1 hs2 SY tlt
              have HBW := hide (HB3.out.trans (hb10.mono HB3.out.size))
              have HR2 := hide (HR1.out.below hb10)
              clear HR1 hb10
              by_cases hse : s = []
              · have tk : ((m1.length : Int) == ((k' : Int) + 1)) = true := by rw [beq_iff_eq, HML.out, hse]; simp
                refine wp_region_held_drew (S := fun _ => True) (by kernel_rfl) trivial (fun hH => ?_)
                refine wpAnyH_take (i := 0) (v := .bool true) rfl (by kernel_rfl) (by kernel_rfl) (by kernel_rfl) (fun _ _ _ h => h) (Or.inl ⟨by rfl, ?ybbr0⟩) hH ?rbbr0
                case ybbr0 => (intro W hSw; (try dsimp only at hSw); (try simp only [List.getElem_toArray, List.getElem_cons_zero]); go_simp; first | done | with_reducible rfl)
                try simp only [Act.put, List.getElem_toArray, List.getElem_cons_zero, List.setIfInBounds_toArray, List.set_cons_zero, List.set_cons_succ]
                refine wpAnyH_take (i := 1) (v := .bool true) rfl (by kernel_rfl) (by kernel_rfl) (by kernel_rfl) (fun _ _ _ h => h) (Or.inl ⟨by rfl, ?ybbr1⟩) hH ?rbbr1
                case ybbr1 => (intro W hSw; (try dsimp only at hSw); (try simp only [List.getElem_toArray, List.getElem_cons_succ, List.getElem_cons_zero]); go_simp; first | done | with_reducible rfl)
                try simp only [Act.put, List.getElem_toArray, List.getElem_cons_succ, List.getElem_cons_zero, List.setIfInBounds_toArray, List.set_cons_zero, List.set_cons_succ]
                refine wpAnyH_take (i := 2) (v := ?vbbr2) rfl (by kernel_rfl) (by kernel_rfl) (by kernel_rfl) (fun _ _ _ h => h) (Or.inl ⟨by rfl, ?ybbr2⟩) hH ?rbbr2
                case ybbr2 => (intro W hSw; (try dsimp only at hSw); (try simp only [List.getElem_toArray, List.getElem_cons_succ, List.getElem_cons_zero]); go_simp; first | done | with_reducible rfl)
                try simp only [Act.put, List.getElem_toArray, List.getElem_cons_succ, List.getElem_cons_zero, List.setIfInBounds_toArray, List.set_cons_zero, List.set_cons_succ]
                refine wpAnyH_take (i := 3) (v := ?vbbr3) rfl (by kernel_rfl) (by kernel_rfl) (by kernel_rfl) (fun _ _ _ h => h) (Or.inl ⟨by rfl, ?ybbr3⟩) hH ?rbbr3
                case ybbr3 => (intro W hSw; (try dsimp only at hSw); (try simp only [List.getElem_toArray, List.getElem_cons_succ, List.getElem_cons_zero]); go_simp; first | done | with_reducible rfl)
                try simp only [Act.put, List.getElem_toArray, List.getElem_cons_succ, List.getElem_cons_zero, List.setIfInBounds_toArray, List.set_cons_zero, List.set_cons_succ]
                refine wpAnyH_take (i := 4) (v := ?vbbr4) rfl (by kernel_rfl) (by kernel_rfl) (by kernel_rfl) (fun _ _ _ h => h) (Or.inl ⟨by rfl, ?ybbr4⟩) hH ?rbbr4
                case ybbr4 => (intro W hSw; (try dsimp only at hSw); (try simp only [List.getElem_toArray, List.getElem_cons_succ, List.getElem_cons_zero]); go_simp; first | done | with_reducible rfl)
                try simp only [Act.put, List.getElem_toArray, List.getElem_cons_succ, List.getElem_cons_zero, List.setIfInBounds_toArray, List.set_cons_zero, List.set_cons_succ]
                refine wpAnyH_take (i := 5) (v := .bool true) rfl (by kernel_rfl) (by kernel_rfl) (by kernel_rfl) (fun _ _ _ h => h) (Or.inl ⟨by rfl, ?ybbr5⟩) hH ?rbbr5
                case ybbr5 => (intro W hSw; (try dsimp only at hSw); (try simp only [List.getElem_toArray, List.getElem_cons_succ, List.getElem_cons_zero]); go_simp; (try (simp only [tk])); first | done | with_reducible rfl)
                try simp only [Act.put, List.getElem_toArray, List.getElem_cons_succ, List.getElem_cons_zero, List.setIfInBounds_toArray, List.set_cons_zero, List.set_cons_succ]
                refine wpAnyH_take (i := 6) (v := .bool true) rfl (by kernel_rfl) (by kernel_rfl) (by kernel_rfl) (fun _ _ _ h => h) (Or.inl ⟨by rfl, ?ybbr6⟩) hH ?rbbr6
                case ybbr6 => (intro W hSw; (try dsimp only at hSw); (try simp only [List.getElem_toArray, List.getElem_cons_succ, List.getElem_cons_zero]); go_simp; first | done | with_reducible rfl)
                try simp only [Act.put, List.getElem_toArray, List.getElem_cons_succ, List.getElem_cons_zero, List.setIfInBounds_toArray, List.set_cons_zero, List.set_cons_succ]
                refine wpAnyH_take (i := 7) (v := undef) rfl (by kernel_rfl) (by kernel_rfl) (by kernel_rfl) (fun _ _ _ h => h) (Or.inr ⟨by rfl, rfl⟩) hH ?rbbs7
                try simp only [Act.put, List.getElem_toArray, List.getElem_cons_succ, List.getElem_cons_zero, List.setIfInBounds_toArray, List.set_cons_zero, List.set_cons_succ]
                refine wpAnyH_take (i := 8) (v := undef) rfl (by kernel_rfl) (by kernel_rfl) (by kernel_rfl) (fun _ _ _ h => h) (Or.inr ⟨by rfl, rfl⟩) hH ?rbbs8
                try simp only [Act.put, List.getElem_toArray, List.getElem_cons_succ, List.getElem_cons_zero, List.setIfInBounds_toArray, List.set_cons_zero, List.set_cons_succ]
                refine wpAnyH_take (i := 9) (v := undef) rfl (by kernel_rfl) (by kernel_rfl) (by kernel_rfl) (fun _ _ _ h => h) (Or.inr ⟨by rfl, rfl⟩) hH ?rbbs9
                try simp only [Act.put, List.getElem_toArray, List.getElem_cons_succ, List.getElem_cons_zero, List.setIfInBounds_toArray, List.set_cons_zero, List.set_cons_succ]
                refine wpAnyH_take (i := 10) (v := undef) rfl (by kernel_rfl) (by kernel_rfl) (by kernel_rfl) (fun _ _ _ h => h) (Or.inr ⟨by rfl, rfl⟩) hH ?rbbs10
                try simp only [Act.put, List.getElem_toArray, List.getElem_cons_succ, List.getElem_cons_zero, List.setIfInBounds_toArray, List.set_cons_zero, List.set_cons_succ]
                refine wpAnyH_take (i := 11) (v := undef) rfl (by kernel_rfl) (by kernel_rfl) (by kernel_rfl) (fun _ _ _ h => h) (Or.inr ⟨by rfl, rfl⟩) hH ?rbbs11
                try simp only [Act.put, List.getElem_toArray, List.getElem_cons_succ, List.getElem_cons_zero, List.setIfInBounds_toArray, List.set_cons_zero, List.set_cons_succ]
                refine wpAnyH_take (i := 12) (v := undef) rfl (by kernel_rfl) (by kernel_rfl) (by kernel_rfl) (fun _ _ _ h => h) (Or.inr ⟨by rfl, rfl⟩) hH ?rbbs12
                try simp only [Act.put, List.getElem_toArray, List.getElem_cons_succ, List.getElem_cons_zero, List.setIfInBounds_toArray, List.set_cons_zero, List.set_cons_succ]
                refine wpAnyH_take (i := 13) (v := undef) rfl (by kernel_rfl) (by kernel_rfl) (by kernel_rfl) (fun _ _ _ h => h) (Or.inr ⟨by rfl, rfl⟩) hH ?rbbs13
                try simp only [Act.put, List.getElem_toArray, List.getElem_cons_succ, List.getElem_cons_zero, List.setIfInBounds_toArray, List.set_cons_zero, List.set_cons_succ]
                refine wpAnyH_take (i := 14) (v := undef) rfl (by kernel_rfl) (by kernel_rfl) (by kernel_rfl) (fun _ _ _ h => h) (Or.inr ⟨by rfl, rfl⟩) hH ?rbbs14
                try simp only [Act.put, List.getElem_toArray, List.getElem_cons_succ, List.getElem_cons_zero, List.setIfInBounds_toArray, List.set_cons_zero, List.set_cons_succ]
                refine wpAnyH_take (i := 15) (v := undef) rfl (by kernel_rfl) (by kernel_rfl) (by kernel_rfl) (fun _ _ _ h => h) (Or.inr ⟨by rfl, rfl⟩) hH ?rbbs15
                try simp only [Act.put, List.getElem_toArray, List.getElem_cons_succ, List.getElem_cons_zero, List.setIfInBounds_toArray, List.set_cons_zero, List.set_cons_succ]
                refine wpAnyH_take (i := 16) (v := undef) rfl (by kernel_rfl) (by kernel_rfl) (by kernel_rfl) (fun _ _ _ h => h) (Or.inr ⟨by rfl, rfl⟩) hH ?rbbs16
                try simp only [Act.put, List.getElem_toArray, List.getElem_cons_succ, List.getElem_cons_zero, List.setIfInBounds_toArray, List.set_cons_zero, List.set_cons_succ]
                refine wpAnyH_take (i := 17) (v := undef) rfl (by kernel_rfl) (by kernel_rfl) (by kernel_rfl) (fun _ _ _ h => h) (Or.inr ⟨by rfl, rfl⟩) hH ?rbbs17
                try simp only [Act.put, List.getElem_toArray, List.getElem_cons_succ, List.getElem_cons_zero, List.setIfInBounds_toArray, List.set_cons_zero, List.set_cons_succ]
                refine wpAnyH_take (i := 18) (v := .bool true) rfl (by kernel_rfl) (by kernel_rfl) (by kernel_rfl) (fun _ _ _ h => h) (Or.inl ⟨by rfl, ?ybbr18⟩) hH ?rbbr18
                case ybbr18 => (intro W hSw; (try dsimp only at hSw); (try simp only [List.getElem_toArray, List.getElem_cons_succ, List.getElem_cons_zero]); go_simp; first | done | with_reducible rfl)
                try simp only [Act.put, List.getElem_toArray, List.getElem_cons_succ, List.getElem_cons_zero, List.setIfInBounds_toArray, List.set_cons_zero, List.set_cons_succ]
                refine wpAnyH_take (i := 19) (v := .bool true) rfl (by kernel_rfl) (by kernel_rfl) (by kernel_rfl) (fun _ _ _ h => h) (Or.inl ⟨by rfl, ?ybbr19⟩) hH ?rbbr19
                case ybbr19 => (intro W hSw; (try dsimp only at hSw); (try simp only [List.getElem_toArray, List.getElem_cons_succ, List.getElem_cons_zero]); go_simp; first | done | with_reducible rfl)
                try simp only [Act.put, List.getElem_toArray, List.getElem_cons_succ, List.getElem_cons_zero, List.setIfInBounds_toArray, List.set_cons_zero, List.set_cons_succ]
                refine wpAnyH_take (i := 20) (v := ?vbbr20) rfl (by kernel_rfl) (by kernel_rfl) (by kernel_rfl) (fun _ _ _ h => h) (Or.inl ⟨by rfl, ?ybbr20⟩) hH ?rbbr20
                case ybbr20 => (intro W hSw; (try dsimp only at hSw); (try simp only [List.getElem_toArray, List.getElem_cons_succ, List.getElem_cons_zero]); go_simp; first | done | with_reducible rfl)
                try simp only [Act.put, List.getElem_toArray, List.getElem_cons_succ, List.getElem_cons_zero, List.setIfInBounds_toArray, List.set_cons_zero, List.set_cons_succ]
                refine wpAnyH_done (by kernel_rfl) ?_ _
                go_wp2
                go_ret
                exact ⟨rfl, HBW.out.drew⟩
              · have hsl : 0 < s.length := List.length_pos_iff.2 hse
                have tk : ((m1.length : Int) == ((k' : Int) + 1)) = false := by rw [beq_eq_false_iff_ne, HML.out]; omega
                have hle : ls.getD (k' + 1) [] = l.getD (k' + 1) [] := by
                  have h := HLT.out l.length (Nat.le_refl _)
                  rw [List.take_length] at h
                  conv => rhs; rw [h]
                  simp [List.getD_eq_getElem?_getD, hkl]
                have hne : m1.getD (k' + 1) [] ≠ ls.getD (k' + 1) [] := by rw [HMD.out, hle]; exact HS2.out.resolve_left hse
                have hok1 : Frm.ok (m1.getD (k' + 1) []) := HMO.out _ (by rw [List.getD_eq_getElem?_getD, List.getElem?_eq_getElem (by rw [HML.out]; omega)]; exact List.getElem_mem _)
                have hok2 : Frm.ok (ls.getD (k' + 1) []) := HX.out _ (by rw [List.getD_eq_getElem?_getD, List.getElem?_eq_getElem (by omega)]; exact List.getElem_mem _)
                have hmK : (k' + 1) < m1.length := by rw [HML.out]; omega
                obtain ⟨b1, off1, P1, pc1, rfl, hbl1, c1, r1⟩ := HR2.out.at_ (k := (k' + 1)) hmK
                obtain ⟨b2, off2, P2, pc2, rfl, hbl2, c2, r2⟩ := (HL.out.below HBW.out).at_ (k := (k' + 1)) (by omega)
                generalize m1.getD (k' + 1) [] = y1 at *
                generalize ls.getD (k' + 1) [] = y2 at *

                have tne : ((strOfNums y1).toList == (strOfNums y2).toList) = false := by rw [str_beq hok1 hok2]; exact decide_eq_false hne
                have v1 := str_reads _ P1 y1.length pc1 y1 r1.drew rfl
                have v2 := str_reads _ P2 y2.length pc2 y2 r2.drew rfl
                have i1 : ((k' : Int) + 1) < (m1.length : Int) := by omega
                have i2 : ((k' : Int) + 1) < (ls.length : Int) := by omega
                have i3 : (k' + 1) < ls.length := by omega
                have i4 : (0 : Int) ≤ ((k' : Int) + 1) := by omega
                clear hle hne hok1 hok2 r1 r2 HS2 HMD HMO HR2
                refine wp_region_held_drew (S := fun W => (convert 22 9 (.slice P1 y1.length pc1)).run Try.prog W = .ok (.string (strOfNums y1)) W ∧ (convert 22 9 (.slice P2 y2.length pc2)).run Try.prog W = .ok (.string (strOfNums y2)) W ∧ W.cell? ⟨b1, off1 + (k' + 1), none⟩ = some (.slice P1 y1.length pc1) ∧ W.cell? ⟨b2, off2 + (k' + 1), none⟩ = some (.slice P2 y2.length pc2)) (by kernel_rfl) ⟨v1, v2, c1, c2⟩ (fun hH => ?_)
                refine wpAnyH_take (i := 0) (v := .bool true) rfl (by kernel_rfl) (by kernel_rfl) (by kernel_rfl) (fun _ _ _ h => h) (Or.inl ⟨by rfl, ?ybbu0⟩) hH ?rbbu0
                case ybbu0 => (intro W hSw; (try dsimp only at hSw); (try simp only [List.getElem_toArray, List.getElem_cons_zero]); obtain ⟨q1, q2, q3, q4⟩ := hSw; go_simp; first | done | with_reducible rfl)
                try simp only [Act.put, List.getElem_toArray, List.getElem_cons_zero, List.setIfInBounds_toArray, List.set_cons_zero, List.set_cons_succ]
                refine wpAnyH_take (i := 1) (v := .bool true) rfl (by kernel_rfl) (by kernel_rfl) (by kernel_rfl) (fun _ _ _ h => h) (Or.inl ⟨by rfl, ?ybbu1⟩) hH ?rbbu1
                case ybbu1 => (intro W hSw; (try dsimp only at hSw); (try simp only [List.getElem_toArray, List.getElem_cons_succ, List.getElem_cons_zero]); obtain ⟨q1, q2, q3, q4⟩ := hSw; go_simp; first | done | with_reducible rfl)
                try simp only [Act.put, List.getElem_toArray, List.getElem_cons_succ, List.getElem_cons_zero, List.setIfInBounds_toArray, List.set_cons_zero, List.set_cons_succ]
                refine wpAnyH_take (i := 2) (v := ?wbb2) rfl (by kernel_rfl) (by kernel_rfl) (by kernel_rfl) (fun _ _ _ h => h) (Or.inl ⟨by rfl, ?ybbu2⟩) hH ?rbbu2
                case ybbu2 => (intro W hSw; (try dsimp only at hSw); (try simp only [List.getElem_toArray, List.getElem_cons_succ, List.getElem_cons_zero]); obtain ⟨q1, q2, q3, q4⟩ := hSw; go_simp; first | done | with_reducible rfl)
                try simp only [Act.put, List.getElem_toArray, List.getElem_cons_succ, List.getElem_cons_zero, List.setIfInBounds_toArray, List.set_cons_zero, List.set_cons_succ]
                refine wpAnyH_take (i := 3) (v := ?wbb3) rfl (by kernel_rfl) (by kernel_rfl) (by kernel_rfl) (fun _ _ _ h => h) (Or.inl ⟨by rfl, ?ybbu3⟩) hH ?rbbu3
                case ybbu3 => (intro W hSw; (try dsimp only at hSw); (try simp only [List.getElem_toArray, List.getElem_cons_succ, List.getElem_cons_zero]); obtain ⟨q1, q2, q3, q4⟩ := hSw; go_simp; first | done | with_reducible rfl)
                try simp only [Act.put, List.getElem_toArray, List.getElem_cons_succ, List.getElem_cons_zero, List.setIfInBounds_toArray, List.set_cons_zero, List.set_cons_succ]
                refine wpAnyH_take (i := 4) (v := ?wbb4) rfl (by kernel_rfl) (by kernel_rfl) (by kernel_rfl) (fun _ _ _ h => h) (Or.inl ⟨by rfl, ?ybbu4⟩) hH ?rbbu4
                case ybbu4 => (intro W hSw; (try dsimp only at hSw); (try simp only [List.getElem_toArray, List.getElem_cons_succ, List.getElem_cons_zero]); obtain ⟨q1, q2, q3, q4⟩ := hSw; go_simp; first | done | with_reducible rfl)
                try simp only [Act.put, List.getElem_toArray, List.getElem_cons_succ, List.getElem_cons_zero, List.setIfInBounds_toArray, List.set_cons_zero, List.set_cons_succ]
                refine wpAnyH_take (i := 5) (v := .bool false) rfl (by kernel_rfl) (by kernel_rfl) (by kernel_rfl) (fun _ _ _ h => h) (Or.inl ⟨by rfl, ?ybbu5⟩) hH ?rbbu5
                case ybbu5 => (intro W hSw; (try dsimp only at hSw); (try simp only [List.getElem_toArray, List.getElem_cons_succ, List.getElem_cons_zero]); go_simp; (try (simp only [tk])); first | done | with_reducible rfl)
                try simp only [Act.put, List.getElem_toArray, List.getElem_cons_succ, List.getElem_cons_zero, List.setIfInBounds_toArray, List.set_cons_zero, List.set_cons_succ]
                refine wpAnyH_take (i := 6) (v := .bool false) rfl (by kernel_rfl) (by kernel_rfl) (by kernel_rfl) (fun _ _ _ h => h) (Or.inl ⟨by rfl, ?ybbu6⟩) hH ?rbbu6
                case ybbu6 => (intro W hSw; (try dsimp only at hSw); (try simp only [List.getElem_toArray, List.getElem_cons_succ, List.getElem_cons_zero]); obtain ⟨q1, q2, q3, q4⟩ := hSw; go_simp; first | done | with_reducible rfl)
                try simp only [Act.put, List.getElem_toArray, List.getElem_cons_succ, List.getElem_cons_zero, List.setIfInBounds_toArray, List.set_cons_zero, List.set_cons_succ]
                refine wpAnyH_take (i := 7) (v := ?wbb7) rfl (by kernel_rfl) (by kernel_rfl) (by kernel_rfl) (fun _ _ _ h => h) (Or.inl ⟨by rfl, ?ybbu7⟩) hH ?rbbu7
                case ybbu7 => (intro W hSw; (try dsimp only at hSw); (try simp only [List.getElem_toArray, List.getElem_cons_succ, List.getElem_cons_zero]); obtain ⟨q1, q2, q3, q4⟩ := hSw; go_simp; first | done | with_reducible rfl)
                try simp only [Act.put, List.getElem_toArray, List.getElem_cons_succ, List.getElem_cons_zero, List.setIfInBounds_toArray, List.set_cons_zero, List.set_cons_succ]
                refine wpAnyH_take (i := 8) (v := ?wbb8) rfl (by kernel_rfl) (by kernel_rfl) (by kernel_rfl) (fun _ _ _ h => h) (Or.inl ⟨by rfl, ?ybbu8⟩) hH ?rbbu8
                case ybbu8 => (intro W hSw; (try dsimp only at hSw); (try simp only [List.getElem_toArray, List.getElem_cons_succ, List.getElem_cons_zero]); obtain ⟨q1, q2, q3, q4⟩ := hSw; go_simp; first | done | with_reducible rfl)
                try simp only [Act.put, List.getElem_toArray, List.getElem_cons_succ, List.getElem_cons_zero, List.setIfInBounds_toArray, List.set_cons_zero, List.set_cons_succ]
                refine wpAnyH_take (i := 9) (v := ?wbb9) rfl (by kernel_rfl) (by kernel_rfl) (by kernel_rfl) (fun _ _ _ h => h) (Or.inl ⟨by rfl, ?ybbu9⟩) hH ?rbbu9
                case ybbu9 => (intro W hSw; (try dsimp only at hSw); (try simp only [List.getElem_toArray, List.getElem_cons_succ, List.getElem_cons_zero]); obtain ⟨q1, q2, q3, q4⟩ := hSw; go_simp; first | done | with_reducible rfl)
                try simp only [Act.put, List.getElem_toArray, List.getElem_cons_succ, List.getElem_cons_zero, List.setIfInBounds_toArray, List.set_cons_zero, List.set_cons_succ]
                refine wpAnyH_take (i := 10) (v := ?wbb10) rfl (by kernel_rfl) (by kernel_rfl) (by kernel_rfl) (fun _ _ _ h => h) (Or.inl ⟨by rfl, ?ybbu10⟩) hH ?rbbu10
                case ybbu10 => (intro W hSw; (try dsimp only at hSw); (try simp only [List.getElem_toArray, List.getElem_cons_succ, List.getElem_cons_zero]); obtain ⟨q1, q2, q3, q4⟩ := hSw; go_simp; first | done | with_reducible rfl)
                try simp only [Act.put, List.getElem_toArray, List.getElem_cons_succ, List.getElem_cons_zero, List.setIfInBounds_toArray, List.set_cons_zero, List.set_cons_succ]
                refine wpAnyH_take (i := 11) (v := ?wbb11) rfl (by kernel_rfl) (by kernel_rfl) (by kernel_rfl) (fun _ _ _ h => h) (Or.inl ⟨by rfl, ?ybbu11⟩) hH ?rbbu11
                case ybbu11 => (intro W hSw; (try dsimp only at hSw); (try simp only [List.getElem_toArray, List.getElem_cons_succ, List.getElem_cons_zero]); obtain ⟨q1, q2, q3, q4⟩ := hSw; go_simp; first | done | with_reducible rfl)
                try simp only [Act.put, List.getElem_toArray, List.getElem_cons_succ, List.getElem_cons_zero, List.setIfInBounds_toArray, List.set_cons_zero, List.set_cons_succ]
                refine wpAnyH_take (i := 12) (v := ?wbb12) rfl (by kernel_rfl) (by kernel_rfl) (by kernel_rfl) (fun _ _ _ h => h) (Or.inl ⟨by rfl, ?ybbu12⟩) hH ?rbbu12
                case ybbu12 => (intro W hSw; (try dsimp only at hSw); (try simp only [List.getElem_toArray, List.getElem_cons_succ, List.getElem_cons_zero]); obtain ⟨q1, q2, q3, q4⟩ := hSw; go_simp; first | done | with_reducible rfl)
                try simp only [Act.put, List.getElem_toArray, List.getElem_cons_succ, List.getElem_cons_zero, List.setIfInBounds_toArray, List.set_cons_zero, List.set_cons_succ]
                refine wpAnyH_take (i := 13) (v := ?wbb13) rfl (by kernel_rfl) (by kernel_rfl) (by kernel_rfl) (fun _ _ _ h => h) (Or.inl ⟨by rfl, ?ybbu13⟩) hH ?rbbu13
                case ybbu13 => (intro W hSw; (try dsimp only at hSw); (try simp only [List.getElem_toArray, List.getElem_cons_succ, List.getElem_cons_zero]); obtain ⟨q1, q2, q3, q4⟩ := hSw; go_simp; first | done | with_reducible rfl)
                try simp only [Act.put, List.getElem_toArray, List.getElem_cons_succ, List.getElem_cons_zero, List.setIfInBounds_toArray, List.set_cons_zero, List.set_cons_succ]
                refine wpAnyH_take (i := 14) (v := ?wbb14) rfl (by kernel_rfl) (by kernel_rfl) (by kernel_rfl) (fun _ _ _ h => h) (Or.inl ⟨by rfl, ?ybbu14⟩) hH ?rbbu14
                case ybbu14 => (intro W hSw; (try dsimp only at hSw); (try simp only [List.getElem_toArray, List.getElem_cons_succ, List.getElem_cons_zero]); obtain ⟨q1, q2, q3, q4⟩ := hSw; go_simp; first | done | with_reducible rfl)
                try simp only [Act.put, List.getElem_toArray, List.getElem_cons_succ, List.getElem_cons_zero, List.setIfInBounds_toArray, List.set_cons_zero, List.set_cons_succ]
                refine wpAnyH_take (i := 15) (v := ?wbb15) rfl (by kernel_rfl) (by kernel_rfl) (by kernel_rfl) (fun _ _ _ h => h) (Or.inl ⟨by rfl, ?ybbu15⟩) hH ?rbbu15
                case ybbu15 => (intro W hSw; (try dsimp only at hSw); (try simp only [List.getElem_toArray, List.getElem_cons_succ, List.getElem_cons_zero]); obtain ⟨q1, q2, q3, q4⟩ := hSw; go_simp; first | done | with_reducible rfl)
                try simp only [Act.put, List.getElem_toArray, List.getElem_cons_succ, List.getElem_cons_zero, List.setIfInBounds_toArray, List.set_cons_zero, List.set_cons_succ]
                refine wpAnyH_take (i := 16) (v := ?wbb16) rfl (by kernel_rfl) (by kernel_rfl) (by kernel_rfl) (fun _ _ _ h => h) (Or.inl ⟨by rfl, ?ybbu16⟩) hH ?rbbu16
                case ybbu16 => (intro W hSw; (try dsimp only at hSw); (try simp only [List.getElem_toArray, List.getElem_cons_succ, List.getElem_cons_zero]); obtain ⟨q1, q2, q3, q4⟩ := hSw; go_simp; first | done | with_reducible rfl)
                try simp only [Act.put, List.getElem_toArray, List.getElem_cons_succ, List.getElem_cons_zero, List.setIfInBounds_toArray, List.set_cons_zero, List.set_cons_succ]
                refine wpAnyH_take (i := 17) (v := .bool true) rfl (by kernel_rfl) (by kernel_rfl) (by kernel_rfl) (fun _ _ _ h => h) (Or.inl ⟨by rfl, ?ybbu17⟩) hH ?rbbu17
                case ybbu17 => (intro W hSw; (try dsimp only at hSw); (try simp only [List.getElem_toArray, List.getElem_cons_succ, List.getElem_cons_zero]); obtain ⟨q1, q2, q3, q4⟩ := hSw; go_simp; first | done | with_reducible rfl)
                try simp only [Act.put, List.getElem_toArray, List.getElem_cons_succ, List.getElem_cons_zero, List.setIfInBounds_toArray, List.set_cons_zero, List.set_cons_succ]
                refine wpAnyH_take (i := 18) (v := .bool true) rfl (by kernel_rfl) (by kernel_rfl) (by kernel_rfl) (fun _ _ _ h => h) (Or.inl ⟨by rfl, ?ybbu18⟩) hH ?rbbu18
                case ybbu18 => (intro W hSw; (try dsimp only at hSw); (try simp only [List.getElem_toArray, List.getElem_cons_succ, List.getElem_cons_zero]); obtain ⟨q1, q2, q3, q4⟩ := hSw; go_simp; first | done | with_reducible rfl)
                try simp only [Act.put, List.getElem_toArray, List.getElem_cons_succ, List.getElem_cons_zero, List.setIfInBounds_toArray, List.set_cons_zero, List.set_cons_succ]
                refine wpAnyH_take (i := 19) (v := .bool true) rfl (by kernel_rfl) (by kernel_rfl) (by kernel_rfl) (fun _ _ _ h => h) (Or.inl ⟨by rfl, ?ybbu19⟩) hH ?rbbu19
                case ybbu19 => (intro W hSw; (try dsimp only at hSw); (try simp only [List.getElem_toArray, List.getElem_cons_succ, List.getElem_cons_zero]); obtain ⟨q1, q2, q3, q4⟩ := hSw; go_simp; first | done | with_reducible rfl)
                try simp only [Act.put, List.getElem_toArray, List.getElem_cons_succ, List.getElem_cons_zero, List.setIfInBounds_toArray, List.set_cons_zero, List.set_cons_succ]
                refine wpAnyH_take (i := 20) (v := ?vbbu20) rfl (by kernel_rfl) (by kernel_rfl) (by kernel_rfl) (fun _ _ _ h => h) (Or.inl ⟨by rfl, ?ybbu20⟩) hH ?rbbu20
                case ybbu20 => (intro W hSw; (try dsimp only at hSw); (try simp only [List.getElem_toArray, List.getElem_cons_succ, List.getElem_cons_zero]); go_simp; first | done | with_reducible rfl)
                try simp only [Act.put, List.getElem_toArray, List.getElem_cons_succ, List.getElem_cons_zero, List.setIfInBounds_toArray, List.set_cons_zero, List.set_cons_succ]
                refine wpAnyH_done (by kernel_rfl) ?_ _
                go_wp2
                go_ret
                exact ⟨rfl, HBW.out.drew⟩
  · go_wp2
    go_ret
    exact ⟨rfl, HB2.out⟩

set_option maxRecDepth 100000 in
set_option maxHeartbeats 2000000 in
/-- No mask. -/
theorem frameTurned_none (L : Option Addr) (cap : Nat) (ls : List (List Int)) (x : Int) (w : World) (hL : RowsRd w L ls) (hx : ∀ x ∈ ls, Frm.ok x) (hxl : ∀ x ∈ ls, x.length ≤ 140737488351232) (hm : ls.length ≤ 9223372036854775807) :
    Calls Try.prog 5 #[.slice L ls.length cap, .int .u16 x, .int .u32 0] w fun e w' => e = .returned (.bool true) ∧ Below w.heap.size w w' := by
  have HL := hide hL; have HX := hide hx; have HXL := hide hxl
  clear hL hx hxl
  go_enter Try.func5, Try.ntmps5
  go_wp2_with fail
  refine (awake_any _).mono ?_
  rintro e w1 ⟨rfl, hb1⟩
  have HB1 := hide hb1
  clear hb1
  go_wp2_with fail
  refine (row_any L cap ls w1 (HL.out.below HB1.out) HX.out HXL.out hm).mono ?_
  rintro e w2 ⟨hb2, hg⟩
  have HB2 := hide (HB1.out.trans (hb2.mono HB1.out.size))
  rcases hg with ⟨A, c, B, d, rfl, ho, hq, hall, hlen⟩ | rfl
  · clear ho hq hall hb2
    generalize (ls.take 30).length = q at *
    by_cases h0 : q = 0
    · subst h0
      go_wp2
      go_ret
      exact ⟨rfl, HB2.out⟩
    · have h0'' : ((q : Int) == 0) = false := by simpa using h0
      go_wp2
      go_ret
      exact ⟨rfl, HB2.out⟩
  · go_wp2
    go_ret
    exact ⟨rfl, HB2.out⟩

theorem frameTurned_walk' (L : Option Addr) (cap : Nat) (ls : List (List Int)) (x m : Int) (w : World) (hL : RowsRd w L ls) (hx : ∀ x ∈ ls, Frm.ok x) (hxl : ∀ x ∈ ls, x.length ≤ 140737488351232) (hm : ls.length ≤ 9223372036854775807) (hcap : ls.length ≤ cap) (hx0 : 0 ≤ x) (hx1 : x ≤ 65535) (hmb : 0 ≤ m ∧ m ≤ 4294967295) :
    Calls Try.prog 5 #[.slice L ls.length cap, .int .u16 x, .int .u32 m] w fun e w' => e = .returned (.bool true) ∧ Below w.heap.size w w' := by
  by_cases hm0 : m = 0
  · subst hm0; exact frameTurned_none L cap ls x w hL hx hxl hm
  · have h := frameTurned_walk L cap ls x (Crc.bv m) w hL hx hxl hm hcap hx0 hx1 (by rw [Crc.nm_bv hmb.1 (by omega), beq_eq_false_iff_ne]; exact hm0)
    rw [Crc.nm_bv hmb.1 (by omega)] at h
    exact h

set_option maxRecDepth 100000 in
theorem frameTurned_lifted (os : Os) (started : os.Started) (H : Type) (enc : TypeId × Value → H) :
    ReturnsInHanded {} Try.checked os 5 .any (Rows.frameTurnedSpec.pre6 enc Try.prog Try.f5 Rows.frameTurnedRow.domain false) (Rows.frameTurnedSpec.post enc Try.prog Try.f5 false true false false) := by
  refine returnsInHanded_of_change_sized (C := Try.checked) (by kernel_rfl) started (by kernel_rfl) Try.func5
    (ChangeSpec.witness6 (enc := enc) (C := Try.checked) false ⟨#[], #[.slice none 0 0, .int .u16 0, .int .u32 0], []⟩ 8 (by kernel_rfl) (by kernel_rfl) (by kernel_rfl) (by kernel_rfl)) ?_
  intro W base args ds gs before hval0 hW _ hsz0 _
  have hval : ∀ (j : Nat) t v, Try.f5.params[j]? = some t → args[j]? = some v → Value.okWide Try.prog W .any base t v := hval0
  have hW' := hW
  obtain ⟨p, q, hA0, hV, rfl, _, _⟩ := hW
  have hA : DataW.TrodAll enc Try.prog W 0 (fun _ => true) true Try.f5.params.toList args.toList ds p := hA0
  have hsz : (DataW.weightsEach Try.prog (Try.f5.params.toList ++ Rows.frameTurnedSpec.plain.varTypes Try.prog) (ds ++ gs)).all (· ≤ reachBytes) = true := hsz0
  rw [Try.params5] at hA hval hsz
  obtain ⟨v0, v1, v2, d0, d1, d2, p0, p1, p2, rfl, rfl, rfl, h0, h1, h2⟩ := trodAll_three hA
  obtain ⟨x1, rfl, rfl, rfl, wf1⟩ := open_int Try.underlying31 (hval 1 31 v1 rfl rfl) h1
  have bd1 := bounds_u16 wf1
  obtain ⟨x2, rfl, rfl, rfl, wf2⟩ := open_int Try.underlying40 (hval 2 40 v2 rfl rfl) h2
  have bd2 := bounds_u32 wf2
  obtain ⟨L0, cap0, n0, V, fuel, D, rfl, hnc, hcm, hR0, hel, hn0⟩ := open_rows Try.underlying30 (C := 1) (by kernel_rfl) (by omega) (hval 0 30 v0 rfl rfl) h0
  have hS0 : Sized Try.prog 30 d0 := sized_arg hsz (j := 0) rfl rfl
  have hSE : ∀ i, i < n0 → Sized Try.prog 22 (D i) := fun i hi => by rcases hn0 with h | ⟨el, sp, h1, _, h3⟩; omega; rw [h1] at hS0; exact hS0.elem Try.underlying30 (h3 i hi)
  obtain ⟨ls, rfl, hRL, hok, hle⟩ := rows_lists hR0 (fun i hi => by obtain ⟨B, c, zs, e1, _, _, hr, hwz, hl2⟩ := trod_nums Try.underlying22 Try.underlying5 (by kernel_rfl) (hel i hi).2.choose_spec; have hln := (hSE i hi).nums (m := 1) Try.underlying22 (by kernel_rfl) hl2; exact ⟨zs, B, c, e1, hr, fun z hz => (by have := bounds_u8 (hwz z hz); omega), by omega⟩)
  have hcm' : cap0 ≤ 9223372036854775807 := by unfold maxLen at hcm; omega
  refine (frameTurned_walk' L0 cap0 ls x1 x2 W hRL hok hle (by omega) (by omega) bd1.1 (by omega) bd2).mono fun e W' ⟨he, hb⟩ => ?_
  subst he
  exact ⟨_, rfl, post_law (by kernel_rfl) (by kernel_rfl) rfl hW' (by rintro _ rfl; rfl) rfl Try.underlying4 hb⟩

theorem frameTurned_holds : Rows.FrameTurnedSaid :=
  OpenClaim.holds_of_wide 5 Try.f5 rfl rfl rfl rfl rfl rfl rfl ⟨rfl, rfl, rfl, rfl, rfl⟩ rfl rfl rfl rfl rfl (by kernel_rfl) Try.func5 (by kernel_rfl)
    (of_decide_eq_true (by kernel_rfl)) (by unfold Func.isWrapper; first | (rw [if_pos (by decide +kernel)]; kernel_rfl) | (rw [if_neg (by decide +kernel)]; exact ⟨rfl, rfl⟩))
    (fun os started H enc _ => frameTurned_lifted os started H enc)

end Go.Proofs.Ytodlabpgjgbbpaf
