/-
  What Choose does, its value new in memory.
-/
import Derived.Test.YtodlabpgjgbbpahPaxMem
import Derived.Test.YtodlabpgjgbbpahPaxAcc
namespace Go.Proofs.Ytodlabpgjgbbpah
open Go.RowKit Go.Agio Go.Prp

/-- What Choose hands back: its value is new. -/
def CNew (w : World) (n : Int) (l : List Pm) (e : Ending) (w' : World) : Prop := ∃ V cv, e = .returned (.tuple #[.slice V (chosen n l).length cv, .bool (may_ n l)]) ∧ Reads w' V (bys (chosen n l)) ∧ (∀ a, V = some a → w.heap.size ≤ a.block) ∧ Below w.heap.size w w'

set_option maxRecDepth 100000 in
set_option maxHeartbeats 4000000 in
theorem choose_new (A : Option Addr) (c : Nat) (X : List PAt) (n : Int) (w : World) (hR : PsRd w A X) (hX : fineP X) (hm : X.length ≤ 1000000) (hn : n ≤ 9223372036854775807) :
    Calls Try.prog 10 #[.slice A X.length c, .int .i64 n] w (CNew w n (pms X)) := by
  obtain ⟨i0, hi, hz0, hz1, hz2⟩ := info_parts infoI
  have HR := hide hR; have HX := hide hX
  clear hR hX
  go_enter Try.func10, Try.ntmps10
  go_wp2_with fail
  have hN := one_new w (.cells #[.int .i64 n] 3)
  generalize w.alloc (.cells #[.int .i64 n] 3) = W0 at *
  obtain ⟨K0, hs0, hb0⟩ := hN
  have HR0 := hide (HR.out.below hb0)
  have HB0 := hide hb0; have HK0 := hide K0
  clear hb0 K0
  go_loopw [6, 12] (fun v i wr => ∃ (k : Nat) (B : Option Addr) (q : Nat), k ≤ X.length ∧ i = .int .i64 k ∧ v = .slice B k q ∧ wr.ownsRow W0.heap.size 3 1 (.slice B k q) k (((frms X).take k).map (Value.int .i64)) ∧ Below W0.heap.size W0 wr) (fun _ i _ => X.length - (intOf i).toNat)
  case atStart => exact ⟨0, none, 0, Nat.zero_le _, rfl, rfl, World.ownsRow_nil _ _ _ _, Below.refl _ _⟩
  case round =>
    obtain ⟨k, B, q, hk, rfl, rfl, ho, hbr⟩ := hrel
    have HO := hide ho; have HB := hide hbr
    clear ho hbr
    by_cases h : k < X.length
    · obtain ⟨b1, off, rfl, hb1, c0, c1, c2, c3, c4⟩ := (HR0.out.below HB.out).at_ h
      have HS := hide (frms_snoc X h)
      obtain ⟨x, hx⟩ : ∃ x, x = X.getD k pa0 := ⟨_, rfl⟩
      rw [← hx] at c0 c1 c2 c3 c4 HS
      clear hx
      have hkm : (k : Int) < (X.length : Int) := by omega
      go_upto_region 5 with fail
      have hN := one_new wr (.cells #[.int .i64 x.p.frm, .bool x.p.some, .int .i64 x.p.r, .int .i64 x.p.t, .slice x.at_ x.p.val.length x.cap] 34)
      generalize wr.alloc (.cells #[.int .i64 x.p.frm, .bool x.p.some, .int .i64 x.p.r, .int .i64 x.p.t, .slice x.at_ x.p.val.length x.cap] 34) = W1 at *
      obtain ⟨K1, hs1, hbW⟩ := hN
      obtain ⟨x0, x1, x2, x3, x4⟩ := five_at K1
      have HB1 := hide (below_next HB.out hbW)
      have HO1 := hide (own_below HO.out hbW)
      clear c0 c1 c2 c3 c4 K1 hbW
      go_wp2_with (at_builtin; apply halted)
      refine unhalt (wpList_append_reads rfl (.tmp 16) (.tmp 19) 63 rfl W0.heap.size 3 i0 (.int .i64 0) 8 Try.underlying63 hi hz0 hz1 hz2 rfl _ k (((frms X).take k).map (Value.int .i64)) rfl (HO1.out.alloc _) (some ⟨W1.heap.size, 0, none⟩) 1 1 [.int .i64 x.p.frm] (by simp [Act.eval]) (Reads.new_at _ _ _ _ _ rfl) rfl (one_one _ rfl) (by unfold maxLen; omega) (by omega) (by have := HB1.out.size; simp; omega) ?_)
      intro B4 d4 w4 n4 g4 t4
      have HB4 := hide ((HB1.out.alloc HB1.out.size (.cells #[.int .i64 x.p.frm] 3)).grown g4 (by have := HB1.out.size; simp; omega) (fun g hg => (HO1.out.lt g hg).1))
      have N4 := hide n4
      clear n4 g4 t4 x0 x1 x2 x3 x4
      go_wp2
      go_roundw
      case rel => exact ⟨k + 1, B4, d4, by omega, by go_num, rfl, by rw [HS.out]; simpa using N4.out, HB4.out⟩
      case measure => simp [intOf]; omega
    · obtain rfl : k = X.length := by omega
      have c0 := cell_blk ((HB.out.block _ (blk_lt HK0.out)).trans HK0.out) 0
      replace c0 : wr.cell? ⟨w.heap.size, 0, none⟩ = some (.int .i64 n) := c0
      rw [show (frms X).take X.length = frms X by rw [← frms_length X, List.take_length]] at HO
      have CM := hide (most_any B q (frms X) n wr (Reads.of_own HO.out) (fun z hz => by obtain ⟨x, hx, rfl⟩ := List.mem_map.1 hz; exact (HX.out x hx).1) (by rw [frms_length]; omega) hn)
      rw [frms_length, ← frms_eq] at CM
      have HBW := hide (below_next HB0.out HB.out)
      go_wp2_with fail
      refine CM.out.mono ?_
      rintro e w2 ⟨rfl, hb2⟩
      have HB2 := hide (below_next HBW.out hb2)
      have HM := hide (show Bal.most ((pms X).map Pm.frm) n = may_ n (pms X) from rfl)
      rw [HM.out]
      replace c0 := (hb2.cell (p := ⟨w.heap.size, 0, none⟩) (Nat.lt_of_lt_of_le (blk_lt HK0.out) HB.out.size)).trans c0
      have hl2 : w.heap.size < w2.heap.size := Nat.lt_of_lt_of_le (Nat.lt_of_lt_of_le (blk_lt HK0.out) HB.out.size) hb2.size
      have HR2 := hide (HR.out.below HB2.out)
      clear hb2 CM HO HB HBW HR0 HB0 HK0
      cases hmay : may_ n (pms X)
      · have F : Hid (CNew w n (pms X) (.returned (.tuple #[.slice none 0 0, .bool false])) w2) := hide ⟨none, 0, by simp [chosen, hmay], by simp [chosen, hmay]; exact .nil _ _, (fun a ha => by cases ha), HB2.out⟩
        clear hmay HM
        go_wp2
        go_ret2
        exact F.out
      · have CG := hide (greatestP_any A c X n w.heap.size w2 HR2.out c0 hl2 (by omega))
        have HL := hide (show chosen n (pms X) = Prp.leftOf (pms X) (bestP n (pms X) X.length) from by unfold chosen Prp.left; rw [hmay, if_pos rfl, pms_length])
        have HPL := hide (fun p (h : bestP n (pms X) X.length = some p) => (best_some h).1)
        cases hbk : bestP n (pms X) X.length with
        | none =>
          rw [hbk] at CG HL
          have F := hide (fun w' (h : Below w2.heap.size w2 w') => (show CNew w n (pms X) (.returned (.tuple #[.slice none 0 0, .bool true])) w' from ⟨none, 0, by rw [HL.out, hmay]; rfl, by rw [HL.out]; exact .nil _ _, (fun a ha => by cases ha), below_next HB2.out h⟩))
          clear hmay HM hbk HPL HL
          go_wp2_with fail
          refine CG.out.mono ?_
          rintro e w3 ⟨rfl, hb3⟩
          rw [show placeOf none = -1 from rfl]
          go_wp2
          go_ret2
          exact F.out _ hb3
        | some p =>
          have hp := HPL.out p hbk
          rw [hbk] at CG HL
          have hlv : (chosen n (pms X)) = (X.getD p pa0).p.val := by rw [HL.out, ← pms_get]; rfl
          have F := hide (fun w' V cv (h : Below w2.heap.size w2 w') (hr : Reads w' V (bys (X.getD p pa0).p.val)) (hf : ∀ a, V = some a → w.heap.size ≤ a.block) => (show CNew w n (pms X) (.returned (.tuple #[.slice V (X.getD p pa0).p.val.length cv, .bool true])) w' from ⟨V, cv, by rw [hlv, hmay], by rw [hlv]; exact hr, hf, below_next HB2.out h⟩))
          clear hmay HM hbk HPL HL hlv
          go_wp2_with fail
          refine CG.out.mono ?_
          rintro e w3 ⟨rfl, hb3⟩
          rw [show placeOf (some p) = (p : Int) from rfl]
          obtain ⟨b1, off, rfl, hb1, c0', c1, c2, c3, c4⟩ := (HR2.out.below hb3).at_ hp
          have hv := (HR2.out.below hb3).2 _ (getD_mem (d := pa0) hp)
          have hvl := (HX.out _ (getD_mem (d := pa0) hp)).2
          have HV := hide hv
          have hpm : (p : Int) < (X.length : Int) := by omega
          have hp0 : ¬ (p : Int) < 0 := by omega
          clear c0' c1 c2 c3 hv
          generalize X.getD p pa0 = x at *
          go_wp2_with fail
          refine (clone_any x.at_ x.p.val.length x.cap x.p.val w3 HV.out rfl (by omega)).mono ?_
          rintro e w4 ⟨V, cv, rfl, ho, hb4⟩
          have FF := hide (F.out w4 V cv (below_next hb3 hb4) (Reads.of_own ho) (fun a ha => by subst ha; have := (ho.lt a.block rfl).1; have := hb3.size; have := HB2.out.size; omega))
          clear ho hb4 c4
          go_wp2
          go_ret2
          exact FF.out



end Go.Proofs.Ytodlabpgjgbbpah
