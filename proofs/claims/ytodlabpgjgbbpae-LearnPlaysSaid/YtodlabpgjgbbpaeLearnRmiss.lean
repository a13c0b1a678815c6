/-
  What the document's Missing does.
-/
import Derived.Test.YtodlabpgjgbbpaeLearnRfront
namespace Go.Proofs.Ytodlabpgjgbbpae
open Go.RowKit Go.Agio

attribute [local irreducible] Lrn.gapsTo Lrn.gaps

set_option maxRecDepth 100000 in
set_option maxHeartbeats 4000000 in
theorem rmissing_any (b0 lim : Nat) (A : Option Addr) (c : Nat) (X : List (Int × List Int)) (hi : Int) (w : World) (hX : Prs w b0 lim A c X) (hm : X.length ≤ 100000) (hl : lim ≤ w.heap.size) :
    Calls Try.prog 24 #[.slice A X.length c, .int .i64 hi] w fun e w' => Nums w w' e (Lrn.gaps (Lrn.get X) hi) := by
  obtain ⟨i0, hi0, hz0, hz1, hz2⟩ := info_parts infoI
  have CF := hide (rfront_any b0 lim A c X w hX hm)
  have CG := hide (fun k (wr : World) (hb : Below w.heap.size w wr) => rget_any b0 lim A c X k wr (hX.below hl hb) hm)
  generalize Lrn.get X = M at *
  have hfl := Lrn.front_le M
  have HFA := hide (fun (j : Nat) h => Lrn.front_all M (j := j) h)
  have HGF := hide (Lrn.gapsTo_front M (p := Lrn.front M) (fun j h => Lrn.front_all M h))
  generalize Lrn.front M = f at *
  clear hX
  go_enter Try.func24, Try.ntmps24
  go_wp2_with fail
  refine CF.out.mono ?_
  rintro e w0 ⟨rfl, rfl⟩
  go_wp2_with fail
  go_loopw [5, 6] (fun v s wr => ∃ (k : Nat) (L : Option Addr) (q : Nat), k ≤ 4096 ∧ f ≤ k ∧ (k = f ∨ (k : Int) ≤ hi) ∧ s = .int .i64 k ∧ v = .slice L (Lrn.gapsTo M k).length q ∧ wr.ownsRow w.heap.size 3 1 (.slice L (Lrn.gapsTo M k).length q) (Lrn.gapsTo M k).length ((Lrn.gapsTo M k).map (Value.int .i64)) ∧ Below w.heap.size w wr) (fun _ s _ => 4096 - (intOf s).toNat)
  case atStart => exact ⟨f, none, 0, hfl, Nat.le_refl _, .inl rfl, rfl, by rw [HGF.out]; rfl, by rw [HGF.out]; exact World.ownsRow_nil _ _ _ _, Below.refl _ _⟩
  case round =>
    obtain ⟨k, L, q, hk, hfk, hkh, rfl, rfl, hown, hbr⟩ := hrel
    have Hown := hide hown
    have HBR := hide hbr
    clear hown hbr
    by_cases hlt : (k : Int) < hi ∧ k < 4096
    · obtain ⟨h1, h2⟩ := hlt
      have h2' : (k : Int) < 4096 := by omega
      have HL := hide (Lrn.gapsTo_len (M := M) (s := k))
      obtain ⟨y, hy⟩ : ∃ y, y = (M k).isSome := ⟨_, rfl⟩
      have HS := hide (fun (h : y = false) => Lrn.gapsTo_yes (M := M) (s := k) (hy.symm.trans h))
      have HN := hide (fun (h : y = true) => Lrn.gapsTo_no (M := M) (s := k) (hy.symm.trans h))
      go_wp2_with fail
      refine (CG.out _ _ HBR.out).mono ?_
      rintro e w1 ⟨B1, q1, rfl, r1, o1, l1, b1, rfl⟩
      clear r1 o1 l1 b1
      rw [← hy]
      clear hy
      cases y with
      | true =>
        have HP := hide (HN.out rfl)
        clear HS HN
        go_wp2
        go_roundw
        case rel => exact ⟨k + 1, L, q, by omega, by omega, .inr (by omega), by go_num, by rw [HP.out], by rw [HP.out]; exact Hown.out, HBR.out⟩
        case measure => simp [intOf]; omega
      | false =>
        have HP := hide (HS.out rfl)
        clear HS HN
        generalize Lrn.gapsTo M k = l at *
        go_wp2_with (at_builtin; apply halted)
        refine unhalt (wpList_append_reads rfl (.tmp 28) (.tmp 30) 39 rfl w.heap.size 3 i0 (.int .i64 0) 8 Try.underlying39 hi0 hz0 hz1 hz2 rfl _ l.length (l.map (Value.int .i64)) rfl (Hown.out.alloc _) (some ⟨wr.heap.size, 0, none⟩) 1 1 [.int .i64 (k : Int)] rfl (Reads.new_at _ _ _ _ _ rfl) rfl (one_one _ rfl) (by have := HL.out; unfold maxLen; omega) (by have := HL.out; omega) (by simp; have := HBR.out.size; omega) ?_)
        intro A' c' w2 n2 g2 t2
        have HB := hide ((HBR.out.alloc HBR.out.size _).grown g2 (by simp; have := HBR.out.size; omega) (fun g hg => (Hown.out.lt g hg).1))
        have N2 := hide n2
        clear n2 g2 t2
        go_wp2
        go_roundw
        case rel => exact ⟨k + 1, A', c', by omega, by omega, .inr (by omega), by go_num, by rw [HP.out]; simp, by rw [HP.out]; simpa using N2.out, HB.out⟩
        case measure => simp [intOf]; omega
    · have HE := hide (Lrn.gaps_end (M := M) (hi := hi) (s := k) (by
        rcases hkh with rfl | h
        · by_cases h4 : (k : Int) = min hi 4096
          · exact .inl h4
          · exact .inr ⟨by omega, HFA.out⟩
        · exact .inl (by omega)))
      have FIN : Hid (Nums w wr (.returned (.slice L (Lrn.gapsTo M k).length q)) (Lrn.gaps M hi)) := hide (by rw [← HE.out]; exact ⟨L, q, rfl, Hown.out, HBR.out⟩)
      clear hkh HE
      generalize Lrn.gapsTo M k = l at *
      have FINE : Hid (∀ e, e = Ending.returned (.slice L l.length q) → Nums w wr e (Lrn.gaps M hi)) := hide (fun e he => by rw [he]; exact FIN.out)
      by_cases h1 : (k : Int) < hi
      · have h2 : (4096 : Int) ≤ (k : Int) := by omega
        clear hlt
        go_wp2
        go_ret
        refine FINE.out _ ?_
        rfl
      · clear hlt
        go_wp2
        go_ret
        refine FINE.out _ ?_
        rfl

end Go.Proofs.Ytodlabpgjgbbpae
