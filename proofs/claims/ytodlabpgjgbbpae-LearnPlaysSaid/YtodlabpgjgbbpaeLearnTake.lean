/-
  What Take hands back: the values from where it was taken last up to the frontier.
-/
import Derived.Test.YtodlabpgjgbbpaeLearnWalks
namespace Go.Proofs.Ytodlabpgjgbbpae
open Go.RowKit Go.Agio

theorem takeS {W : World} {d bm n p : Nat} {D : DataW Value} {B : Option Addr} {ol q : Nat} {y : Bool} (hb : W.heap[d]? = some (.cells #[.map (some bm), .int .i64 (p : Int)] 57)) (ho : W.ownsMap Try.prog 3 RV bm n D)
    (hk : (Lit.int .i64 (p : Int)).wf = true) (hat : D.atKey (.int .i64 (p : Int)) nilD = .held (.slice B ol q)) (hy : Maps.has D (.int .i64 (p : Int)) = y) :
    W.cell? ⟨d, 0, none⟩ = some (.map (some bm)) ∧ W.cell? ⟨d, 1, none⟩ = some (.int .i64 (p : Int)) ∧ (Instr.lookup 55 (.map (some bm)) (.int .i64 (p : Int)) false).run Try.prog W = .ok (.slice B ol q) W :=
  ⟨(two_at hb).1, (two_at hb).2, (look_is lawI Try.underlying55 (zeroS _) ho (keyI hk) hat hy).2⟩

theorem front_ge {M : Lrn.Map} {t : Nat} (h : ∀ j : Nat, j < t → (M j).isSome = true) (ht : t ≤ 4096) : t ≤ Lrn.front M := by
  rcases Nat.lt_or_ge (Lrn.front M) t with hlt | hge
  · have := Lrn.front_none M (by omega)
    rw [h _ hlt] at this
    cases this
  · exact hge

/-- Behind a Take. -/
def Took (w : World) (d bm n : Nat) (M : Lrn.Map) (t : Nat) (G : Nat → Prop) (e : Ending) (w' : World) : Prop :=
  ∃ L c, e = .returned (.slice L (Lrn.vals M t (Lrn.front M)).length c) ∧ RowsAt w' w.heap.size (.slice L (Lrn.vals M t (Lrn.front M)).length c) (Lrn.vals M t (Lrn.front M)) ∧ LAt w' d bm n M (Lrn.front M) G ∧ w.grownBy w' (some d)

set_option maxRecDepth 100000 in
set_option maxHeartbeats 4000000 in
theorem take_any (d bm n : Nat) (M : Lrn.Map) (t : Nat) (G : Nat → Prop) (w : World) (hL : LAt w d bm n M t G) :
    Calls Try.prog 21 #[.pointer (some ⟨d, 0, none⟩)] w (Took w d bm n M t G) := by
  obtain ⟨i0, hi, hz0, hz1, hz2⟩ := info_parts info22
  have CF := hide (front_any d bm n M t G w hL)
  have hft := front_ge hL.done hL.le
  have hfl := Lrn.front_le M
  have HFA := hide (fun (j : Nat) h => Lrn.front_all M (j := j) h)
  obtain ⟨f, hf⟩ : ∃ f, f = Lrn.front M := ⟨_, rfl⟩
  have FIN : Hid (∀ (L : Option Addr) (c : Nat) (w' : World), RowsAt w' w.heap.size (.slice L (Lrn.vals M t f).length c) (Lrn.vals M t f) → LAt w' d bm n M f G → w.grownBy w' (some d) → Took w d bm n M t G (.returned (.slice L (Lrn.vals M t f).length c)) w') := hide (fun L c w' h1 h2 h3 => by
    rw [hf] at h1 h2 ⊢; exact ⟨L, c, rfl, h1, h2, h3⟩)
  rw [← hf] at CF hft hfl HFA
  have HL := hide hL
  clear hf hL
  go_enter Try.func21, Try.ntmps21
  go_wp2_with fail
  refine CF.out.mono ?_
  rintro e w0 ⟨rfl, rfl⟩
  go_wp2_with fail
  go_loopw [3] (fun v wr => ∃ (p : Nat) (L : Option Addr) (c : Nat), v = .slice L (Lrn.vals M t p).length c ∧ t ≤ p ∧ p ≤ f ∧ RowsAt wr w.heap.size (.slice L (Lrn.vals M t p).length c) (Lrn.vals M t p) ∧ LAt wr d bm n M p (fun g => G g ∨ Value.ownBlock (.slice L (Lrn.vals M t p).length c) = some g) ∧ w.grownBy wr (some d))
    (fun v _ => match v with | .slice _ m _ => f - t - m | _ => 0)
  case atStart => exact ⟨t, none, 0, by rw [Lrn.vals_start]; rfl, Nat.le_refl _, hft, by rw [Lrn.vals_start]; exact rowsAt_nil _ _, HL.out.less (fun g hg => by rcases hg with h | h; exact h; cases h), World.grownBy.refl _ _⟩
  case round =>
    obtain ⟨p, L, c, rfl, htp, hpf, hrow, hL, hg⟩ := hrel
    have HROW := hide hrow; have HLP := hide hL; have HG := hide hg
    have HVL := hide (Lrn.vals_len (M := M) htp)
    obtain ⟨c0, c1⟩ := hL.cells
    obtain ⟨f0, f1⟩ := hL.live
    clear hrow hL hg
    by_cases hlt : p < f
    · obtain ⟨D, hD, hT, hE⟩ := HLP.out.map
      have HKW := hide (WalkArith.wf_i64 (n := (p : Int)) (by omega))
      obtain ⟨e1, B, q, e2, e3, e4, e5, e6⟩ := hE (p : Int) HKW.out
      have E1 := hide e1; have E2 := hide e2
      have HVS := hide (Lrn.vals_succ (M := M) htp)
      have HRB := hide e3
      have KB := hide HLP.out.blk
      have OB := hide hD
      have HLT := hide HLP.out.lt
      have s1 := takeS HLP.out.blk hD HKW.out e2 e1
      generalize (M (p : Int)).isSome = y at *
      generalize hxs : (M (p : Int)).getD [] = xs at *
      generalize hol : xs.length = ol at *
      have HOL := hide hol
      obtain ⟨vals, v1, v2, v3⟩ := HROW.out
      have HOWN := hide v1; have V2 := hide v2; have V3 := hide v3
      generalize hl : Lrn.vals M t p = l at *
      have hll : l.length ≤ 4096 := by have := HVL.out; omega
      have HNB : Hid (Value.ownBlock (.slice L l.length c) ≠ some d ∧ Value.ownBlock (.slice L l.length c) ≠ some bm) := hide (by
        have : ∀ b, Value.ownBlock (.slice L l.length c) = some b → ∃ C, wr.heap[b]? = some (.cells C 22) := fun b hb => by
          rcases v1.2 with ⟨h, _⟩ | ⟨g, cap, cur, h, _, hh, _⟩
          · rw [h] at hb; cases hb
          · rw [h] at hb
            have : g = b := by simpa [Value.ownBlock] using hb
            subst this
            exact ⟨_, hh⟩
        refine ⟨fun h => ?_, fun h => ?_⟩
        · obtain ⟨C, hC⟩ := this _ h
          rw [HLP.out.blk] at hC
          injection hC with hC; injection hC with _ hC; exact absurd hC (by decide)
        · obtain ⟨C, hC⟩ := this _ h
          obtain ⟨es, clock, h1, _⟩ := hD
          rw [h1] at hC
          cases hC)
      clear e1 e2 e3 e6 hE hT hD hxs hol v1 v2 v3 hl
      go_wp2_with fail
      go_region_held3 (fun W => W.cell? ⟨d, 0, none⟩ = some (.map (some bm)) ∧ W.cell? ⟨d, 1, none⟩ = some (.int .i64 (p : Int)) ∧ (Instr.lookup 55 (.map (some bm)) (.int .i64 (p : Int)) false).run Try.prog W = .ok (.slice B ol q) W) (first | assumption | exact takeS KB.out OB.out.drew HKW.out E2.out E1.out | exact takeS (blk_alloc K2.out _) (O2.out.alloc _) HKW.out E2.out E1.out) (first
        | (go_at_call 29; (with_reducible refine (clone_any B ol q xs _ (by first | exact HRB.out | exact HRB.out.drew) HOL.out (by omega)).mono ?_); rintro e w2 ⟨A2, c2, rfl, hown2, hb2⟩; have N2 := hide hown2; have HB2 := hide hb2; have K2 := hide ((hb2.block _ HLT.out.1).trans KB.out); have O2 := hide (map_below (w' := w2) OB.out.drew hb2); have s2 := takeS K2.out O2.out HKW.out E2.out E1.out; have HO2 : Hid (w2.ownsRow w.heap.size 22 1 (.slice L l.length c) l.length vals) := hide (own_below (w := wr.drew) HOWN.out hb2); have hsz : w.heap.size ≤ w2.heap.size := Nat.le_trans HG.out.size hb2.size; clear hown2 hb2)
        | (refine step_append_own (by rfl) (.tmp 22) (.tmp 33) 24 (by rfl) w.heap.size 22 i0 (.slice none 0 0) 24 Try.underlying24 hi hz0 hz1 hz2 rfl _ l.length vals (by rfl) (HO2.out.alloc _) (some ⟨w2.heap.size, 0, none⟩) 1 1 [.slice A2 ol c2] (by rfl) (Reads.new w2 _ _ _) rfl (one_one _ rfl) (by unfold maxLen; omega) (by omega) (by simp; omega) ?_; intro A5 c5 w5 n5 g5 t5; have K5 := hide ((g5.block _ (blk_lt (blk_alloc K2.out _)) (fun h => HNB.out.1 h.symm)).trans (blk_alloc K2.out _)); have O5 := hide ((O2.out.alloc _).kept g5 (fun h => HNB.out.2 h.symm)); have s5 := takeS K5.out O5.out HKW.out E2.out E1.out; have N5 := hide n5; have G5 := hide g5; have T5 := hide t5; clear n5 g5 t5))
      obtain ⟨k0, k1⟩ := two_at K5.out
      obtain ⟨l0, l1⟩ := two_live K5.out
      go_wp2
      have hbW : Below wr.heap.size wr (w2.alloc (.cells #[.slice A2 ol c2] 22)) := (((Below.refl _ wr).drew.trans HB2.out).alloc HB2.out.size _)
      have hdlt : d < w.heap.size := HL.out.lt.1
      have hAb : ∀ a, A2 = some a → wr.heap.size ≤ a.block ∧ a.block < w2.heap.size := fun a ha => by subst ha; exact N2.out.lt a.block rfl
      have L5 : LAt w5 d bm n M p (fun g => G g ∨ Value.ownBlock (.slice A5 (l.length + 1) c5) = some g) := (HLP.out.below hbW).grown G5.out (fun h => HNB.out.1 h.symm) (fun h => HNB.out.2 h.symm) (fun r hr => .inr hr) (fun g hg => by
        rcases hg with h | h
        · exact .inl (.inl h)
        · rcases T5.out with h5 | h5
          · exact .inl (.inr (h5.symm.trans h))
          · right
            have : some (w2.alloc (.cells #[.slice A2 ol c2] 22)).heap.size = some g := h5.symm.trans h
            injection this with this
            omega)
      have R5 : RowsAt w5 w.heap.size (.slice A5 (l.length + 1) c5) (l ++ [xs]) := RowsAt.snoc (w := w2.alloc (.cells #[.slice A2 ol c2] 22)) (A := A2) (c := c2) V2.out (fun i hi => by
          obtain ⟨B', q', u1, u2, u3⟩ := V3.out i hi
          exact ⟨B', q', u1, u2.below hbW, fun a ha => ⟨(u3 a ha).1, Nat.lt_of_lt_of_le (u3 a ha).2.1 hbW.size, (u3 a ha).2.2⟩⟩) ((Reads.of_own N2.out).alloc _) (fun a ha => by
          have h5 := hAb a ha
          refine ⟨Nat.le_trans HG.out.size h5.1, by simp; omega, fun he => ?_⟩
          have := (HOWN.out.lt a.block he).2
          omega) (by rw [HOL.out]; exact N5.out) G5.out T5.out
      have G6 : w.grownBy w5 (some d) := (HG.out.andThen (grown_below hbW) (fun j hj => by cases hj)).andThen G5.out (fun j hj => .inl (HOWN.out.lt j hj).1)
      have hlen : (l ++ [xs]).length = l.length + 1 := by simp
      refine ⟨⟨p + 1, A5, c5, ?_, by omega, by omega, ?_, ?_, grownBy_setCell G6 _ _⟩, ?_⟩
      · rw [HVS.out, hlen]
      · rw [HVS.out, hlen]; exact R5.setOld d 1 _ hdlt
      · rw [HVS.out, hlen, show ((p : Int) + 1) = ((p + 1 : Nat) : Int) by omega]
        exact L5.took (fun j hj => HFA.out j (by omega)) (by omega)
      · show f - t - (l.length + 1) < f - t - l.length
        have := HVL.out
        omega
    · obtain rfl : p = f := by omega
      go_wp2
      go_ret
      exact FIN.out L c wr HROW.out (HLP.out.less (fun g hg => .inl hg)) HG.out

end Go.Proofs.Ytodlabpgjgbbpae
