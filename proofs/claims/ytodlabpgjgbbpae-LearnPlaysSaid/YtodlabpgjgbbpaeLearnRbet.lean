/-
  What the document's Between does.
-/
import Derived.Test.YtodlabpgjgbbpaeLearnRfront
import Derived.Test.YtodlabpgjgbbpaeLearnSame
namespace Go.Proofs.Ytodlabpgjgbbpae
open Go.RowKit Go.Agio

/-- What lies low was there ahead. -/
theorem reads_back {w wr : World} {n : Nat} {B : Option Addr} {xs : List Value} (h : Reads wr B xs) (hb : Below n w wr) (hn : n ≤ w.heap.size) (hB : xs = [] ∨ ∀ a, B = some a → a.block < n) : Reads w B xs := by
  rcases h with h | ⟨b, off, e, hlt, hc⟩
  · exact .inl h
  rcases hB with h | hB
  · exact .inl h
  · exact .inr ⟨b, off, e, Nat.lt_of_lt_of_le (hB _ e) hn, fun k hk => by
      rw [← hc k hk]
      exact (World.cell?_of_block (a := ⟨b, off + k, none⟩) (hb.block b (hB _ e))).symm⟩

def RBet (w : World) (l : List (List Int)) (e : Ending) (w' : World) : Prop := ∃ A c, e = .returned (.slice A l.length c) ∧ RowsRd w' A l ∧ Below w.heap.size w w'
/-- Rows that lie below. -/
def LowRows (w : World) (vs : List Value) (l : List (List Int)) : Prop := vs.length = l.length ∧ ∀ i, i < l.length → ∃ B q, vs.getD i undef = .slice B (l.getD i []).length q ∧ Reads w B (bys (l.getD i []))
theorem LowRows.snoc {w : World} {vs : List Value} {l : List (List Int)} (h : LowRows w vs l) {B : Option Addr} {q m : Nat} {x : List Int} (hm : x.length = m) (hR : Reads w B (bys x)) : LowRows w (vs ++ [.slice B m q]) (l ++ [x]) := by
  subst hm
  obtain ⟨h1, h2⟩ := h
  refine ⟨by simp [h1], fun i hi => ?_⟩
  rcases Nat.lt_or_ge i l.length with hlt | hge
  · obtain ⟨B', q', g1, g2⟩ := h2 i hlt
    rw [show (l ++ [x]).getD i [] = l.getD i [] by simp [List.getD_eq_getElem?_getD, List.getElem?_append_left hlt]]
    exact ⟨B', q', by rw [← g1]; simp [List.getD_eq_getElem?_getD, List.getElem?_append_left (show i < vs.length by omega)], g2⟩
  · obtain rfl : i = l.length := by simp at hi; omega
    rw [show (l ++ [x]).getD l.length [] = x by simp [List.getD_eq_getElem?_getD]]
    exact ⟨B, q, by rw [List.getD_eq_getElem?_getD, ← h1]; simp, hR⟩
theorem LowRows.rd {w w' : World} {base c : Nat} {A : Option Addr} {vs : List Value} {l : List (List Int)} (h : LowRows w vs l) (ho : w'.ownsRow base 22 1 (.slice A l.length c) l.length vs) (hb : Below w.heap.size w w') : RowsRd w' A l :=
  ⟨vs, Reads.of_own ho, h.1, fun i hi => by obtain ⟨B, q, g1, g2⟩ := h.2 i hi; exact ⟨B, q, g1, g2.below hb⟩⟩

set_option maxRecDepth 100000 in
set_option maxHeartbeats 4000000 in
theorem rbetween_any (b0 lim : Nat) (A : Option Addr) (c : Nat) (X : List (Int × List Int)) (a b : Nat) (w : World) (hX : Prs w b0 lim A c X) (hm : X.length ≤ 100000) (hl : lim ≤ w.heap.size) (hab : a ≤ b) (hb4 : b ≤ 4096) :
    Calls Try.prog 22 #[.slice A X.length c, .int .i64 (a : Int), .int .i64 (b : Int)] w (RBet w (Lrn.vals (Lrn.get X) a b)) := by
  obtain ⟨i0, hi0, hz0, hz1, hz2⟩ := info_parts info22
  have CG := hide (fun k (wr : World) (hb : Below w.heap.size w wr) => rget_any b0 lim A c X k wr (hX.below hl hb) hm)
  generalize Lrn.get X = M at *
  clear hX
  go_enter Try.func22, Try.ntmps22
  go_wp2_with fail
  go_loopw [7, 8] (fun v s wr => ∃ (k : Nat) (L : Option Addr) (q : Nat) (vs : List Value), a ≤ k ∧ k ≤ b ∧ s = .int .i64 k ∧ v = .slice L (Lrn.vals M a k).length q ∧ wr.ownsRow w.heap.size 22 1 (.slice L (Lrn.vals M a k).length q) (Lrn.vals M a k).length vs ∧ Hid (LowRows w vs (Lrn.vals M a k)) ∧ Below w.heap.size w wr) (fun _ s _ => b - (intOf s).toNat)
  case atStart => exact ⟨a, none, 0, [], Nat.le_refl _, hab, rfl, by rw [Lrn.vals_start]; rfl, by rw [Lrn.vals_start]; exact World.ownsRow_nil _ _ _ _, hide (by rw [Lrn.vals_start]; exact ⟨rfl, fun i hi => by simp at hi⟩), Below.refl _ _⟩
  case round =>
    obtain ⟨k, L, q, vs, hak, hkb, rfl, rfl, hown, HLR, hbr⟩ := hrel
    have Hown := hide hown
    have HBR := hide hbr
    clear hown hbr
    by_cases hlt : k < b
    · have hlt' : (k : Int) < (b : Int) := by omega
      have HL := hide (Lrn.vals_len (M := M) hak)
      have HS := hide (Lrn.vals_succ (M := M) hak)
      go_wp2_with fail
      refine (CG.out _ _ HBR.out).mono ?_
      rintro e w1 ⟨B1, q1, rfl, r1, o1, l1, b1, rfl⟩
      have HRB := hide (reads_back r1 HBR.out (Nat.le_refl _) (b1.elim (fun h => .inl (by rw [h]; rfl)) (fun h => .inr (fun a ha => Nat.lt_of_lt_of_le (h a ha) hl))))
      clear r1 o1 l1 b1
      generalize (M (k : Int)).getD [] = x at *
      generalize (M (k : Int)).isSome = y at *
      generalize Lrn.vals M a k = l at *
      go_wp2_with (at_builtin; apply halted)
      refine unhalt (wpList_append_reads rfl (.tmp 23) (.tmp 25) 24 rfl w.heap.size 22 i0 (.slice none 0 0) 24 Try.underlying24 hi0 hz0 hz1 hz2 rfl _ l.length vs rfl (Hown.out.alloc _) (some ⟨wr.heap.size, 0, none⟩) 1 1 [.slice B1 x.length q1] rfl (Reads.new_at _ _ _ _ _ rfl) rfl (one_one _ rfl) (by have := HL.out; unfold maxLen; omega) (by have := HL.out; omega) (by simp; have := HBR.out.size; omega) ?_)
      intro A' c' w2 n2 g2 t2
      have HB := hide ((HBR.out.alloc HBR.out.size _).grown g2 (by simp; have := HBR.out.size; omega) (fun g hg => (Hown.out.lt g hg).1))
      have N2 := hide n2
      clear n2 g2 t2
      go_wp2
      go_roundw
      case rel => exact ⟨k + 1, A', c', vs ++ [.slice B1 x.length q1], by omega, by omega, by go_num, by rw [HS.out]; simp, by rw [HS.out]; simpa using N2.out, hide (by rw [HS.out]; exact HLR.out.snoc rfl HRB.out), HB.out⟩
      case measure => simp [intOf]; omega
    · obtain rfl : k = b := by omega
      go_wp2
      go_ret
      exact ⟨L, q, rfl, HLR.out.rd Hown.out HBR.out, HBR.out⟩

end Go.Proofs.Ytodlabpgjgbbpae
