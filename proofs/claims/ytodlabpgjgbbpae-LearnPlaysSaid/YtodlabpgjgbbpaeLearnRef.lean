/-
  What the document's functions of learn do: a list of pairs.
-/
import Derived.Test.YtodlabpgjgbbpaeLearnBegins
namespace Go.Proofs.Ytodlabpgjgbbpae
open Go.RowKit Go.Agio

theorem infoP : (Try.prog.info? 65).map (fun i => (i.zero, i.size, i.bytes)) = some (some (.agg #[.int .i64 0, .slice none 0 0]), 2, 32) := by kernel_rfl
theorem infoI : (Try.prog.info? 3).map (fun i => (i.zero, i.size, i.bytes)) = some (some (.int .i64 0), 1, 8) := by kernel_rfl

/-- What an owned row of whatever elements reads as. -/
theorem reads_own {w : World} {base : Nat} {e : TypeId} {size : Nat} {A : Option Addr} {n c : Nat} {xs : List Value} (h : w.ownsRow base e size (.slice A n c) n xs) : Reads w A xs := by
  rcases h.2 with ⟨he, hn⟩ | ⟨g, cap, cur, he, _, hh, _, _, hcs, htake⟩
  · left
    have := h.1
    rw [hn] at this
    exact List.eq_nil_of_length_eq_zero (by simpa using this)
  · right
    have hlt : g < w.heap.size := by
      rcases Nat.lt_or_ge g w.heap.size with hlt | hge
      · exact hlt
      · rw [Array.getElem?_eq_none hge] at hh; cases hh
    have hA : A = some ⟨g, 0, none⟩ := by injection he
    refine ⟨g, 0, hA, hlt, fun i hi => ?_⟩
    subst hA
    have hc := h.cells (g := g) rfl i xs[i] (List.getElem?_eq_getElem hi)
    rw [WideShapes.add_plain] at hc
    rw [hc]
    simp [List.getD_eq_getElem?_getD, hi]
theorem own_later {w w' : World} {base n size : Nat} {e : TypeId} {v : Value} {xs : List Value} (h : w.ownsRow base e size v n xs) (hb : Below w.heap.size w w') : w'.ownsRow base e size v n xs := by
  refine ⟨h.1, ?_⟩
  rcases h.2 with hn | ⟨g, cap, cur, hv, hbg, hh, rest⟩
  · exact .inl hn
  · exact .inr ⟨g, cap, cur, hv, hbg, (hb.block _ (blk_lt hh)).trans hh, rest⟩

/-- The bytes lie below, if there are any. -/
def Low (B : Option Addr) (v : List Int) (lim : Nat) : Prop := v = [] ∨ ∀ a, B = some a → a.block < lim
theorem low_of {w : World} {B : Option Addr} {v : List Int} (h : Reads w B (bys v)) : Low B v w.heap.size := by
  rcases h with h | ⟨b, off, e, hlt, _⟩
  · left; cases v with
    | nil => rfl
    | cons x t => simp [bys] at h
  · right; intro a ha; rw [e] at ha; injection ha with ha; subst ha; exact hlt
/-- One pair's two cells. -/
def PairIs (w : World) (lim : Nat) (cs : List Value) (i : Nat) (p : Int × List Int) : Prop :=
  cs.getD (2 * i) undef = .int .i64 p.1 ∧ ∃ B q, cs.getD (2 * i + 1) undef = .slice B p.2.length q ∧ Reads w B (bys p.2) ∧ okRow p.2 ∧ p.2.length ≤ 2048 ∧ Low B p.2 lim
/-- A list of pairs of the law's own, whose values lie below lim. -/
def Prs (w : World) (b0 lim : Nat) (A : Option Addr) (c : Nat) (X : List (Int × List Int)) : Prop :=
  ∃ cs, w.ownsRow b0 65 2 (.slice A X.length c) X.length cs ∧ ∀ i, i < X.length → PairIs w lim cs i (X.getD i (0, []))
theorem prs_nil (w : World) (b0 lim : Nat) : Prs w b0 lim none 0 [] := ⟨[], World.ownsRow_nil _ _ _ _, fun i hi => by simp at hi⟩
theorem PairIs.keep {w w' : World} {lim : Nat} {cs : List Value} {i : Nat} {p : Int × List Int} (h : PairIs w lim cs i p) (hb : ∀ b, b < lim → w'.heap[b]? = w.heap[b]?) (hs : w.heap.size ≤ w'.heap.size) : PairIs w' lim cs i p := by
  obtain ⟨h1, B, q, h2, h3, h4, h5, h6⟩ := h
  refine ⟨h1, B, q, h2, ?_, h4, h5, h6⟩
  rcases h3 with h | ⟨b, off, e, hlt, hc⟩
  · exact .inl h
  · rcases h6 with h6 | h6
    · rw [h6]; exact .inl rfl
    · exact .inr ⟨b, off, e, Nat.lt_of_lt_of_le hlt hs, fun k hk => by
        rw [← hc k hk]
        exact World.cell?_of_block (a := ⟨b, off + k, none⟩) (hb b (h6 _ e))⟩
theorem Prs.below {w w' : World} {b0 lim : Nat} {A : Option Addr} {c : Nat} {X : List (Int × List Int)} (h : Prs w b0 lim A c X) (hl : lim ≤ w.heap.size) (hb : Below w.heap.size w w') : Prs w' b0 lim A c X := by
  obtain ⟨cs, h1, h2⟩ := h
  exact ⟨cs, own_later h1 hb, fun i hi => (h2 i hi).keep (fun b hlt => hb.block b (by omega)) hb.size⟩
theorem Prs.grown {w w' : World} {b0 lim m : Nat} {A : Option Addr} {c : Nat} {X : List (Int × List Int)} (h : Prs w b0 lim A c X) (hl : lim ≤ w.heap.size) (hg : w.grownBy w' (some m)) (h0 : m < b0) (h1 : lim ≤ m) : Prs w' b0 lim A c X := by
  obtain ⟨cs, k1, k2⟩ := h
  exact ⟨cs, k1.kept hg (.inr fun he => by have := (k1.lt m he).1; omega), fun i hi => (k2 i hi).keep (fun b hlt => hg.block b (by omega) (fun he => by injection he with he; omega)) hg.size⟩
theorem Prs.at_ {w : World} {b0 lim : Nat} {A : Option Addr} {c : Nat} {X : List (Int × List Int)} (h : Prs w b0 lim A c X) {i : Nat} (hi : i < X.length) :
    ∃ b off B q, A = some ⟨b, off, none⟩ ∧ b < w.heap.size ∧ w.cell? ⟨b, off + i * 2, none⟩ = some (.int .i64 (X.getD i (0, [])).1) ∧ w.cell? ⟨b, off + i * 2 + 1, none⟩ = some (.slice B (X.getD i (0, [])).2.length q) ∧ Reads w B (bys (X.getD i (0, [])).2) ∧ okRow (X.getD i (0, [])).2 ∧ (X.getD i (0, [])).2.length ≤ 2048 ∧ Low B (X.getD i (0, [])).2 lim := by
  obtain ⟨cs, k1, k2⟩ := h
  have hl : cs.length = X.length * 2 := k1.1
  obtain ⟨h1, B, q, h2, h3⟩ := k2 i hi
  obtain ⟨b, off, rfl, hb, hc⟩ := (reads_own k1).at_ (k := 2 * i) (by omega)
  refine ⟨b, off, B, q, rfl, hb, ?_, ?_, h3⟩
  · rw [show i * 2 = 2 * i by omega, hc _ (by omega), h1]
  · rw [show off + i * 2 + 1 = off + (2 * i + 1) by omega, hc _ (by omega), h2]

/-- The first pair of a slot. -/
theorem get_at {X : List (Int × List Int)} {k : Int} {i : Nat} (hi : i < X.length) (hk : (X.getD i (0, [])).1 = k) (h : ∀ j, j < i → (X.getD j (0, [])).1 ≠ k) : Lrn.get X k = some (X.getD i (0, [])).2 := by
  unfold Lrn.get
  have : X.find? (fun p => p.1 == k) = some (X.getD i (0, [])) := by
    rw [List.getD_eq_getElem?_getD, List.getElem?_eq_getElem hi, Option.getD_some] at hk ⊢
    refine List.find?_eq_some_iff_getElem.2 ⟨by simpa using hk, i, hi, rfl, fun j hj => ?_⟩
    have := h j hj
    rw [List.getD_eq_getElem?_getD, List.getElem?_eq_getElem (by omega), Option.getD_some] at this
    simpa using this
  rw [this]
  rfl
theorem get_none {X : List (Int × List Int)} {k : Int} (h : ∀ j, j < X.length → (X.getD j (0, [])).1 ≠ k) : Lrn.get X k = none := by
  unfold Lrn.get
  have : X.find? (fun p => p.1 == k) = none := by
    rw [List.find?_eq_none]
    intro x hx
    obtain ⟨i, hi, rfl⟩ := List.getElem_of_mem hx
    have := h i hi
    rw [List.getD_eq_getElem?_getD, List.getElem?_eq_getElem hi, Option.getD_some] at this
    simpa using this
  rw [this]
  rfl

/-- What Get answers. -/
def GetIs (w w' : World) (lim : Nat) (o : Option (List Int)) (e : Ending) : Prop :=
  ∃ B q, e = .returned (.tuple #[.slice B (o.getD []).length q, .bool o.isSome]) ∧ Reads w B (bys (o.getD [])) ∧ okRow (o.getD []) ∧ (o.getD []).length ≤ 2048 ∧ Low B (o.getD []) lim ∧ w = w'
theorem GetIs.none_ (w : World) (lim : Nat) : GetIs w w lim none (.returned (.tuple #[.slice none 0 0, .bool false])) :=
  ⟨none, 0, rfl, Reads.nil _ _, fun _ hz => absurd hz (List.not_mem_nil), Nat.zero_le _, .inl rfl, rfl⟩
theorem GetIs.some_ {w : World} {lim : Nat} {v : List Int} {B : Option Addr} {q : Nat} (h : Reads w B (bys v)) (ho : okRow v) (hl : v.length ≤ 2048) (hb : Low B v lim) : GetIs w w lim (some v) (.returned (.tuple #[.slice B v.length q, .bool true])) :=
  ⟨B, q, rfl, h, ho, hl, hb, rfl⟩

set_option maxRecDepth 100000 in
set_option maxHeartbeats 2000000 in
theorem rget_any (b0 lim : Nat) (A : Option Addr) (c : Nat) (X : List (Int × List Int)) (k : Int) (w : World) (hX : Prs w b0 lim A c X) (hm : X.length ≤ 100000) :
    Calls Try.prog 25 #[.slice A X.length c, .int .i64 k] w fun e w' => GetIs w w' lim (Lrn.get X k) e := by
  have HX := hide hX
  clear hX
  go_enter Try.func25, Try.ntmps25
  go_wp2_with fail
  go_loop [6] (fun s => ∃ i : Nat, s = .int .i64 i ∧ i ≤ X.length ∧ Hid (∀ j, j < i → (X.getD j (0, [])).1 ≠ k)) (fun s => X.length - (intOf s).toNat)
  case atStart => exact ⟨0, rfl, Nat.zero_le _, hide (fun j hj => absurd hj (Nat.not_lt_zero _))⟩
  case round =>
    obtain ⟨i, rfl, hi, HJ⟩ := hrel
    by_cases hlt : i < X.length
    · obtain ⟨b, off, B, q, rfl, hb, hc1, hc2, hr, ho, hl, hbl⟩ := HX.out.at_ hlt
      have HG := hide (fun (h : (X.getD i (0, [])).1 = k) => get_at hlt h HJ.out)
      have HN := hide (fun (h : (X.getD i (0, [])).1 ≠ k) (j : Nat) (hj : j < i + 1) => show (X.getD j (0, [])).1 ≠ k from by
        rcases Nat.lt_or_ge j i with h' | h'
        · exact HJ.out j h'
        · obtain rfl : j = i := by omega
          exact h)
      generalize X.getD i (0, []) = p at *
      obtain ⟨p1, p2⟩ := p
      simp only at hc1 hc2 hr ho hl HG HN
      by_cases hk : p1 = k
      · subst hk
        have HG' := hide (HG.out rfl)
        clear HG HN
        have HO := hide ho; have HL := hide hl; have HBL := hide hbl; have HRR := hide hr
        clear ho hl hbl hr
        go_wp2
        go_ret2
        rw [HG'.out]
        exact GetIs.some_ HRR.out HO.out HL.out HBL.out
      · have HN' := hide (HN.out hk)
        clear HG HN hr ho hl hbl
        go_wp2
        go_round
        case rel => exact ⟨i + 1, by go_num, by omega, HN'⟩
        case measure => simp [intOf]; omega
    · obtain rfl : i = X.length := by omega
      have HG := hide (get_none HJ.out)
      go_wp2
      go_ret2
      rw [HG.out]
      exact GetIs.none_ _ _

end Go.Proofs.Ytodlabpgjgbbpae
