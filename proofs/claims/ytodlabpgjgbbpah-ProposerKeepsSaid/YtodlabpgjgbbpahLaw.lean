/-
  From a walk to a row: a call that returns true, and leaves all that was there as it was, does what the law's row says, whatever its arguments' types. Over any program.
-/
import Derived.WalkKit
import Derived.ProofKit
import Derived.OpenShut
import Derived.SizedLaws
import Derived.Lib.SmallJoins
import Derived.Deep.Slices
import Derived.Test.YtodlabpgjgbbpahWords
namespace Go.Agio
open Go.ChangeShapes Go.WideShapes Go.ChangeAt Go.RowKit

section
variable {H : Type} {enc : TypeId × Value → H} {P : Program} {W W' : World}

/-- What was read reads as it did, where all that was there is as it was. -/
theorem trodAll_stays (hl : laidOutB P = true) (hb : Below W.heap.size W W') : ∀ {ts : List TypeId} {vs : List Value} {ds : List (DataW H)} {ps : List MemPlace},
    (∀ t ∈ ts, P.readableRec t = true ∧ t < P.types.size) → DataW.TrodAll enc P W 0 (fun _ => true) true ts vs ds ps → (∀ x ∈ ps, x.block < W.heap.size) →
    DataW.TrodAll enc P W' 0 (fun b => decide (b < W.heap.size)) true ts vs ds ps
  | [], [], [], _, _, h, _ => h
  | t :: ts, v :: vs, d :: ds, ps, hts, h, hlt => by
    obtain ⟨p, q, h1, h2, rfl⟩ := h
    obtain ⟨hr, hrow⟩ := hts t (by simp)
    exact ⟨p, q, Below.trod hl hr hrow h1 hb (fun x hx => hlt x (by simp [hx])), trodAll_stays hl hb (fun u hu => hts u (by simp [hu])) h2 (fun x hx => hlt x (by simp [hx])), rfl⟩
  | [], _ :: _, _, _, _, h, _ => h.elim
  | [], [], _ :: _, _, _, h, _ => h.elim
  | _ :: _, [], _, _, _, h, _ => h.elim
  | _ :: _, _ :: _, [], _, _, h, _ => h.elim

/-- THE ROW's STEP BEHIND THE WALK: the call has returned true, and all that was there is as it was. -/
theorem post_law {f : Func} {s : ChangeSpec} {args : Array Value} {ds gs : List (DataW H)} {before : List MemPlace} {tb : TypeId} (hl : laidOutB P = true)
    (hts : f.params.toList.all (fun t => P.readableRec t && decide (t < P.types.size)) = true) (hv : s.vars = [])
    (hW : DataW.Whole enc P f.params.toList s.vars false W args.toList ds gs before)
    (hs : ∀ gs : List (DataW H), gs = [] → s.fn H (ds ++ gs) = { results := [.lit (.bool true)], args := ds }) (hr : f.resultTypes = #[tb]) (ub : P.underlying tb = some .bool) (hb : Below W.heap.size W W') :
    s.post enc P f false true false false W args (.bool true) W' := by
  have hlt : ∀ p ∈ before, p.block < W.heap.size := fun p hp => hW.lt p hp
  have hW0 := hW
  obtain ⟨p, q, hA, hV, rfl, _, _⟩ := hW
  rw [hv] at hV
  obtain ⟨rfl, rfl⟩ := trodVars_none hV
  have hsd := hs [] rfl
  simp only [List.append_nil] at hW0 hsd hlt ⊢
  refine ⟨ds, [], p, [], p, [], hW0, ?_, ?_, ?_, hb.frame _, fun h => by cases h⟩
  · rw [List.append_nil, hsd, hr]
    exact trodAll_mk1 (shut_bool ub true)
  · rw [List.append_nil, hsd]
    refine trodAll_stays hl hb (fun t ht => ?_) hA hlt
    have := List.all_eq_true.1 hts t ht
    simpa using this
  · rw [List.append_nil, hsd, hv]
    exact rfl

/-- A slice of numbers, opened: nil, empty or not. -/
theorem open_nums {t e : TypeId} {k : IntKind} {r : Reach} {b0 : Nat} {v : Value} {d : DataW H} {p : List MemPlace} (ht : P.underlying t = some (.slice e)) (he : P.underlying e = some (.int k)) (hc : P.cellsOf e = 1)
    (hval : Value.okWide P W r b0 t v) (h : DataW.Trod enc P W 0 (fun _ => true) true t v d p) :
    ∃ (A : Option Addr) (cap : Nat) (zs : List Int), v = .slice A zs.length cap ∧ zs.length ≤ cap ∧ cap ≤ maxLen ∧ Reads W A (zs.map (Value.int k)) ∧ (∀ z ∈ zs, (Lit.int k z).wf = true) ∧
      (zs.length = 0 ∨ ∃ elems spare, d = .slice elems spare ∧ elems.length = zs.length) := by
  obtain ⟨a0, len, cap, rfl⟩ := okWide_slice ht hval
  obtain ⟨fuel, hf⟩ := h
  rcases open_ints ht he hc hf with ⟨hcs, _⟩ | ⟨a, len', cap', zs, hcs, _, hl, hm, hz, hx, hcell, hwz⟩
  · simp [Value.cells] at hcs
    obtain ⟨rfl, rfl, rfl⟩ := hcs
    exact ⟨none, 0, [], rfl, Nat.le_refl _, by unfold maxLen; omega, .nil _ _, fun _ h => by simp at h, .inl rfl⟩
  · simp [Value.cells] at hcs
    obtain ⟨rfl, rfl, rfl⟩ := hcs
    simp only [if_true] at hz
    have hlen : (zs.take len).length = len := by simp; omega
    simp only [Prod.mk.injEq] at hx
    refine ⟨some a, cap, zs.take len, by rw [hlen], by omega, hm, ?_, fun z hzm => hwz z (List.mem_of_mem_take hzm), .inr ⟨_, _, hx.1, by simp [lits]⟩⟩
    by_cases h0 : zs.length = 0
    · left
      have : zs = [] := List.eq_nil_of_length_eq_zero h0
      subst this; simp
    · obtain ⟨b, off, rfl, hcc⟩ := ints_at hcell (by omega)
      right
      refine ⟨b, off, rfl, ?_, fun i hi => ?_⟩
      · have h0 := hcc 0 (by omega)
        rcases Nat.lt_or_ge b W.heap.size with hlt | hge
        · exact hlt
        · unfold World.cell? at h0
          rw [Array.getElem?_eq_none hge] at h0
          simp at h0
      · have hi' : i < len := by rw [List.length_map, hlen] at hi; exact hi
        rw [hcc i (by omega), getD_map_int k _ (by omega)]
        simp [List.getD_eq_getElem?_getD, hi']

/-- How many elements a slice that was read has, by the form's own reach. -/
theorem reach_nums {ts : List TypeId} {ds : List (DataW H)} (h : (DataW.weightsEach P ts ds).all (· ≤ reachBytes) = true) {j : Nat} {t e : TypeId} {d : DataW H} {n m : Nat} (ht : ts[j]? = some t) (hd : ds[j]? = some d) (hu : P.underlying t = some (.slice e))
    (hn : n = 0 ∨ ∃ elems spare, d = .slice elems spare ∧ elems.length = n) (hby : P.bytesOf e = m) : n * m ≤ 140737488351232 := by
  rcases hn with rfl | ⟨elems, spare, rfl, rfl⟩
  · omega
  · have := sized_slice h ht hd hu
    rw [hby] at this
    have h2 : elems.length * m ≤ (elems.length + spare.length) * m := Nat.mul_le_mul_right _ (by omega)
    unfold reachBytes at this
    omega

/-- The slice at A has n elements of C cells each: the i-th has the cells V i. -/
def Rows (w : World) (A : Option Addr) (n C : Nat) (V : Nat → List Value) : Prop :=
  n = 0 ∨ ∃ b off, A = some ⟨b, off, none⟩ ∧ b < w.heap.size ∧ ∀ i, i < n → ∀ j, j < C → w.cell? ⟨b, off + i * C + j, none⟩ = some ((V i).getD j undef)
theorem Rows.at_ {w : World} {A : Option Addr} {n C : Nat} {V : Nat → List Value} (h : Rows w A n C V) {k : Nat} (hk : k < n) :
    ∃ b off, A = some ⟨b, off, none⟩ ∧ b < w.heap.size ∧ ∀ i, i < n → ∀ j, j < C → w.cell? ⟨b, off + i * C + j, none⟩ = some ((V i).getD j undef) := by
  rcases h with rfl | h
  · omega
  · exact h
theorem Rows.below {w w' : World} {A : Option Addr} {n C : Nat} {V : Nat → List Value} (h : Rows w A n C V) (hb : Below w.heap.size w w') : Rows w' A n C V := by
  rcases h with h | ⟨b, off, e, hlt, hc⟩
  · exact .inl h
  · exact .inr ⟨b, off, e, Nat.lt_of_lt_of_le hlt hb.size, fun i hi j hj => (hb.cell (p := ⟨b, _, none⟩) hlt).trans (hc i hi j hj)⟩

theorem Rows.congr {w : World} {A : Option Addr} {n C : Nat} {V V' : Nat → List Value} (h : Rows w A n C V) (he : ∀ i, i < n → V i = V' i) : Rows w A n C V' := by
  rcases h with h | ⟨b, off, e, hlt, hc⟩
  · exact .inl h
  · exact .inr ⟨b, off, e, hlt, fun i hi j hj => by rw [← he i hi]; exact hc i hi j hj⟩

/-- A slice of whatever elements, opened: its cells, and the reading of each element. -/
theorem open_rows {t e : TypeId} {C : Nat} {r : Reach} {b0 : Nat} {v : Value} {d : DataW H} {p : List MemPlace} (ht : P.underlying t = some (.slice e)) (hC : P.cellsOf e = C) (hC0 : 0 < C)
    (hval : Value.okWide P W r b0 t v) (h : DataW.Trod enc P W 0 (fun _ => true) true t v d p) :
    ∃ (A : Option Addr) (cap n : Nat) (V : Nat → List Value) (fuel : Nat) (D : Nat → DataW H), v = .slice A n cap ∧ n ≤ cap ∧ cap ≤ maxLen ∧ Rows W A n C V ∧
      (∀ i, i < n → (V i).length = C ∧ ∃ Pl, DataW.trod enc P W 0 (fun _ => true) true fuel e (V i) = some (D i, Pl)) ∧
      (n = 0 ∨ ∃ elems spare, d = .slice elems spare ∧ elems.length = n ∧ ∀ i, i < n → elems[i]? = some (D i)) := by
  obtain ⟨a0, len, cap, rfl⟩ := okWide_slice ht hval
  obtain ⟨fuel, hf⟩ := h
  rcases Deep.open_slice ht hf with ⟨hcs, _⟩ | ⟨a, len', cap', m, n, D, Pl, hcs, _, hl, hm, hmm, hx, hel⟩
  · simp [Value.cells] at hcs
    obtain ⟨rfl, rfl, rfl⟩ := hcs
    exact ⟨none, 0, 0, fun _ => [], 0, fun _ => .nil, rfl, Nat.le_refl _, by unfold maxLen; omega, .inl rfl, fun i hi => by omega, .inl rfl⟩
  · simp [Value.cells] at hcs
    obtain ⟨rfl, rfl, rfl⟩ := hcs
    simp only [if_true] at hmm
    simp only [Prod.mk.injEq] at hx
    rw [hC] at hel
    have hel' : ∀ i, ∃ cs' : List Value, i < m → W.cells? 0 (a.add (i * C)) C = some cs' ∧ DataW.trod enc P W 0 (fun _ => true) true n e cs' = some (D i, Pl i) := fun i => by
      by_cases hi : i < m
      · obtain ⟨cs', h1, h2⟩ := hel i hi
        exact ⟨cs', fun _ => ⟨h1, h2⟩⟩
      · exact ⟨[], fun h => absurd h hi⟩
    obtain ⟨V, hV⟩ : ∃ V : Nat → List Value, ∀ i, i < m → W.cells? 0 (a.add (i * C)) C = some (V i) ∧ DataW.trod enc P W 0 (fun _ => true) true n e (V i) = some (D i, Pl i) :=
      ⟨fun i => Classical.choose (hel' i), fun i hi => Classical.choose_spec (hel' i) hi⟩
    clear hel' hel
    refine ⟨some a, cap, len, V, n, D, rfl, hl, hm, ?_, fun i hi => ?_, ?_⟩
    · by_cases h0 : len = 0
      · exact .inl h0
      · right
        obtain ⟨b, off, spot⟩ := a
        have h00 := World.cells?_some (hV 0 (by omega)).1
        have hc0 := h00.2.2 0 hC0
        have hsp : spot = none := by
          have hlt : 0 < (V 0).length := by rw [h00.2.1]; exact hC0
          rw [List.getElem?_eq_getElem hlt] at hc0
          simpa [Addr.add] using World.cell?_spot hc0
        subst hsp
        have hcell : ∀ i, i < len → ∀ j, j < C → W.cell? ⟨b, off + i * C + j, none⟩ = some ((V i).getD j undef) := fun i hi j hj => by
          have hi' := World.cells?_some (hV i (by omega)).1
          have hj' := hi'.2.2 j hj
          rw [add_plain, add_plain] at hj'
          rw [hj', List.getD_eq_getElem?_getD, List.getElem?_eq_getElem (by rw [hi'.2.1]; exact hj)]
          rfl
        refine ⟨b, off, rfl, ?_, hcell⟩
        have hx0 := hcell 0 (by omega) 0 hC0
        rcases Nat.lt_or_ge b W.heap.size with hlt | hge
        · exact hlt
        · unfold World.cell? at hx0
          rw [Array.getElem?_eq_none hge] at hx0
          simp at hx0
    · have hi' := hV i (by omega)
      exact ⟨(World.cells?_some hi'.1).2.1, Pl i, hi'.2⟩
    · right
      exact ⟨_, _, hx.1, by simp, fun i hi => by simp [hi]⟩
end
end Go.Agio
