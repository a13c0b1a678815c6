/-
  What stands in a slice's element, opened: numbers, a bool, a slice of numbers. Over any program.
-/
import Derived.Test.YtodlabpgjgbbpahLaw
import Derived.Deep.Strs
namespace Go.Agio
open Go.ChangeShapes Go.WideShapes Go.ChangeAt Go.RowKit

section
variable {H : Type} {enc : TypeId × Value → H} {P : Program} {W : World}

/-- A cell that holds a slice of numbers. -/
theorem trod_nums {t e : TypeId} {k : IntKind} {fuel : Nat} {cs : List Value} {x : DataW H × List MemPlace} (ht : P.underlying t = some (.slice e)) (he : P.underlying e = some (.int k)) (hc : P.cellsOf e = 1)
    (hf : DataW.trod enc P W 0 (fun _ => true) true fuel t cs = some x) :
    ∃ (A : Option Addr) (cap : Nat) (zs : List Int), cs = [.slice A zs.length cap] ∧ zs.length ≤ cap ∧ cap ≤ maxLen ∧ Reads W A (zs.map (Value.int k)) ∧ (∀ z ∈ zs, (Lit.int k z).wf = true) ∧
      (zs.length = 0 ∨ ∃ elems spare, x.1 = .slice elems spare ∧ elems.length = zs.length) := by
  rcases open_ints ht he hc hf with ⟨hcs, _⟩ | ⟨a, len, cap, zs, hcs, _, hl, hm, hz, hx, hcell, hwz⟩
  · exact ⟨none, 0, [], by simpa using hcs, Nat.le_refl _, by unfold maxLen; omega, .nil _ _, fun _ h => by simp at h, .inl rfl⟩
  · simp only [if_true] at hz
    have hlen : (zs.take len).length = len := by simp; omega
    refine ⟨some a, cap, zs.take len, by rw [hlen]; exact hcs, by omega, hm, ?_, fun z hzm => hwz z (List.mem_of_mem_take hzm), .inr ⟨_, _, by rw [hx], by simp [lits]⟩⟩
    by_cases h0 : zs.length = 0
    · left
      have : zs = [] := List.eq_nil_of_length_eq_zero h0
      subst this; simp
    · obtain ⟨b, off, rfl, hcc⟩ := ints_at hcell (by omega)
      right
      refine ⟨b, off, rfl, ?_, fun i hi => ?_⟩
      · have h0 := hcc 0 (by omega)
        rcases Nat.lt_or_ge b W.heap.size with hlt | hge
        · exact hlt
        · unfold World.cell? at h0
          rw [Array.getElem?_eq_none hge] at h0
          simp at h0
      · have hi' : i < len := by rw [List.length_map, hlen] at hi; exact hi
        rw [hcc i (by omega), getD_map_int k _ (by omega)]
        simp [List.getD_eq_getElem?_getD, hi']

/-- All that a datum takes up is within the form's own reach. -/
def Sized (P : Program) (t : TypeId) (d : DataW H) : Prop := ∀ n ∈ d.weights P t, n ≤ reachBytes
theorem sized_arg {ts : List TypeId} {ds : List (DataW H)} (h : (DataW.weightsEach P ts ds).all (· ≤ reachBytes) = true) {j : Nat} {t : TypeId} {d : DataW H} (ht : ts[j]? = some t) (hd : ds[j]? = some d) : Sized P t d := fun n hn => by
  have := List.all_eq_true.1 h n (DataW.weights_mem_each ht hd n hn)
  simpa using this
theorem weightsAll_mem {e : TypeId} : ∀ {l : List (DataW H)} {d : DataW H}, d ∈ l → ∀ n ∈ d.weights P e, n ∈ DataW.weightsAll P e l
  | x :: l, d, hd, n, hn => by
    simp only [DataW.weightsAll, List.mem_append]
    rcases List.mem_cons.1 hd with rfl | hd
    · exact .inl hn
    · exact .inr (weightsAll_mem hd n hn)
  | [], _, hd, _, _ => by simp at hd
theorem Sized.elem {t e : TypeId} {elems spare : List (DataW H)} (h : Sized P t (.slice elems spare)) (hu : P.underlying t = some (.slice e)) {i : Nat} {d : DataW H} (hd : elems[i]? = some d) : Sized P e d := fun n hn =>
  h n (by simp only [DataW.weights, hu, List.mem_cons, List.mem_append]; exact .inr (.inl (weightsAll_mem (List.mem_of_getElem? hd) n hn)))
theorem Sized.field {t : TypeId} {fs : Array Field} {parts : List (DataW H)} (h : Sized P t (.agg parts)) (hu : P.underlying t = some (.struct fs)) {j : Nat} {f : Field} {d : DataW H} (hf : fs[j]? = some f) (hd : parts[j]? = some d) : Sized P f.type d := fun n hn =>
  h n (by simp only [DataW.weights, hu]; exact DataW.weights_mem_each (j := j) (by simp [hf]) hd n hn)
theorem Sized.nums {t e : TypeId} {d : DataW H} {n m : Nat} (h : Sized P t d) (hu : P.underlying t = some (.slice e)) (hby : P.bytesOf e = m) (hn : n = 0 ∨ ∃ elems spare, d = .slice elems spare ∧ elems.length = n) : n * m ≤ 140737488351232 := by
  rcases hn with rfl | ⟨elems, spare, rfl, rfl⟩
  · omega
  · have := h ((elems.length + spare.length) * P.bytesOf e) (by simp [DataW.weights, hu])
    rw [hby] at this
    have h2 : elems.length * m ≤ (elems.length + spare.length) * m := Nat.mul_le_mul_right _ (by omega)
    unfold reachBytes at this
    omega

end
end Go.Agio
