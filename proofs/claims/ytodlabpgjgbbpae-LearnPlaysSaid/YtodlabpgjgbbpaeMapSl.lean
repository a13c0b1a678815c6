/-
  A map of slices: what stands at a key is the slice value itself; a look-up, a store. Over any program.
-/
import Derived.Test.YtodlabpgjgbbpaeWords
import Derived.Maps.OwnSet
import Derived.Maps.OwnIn
import Derived.Maps.OwnOps
import Derived.Maps.RangeWalk
import Derived.RegionTactic
namespace Go.Agio
open Go.RowKit Go.Maps

/-- An element is told as it is. -/
def RV (v : Value) : Option (DataW Value × List MemPlace) :=
  match v with
  | .slice A n c => some (.held (.slice A n c), [])
  | _ => none
abbrev nilD : DataW Value := .held (.slice none 0 0)
theorem rv_nil : RV (.slice none 0 0) = some (nilD, []) := rfl
theorem rv_sl (A : Option Addr) (n c : Nat) : RV (.slice A n c) = some (.held (.slice A n c), []) := rfl
theorem rv_inv {v : Value} {A : Option Addr} {n c : Nat} {ps : List MemPlace} (h : RV v = some (.held (.slice A n c), ps)) : v = .slice A n c := by
  unfold RV at h
  split at h
  · simp at h; obtain ⟨⟨h1, h2, h3⟩, _⟩ := h; subst h1 h2 h3; rfl
  · cases h
theorem rv_form {v : Value} {y : DataW Value × List MemPlace} (h : RV v = some y) : ∃ x : Option Addr × Nat × Nat, v = .slice x.1 x.2.1 x.2.2 := by
  unfold RV at h
  split at h
  · exact ⟨(_, _, _), rfl⟩
  · cases h

section
variable {P : Program} {w : World} {ops : Array Oper} {rest : List Oper} {o : Oper} {a : Act} {Q : Exit → Act → World → Prop}

theorem look_is {t k e : TypeId} (K : Keyed P k) (ht : P.underlying t = some (.map k e)) (hz : (zeroValue e).run P w = .ok (.slice none 0 0) w) {b n : Nat} {D : DataW Value} (hown : w.ownsMap P k RV b n D) {key : Value} {kl : Lit} (hkey : keyOf P k key = some kl)
    {A : Option Addr} {m c : Nat} {y : Bool} (hat : D.atKey kl nilD = .held (.slice A m c)) (hy : has D kl = y) :
    (Instr.lookup t (.map (some b)) key true).run P w = .ok (.tuple #[.slice A m c, .bool y]) w ∧ (Instr.lookup t (.map (some b)) key false).run P w = .ok (.slice A m c) w := by
  constructor
  · obtain ⟨v, ps, hr, hv⟩ := hown.look_ok K ht hz rv_nil hkey
    rw [hat] at hv
    obtain rfl := rv_inv hv
    rw [hy] at hr
    exact hr
  · obtain ⟨v, ps, hr, hv⟩ := hown.lookup K ht hz rv_nil hkey
    rw [hat] at hv
    obtain rfl := rv_inv hv
    exact hr

theorem wpList_lookup_is (hg : o.guard = none) (m x : Operand) (t : TypeId) (hop : o.op = Op.lookup t m x true) (k e : TypeId) (K : Keyed P k) (ht : P.underlying t = some (.map k e)) (hz : (zeroValue e).run P w = .ok (.slice none 0 0) w) (b n : Nat) (D : DataW Value)
    (hm : a.eval m = .map (some b)) (hown : w.ownsMap P k RV b n D) (key : Value) (kl : Lit) (hx : a.eval x = key) (hkey : keyOf P k key = some kl) (A : Option Addr) (l c : Nat) (y : Bool) (hat : D.atKey kl nilD = .held (.slice A l c)) (hy : has D kl = y)
    (hK : wpList P ops Q rest (a.put o.dst (.tuple #[.slice A l c, .bool y])) w) : wpList P ops Q (o :: rest) a w :=
  wpList_lookup_own_ok w hg m x t hop k e K ht RV hz nilD [] rv_nil b n D hm hown key kl hx hkey (fun v ps hv => by
    rw [hat] at hv
    obtain rfl := rv_inv hv
    rw [hy]
    exact hK)

/-- A store as one step of a region that draws its order. -/
theorem step_mapUpdate {K : Act → World → Prop} {E : Prop} (hgd : Region.wanted o (yielded ops a.tmps) = true) (m x v : Operand) (t : TypeId) (hop : o.op = Op.mapUpdate t m x v)
    (k e : TypeId) (Kd : Keyed P k) (ht : P.underlying t = some (.map k e)) (b n : Nat) (D : DataW Value)
    (hm : a.eval m = .map (some b)) (hown : w.ownsMap P k RV b n D) (hn : n < maxLen) (key : Value) (kl : Lit) (hx : a.eval x = key) (hkey : keyOf P k key = some kl) (A : Option Addr) (l c : Nat) (hv : a.eval v = .slice A l c)
    (hK : ∀ w', w'.ownsMap P k RV b (n + 1) (D.put kl (.held (.slice A l c))) → w.grownBy w' (some b) → K (a.put o.dst undef) w') :
    if Region.wanted o (yielded ops a.tmps) = true then Oper.wp P o a w K Q else E := by
  rw [if_pos hgd]
  obtain ⟨w', hrun, r1, r2⟩ := hown.update Kd ht hn hkey (rv_sl A l c)
  unfold Oper.wp
  simp [execOp, hop, hm, hx, hv, hrun, Result.andThen]
  exact hK w' r1 r2
end

end Go.Agio
