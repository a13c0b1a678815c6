/-
  A slot in memory that keeps the invariant: what play does to it.
-/
import Derived.Test.YtodlabpgjgbbpahPaxPlay1
import Derived.Test.YtodlabpgjgbbpahPaxPlay2
import Derived.Test.YtodlabpgjgbbpahPaxPlay3
import Derived.Test.YtodlabpgjgbbpahPaxMade
namespace Go.Proofs.Ytodlabpgjgbbpah
open Go.RowKit Go.Agio Go.Prp Go.Pax

theorem play_all (w : World) (b0 B N m : Nat) (s : Sl) (kind ep ek ea : Int) (lost : Bool) (hG : Good w b0 B N m s) (hN : 0 < N ∧ N ≤ 7) (hm : m ≤ 900)
    (he1 : -9223372036854775808 ≤ ep ∧ ep ≤ 9223372036854775807) (he2 : -9223372036854775808 ≤ ek ∧ ek ≤ 9223372036854775807) (he3 : -9223372036854775808 ≤ ea ∧ ea ≤ 9223372036854775807) :
    Calls Try.prog 20 #[.pointer (some ⟨B, 0, none⟩), .agg #[.int .i64 kind, .int .i64 ep, .int .i64 ek, .int .i64 ea, .bool lost]] w fun e w' => e = .returned (.tuple #[]) ∧ Good w' b0 B N (m + 1) (opPlay N s kind ep ek ea lost) ∧ Below b0 w w' := by
  obtain ⟨g, all, rs, rc, hM, hs, hI, hS⟩ := hG
  subst hs
  have hlen : (abs all rs).rs.length = rs.length := by simp [abs]
  have hl : 0 < rs.length ∧ rs.length ≤ 1000 := by have := hI.len; have := hS.len; omega
  have hI' := inv_play hI hN.1 kind ep ek ea lost
  have hS' := small_play (N := N) hS kind ep ek ea lost
  have hv : ∀ x ∈ all, x.s.val.length ≤ 140737488351232 := fun x hx => hS.acc x.s (List.mem_map.2 ⟨x, hx, rfl⟩)
  have hr := small_rs hS
  have fin : ∀ e w', Played w b0 B N (opPlay N (abs all rs) kind ep ek ea lost) e w' → (e = .returned (.tuple #[]) ∧ Good w' b0 B N (m + 1) (opPlay N (abs all rs) kind ep ek ea lost) ∧ Below b0 w w') := fun e w' h => by
    obtain ⟨h1, g', all', rs', rc', h2, h3, h4⟩ := h
    exact ⟨h1, ⟨g', all', rs', rc', h2, h3, hI', hS'⟩, h4⟩
  refine Calls.mono ?_ fin
  by_cases h0 : kind = 0
  · subst h0
    have e : opPlay N (abs all rs) 0 ep ek ea lost = opNew (abs all rs) (lst ep N) := by unfold opPlay; rw [if_pos rfl]; rfl
    rw [e]
    exact play0 w b0 B g N all rs rc ep ek ea lost hM hN hl he1 he2 he3 hI
  · by_cases h1 : kind = 1
    · subst h1
      have e : opPlay N (abs all rs) 1 ep ek ea lost = opAsk (abs all rs) (lst ek rs.length).toNat (lst ea N).toNat lost := by unfold opPlay; rw [if_neg (by decide), if_pos rfl, hlen]; rfl
      rw [e]
      exact play1 w b0 B g N all rs rc ep ek ea lost hM hN hl he1 he2 he3 hv (fun y hy => by have := (hr y hy).1; omega)
    · by_cases h2 : kind = 2
      · subst h2
        have e : opPlay N (abs all rs) 2 ep ek ea lost = opChoose (abs all rs) N (lst ek rs.length).toNat := by unfold opPlay; rw [if_neg (by decide), if_neg (by decide), if_pos rfl, hlen]; rfl
        rw [e]
        exact play2 w b0 B g N all rs rc ep ek ea lost hM hN hl he1 he2 he3 (fun y hy => ⟨by have := (hr y hy).1; omega, fineP_inv hI hN.2 hy (hr y hy).2.2.2⟩)
      · have e : opPlay N (abs all rs) kind ep ek ea lost = opPut (abs all rs) (lst ek rs.length).toNat (lst ea N).toNat := by unfold opPlay; rw [if_neg h0, if_neg h1, if_neg h2, hlen]; rfl
        rw [e]
        exact play3 w b0 B g N all rs rc kind ep ek ea lost hM hN hl he1 he2 he3 h0 h1 h2 hv (fun y hy => ⟨by have := (hr y hy).2.1; omega, (hr y hy).2.2.1⟩)
/-- Is there one value alone? -/
theorem one_all (w : World) (b0 B N m : Nat) (s : Sl) (hG : Good w b0 B N m s) (hN : 0 < N ∧ N ≤ 7) (hm : m ≤ 900) :
    Calls Try.prog 21 #[.pointer (some ⟨B, 0, none⟩)] w fun e w' => e = .returned (.bool true) ∧ Below w.heap.size w w' := by
  obtain ⟨g, all, rs, rc, hM, hs, hI, hS⟩ := hG
  subst hs
  have hlen : (abs all rs).rs.length = rs.length := by simp [abs]
  have hl : 0 < rs.length ∧ rs.length ≤ 1000 := by have := hI.len; have := hS.len; omega
  have hr := small_rs hS
  obtain ⟨v, hv⟩ := one_of_inv hI
  exact one_any w b0 B g N all rs rc v hM hN hl (fun y hy => ⟨by have := (hr y hy).2.1; omega, fineV_inv hI hN.2 hy⟩) hv
end Go.Proofs.Ytodlabpgjgbbpah
