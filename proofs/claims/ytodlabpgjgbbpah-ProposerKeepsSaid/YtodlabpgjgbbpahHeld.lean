/-
  A drawn region that is walked by hand: what holds of fewer worlds is more. Over any program.
-/
import Derived.WalkKit
import Derived.Deep.RegionHeld3
namespace Go.Agio

theorem held_less {P : Program} {md : Region.Mode} {ops : Array Oper} {Q : Exit → Act → World → Prop} {S S' : World → Prop} (hs : ∀ w, S' w → S w) : ∀ {fuel : Nat} {listed : Array Bool} {a : Act} {w : World}, wpAnyH P md ops Q S' fuel listed a w → wpAnyH P md ops Q S fuel listed a w
  | 0, _, _, _, h => h
  | _ + 1, _, _, _, h => ⟨h.1, fun i hi => wpOp_mono (fun _ _ h' => ⟨hs _ h'.1, held_less hs h'.2⟩) (h.2 i hi)⟩

end Go.Agio
