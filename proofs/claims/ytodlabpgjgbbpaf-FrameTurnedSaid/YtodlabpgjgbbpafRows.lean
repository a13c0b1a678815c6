/-
  No cell of these rows narrows 'for every input' (looked for: loops, veiled, ifaces, maps, wideKeys, modest, calm, conditions, laid).
  DERIVED. THE GIVEN ROWS OF THIS SEAT. 6 by the template 'for every input the law returns true; each argument reads behind the call as it read before'; 0 by the template 'total and deterministic' (their statements: YtodlabpgjgbbpafTotals.lean).
  GIVEN WITH THE SEED: the statements are not yours to turn. If you find one false, say at which input.
  Laid BY PROGRAM, IN A SANDBOX (cutbox-rows.mjs): the forced cells as the released guide's own fill.sh prints them over the translation 84bf96dc6f023cf3… (all of the seat's roots in one cut). By AI agents, Wed Nov 11 2026. No macro, syntax, notation, axiom, sorry.
-/
import Derived.Test.YtodlabpgjgbbpafChecked
import GoSem.Claim
import GoSem.ClaimJoined
import GoSem.ClaimMapViews
import Derived.JoinedTies
import Derived.KernelRfl
namespace Go.Proofs.Ytodlabpgjgbbpaf
/- THE CELL 'sum', in the pinned program and in every row, IS THE sha256 OF THE DUMP (.gsa) THAT YtodlabpgjgbbpafProg.lean LOADS. Nothing in Lean hashes anything: it is a label: what it is worth is what the hold of that sum in a sandbox is worth. -/
noncomputable def Try.pinned : Pinned := { name := "ytodlabpgjgbbpaf", sum := "84bf96dc6f023cf3d816d3357bab186c9cf23f7e8a0eb120e501ed47b9bda20e", checked := Try.checked }
namespace Rows
def none {H : Type} : Left H := { results := [], args := [] }

/-- 'agiolaw03.FramePuts': WHATEVER THE INPUT: true; the input reads as it did. -/
def framePutsSpec : ChangeSpec := { name := "framePuts", fn := fun _ => fun
  | [d] => { results := [.lit (.bool true)], args := [d] }
  | _ => none }
def framePutsRow : OpenClaim := { program := "ytodlabpgjgbbpaf", sum := "84bf96dc6f023cf3d816d3357bab186c9cf23f7e8a0eb120e501ed47b9bda20e", func := "agio/agiolaw03.FramePuts", spec := "framePuts", unfollowed := true, recurses := true, apart := false }
def FramePutsSaid : Prop := framePutsRow.holds Try.pinned (OpenSpec.ofChange framePutsSpec)

/-- ITS FALSE NEIGHBOUR: 'it returns false'. Refute it at one input. -/
def framePutsWrong : ChangeSpec := { name := "framePuts", fn := fun _ => fun
  | [d] => { results := [.lit (.bool false)], args := [d] }
  | _ => none }
def FramePutsWrongFalsely : Prop := framePutsRow.holds Try.pinned (OpenSpec.ofChange framePutsWrong)

/-- 'agiolaw03.FrameTorn': WHATEVER THE INPUT: true; the input reads as it did. -/
def frameTornSpec : ChangeSpec := { name := "frameTorn", fn := fun _ => fun
  | [d1, d2] => { results := [.lit (.bool true)], args := [d1, d2] }
  | _ => none }
def frameTornRow : OpenClaim := { program := "ytodlabpgjgbbpaf", sum := "84bf96dc6f023cf3d816d3357bab186c9cf23f7e8a0eb120e501ed47b9bda20e", func := "agio/agiolaw03.FrameTorn", spec := "frameTorn", unfollowed := true, recurses := true, apart := false }
def FrameTornSaid : Prop := frameTornRow.holds Try.pinned (OpenSpec.ofChange frameTornSpec)

/-- ITS FALSE NEIGHBOUR: 'it returns false'. Refute it at one input. -/
def frameTornWrong : ChangeSpec := { name := "frameTorn", fn := fun _ => fun
  | [d1, d2] => { results := [.lit (.bool false)], args := [d1, d2] }
  | _ => none }
def FrameTornWrongFalsely : Prop := frameTornRow.holds Try.pinned (OpenSpec.ofChange frameTornWrong)

/-- 'agiolaw03.FrameTurned': WHATEVER THE INPUT: true; the input reads as it did. -/
def frameTurnedSpec : ChangeSpec := { name := "frameTurned", fn := fun _ => fun
  | [d1, d2, d3] => { results := [.lit (.bool true)], args := [d1, d2, d3] }
  | _ => none }
def frameTurnedRow : OpenClaim := { program := "ytodlabpgjgbbpaf", sum := "84bf96dc6f023cf3d816d3357bab186c9cf23f7e8a0eb120e501ed47b9bda20e", func := "agio/agiolaw03.FrameTurned", spec := "frameTurned", unfollowed := true, recurses := true, apart := false }
def FrameTurnedSaid : Prop := frameTurnedRow.holds Try.pinned (OpenSpec.ofChange frameTurnedSpec)

/-- ITS FALSE NEIGHBOUR: 'it returns false'. Refute it at one input. -/
def frameTurnedWrong : ChangeSpec := { name := "frameTurned", fn := fun _ => fun
  | [d1, d2, d3] => { results := [.lit (.bool false)], args := [d1, d2, d3] }
  | _ => none }
def FrameTurnedWrongFalsely : Prop := frameTurnedRow.holds Try.pinned (OpenSpec.ofChange frameTurnedWrong)

/-- 'agiolaw03.FrameAgain': WHATEVER THE INPUT: true; the input reads as it did. -/
def frameAgainSpec : ChangeSpec := { name := "frameAgain", fn := fun _ => fun
  | [d] => { results := [.lit (.bool true)], args := [d] }
  | _ => none }
def frameAgainRow : OpenClaim := { program := "ytodlabpgjgbbpaf", sum := "84bf96dc6f023cf3d816d3357bab186c9cf23f7e8a0eb120e501ed47b9bda20e", func := "agio/agiolaw03.FrameAgain", spec := "frameAgain", unfollowed := true, recurses := true, apart := false }
def FrameAgainSaid : Prop := frameAgainRow.holds Try.pinned (OpenSpec.ofChange frameAgainSpec)

/-- ITS FALSE NEIGHBOUR: 'it returns false'. Refute it at one input. -/
def frameAgainWrong : ChangeSpec := { name := "frameAgain", fn := fun _ => fun
  | [d] => { results := [.lit (.bool false)], args := [d] }
  | _ => none }
def FrameAgainWrongFalsely : Prop := frameAgainRow.holds Try.pinned (OpenSpec.ofChange frameAgainWrong)

/-- 'agiolaw03.FrameTakes': WHATEVER THE INPUT: true; the input reads as it did. -/
def frameTakesSpec : ChangeSpec := { name := "frameTakes", fn := fun _ => fun
  | [d] => { results := [.lit (.bool true)], args := [d] }
  | _ => none }
def frameTakesRow : OpenClaim := { program := "ytodlabpgjgbbpaf", sum := "84bf96dc6f023cf3d816d3357bab186c9cf23f7e8a0eb120e501ed47b9bda20e", func := "agio/agiolaw03.FrameTakes", spec := "frameTakes", unfollowed := true, recurses := true, apart := false }
def FrameTakesSaid : Prop := frameTakesRow.holds Try.pinned (OpenSpec.ofChange frameTakesSpec)

/-- ITS FALSE NEIGHBOUR: 'it returns false'. Refute it at one input. -/
def frameTakesWrong : ChangeSpec := { name := "frameTakes", fn := fun _ => fun
  | [d] => { results := [.lit (.bool false)], args := [d] }
  | _ => none }
def FrameTakesWrongFalsely : Prop := frameTakesRow.holds Try.pinned (OpenSpec.ofChange frameTakesWrong)

/-- 'agiolaw03.FrameBehind': WHATEVER THE INPUT: true; the input reads as it did. -/
def frameBehindSpec : ChangeSpec := { name := "frameBehind", fn := fun _ => fun
  | [d1, d2] => { results := [.lit (.bool true)], args := [d1, d2] }
  | _ => none }
def frameBehindRow : OpenClaim := { program := "ytodlabpgjgbbpaf", sum := "84bf96dc6f023cf3d816d3357bab186c9cf23f7e8a0eb120e501ed47b9bda20e", func := "agio/agiolaw03.FrameBehind", spec := "frameBehind", unfollowed := true, recurses := true, apart := false }
def FrameBehindSaid : Prop := frameBehindRow.holds Try.pinned (OpenSpec.ofChange frameBehindSpec)

/-- ITS FALSE NEIGHBOUR: 'it returns false'. Refute it at one input. -/
def frameBehindWrong : ChangeSpec := { name := "frameBehind", fn := fun _ => fun
  | [d1, d2] => { results := [.lit (.bool false)], args := [d1, d2] }
  | _ => none }
def FrameBehindWrongFalsely : Prop := frameBehindRow.holds Try.pinned (OpenSpec.ofChange frameBehindWrong)

/- THE SECOND FORM. 'bulk': how many values and letters a reading holds, each counted each time it is reached (what is shared counts as often as it is met; a slice's spare places count too). A statement '..UptoSaid' is the law's where the arguments, and the package variables that the reading takes, are together of bulk at most 1048576: NARROWER than '..Said'. Prove '..Said' where nothing that the law and all that it calls make is longer than what came in: it says more and counts as full. Else prove '..UptoSaid'. A law counts once. -/
mutual
def uptoBulk {H : Type} : DataW H → Nat
  | .lit (.string bytes) => bytes.length + 1
  | .lit _ => 1
  | .nil => 1
  | .ptr d => uptoBulk d + 1
  | .slice elems spare => uptoBulkAll elems + uptoBulkAll spare + 1
  | .agg parts => uptoBulkAll parts + 1
  | .iface _ d => uptoBulk d + 1
  | .map entries => uptoBulkEntries entries + 1
  | .held _ => 1
def uptoBulkAll {H : Type} : List (DataW H) → Nat
  | [] => 0
  | d :: r => uptoBulk d + uptoBulkAll r
def uptoBulkEntries {H : Type} : List (Lit × DataW H) → Nat
  | [] => 0
  | x :: r => uptoBulkEntry x + uptoBulkEntries r
def uptoBulkEntry {H : Type} : Lit × DataW H → Nat
  | (.string bytes, d) => bytes.length + uptoBulk d + 1
  | (_, d) => uptoBulk d + 1
 end
def uptoSmall : (H : Type) → List (DataW H) → Bool := fun _ ds => decide (uptoBulkAll ds ≤ 1048576)
def OpenSpec.upto (s : _root_.Go.ChangeSpec) : _root_.Go.OpenSpec := { _root_.Go.OpenSpec.ofChange s with cond := some uptoSmall }

/-- 'agiolaw03.FramePuts', WHERE WHAT IT READS IS OF BULK AT MOST 1048576: true; the input reads as it did. -/
def framePutsUptoRow : OpenClaim := { program := "ytodlabpgjgbbpaf", sum := "84bf96dc6f023cf3d816d3357bab186c9cf23f7e8a0eb120e501ed47b9bda20e", func := "agio/agiolaw03.FramePuts", spec := "framePuts", unfollowed := true, recurses := true, apart := false, narrowed := true }
def FramePutsUptoSaid : Prop := framePutsUptoRow.holds Try.pinned (OpenSpec.upto framePutsSpec)

/-- 'agiolaw03.FrameTorn', WHERE WHAT IT READS IS OF BULK AT MOST 1048576: true; the input reads as it did. -/
def frameTornUptoRow : OpenClaim := { program := "ytodlabpgjgbbpaf", sum := "84bf96dc6f023cf3d816d3357bab186c9cf23f7e8a0eb120e501ed47b9bda20e", func := "agio/agiolaw03.FrameTorn", spec := "frameTorn", unfollowed := true, recurses := true, apart := false, narrowed := true }
def FrameTornUptoSaid : Prop := frameTornUptoRow.holds Try.pinned (OpenSpec.upto frameTornSpec)

/-- 'agiolaw03.FrameTurned', WHERE WHAT IT READS IS OF BULK AT MOST 1048576: true; the input reads as it did. -/
def frameTurnedUptoRow : OpenClaim := { program := "ytodlabpgjgbbpaf", sum := "84bf96dc6f023cf3d816d3357bab186c9cf23f7e8a0eb120e501ed47b9bda20e", func := "agio/agiolaw03.FrameTurned", spec := "frameTurned", unfollowed := true, recurses := true, apart := false, narrowed := true }
def FrameTurnedUptoSaid : Prop := frameTurnedUptoRow.holds Try.pinned (OpenSpec.upto frameTurnedSpec)

/-- 'agiolaw03.FrameAgain', WHERE WHAT IT READS IS OF BULK AT MOST 1048576: true; the input reads as it did. -/
def frameAgainUptoRow : OpenClaim := { program := "ytodlabpgjgbbpaf", sum := "84bf96dc6f023cf3d816d3357bab186c9cf23f7e8a0eb120e501ed47b9bda20e", func := "agio/agiolaw03.FrameAgain", spec := "frameAgain", unfollowed := true, recurses := true, apart := false, narrowed := true }
def FrameAgainUptoSaid : Prop := frameAgainUptoRow.holds Try.pinned (OpenSpec.upto frameAgainSpec)

/-- 'agiolaw03.FrameTakes', WHERE WHAT IT READS IS OF BULK AT MOST 1048576: true; the input reads as it did. -/
def frameTakesUptoRow : OpenClaim := { program := "ytodlabpgjgbbpaf", sum := "84bf96dc6f023cf3d816d3357bab186c9cf23f7e8a0eb120e501ed47b9bda20e", func := "agio/agiolaw03.FrameTakes", spec := "frameTakes", unfollowed := true, recurses := true, apart := false, narrowed := true }
def FrameTakesUptoSaid : Prop := frameTakesUptoRow.holds Try.pinned (OpenSpec.upto frameTakesSpec)

/-- 'agiolaw03.FrameBehind', WHERE WHAT IT READS IS OF BULK AT MOST 1048576: true; the input reads as it did. -/
def frameBehindUptoRow : OpenClaim := { program := "ytodlabpgjgbbpaf", sum := "84bf96dc6f023cf3d816d3357bab186c9cf23f7e8a0eb120e501ed47b9bda20e", func := "agio/agiolaw03.FrameBehind", spec := "frameBehind", unfollowed := true, recurses := true, apart := false, narrowed := true }
def FrameBehindUptoSaid : Prop := frameBehindUptoRow.holds Try.pinned (OpenSpec.upto frameBehindSpec)

end Rows
end Go.Proofs.Ytodlabpgjgbbpaf
