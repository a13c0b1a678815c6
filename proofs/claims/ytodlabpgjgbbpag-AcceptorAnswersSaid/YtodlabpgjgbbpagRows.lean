/-
  No cell of these rows narrows 'for every input' (looked for: loops, veiled, ifaces, maps, wideKeys, modest, calm, conditions, laid).
  DERIVED. THE GIVEN ROWS OF THIS SEAT. 6 by the template 'for every input the law returns true; each argument reads behind the call as it read before'; 0 by the template 'total and deterministic' (their statements: YtodlabpgjgbbpagTotals.lean).
  GIVEN WITH THE SEED: the statements are not yours to turn. If you find one false, say at which input.
  Laid BY PROGRAM, IN A SANDBOX (cutbox-rows.mjs): the forced cells as the released guide's own fill.sh prints them over the translation e205fca53f4c499e… (all of the seat's roots in one cut). By AI agents, Wed Nov 11 2026. No macro, syntax, notation, axiom, sorry.
-/
import Derived.Test.YtodlabpgjgbbpagChecked
import GoSem.Claim
import GoSem.ClaimJoined
import GoSem.ClaimMapViews
import Derived.JoinedTies
import Derived.KernelRfl
namespace Go.Proofs.Ytodlabpgjgbbpag
/- THE CELL 'sum', in the pinned program and in every row, IS THE sha256 OF THE DUMP (.gsa) THAT YtodlabpgjgbbpagProg.lean LOADS. Nothing in Lean hashes anything: it is a label: what it is worth is what the hold of that sum in a sandbox is worth. -/
noncomputable def Try.pinned : Pinned := { name := "ytodlabpgjgbbpag", sum := "e205fca53f4c499ec2ef4ce68810ad63a15f19aa065a0a0adf226f6aa2a8cc5f", checked := Try.checked }
namespace Rows
def none {H : Type} : Left H := { results := [], args := [] }

/-- 'agiolaw10.AcceptorKeeps': WHATEVER THE INPUT: true; the input reads as it did. -/
def acceptorKeepsSpec : ChangeSpec := { name := "acceptorKeeps", fn := fun _ => fun
  | [d1, d2, d3] => { results := [.lit (.bool true)], args := [d1, d2, d3] }
  | _ => none }
def acceptorKeepsRow : OpenClaim := { program := "ytodlabpgjgbbpag", sum := "e205fca53f4c499ec2ef4ce68810ad63a15f19aa065a0a0adf226f6aa2a8cc5f", func := "agio/agiolaw10.AcceptorKeeps", spec := "acceptorKeeps", unfollowed := true, recurses := true, apart := false }
def AcceptorKeepsSaid : Prop := acceptorKeepsRow.holds Try.pinned (OpenSpec.ofChange acceptorKeepsSpec)

/-- ITS FALSE NEIGHBOUR: 'it returns false'. Refute it at one input. -/
def acceptorKeepsWrong : ChangeSpec := { name := "acceptorKeeps", fn := fun _ => fun
  | [d1, d2, d3] => { results := [.lit (.bool false)], args := [d1, d2, d3] }
  | _ => none }
def AcceptorKeepsWrongFalsely : Prop := acceptorKeepsRow.holds Try.pinned (OpenSpec.ofChange acceptorKeepsWrong)

/-- 'agiolaw10.AcceptorMay': WHATEVER THE INPUT: true; the input reads as it did. -/
def acceptorMaySpec : ChangeSpec := { name := "acceptorMay", fn := fun _ => fun
  | [d1, d2] => { results := [.lit (.bool true)], args := [d1, d2] }
  | _ => none }
def acceptorMayRow : OpenClaim := { program := "ytodlabpgjgbbpag", sum := "e205fca53f4c499ec2ef4ce68810ad63a15f19aa065a0a0adf226f6aa2a8cc5f", func := "agio/agiolaw10.AcceptorMay", spec := "acceptorMay", unfollowed := true, recurses := true, apart := false }
def AcceptorMaySaid : Prop := acceptorMayRow.holds Try.pinned (OpenSpec.ofChange acceptorMaySpec)

/-- ITS FALSE NEIGHBOUR: 'it returns false'. Refute it at one input. -/
def acceptorMayWrong : ChangeSpec := { name := "acceptorMay", fn := fun _ => fun
  | [d1, d2] => { results := [.lit (.bool false)], args := [d1, d2] }
  | _ => none }
def AcceptorMayWrongFalsely : Prop := acceptorMayRow.holds Try.pinned (OpenSpec.ofChange acceptorMayWrong)

/-- 'agiolaw10.AcceptorAnswers': WHATEVER THE INPUT: true; the input reads as it did. -/
def acceptorAnswersSpec : ChangeSpec := { name := "acceptorAnswers", fn := fun _ => fun
  | [d] => { results := [.lit (.bool true)], args := [d] }
  | _ => none }
def acceptorAnswersRow : OpenClaim := { program := "ytodlabpgjgbbpag", sum := "e205fca53f4c499ec2ef4ce68810ad63a15f19aa065a0a0adf226f6aa2a8cc5f", func := "agio/agiolaw10.AcceptorAnswers", spec := "acceptorAnswers", unfollowed := true, recurses := true, apart := false }
def AcceptorAnswersSaid : Prop := acceptorAnswersRow.holds Try.pinned (OpenSpec.ofChange acceptorAnswersSpec)

/-- ITS FALSE NEIGHBOUR: 'it returns false'. Refute it at one input. -/
def acceptorAnswersWrong : ChangeSpec := { name := "acceptorAnswers", fn := fun _ => fun
  | [d] => { results := [.lit (.bool false)], args := [d] }
  | _ => none }
def AcceptorAnswersWrongFalsely : Prop := acceptorAnswersRow.holds Try.pinned (OpenSpec.ofChange acceptorAnswersWrong)

/-- 'agiolaw10.AcceptorRises': WHATEVER THE INPUT: true; the input reads as it did. -/
def acceptorRisesSpec : ChangeSpec := { name := "acceptorRises", fn := fun _ => fun
  | [d] => { results := [.lit (.bool true)], args := [d] }
  | _ => none }
def acceptorRisesRow : OpenClaim := { program := "ytodlabpgjgbbpag", sum := "e205fca53f4c499ec2ef4ce68810ad63a15f19aa065a0a0adf226f6aa2a8cc5f", func := "agio/agiolaw10.AcceptorRises", spec := "acceptorRises", unfollowed := true, recurses := true, apart := false }
def AcceptorRisesSaid : Prop := acceptorRisesRow.holds Try.pinned (OpenSpec.ofChange acceptorRisesSpec)

/-- ITS FALSE NEIGHBOUR: 'it returns false'. Refute it at one input. -/
def acceptorRisesWrong : ChangeSpec := { name := "acceptorRises", fn := fun _ => fun
  | [d] => { results := [.lit (.bool false)], args := [d] }
  | _ => none }
def AcceptorRisesWrongFalsely : Prop := acceptorRisesRow.holds Try.pinned (OpenSpec.ofChange acceptorRisesWrong)

/-- 'agiolaw10.AcceptorTwice': WHATEVER THE INPUT: true; the input reads as it did. -/
def acceptorTwiceSpec : ChangeSpec := { name := "acceptorTwice", fn := fun _ => fun
  | [d1, d2] => { results := [.lit (.bool true)], args := [d1, d2] }
  | _ => none }
def acceptorTwiceRow : OpenClaim := { program := "ytodlabpgjgbbpag", sum := "e205fca53f4c499ec2ef4ce68810ad63a15f19aa065a0a0adf226f6aa2a8cc5f", func := "agio/agiolaw10.AcceptorTwice", spec := "acceptorTwice", unfollowed := true, recurses := true, apart := false }
def AcceptorTwiceSaid : Prop := acceptorTwiceRow.holds Try.pinned (OpenSpec.ofChange acceptorTwiceSpec)

/-- ITS FALSE NEIGHBOUR: 'it returns false'. Refute it at one input. -/
def acceptorTwiceWrong : ChangeSpec := { name := "acceptorTwice", fn := fun _ => fun
  | [d1, d2] => { results := [.lit (.bool false)], args := [d1, d2] }
  | _ => none }
def AcceptorTwiceWrongFalsely : Prop := acceptorTwiceRow.holds Try.pinned (OpenSpec.ofChange acceptorTwiceWrong)

/-- 'agiolaw10.AcceptorSame': WHATEVER THE INPUT: true; the input reads as it did. -/
def acceptorSameSpec : ChangeSpec := { name := "acceptorSame", fn := fun _ => fun
  | [d] => { results := [.lit (.bool true)], args := [d] }
  | _ => none }
def acceptorSameRow : OpenClaim := { program := "ytodlabpgjgbbpag", sum := "e205fca53f4c499ec2ef4ce68810ad63a15f19aa065a0a0adf226f6aa2a8cc5f", func := "agio/agiolaw10.AcceptorSame", spec := "acceptorSame", unfollowed := true, recurses := true, apart := false }
def AcceptorSameSaid : Prop := acceptorSameRow.holds Try.pinned (OpenSpec.ofChange acceptorSameSpec)

/-- ITS FALSE NEIGHBOUR: 'it returns false'. Refute it at one input. -/
def acceptorSameWrong : ChangeSpec := { name := "acceptorSame", fn := fun _ => fun
  | [d] => { results := [.lit (.bool false)], args := [d] }
  | _ => none }
def AcceptorSameWrongFalsely : Prop := acceptorSameRow.holds Try.pinned (OpenSpec.ofChange acceptorSameWrong)

/- THE SECOND FORM. 'bulk': how many values and letters a reading holds, each counted each time it is reached (what is shared counts as often as it is met; a slice's spare places count too). A statement '..UptoSaid' is the law's where the arguments, and the package variables that the reading takes, are together of bulk at most 1048576: NARROWER than '..Said'. Prove '..Said' where nothing that the law and all that it calls make is longer than what came in: it says more and counts as full. Else prove '..UptoSaid'. A law counts once. -/
mutual
def uptoBulk {H : Type} : DataW H → Nat
  | .lit (.string bytes) => bytes.length + 1
  | .lit _ => 1
  | .nil => 1
  | .ptr d => uptoBulk d + 1
  | .slice elems spare => uptoBulkAll elems + uptoBulkAll spare + 1
  | .agg parts => uptoBulkAll parts + 1
  | .iface _ d => uptoBulk d + 1
  | .map entries => uptoBulkEntries entries + 1
  | .held _ => 1
def uptoBulkAll {H : Type} : List (DataW H) → Nat
  | [] => 0
  | d :: r => uptoBulk d + uptoBulkAll r
def uptoBulkEntries {H : Type} : List (Lit × DataW H) → Nat
  | [] => 0
  | x :: r => uptoBulkEntry x + uptoBulkEntries r
def uptoBulkEntry {H : Type} : Lit × DataW H → Nat
  | (.string bytes, d) => bytes.length + uptoBulk d + 1
  | (_, d) => uptoBulk d + 1
 end
def uptoSmall : (H : Type) → List (DataW H) → Bool := fun _ ds => decide (uptoBulkAll ds ≤ 1048576)
def OpenSpec.upto (s : _root_.Go.ChangeSpec) : _root_.Go.OpenSpec := { _root_.Go.OpenSpec.ofChange s with cond := some uptoSmall }

/-- 'agiolaw10.AcceptorKeeps', WHERE WHAT IT READS IS OF BULK AT MOST 1048576: true; the input reads as it did. -/
def acceptorKeepsUptoRow : OpenClaim := { program := "ytodlabpgjgbbpag", sum := "e205fca53f4c499ec2ef4ce68810ad63a15f19aa065a0a0adf226f6aa2a8cc5f", func := "agio/agiolaw10.AcceptorKeeps", spec := "acceptorKeeps", unfollowed := true, recurses := true, apart := false, narrowed := true }
def AcceptorKeepsUptoSaid : Prop := acceptorKeepsUptoRow.holds Try.pinned (OpenSpec.upto acceptorKeepsSpec)

/-- 'agiolaw10.AcceptorMay', WHERE WHAT IT READS IS OF BULK AT MOST 1048576: true; the input reads as it did. -/
def acceptorMayUptoRow : OpenClaim := { program := "ytodlabpgjgbbpag", sum := "e205fca53f4c499ec2ef4ce68810ad63a15f19aa065a0a0adf226f6aa2a8cc5f", func := "agio/agiolaw10.AcceptorMay", spec := "acceptorMay", unfollowed := true, recurses := true, apart := false, narrowed := true }
def AcceptorMayUptoSaid : Prop := acceptorMayUptoRow.holds Try.pinned (OpenSpec.upto acceptorMaySpec)

/-- 'agiolaw10.AcceptorAnswers', WHERE WHAT IT READS IS OF BULK AT MOST 1048576: true; the input reads as it did. -/
def acceptorAnswersUptoRow : OpenClaim := { program := "ytodlabpgjgbbpag", sum := "e205fca53f4c499ec2ef4ce68810ad63a15f19aa065a0a0adf226f6aa2a8cc5f", func := "agio/agiolaw10.AcceptorAnswers", spec := "acceptorAnswers", unfollowed := true, recurses := true, apart := false, narrowed := true }
def AcceptorAnswersUptoSaid : Prop := acceptorAnswersUptoRow.holds Try.pinned (OpenSpec.upto acceptorAnswersSpec)

/-- 'agiolaw10.AcceptorRises', WHERE WHAT IT READS IS OF BULK AT MOST 1048576: true; the input reads as it did. -/
def acceptorRisesUptoRow : OpenClaim := { program := "ytodlabpgjgbbpag", sum := "e205fca53f4c499ec2ef4ce68810ad63a15f19aa065a0a0adf226f6aa2a8cc5f", func := "agio/agiolaw10.AcceptorRises", spec := "acceptorRises", unfollowed := true, recurses := true, apart := false, narrowed := true }
def AcceptorRisesUptoSaid : Prop := acceptorRisesUptoRow.holds Try.pinned (OpenSpec.upto acceptorRisesSpec)

/-- 'agiolaw10.AcceptorTwice', WHERE WHAT IT READS IS OF BULK AT MOST 1048576: true; the input reads as it did. -/
def acceptorTwiceUptoRow : OpenClaim := { program := "ytodlabpgjgbbpag", sum := "e205fca53f4c499ec2ef4ce68810ad63a15f19aa065a0a0adf226f6aa2a8cc5f", func := "agio/agiolaw10.AcceptorTwice", spec := "acceptorTwice", unfollowed := true, recurses := true, apart := false, narrowed := true }
def AcceptorTwiceUptoSaid : Prop := acceptorTwiceUptoRow.holds Try.pinned (OpenSpec.upto acceptorTwiceSpec)

/-- 'agiolaw10.AcceptorSame', WHERE WHAT IT READS IS OF BULK AT MOST 1048576: true; the input reads as it did. -/
def acceptorSameUptoRow : OpenClaim := { program := "ytodlabpgjgbbpag", sum := "e205fca53f4c499ec2ef4ce68810ad63a15f19aa065a0a0adf226f6aa2a8cc5f", func := "agio/agiolaw10.AcceptorSame", spec := "acceptorSame", unfollowed := true, recurses := true, apart := false, narrowed := true }
def AcceptorSameUptoSaid : Prop := acceptorSameUptoRow.holds Try.pinned (OpenSpec.upto acceptorSameSpec)

end Rows
end Go.Proofs.Ytodlabpgjgbbpag
