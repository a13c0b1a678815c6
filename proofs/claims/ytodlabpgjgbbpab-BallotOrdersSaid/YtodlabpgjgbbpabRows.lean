/-
  No cell of these rows narrows 'for every input' (looked for: loops, veiled, ifaces, maps, wideKeys, modest, calm, conditions, laid).
  DERIVED. THE GIVEN ROWS OF THIS SEAT. 6 by the template 'for every input the law returns true; each argument reads behind the call as it read before'; 0 by the template 'total and deterministic' (their statements: YtodlabpgjgbbpabTotals.lean).
  GIVEN WITH THE SEED: the statements are not yours to turn. If you find one false, say at which input.
  Laid BY PROGRAM, IN A SANDBOX (cutbox-rows.mjs): the forced cells as the released guide's own fill.sh prints them over the translation 62a27f3df2b22833… (all of the seat's roots in one cut). By AI agents, Wed Nov 11 2026. No macro, syntax, notation, axiom, sorry.
-/
import Derived.Test.YtodlabpgjgbbpabChecked
import GoSem.Claim
import GoSem.ClaimJoined
import GoSem.ClaimMapViews
import Derived.JoinedTies
import Derived.KernelRfl
namespace Go.Proofs.Ytodlabpgjgbbpab
/- THE CELL 'sum', in the pinned program and in every row, IS THE sha256 OF THE DUMP (.gsa) THAT YtodlabpgjgbbpabProg.lean LOADS. Nothing in Lean hashes anything: it is a label: what it is worth is what the hold of that sum in a sandbox is worth. -/
noncomputable def Try.pinned : Pinned := { name := "ytodlabpgjgbbpab", sum := "62a27f3df2b22833460a955f36918e12d0988cf486efdd898b64a3891c3728c9", checked := Try.checked }
namespace Rows
def none {H : Type} : Left H := { results := [], args := [] }

/-- 'agiolaw08.BallotMost': WHATEVER THE INPUT: true; the input reads as it did. -/
def ballotMostSpec : ChangeSpec := { name := "ballotMost", fn := fun _ => fun
  | [d1, d2] => { results := [.lit (.bool true)], args := [d1, d2] }
  | _ => none }
def ballotMostRow : OpenClaim := { program := "ytodlabpgjgbbpab", sum := "62a27f3df2b22833460a955f36918e12d0988cf486efdd898b64a3891c3728c9", func := "agio/agiolaw08.BallotMost", spec := "ballotMost", apart := false }
def BallotMostSaid : Prop := ballotMostRow.holds Try.pinned (OpenSpec.ofChange ballotMostSpec)

/-- ITS FALSE NEIGHBOUR: 'it returns false'. Refute it at one input. -/
def ballotMostWrong : ChangeSpec := { name := "ballotMost", fn := fun _ => fun
  | [d1, d2] => { results := [.lit (.bool false)], args := [d1, d2] }
  | _ => none }
def BallotMostWrongFalsely : Prop := ballotMostRow.holds Try.pinned (OpenSpec.ofChange ballotMostWrong)

/-- 'agiolaw08.BallotMeets': WHATEVER THE INPUT: true; the input reads as it did. -/
def ballotMeetsSpec : ChangeSpec := { name := "ballotMeets", fn := fun _ => fun
  | [d1, d2, d3] => { results := [.lit (.bool true)], args := [d1, d2, d3] }
  | _ => none }
def ballotMeetsRow : OpenClaim := { program := "ytodlabpgjgbbpab", sum := "62a27f3df2b22833460a955f36918e12d0988cf486efdd898b64a3891c3728c9", func := "agio/agiolaw08.BallotMeets", spec := "ballotMeets", apart := false }
def BallotMeetsSaid : Prop := ballotMeetsRow.holds Try.pinned (OpenSpec.ofChange ballotMeetsSpec)

/-- ITS FALSE NEIGHBOUR: 'it returns false'. Refute it at one input. -/
def ballotMeetsWrong : ChangeSpec := { name := "ballotMeets", fn := fun _ => fun
  | [d1, d2, d3] => { results := [.lit (.bool false)], args := [d1, d2, d3] }
  | _ => none }
def BallotMeetsWrongFalsely : Prop := ballotMeetsRow.holds Try.pinned (OpenSpec.ofChange ballotMeetsWrong)

/-- 'agiolaw08.BallotAll': WHATEVER THE INPUT: true; the input reads as it did. -/
def ballotAllSpec : ChangeSpec := { name := "ballotAll", fn := fun _ => fun
  | [d1, d2] => { results := [.lit (.bool true)], args := [d1, d2] }
  | _ => none }
def ballotAllRow : OpenClaim := { program := "ytodlabpgjgbbpab", sum := "62a27f3df2b22833460a955f36918e12d0988cf486efdd898b64a3891c3728c9", func := "agio/agiolaw08.BallotAll", spec := "ballotAll", apart := false }
def BallotAllSaid : Prop := ballotAllRow.holds Try.pinned (OpenSpec.ofChange ballotAllSpec)

/-- ITS FALSE NEIGHBOUR: 'it returns false'. Refute it at one input. -/
def ballotAllWrong : ChangeSpec := { name := "ballotAll", fn := fun _ => fun
  | [d1, d2] => { results := [.lit (.bool false)], args := [d1, d2] }
  | _ => none }
def BallotAllWrongFalsely : Prop := ballotAllRow.holds Try.pinned (OpenSpec.ofChange ballotAllWrong)

/-- 'agiolaw08.BallotOne': WHATEVER THE INPUT: true; the input reads as it did. -/
def ballotOneSpec : ChangeSpec := { name := "ballotOne", fn := fun _ => fun
  | [d1, d2, d3] => { results := [.lit (.bool true)], args := [d1, d2, d3] }
  | _ => none }
def ballotOneRow : OpenClaim := { program := "ytodlabpgjgbbpab", sum := "62a27f3df2b22833460a955f36918e12d0988cf486efdd898b64a3891c3728c9", func := "agio/agiolaw08.BallotOne", spec := "ballotOne", apart := false }
def BallotOneSaid : Prop := ballotOneRow.holds Try.pinned (OpenSpec.ofChange ballotOneSpec)

/-- ITS FALSE NEIGHBOUR: 'it returns false'. Refute it at one input. -/
def ballotOneWrong : ChangeSpec := { name := "ballotOne", fn := fun _ => fun
  | [d1, d2, d3] => { results := [.lit (.bool false)], args := [d1, d2, d3] }
  | _ => none }
def BallotOneWrongFalsely : Prop := ballotOneRow.holds Try.pinned (OpenSpec.ofChange ballotOneWrong)

/-- 'agiolaw08.BallotNext': WHATEVER THE INPUT: true; the input reads as it did. -/
def ballotNextSpec : ChangeSpec := { name := "ballotNext", fn := fun _ => fun
  | [d1, d2, d3] => { results := [.lit (.bool true)], args := [d1, d2, d3] }
  | _ => none }
def ballotNextRow : OpenClaim := { program := "ytodlabpgjgbbpab", sum := "62a27f3df2b22833460a955f36918e12d0988cf486efdd898b64a3891c3728c9", func := "agio/agiolaw08.BallotNext", spec := "ballotNext", apart := false }
def BallotNextSaid : Prop := ballotNextRow.holds Try.pinned (OpenSpec.ofChange ballotNextSpec)

/-- ITS FALSE NEIGHBOUR: 'it returns false'. Refute it at one input. -/
def ballotNextWrong : ChangeSpec := { name := "ballotNext", fn := fun _ => fun
  | [d1, d2, d3] => { results := [.lit (.bool false)], args := [d1, d2, d3] }
  | _ => none }
def BallotNextWrongFalsely : Prop := ballotNextRow.holds Try.pinned (OpenSpec.ofChange ballotNextWrong)

/-- 'agiolaw08.BallotOrders': WHATEVER THE INPUT: true; the input reads as it did. -/
def ballotOrdersSpec : ChangeSpec := { name := "ballotOrders", fn := fun _ => fun
  | [d1, d2, d3] => { results := [.lit (.bool true)], args := [d1, d2, d3] }
  | _ => none }
def ballotOrdersRow : OpenClaim := { program := "ytodlabpgjgbbpab", sum := "62a27f3df2b22833460a955f36918e12d0988cf486efdd898b64a3891c3728c9", func := "agio/agiolaw08.BallotOrders", spec := "ballotOrders", apart := false }
def BallotOrdersSaid : Prop := ballotOrdersRow.holds Try.pinned (OpenSpec.ofChange ballotOrdersSpec)

/-- ITS FALSE NEIGHBOUR: 'it returns false'. Refute it at one input. -/
def ballotOrdersWrong : ChangeSpec := { name := "ballotOrders", fn := fun _ => fun
  | [d1, d2, d3] => { results := [.lit (.bool false)], args := [d1, d2, d3] }
  | _ => none }
def BallotOrdersWrongFalsely : Prop := ballotOrdersRow.holds Try.pinned (OpenSpec.ofChange ballotOrdersWrong)

/- THE SECOND FORM. 'bulk': how many values and letters a reading holds, each counted each time it is reached (what is shared counts as often as it is met; a slice's spare places count too). A statement '..UptoSaid' is the law's where the arguments, and the package variables that the reading takes, are together of bulk at most 1048576: NARROWER than '..Said'. Prove '..Said' where nothing that the law and all that it calls make is longer than what came in: it says more and counts as full. Else prove '..UptoSaid'. A law counts once. -/
mutual
def uptoBulk {H : Type} : DataW H → Nat
  | .lit (.string bytes) => bytes.length + 1
  | .lit _ => 1
  | .nil => 1
  | .ptr d => uptoBulk d + 1
  | .slice elems spare => uptoBulkAll elems + uptoBulkAll spare + 1
  | .agg parts => uptoBulkAll parts + 1
  | .iface _ d => uptoBulk d + 1
  | .map entries => uptoBulkEntries entries + 1
  | .held _ => 1
def uptoBulkAll {H : Type} : List (DataW H) → Nat
  | [] => 0
  | d :: r => uptoBulk d + uptoBulkAll r
def uptoBulkEntries {H : Type} : List (Lit × DataW H) → Nat
  | [] => 0
  | x :: r => uptoBulkEntry x + uptoBulkEntries r
def uptoBulkEntry {H : Type} : Lit × DataW H → Nat
  | (.string bytes, d) => bytes.length + uptoBulk d + 1
  | (_, d) => uptoBulk d + 1
 end
def uptoSmall : (H : Type) → List (DataW H) → Bool := fun _ ds => decide (uptoBulkAll ds ≤ 1048576)
def OpenSpec.upto (s : _root_.Go.ChangeSpec) : _root_.Go.OpenSpec := { _root_.Go.OpenSpec.ofChange s with cond := some uptoSmall }

/-- 'agiolaw08.BallotMost', WHERE WHAT IT READS IS OF BULK AT MOST 1048576: true; the input reads as it did. -/
def ballotMostUptoRow : OpenClaim := { program := "ytodlabpgjgbbpab", sum := "62a27f3df2b22833460a955f36918e12d0988cf486efdd898b64a3891c3728c9", func := "agio/agiolaw08.BallotMost", spec := "ballotMost", apart := false, narrowed := true }
def BallotMostUptoSaid : Prop := ballotMostUptoRow.holds Try.pinned (OpenSpec.upto ballotMostSpec)

/-- 'agiolaw08.BallotMeets', WHERE WHAT IT READS IS OF BULK AT MOST 1048576: true; the input reads as it did. -/
def ballotMeetsUptoRow : OpenClaim := { program := "ytodlabpgjgbbpab", sum := "62a27f3df2b22833460a955f36918e12d0988cf486efdd898b64a3891c3728c9", func := "agio/agiolaw08.BallotMeets", spec := "ballotMeets", apart := false, narrowed := true }
def BallotMeetsUptoSaid : Prop := ballotMeetsUptoRow.holds Try.pinned (OpenSpec.upto ballotMeetsSpec)

/-- 'agiolaw08.BallotAll', WHERE WHAT IT READS IS OF BULK AT MOST 1048576: true; the input reads as it did. -/
def ballotAllUptoRow : OpenClaim := { program := "ytodlabpgjgbbpab", sum := "62a27f3df2b22833460a955f36918e12d0988cf486efdd898b64a3891c3728c9", func := "agio/agiolaw08.BallotAll", spec := "ballotAll", apart := false, narrowed := true }
def BallotAllUptoSaid : Prop := ballotAllUptoRow.holds Try.pinned (OpenSpec.upto ballotAllSpec)

/-- 'agiolaw08.BallotOne', WHERE WHAT IT READS IS OF BULK AT MOST 1048576: true; the input reads as it did. -/
def ballotOneUptoRow : OpenClaim := { program := "ytodlabpgjgbbpab", sum := "62a27f3df2b22833460a955f36918e12d0988cf486efdd898b64a3891c3728c9", func := "agio/agiolaw08.BallotOne", spec := "ballotOne", apart := false, narrowed := true }
def BallotOneUptoSaid : Prop := ballotOneUptoRow.holds Try.pinned (OpenSpec.upto ballotOneSpec)

/-- 'agiolaw08.BallotNext', WHERE WHAT IT READS IS OF BULK AT MOST 1048576: true; the input reads as it did. -/
def ballotNextUptoRow : OpenClaim := { program := "ytodlabpgjgbbpab", sum := "62a27f3df2b22833460a955f36918e12d0988cf486efdd898b64a3891c3728c9", func := "agio/agiolaw08.BallotNext", spec := "ballotNext", apart := false, narrowed := true }
def BallotNextUptoSaid : Prop := ballotNextUptoRow.holds Try.pinned (OpenSpec.upto ballotNextSpec)

/-- 'agiolaw08.BallotOrders', WHERE WHAT IT READS IS OF BULK AT MOST 1048576: true; the input reads as it did. -/
def ballotOrdersUptoRow : OpenClaim := { program := "ytodlabpgjgbbpab", sum := "62a27f3df2b22833460a955f36918e12d0988cf486efdd898b64a3891c3728c9", func := "agio/agiolaw08.BallotOrders", spec := "ballotOrders", apart := false, narrowed := true }
def BallotOrdersUptoSaid : Prop := ballotOrdersUptoRow.holds Try.pinned (OpenSpec.upto ballotOrdersSpec)

end Rows
end Go.Proofs.Ytodlabpgjgbbpab
