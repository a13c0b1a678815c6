/-
  No cell of these rows narrows 'for every input' (looked for: loops, veiled, ifaces, maps, wideKeys, modest, calm, conditions, laid).
  DERIVED. THE GIVEN ROWS OF THIS SEAT. 6 by the template 'for every input the law returns true; each argument reads behind the call as it read before'; 0 by the template 'total and deterministic' (their statements: YtodlabpgjgbbpahTotals.lean).
  GIVEN WITH THE SEED: the statements are not yours to turn. If you find one false, say at which input.
  Laid BY PROGRAM, IN A SANDBOX (cutbox-rows.mjs): the forced cells as the released guide's own fill.sh prints them over the translation 16d54763618f5424… (all of the seat's roots in one cut). By AI agents, Wed Nov 11 2026. No macro, syntax, notation, axiom, sorry.
-/
import Derived.Test.YtodlabpgjgbbpahChecked
import GoSem.Claim
import GoSem.ClaimJoined
import GoSem.ClaimMapViews
import Derived.JoinedTies
import Derived.KernelRfl
namespace Go.Proofs.Ytodlabpgjgbbpah
/- THE CELL 'sum', in the pinned program and in every row, IS THE sha256 OF THE DUMP (.gsa) THAT YtodlabpgjgbbpahProg.lean LOADS. Nothing in Lean hashes anything: it is a label: what it is worth is what the hold of that sum in a sandbox is worth. -/
noncomputable def Try.pinned : Pinned := { name := "ytodlabpgjgbbpah", sum := "16d54763618f54242d2f2b3ca175a73ad10bc69dce1fb410af4d1fdb57a3e4fa", checked := Try.checked }
namespace Rows
def none {H : Type} : Left H := { results := [], args := [] }

/-- 'agiolaw11.ProposerChooses': WHATEVER THE INPUT: true; the input reads as it did. -/
def proposerChoosesSpec : ChangeSpec := { name := "proposerChooses", fn := fun _ => fun
  | [d1, d2] => { results := [.lit (.bool true)], args := [d1, d2] }
  | _ => none }
def proposerChoosesRow : OpenClaim := { program := "ytodlabpgjgbbpah", sum := "16d54763618f54242d2f2b3ca175a73ad10bc69dce1fb410af4d1fdb57a3e4fa", func := "agio/agiolaw11.ProposerChooses", spec := "proposerChooses", unfollowed := true, recurses := true, apart := false }
def ProposerChoosesSaid : Prop := proposerChoosesRow.holds Try.pinned (OpenSpec.ofChange proposerChoosesSpec)

/-- ITS FALSE NEIGHBOUR: 'it returns false'. Refute it at one input. -/
def proposerChoosesWrong : ChangeSpec := { name := "proposerChooses", fn := fun _ => fun
  | [d1, d2] => { results := [.lit (.bool false)], args := [d1, d2] }
  | _ => none }
def ProposerChoosesWrongFalsely : Prop := proposerChoosesRow.holds Try.pinned (OpenSpec.ofChange proposerChoosesWrong)

/-- 'agiolaw11.ProposerFree': WHATEVER THE INPUT: true; the input reads as it did. -/
def proposerFreeSpec : ChangeSpec := { name := "proposerFree", fn := fun _ => fun
  | [d1, d2] => { results := [.lit (.bool true)], args := [d1, d2] }
  | _ => none }
def proposerFreeRow : OpenClaim := { program := "ytodlabpgjgbbpah", sum := "16d54763618f54242d2f2b3ca175a73ad10bc69dce1fb410af4d1fdb57a3e4fa", func := "agio/agiolaw11.ProposerFree", spec := "proposerFree", unfollowed := true, recurses := true, apart := false }
def ProposerFreeSaid : Prop := proposerFreeRow.holds Try.pinned (OpenSpec.ofChange proposerFreeSpec)

/-- ITS FALSE NEIGHBOUR: 'it returns false'. Refute it at one input. -/
def proposerFreeWrong : ChangeSpec := { name := "proposerFree", fn := fun _ => fun
  | [d1, d2] => { results := [.lit (.bool false)], args := [d1, d2] }
  | _ => none }
def ProposerFreeWrongFalsely : Prop := proposerFreeRow.holds Try.pinned (OpenSpec.ofChange proposerFreeWrong)

/-- 'agiolaw11.ProposerCounts': WHATEVER THE INPUT: true; the input reads as it did. -/
def proposerCountsSpec : ChangeSpec := { name := "proposerCounts", fn := fun _ => fun
  | [d1, d2, d3] => { results := [.lit (.bool true)], args := [d1, d2, d3] }
  | _ => none }
def proposerCountsRow : OpenClaim := { program := "ytodlabpgjgbbpah", sum := "16d54763618f54242d2f2b3ca175a73ad10bc69dce1fb410af4d1fdb57a3e4fa", func := "agio/agiolaw11.ProposerCounts", spec := "proposerCounts", unfollowed := true, recurses := true, apart := false }
def ProposerCountsSaid : Prop := proposerCountsRow.holds Try.pinned (OpenSpec.ofChange proposerCountsSpec)

/-- ITS FALSE NEIGHBOUR: 'it returns false'. Refute it at one input. -/
def proposerCountsWrong : ChangeSpec := { name := "proposerCounts", fn := fun _ => fun
  | [d1, d2, d3] => { results := [.lit (.bool false)], args := [d1, d2, d3] }
  | _ => none }
def ProposerCountsWrongFalsely : Prop := proposerCountsRow.holds Try.pinned (OpenSpec.ofChange proposerCountsWrong)

/-- 'agiolaw11.ProposerMore': WHATEVER THE INPUT: true; the input reads as it did. -/
def proposerMoreSpec : ChangeSpec := { name := "proposerMore", fn := fun _ => fun
  | [d1, d2, d3] => { results := [.lit (.bool true)], args := [d1, d2, d3] }
  | _ => none }
def proposerMoreRow : OpenClaim := { program := "ytodlabpgjgbbpah", sum := "16d54763618f54242d2f2b3ca175a73ad10bc69dce1fb410af4d1fdb57a3e4fa", func := "agio/agiolaw11.ProposerMore", spec := "proposerMore", unfollowed := true, recurses := true, apart := false }
def ProposerMoreSaid : Prop := proposerMoreRow.holds Try.pinned (OpenSpec.ofChange proposerMoreSpec)

/-- ITS FALSE NEIGHBOUR: 'it returns false'. Refute it at one input. -/
def proposerMoreWrong : ChangeSpec := { name := "proposerMore", fn := fun _ => fun
  | [d1, d2, d3] => { results := [.lit (.bool false)], args := [d1, d2, d3] }
  | _ => none }
def ProposerMoreWrongFalsely : Prop := proposerMoreRow.holds Try.pinned (OpenSpec.ofChange proposerMoreWrong)

/-- 'agiolaw11.ProposerOne': WHATEVER THE INPUT: true; the input reads as it did. -/
def proposerOneSpec : ChangeSpec := { name := "proposerOne", fn := fun _ => fun
  | [d] => { results := [.lit (.bool true)], args := [d] }
  | _ => none }
def proposerOneRow : OpenClaim := { program := "ytodlabpgjgbbpah", sum := "16d54763618f54242d2f2b3ca175a73ad10bc69dce1fb410af4d1fdb57a3e4fa", func := "agio/agiolaw11.ProposerOne", spec := "proposerOne", unfollowed := true, recurses := true, apart := false }
def ProposerOneSaid : Prop := proposerOneRow.holds Try.pinned (OpenSpec.ofChange proposerOneSpec)

/-- ITS FALSE NEIGHBOUR: 'it returns false'. Refute it at one input. -/
def proposerOneWrong : ChangeSpec := { name := "proposerOne", fn := fun _ => fun
  | [d] => { results := [.lit (.bool false)], args := [d] }
  | _ => none }
def ProposerOneWrongFalsely : Prop := proposerOneRow.holds Try.pinned (OpenSpec.ofChange proposerOneWrong)

/-- 'agiolaw11.ProposerKeeps': WHATEVER THE INPUT: true; the input reads as it did. -/
def proposerKeepsSpec : ChangeSpec := { name := "proposerKeeps", fn := fun _ => fun
  | [d] => { results := [.lit (.bool true)], args := [d] }
  | _ => none }
def proposerKeepsRow : OpenClaim := { program := "ytodlabpgjgbbpah", sum := "16d54763618f54242d2f2b3ca175a73ad10bc69dce1fb410af4d1fdb57a3e4fa", func := "agio/agiolaw11.ProposerKeeps", spec := "proposerKeeps", unfollowed := true, recurses := true, apart := false }
def ProposerKeepsSaid : Prop := proposerKeepsRow.holds Try.pinned (OpenSpec.ofChange proposerKeepsSpec)

/-- ITS FALSE NEIGHBOUR: 'it returns false'. Refute it at one input. -/
def proposerKeepsWrong : ChangeSpec := { name := "proposerKeeps", fn := fun _ => fun
  | [d] => { results := [.lit (.bool false)], args := [d] }
  | _ => none }
def ProposerKeepsWrongFalsely : Prop := proposerKeepsRow.holds Try.pinned (OpenSpec.ofChange proposerKeepsWrong)

/- THE SECOND FORM. 'bulk': how many values and letters a reading holds, each counted each time it is reached (what is shared counts as often as it is met; a slice's spare places count too). A statement '..UptoSaid' is the law's where the arguments, and the package variables that the reading takes, are together of bulk at most 1048576: NARROWER than '..Said'. Prove '..Said' where nothing that the law and all that it calls make is longer than what came in: it says more and counts as full. Else prove '..UptoSaid'. A law counts once. -/
mutual
def uptoBulk {H : Type} : DataW H → Nat
  | .lit (.string bytes) => bytes.length + 1
  | .lit _ => 1
  | .nil => 1
  | .ptr d => uptoBulk d + 1
  | .slice elems spare => uptoBulkAll elems + uptoBulkAll spare + 1
  | .agg parts => uptoBulkAll parts + 1
  | .iface _ d => uptoBulk d + 1
  | .map entries => uptoBulkEntries entries + 1
  | .held _ => 1
def uptoBulkAll {H : Type} : List (DataW H) → Nat
  | [] => 0
  | d :: r => uptoBulk d + uptoBulkAll r
def uptoBulkEntries {H : Type} : List (Lit × DataW H) → Nat
  | [] => 0
  | x :: r => uptoBulkEntry x + uptoBulkEntries r
def uptoBulkEntry {H : Type} : Lit × DataW H → Nat
  | (.string bytes, d) => bytes.length + uptoBulk d + 1
  | (_, d) => uptoBulk d + 1
 end
def uptoSmall : (H : Type) → List (DataW H) → Bool := fun _ ds => decide (uptoBulkAll ds ≤ 1048576)
def OpenSpec.upto (s : _root_.Go.ChangeSpec) : _root_.Go.OpenSpec := { _root_.Go.OpenSpec.ofChange s with cond := some uptoSmall }

/-- 'agiolaw11.ProposerChooses', WHERE WHAT IT READS IS OF BULK AT MOST 1048576: true; the input reads as it did. -/
def proposerChoosesUptoRow : OpenClaim := { program := "ytodlabpgjgbbpah", sum := "16d54763618f54242d2f2b3ca175a73ad10bc69dce1fb410af4d1fdb57a3e4fa", func := "agio/agiolaw11.ProposerChooses", spec := "proposerChooses", unfollowed := true, recurses := true, apart := false, narrowed := true }
def ProposerChoosesUptoSaid : Prop := proposerChoosesUptoRow.holds Try.pinned (OpenSpec.upto proposerChoosesSpec)

/-- 'agiolaw11.ProposerFree', WHERE WHAT IT READS IS OF BULK AT MOST 1048576: true; the input reads as it did. -/
def proposerFreeUptoRow : OpenClaim := { program := "ytodlabpgjgbbpah", sum := "16d54763618f54242d2f2b3ca175a73ad10bc69dce1fb410af4d1fdb57a3e4fa", func := "agio/agiolaw11.ProposerFree", spec := "proposerFree", unfollowed := true, recurses := true, apart := false, narrowed := true }
def ProposerFreeUptoSaid : Prop := proposerFreeUptoRow.holds Try.pinned (OpenSpec.upto proposerFreeSpec)

/-- 'agiolaw11.ProposerCounts', WHERE WHAT IT READS IS OF BULK AT MOST 1048576: true; the input reads as it did. -/
def proposerCountsUptoRow : OpenClaim := { program := "ytodlabpgjgbbpah", sum := "16d54763618f54242d2f2b3ca175a73ad10bc69dce1fb410af4d1fdb57a3e4fa", func := "agio/agiolaw11.ProposerCounts", spec := "proposerCounts", unfollowed := true, recurses := true, apart := false, narrowed := true }
def ProposerCountsUptoSaid : Prop := proposerCountsUptoRow.holds Try.pinned (OpenSpec.upto proposerCountsSpec)

/-- 'agiolaw11.ProposerMore', WHERE WHAT IT READS IS OF BULK AT MOST 1048576: true; the input reads as it did. -/
def proposerMoreUptoRow : OpenClaim := { program := "ytodlabpgjgbbpah", sum := "16d54763618f54242d2f2b3ca175a73ad10bc69dce1fb410af4d1fdb57a3e4fa", func := "agio/agiolaw11.ProposerMore", spec := "proposerMore", unfollowed := true, recurses := true, apart := false, narrowed := true }
def ProposerMoreUptoSaid : Prop := proposerMoreUptoRow.holds Try.pinned (OpenSpec.upto proposerMoreSpec)

/-- 'agiolaw11.ProposerOne', WHERE WHAT IT READS IS OF BULK AT MOST 1048576: true; the input reads as it did. -/
def proposerOneUptoRow : OpenClaim := { program := "ytodlabpgjgbbpah", sum := "16d54763618f54242d2f2b3ca175a73ad10bc69dce1fb410af4d1fdb57a3e4fa", func := "agio/agiolaw11.ProposerOne", spec := "proposerOne", unfollowed := true, recurses := true, apart := false, narrowed := true }
def ProposerOneUptoSaid : Prop := proposerOneUptoRow.holds Try.pinned (OpenSpec.upto proposerOneSpec)

/-- 'agiolaw11.ProposerKeeps', WHERE WHAT IT READS IS OF BULK AT MOST 1048576: true; the input reads as it did. -/
def proposerKeepsUptoRow : OpenClaim := { program := "ytodlabpgjgbbpah", sum := "16d54763618f54242d2f2b3ca175a73ad10bc69dce1fb410af4d1fdb57a3e4fa", func := "agio/agiolaw11.ProposerKeeps", spec := "proposerKeeps", unfollowed := true, recurses := true, apart := false, narrowed := true }
def ProposerKeepsUptoSaid : Prop := proposerKeepsUptoRow.holds Try.pinned (OpenSpec.upto proposerKeepsSpec)

end Rows
end Go.Proofs.Ytodlabpgjgbbpah
