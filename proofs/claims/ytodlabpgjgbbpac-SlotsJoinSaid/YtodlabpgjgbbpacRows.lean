/-
  No cell of these rows narrows 'for every input' (looked for: loops, veiled, ifaces, maps, wideKeys, modest, calm, conditions, laid).
  DERIVED. THE GIVEN ROWS OF THIS SEAT. 6 by the template 'for every input the law returns true; each argument reads behind the call as it read before'; 0 by the template 'total and deterministic' (their statements: YtodlabpgjgbbpacTotals.lean).
  GIVEN WITH THE SEED: the statements are not yours to turn. If you find one false, say at which input.
  Laid BY PROGRAM, IN A SANDBOX (cutbox-rows.mjs): the forced cells as the released guide's own fill.sh prints them over the translation 60a61ff6a2a251a2… (all of the seat's roots in one cut). By AI agents, Wed Nov 11 2026. No macro, syntax, notation, axiom, sorry.
-/
import Derived.Test.YtodlabpgjgbbpacChecked
import GoSem.Claim
import GoSem.ClaimJoined
import GoSem.ClaimMapViews
import Derived.JoinedTies
import Derived.KernelRfl
namespace Go.Proofs.Ytodlabpgjgbbpac
/- THE CELL 'sum', in the pinned program and in every row, IS THE sha256 OF THE DUMP (.gsa) THAT YtodlabpgjgbbpacProg.lean LOADS. Nothing in Lean hashes anything: it is a label: what it is worth is what the hold of that sum in a sandbox is worth. -/
noncomputable def Try.pinned : Pinned := { name := "ytodlabpgjgbbpac", sum := "60a61ff6a2a251a2ab712f0e4441acf037f9d7e1126d20bb5a92c04dd368e2d5", checked := Try.checked }
namespace Rows
def none {H : Type} : Left H := { results := [], args := [] }

/-- 'agiolaw09.SlotsAll': WHATEVER THE INPUT: true; the input reads as it did. -/
def slotsAllSpec : ChangeSpec := { name := "slotsAll", fn := fun _ => fun
  | [d1, d2, d3] => { results := [.lit (.bool true)], args := [d1, d2, d3] }
  | _ => none }
def slotsAllRow : OpenClaim := { program := "ytodlabpgjgbbpac", sum := "60a61ff6a2a251a2ab712f0e4441acf037f9d7e1126d20bb5a92c04dd368e2d5", func := "agio/agiolaw09.SlotsAll", spec := "slotsAll", unfollowed := true, recurses := true, apart := false }
def SlotsAllSaid : Prop := slotsAllRow.holds Try.pinned (OpenSpec.ofChange slotsAllSpec)

/-- ITS FALSE NEIGHBOUR: 'it returns false'. Refute it at one input. -/
def slotsAllWrong : ChangeSpec := { name := "slotsAll", fn := fun _ => fun
  | [d1, d2, d3] => { results := [.lit (.bool false)], args := [d1, d2, d3] }
  | _ => none }
def SlotsAllWrongFalsely : Prop := slotsAllRow.holds Try.pinned (OpenSpec.ofChange slotsAllWrong)

/-- 'agiolaw09.SlotsApart': WHATEVER THE INPUT: true; the input reads as it did. -/
def slotsApartSpec : ChangeSpec := { name := "slotsApart", fn := fun _ => fun
  | [d1, d2, d3] => { results := [.lit (.bool true)], args := [d1, d2, d3] }
  | _ => none }
def slotsApartRow : OpenClaim := { program := "ytodlabpgjgbbpac", sum := "60a61ff6a2a251a2ab712f0e4441acf037f9d7e1126d20bb5a92c04dd368e2d5", func := "agio/agiolaw09.SlotsApart", spec := "slotsApart", unfollowed := true, recurses := true, apart := false }
def SlotsApartSaid : Prop := slotsApartRow.holds Try.pinned (OpenSpec.ofChange slotsApartSpec)

/-- ITS FALSE NEIGHBOUR: 'it returns false'. Refute it at one input. -/
def slotsApartWrong : ChangeSpec := { name := "slotsApart", fn := fun _ => fun
  | [d1, d2, d3] => { results := [.lit (.bool false)], args := [d1, d2, d3] }
  | _ => none }
def SlotsApartWrongFalsely : Prop := slotsApartRow.holds Try.pinned (OpenSpec.ofChange slotsApartWrong)

/-- 'agiolaw09.SlotsNone': WHATEVER THE INPUT: true; the input reads as it did. -/
def slotsNoneSpec : ChangeSpec := { name := "slotsNone", fn := fun _ => fun
  | [d1, d2, d3] => { results := [.lit (.bool true)], args := [d1, d2, d3] }
  | _ => none }
def slotsNoneRow : OpenClaim := { program := "ytodlabpgjgbbpac", sum := "60a61ff6a2a251a2ab712f0e4441acf037f9d7e1126d20bb5a92c04dd368e2d5", func := "agio/agiolaw09.SlotsNone", spec := "slotsNone", unfollowed := true, recurses := true, apart := false }
def SlotsNoneSaid : Prop := slotsNoneRow.holds Try.pinned (OpenSpec.ofChange slotsNoneSpec)

/-- ITS FALSE NEIGHBOUR: 'it returns false'. Refute it at one input. -/
def slotsNoneWrong : ChangeSpec := { name := "slotsNone", fn := fun _ => fun
  | [d1, d2, d3] => { results := [.lit (.bool false)], args := [d1, d2, d3] }
  | _ => none }
def SlotsNoneWrongFalsely : Prop := slotsNoneRow.holds Try.pinned (OpenSpec.ofChange slotsNoneWrong)

/-- 'agiolaw09.SlotsOwn': WHATEVER THE INPUT: true; the input reads as it did. -/
def slotsOwnSpec : ChangeSpec := { name := "slotsOwn", fn := fun _ => fun
  | [d] => { results := [.lit (.bool true)], args := [d] }
  | _ => none }
def slotsOwnRow : OpenClaim := { program := "ytodlabpgjgbbpac", sum := "60a61ff6a2a251a2ab712f0e4441acf037f9d7e1126d20bb5a92c04dd368e2d5", func := "agio/agiolaw09.SlotsOwn", spec := "slotsOwn", unfollowed := true, recurses := true, apart := false }
def SlotsOwnSaid : Prop := slotsOwnRow.holds Try.pinned (OpenSpec.ofChange slotsOwnSpec)

/-- ITS FALSE NEIGHBOUR: 'it returns false'. Refute it at one input. -/
def slotsOwnWrong : ChangeSpec := { name := "slotsOwn", fn := fun _ => fun
  | [d] => { results := [.lit (.bool false)], args := [d] }
  | _ => none }
def SlotsOwnWrongFalsely : Prop := slotsOwnRow.holds Try.pinned (OpenSpec.ofChange slotsOwnWrong)

/-- 'agiolaw09.SlotsNext': WHATEVER THE INPUT: true; the input reads as it did. -/
def slotsNextSpec : ChangeSpec := { name := "slotsNext", fn := fun _ => fun
  | [d] => { results := [.lit (.bool true)], args := [d] }
  | _ => none }
def slotsNextRow : OpenClaim := { program := "ytodlabpgjgbbpac", sum := "60a61ff6a2a251a2ab712f0e4441acf037f9d7e1126d20bb5a92c04dd368e2d5", func := "agio/agiolaw09.SlotsNext", spec := "slotsNext", unfollowed := true, recurses := true, apart := false }
def SlotsNextSaid : Prop := slotsNextRow.holds Try.pinned (OpenSpec.ofChange slotsNextSpec)

/-- ITS FALSE NEIGHBOUR: 'it returns false'. Refute it at one input. -/
def slotsNextWrong : ChangeSpec := { name := "slotsNext", fn := fun _ => fun
  | [d] => { results := [.lit (.bool false)], args := [d] }
  | _ => none }
def SlotsNextWrongFalsely : Prop := slotsNextRow.holds Try.pinned (OpenSpec.ofChange slotsNextWrong)

/-- 'agiolaw09.SlotsJoin': WHATEVER THE INPUT: true; the input reads as it did. -/
def slotsJoinSpec : ChangeSpec := { name := "slotsJoin", fn := fun _ => fun
  | [d1, d2] => { results := [.lit (.bool true)], args := [d1, d2] }
  | _ => none }
def slotsJoinRow : OpenClaim := { program := "ytodlabpgjgbbpac", sum := "60a61ff6a2a251a2ab712f0e4441acf037f9d7e1126d20bb5a92c04dd368e2d5", func := "agio/agiolaw09.SlotsJoin", spec := "slotsJoin", unfollowed := true, recurses := true, apart := false }
def SlotsJoinSaid : Prop := slotsJoinRow.holds Try.pinned (OpenSpec.ofChange slotsJoinSpec)

/-- ITS FALSE NEIGHBOUR: 'it returns false'. Refute it at one input. -/
def slotsJoinWrong : ChangeSpec := { name := "slotsJoin", fn := fun _ => fun
  | [d1, d2] => { results := [.lit (.bool false)], args := [d1, d2] }
  | _ => none }
def SlotsJoinWrongFalsely : Prop := slotsJoinRow.holds Try.pinned (OpenSpec.ofChange slotsJoinWrong)

/- THE SECOND FORM. 'bulk': how many values and letters a reading holds, each counted each time it is reached (what is shared counts as often as it is met; a slice's spare places count too). A statement '..UptoSaid' is the law's where the arguments, and the package variables that the reading takes, are together of bulk at most 1048576: NARROWER than '..Said'. Prove '..Said' where nothing that the law and all that it calls make is longer than what came in: it says more and counts as full. Else prove '..UptoSaid'. A law counts once. -/
mutual
def uptoBulk {H : Type} : DataW H → Nat
  | .lit (.string bytes) => bytes.length + 1
  | .lit _ => 1
  | .nil => 1
  | .ptr d => uptoBulk d + 1
  | .slice elems spare => uptoBulkAll elems + uptoBulkAll spare + 1
  | .agg parts => uptoBulkAll parts + 1
  | .iface _ d => uptoBulk d + 1
  | .map entries => uptoBulkEntries entries + 1
  | .held _ => 1
def uptoBulkAll {H : Type} : List (DataW H) → Nat
  | [] => 0
  | d :: r => uptoBulk d + uptoBulkAll r
def uptoBulkEntries {H : Type} : List (Lit × DataW H) → Nat
  | [] => 0
  | x :: r => uptoBulkEntry x + uptoBulkEntries r
def uptoBulkEntry {H : Type} : Lit × DataW H → Nat
  | (.string bytes, d) => bytes.length + uptoBulk d + 1
  | (_, d) => uptoBulk d + 1
 end
def uptoSmall : (H : Type) → List (DataW H) → Bool := fun _ ds => decide (uptoBulkAll ds ≤ 1048576)
def OpenSpec.upto (s : _root_.Go.ChangeSpec) : _root_.Go.OpenSpec := { _root_.Go.OpenSpec.ofChange s with cond := some uptoSmall }

/-- 'agiolaw09.SlotsAll', WHERE WHAT IT READS IS OF BULK AT MOST 1048576: true; the input reads as it did. -/
def slotsAllUptoRow : OpenClaim := { program := "ytodlabpgjgbbpac", sum := "60a61ff6a2a251a2ab712f0e4441acf037f9d7e1126d20bb5a92c04dd368e2d5", func := "agio/agiolaw09.SlotsAll", spec := "slotsAll", unfollowed := true, recurses := true, apart := false, narrowed := true }
def SlotsAllUptoSaid : Prop := slotsAllUptoRow.holds Try.pinned (OpenSpec.upto slotsAllSpec)

/-- 'agiolaw09.SlotsApart', WHERE WHAT IT READS IS OF BULK AT MOST 1048576: true; the input reads as it did. -/
def slotsApartUptoRow : OpenClaim := { program := "ytodlabpgjgbbpac", sum := "60a61ff6a2a251a2ab712f0e4441acf037f9d7e1126d20bb5a92c04dd368e2d5", func := "agio/agiolaw09.SlotsApart", spec := "slotsApart", unfollowed := true, recurses := true, apart := false, narrowed := true }
def SlotsApartUptoSaid : Prop := slotsApartUptoRow.holds Try.pinned (OpenSpec.upto slotsApartSpec)

/-- 'agiolaw09.SlotsNone', WHERE WHAT IT READS IS OF BULK AT MOST 1048576: true; the input reads as it did. -/
def slotsNoneUptoRow : OpenClaim := { program := "ytodlabpgjgbbpac", sum := "60a61ff6a2a251a2ab712f0e4441acf037f9d7e1126d20bb5a92c04dd368e2d5", func := "agio/agiolaw09.SlotsNone", spec := "slotsNone", unfollowed := true, recurses := true, apart := false, narrowed := true }
def SlotsNoneUptoSaid : Prop := slotsNoneUptoRow.holds Try.pinned (OpenSpec.upto slotsNoneSpec)

/-- 'agiolaw09.SlotsOwn', WHERE WHAT IT READS IS OF BULK AT MOST 1048576: true; the input reads as it did. -/
def slotsOwnUptoRow : OpenClaim := { program := "ytodlabpgjgbbpac", sum := "60a61ff6a2a251a2ab712f0e4441acf037f9d7e1126d20bb5a92c04dd368e2d5", func := "agio/agiolaw09.SlotsOwn", spec := "slotsOwn", unfollowed := true, recurses := true, apart := false, narrowed := true }
def SlotsOwnUptoSaid : Prop := slotsOwnUptoRow.holds Try.pinned (OpenSpec.upto slotsOwnSpec)

/-- 'agiolaw09.SlotsNext', WHERE WHAT IT READS IS OF BULK AT MOST 1048576: true; the input reads as it did. -/
def slotsNextUptoRow : OpenClaim := { program := "ytodlabpgjgbbpac", sum := "60a61ff6a2a251a2ab712f0e4441acf037f9d7e1126d20bb5a92c04dd368e2d5", func := "agio/agiolaw09.SlotsNext", spec := "slotsNext", unfollowed := true, recurses := true, apart := false, narrowed := true }
def SlotsNextUptoSaid : Prop := slotsNextUptoRow.holds Try.pinned (OpenSpec.upto slotsNextSpec)

/-- 'agiolaw09.SlotsJoin', WHERE WHAT IT READS IS OF BULK AT MOST 1048576: true; the input reads as it did. -/
def slotsJoinUptoRow : OpenClaim := { program := "ytodlabpgjgbbpac", sum := "60a61ff6a2a251a2ab712f0e4441acf037f9d7e1126d20bb5a92c04dd368e2d5", func := "agio/agiolaw09.SlotsJoin", spec := "slotsJoin", unfollowed := true, recurses := true, apart := false, narrowed := true }
def SlotsJoinUptoSaid : Prop := slotsJoinUptoRow.holds Try.pinned (OpenSpec.upto slotsJoinSpec)

end Rows
end Go.Proofs.Ytodlabpgjgbbpac
