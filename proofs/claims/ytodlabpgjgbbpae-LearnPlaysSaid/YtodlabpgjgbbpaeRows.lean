/-
  No cell of these rows narrows 'for every input' (looked for: loops, veiled, ifaces, maps, wideKeys, modest, calm, conditions, laid).
  DERIVED. THE GIVEN ROWS OF THIS SEAT. 6 by the template 'for every input the law returns true; each argument reads behind the call as it read before'; 0 by the template 'total and deterministic' (their statements: YtodlabpgjgbbpaeTotals.lean).
  GIVEN WITH THE SEED: the statements are not yours to turn. If you find one false, say at which input.
  Laid BY PROGRAM, IN A SANDBOX (cutbox-rows.mjs): the forced cells as the released guide's own fill.sh prints them over the translation e7d2694900d1d01f… (all of the seat's roots in one cut). By AI agents, Wed Nov 11 2026. No macro, syntax, notation, axiom, sorry.
-/
import Derived.Test.YtodlabpgjgbbpaeChecked
import GoSem.Claim
import GoSem.ClaimJoined
import GoSem.ClaimMapViews
import Derived.JoinedTies
import Derived.KernelRfl
namespace Go.Proofs.Ytodlabpgjgbbpae
/- THE CELL 'sum', in the pinned program and in every row, IS THE sha256 OF THE DUMP (.gsa) THAT YtodlabpgjgbbpaeProg.lean LOADS. Nothing in Lean hashes anything: it is a label: what it is worth is what the hold of that sum in a sandbox is worth. -/
noncomputable def Try.pinned : Pinned := { name := "ytodlabpgjgbbpae", sum := "e7d2694900d1d01f80c5f67695a7bf504ce4fe585df3dbe13b12f182938dcb0a", checked := Try.checked }
namespace Rows
def none {H : Type} : Left H := { results := [], args := [] }

/-- 'agiolaw12.LearnOrder': WHATEVER THE INPUT: true; the input reads as it did. -/
def learnOrderSpec : ChangeSpec := { name := "learnOrder", fn := fun _ => fun
  | [d1, d2] => { results := [.lit (.bool true)], args := [d1, d2] }
  | _ => none }
def learnOrderRow : OpenClaim := { program := "ytodlabpgjgbbpae", sum := "e7d2694900d1d01f80c5f67695a7bf504ce4fe585df3dbe13b12f182938dcb0a", func := "agio/agiolaw12.LearnOrder", spec := "learnOrder", apart := false }
def LearnOrderSaid : Prop := learnOrderRow.holds Try.pinned (OpenSpec.ofChange learnOrderSpec)

/-- ITS FALSE NEIGHBOUR: 'it returns false'. Refute it at one input. -/
def learnOrderWrong : ChangeSpec := { name := "learnOrder", fn := fun _ => fun
  | [d1, d2] => { results := [.lit (.bool false)], args := [d1, d2] }
  | _ => none }
def LearnOrderWrongFalsely : Prop := learnOrderRow.holds Try.pinned (OpenSpec.ofChange learnOrderWrong)

/-- 'agiolaw12.LearnBegins': WHATEVER THE INPUT: true; the input reads as it did. -/
def learnBeginsSpec : ChangeSpec := { name := "learnBegins", fn := fun _ => fun
  | [d1, d2, d3] => { results := [.lit (.bool true)], args := [d1, d2, d3] }
  | _ => none }
def learnBeginsRow : OpenClaim := { program := "ytodlabpgjgbbpae", sum := "e7d2694900d1d01f80c5f67695a7bf504ce4fe585df3dbe13b12f182938dcb0a", func := "agio/agiolaw12.LearnBegins", spec := "learnBegins", apart := false }
def LearnBeginsSaid : Prop := learnBeginsRow.holds Try.pinned (OpenSpec.ofChange learnBeginsSpec)

/-- ITS FALSE NEIGHBOUR: 'it returns false'. Refute it at one input. -/
def learnBeginsWrong : ChangeSpec := { name := "learnBegins", fn := fun _ => fun
  | [d1, d2, d3] => { results := [.lit (.bool false)], args := [d1, d2, d3] }
  | _ => none }
def LearnBeginsWrongFalsely : Prop := learnBeginsRow.holds Try.pinned (OpenSpec.ofChange learnBeginsWrong)

/-- 'agiolaw12.LearnOnce': WHATEVER THE INPUT: true; the input reads as it did. -/
def learnOnceSpec : ChangeSpec := { name := "learnOnce", fn := fun _ => fun
  | [d1, d2, d3] => { results := [.lit (.bool true)], args := [d1, d2, d3] }
  | _ => none }
def learnOnceRow : OpenClaim := { program := "ytodlabpgjgbbpae", sum := "e7d2694900d1d01f80c5f67695a7bf504ce4fe585df3dbe13b12f182938dcb0a", func := "agio/agiolaw12.LearnOnce", spec := "learnOnce", apart := false }
def LearnOnceSaid : Prop := learnOnceRow.holds Try.pinned (OpenSpec.ofChange learnOnceSpec)

/-- ITS FALSE NEIGHBOUR: 'it returns false'. Refute it at one input. -/
def learnOnceWrong : ChangeSpec := { name := "learnOnce", fn := fun _ => fun
  | [d1, d2, d3] => { results := [.lit (.bool false)], args := [d1, d2, d3] }
  | _ => none }
def LearnOnceWrongFalsely : Prop := learnOnceRow.holds Try.pinned (OpenSpec.ofChange learnOnceWrong)

/-- 'agiolaw12.LearnMissing': WHATEVER THE INPUT: true; the input reads as it did. -/
def learnMissingSpec : ChangeSpec := { name := "learnMissing", fn := fun _ => fun
  | [d1, d2] => { results := [.lit (.bool true)], args := [d1, d2] }
  | _ => none }
def learnMissingRow : OpenClaim := { program := "ytodlabpgjgbbpae", sum := "e7d2694900d1d01f80c5f67695a7bf504ce4fe585df3dbe13b12f182938dcb0a", func := "agio/agiolaw12.LearnMissing", spec := "learnMissing", unfollowed := true, recurses := true, apart := false }
def LearnMissingSaid : Prop := learnMissingRow.holds Try.pinned (OpenSpec.ofChange learnMissingSpec)

/-- ITS FALSE NEIGHBOUR: 'it returns false'. Refute it at one input. -/
def learnMissingWrong : ChangeSpec := { name := "learnMissing", fn := fun _ => fun
  | [d1, d2] => { results := [.lit (.bool false)], args := [d1, d2] }
  | _ => none }
def LearnMissingWrongFalsely : Prop := learnMissingRow.holds Try.pinned (OpenSpec.ofChange learnMissingWrong)

/-- 'agiolaw12.LearnPlays': WHATEVER THE INPUT: true; the input reads as it did. -/
def learnPlaysSpec : ChangeSpec := { name := "learnPlays", fn := fun _ => fun
  | [d] => { results := [.lit (.bool true)], args := [d] }
  | _ => none }
def learnPlaysRow : OpenClaim := { program := "ytodlabpgjgbbpae", sum := "e7d2694900d1d01f80c5f67695a7bf504ce4fe585df3dbe13b12f182938dcb0a", func := "agio/agiolaw12.LearnPlays", spec := "learnPlays", unfollowed := true, recurses := true, apart := false }
def LearnPlaysSaid : Prop := learnPlaysRow.holds Try.pinned (OpenSpec.ofChange learnPlaysSpec)

/-- ITS FALSE NEIGHBOUR: 'it returns false'. Refute it at one input. -/
def learnPlaysWrong : ChangeSpec := { name := "learnPlays", fn := fun _ => fun
  | [d] => { results := [.lit (.bool false)], args := [d] }
  | _ => none }
def LearnPlaysWrongFalsely : Prop := learnPlaysRow.holds Try.pinned (OpenSpec.ofChange learnPlaysWrong)

/-- 'agiolaw12.LearnNobody': WHATEVER THE INPUT: true; the input reads as it did. -/
def learnNobodySpec : ChangeSpec := { name := "learnNobody", fn := fun _ => fun
  | [d1, d2] => { results := [.lit (.bool true)], args := [d1, d2] }
  | _ => none }
def learnNobodyRow : OpenClaim := { program := "ytodlabpgjgbbpae", sum := "e7d2694900d1d01f80c5f67695a7bf504ce4fe585df3dbe13b12f182938dcb0a", func := "agio/agiolaw12.LearnNobody", spec := "learnNobody", unfollowed := true, recurses := true, apart := false }
def LearnNobodySaid : Prop := learnNobodyRow.holds Try.pinned (OpenSpec.ofChange learnNobodySpec)

/-- ITS FALSE NEIGHBOUR: 'it returns false'. Refute it at one input. -/
def learnNobodyWrong : ChangeSpec := { name := "learnNobody", fn := fun _ => fun
  | [d1, d2] => { results := [.lit (.bool false)], args := [d1, d2] }
  | _ => none }
def LearnNobodyWrongFalsely : Prop := learnNobodyRow.holds Try.pinned (OpenSpec.ofChange learnNobodyWrong)

/- THE SECOND FORM. 'bulk': how many values and letters a reading holds, each counted each time it is reached (what is shared counts as often as it is met; a slice's spare places count too). A statement '..UptoSaid' is the law's where the arguments, and the package variables that the reading takes, are together of bulk at most 1048576: NARROWER than '..Said'. Prove '..Said' where nothing that the law and all that it calls make is longer than what came in: it says more and counts as full. Else prove '..UptoSaid'. A law counts once. -/
mutual
def uptoBulk {H : Type} : DataW H → Nat
  | .lit (.string bytes) => bytes.length + 1
  | .lit _ => 1
  | .nil => 1
  | .ptr d => uptoBulk d + 1
  | .slice elems spare => uptoBulkAll elems + uptoBulkAll spare + 1
  | .agg parts => uptoBulkAll parts + 1
  | .iface _ d => uptoBulk d + 1
  | .map entries => uptoBulkEntries entries + 1
  | .held _ => 1
def uptoBulkAll {H : Type} : List (DataW H) → Nat
  | [] => 0
  | d :: r => uptoBulk d + uptoBulkAll r
def uptoBulkEntries {H : Type} : List (Lit × DataW H) → Nat
  | [] => 0
  | x :: r => uptoBulkEntry x + uptoBulkEntries r
def uptoBulkEntry {H : Type} : Lit × DataW H → Nat
  | (.string bytes, d) => bytes.length + uptoBulk d + 1
  | (_, d) => uptoBulk d + 1
 end
def uptoSmall : (H : Type) → List (DataW H) → Bool := fun _ ds => decide (uptoBulkAll ds ≤ 1048576)
def OpenSpec.upto (s : _root_.Go.ChangeSpec) : _root_.Go.OpenSpec := { _root_.Go.OpenSpec.ofChange s with cond := some uptoSmall }

/-- 'agiolaw12.LearnOrder', WHERE WHAT IT READS IS OF BULK AT MOST 1048576: true; the input reads as it did. -/
def learnOrderUptoRow : OpenClaim := { program := "ytodlabpgjgbbpae", sum := "e7d2694900d1d01f80c5f67695a7bf504ce4fe585df3dbe13b12f182938dcb0a", func := "agio/agiolaw12.LearnOrder", spec := "learnOrder", apart := false, narrowed := true }
def LearnOrderUptoSaid : Prop := learnOrderUptoRow.holds Try.pinned (OpenSpec.upto learnOrderSpec)

/-- 'agiolaw12.LearnBegins', WHERE WHAT IT READS IS OF BULK AT MOST 1048576: true; the input reads as it did. -/
def learnBeginsUptoRow : OpenClaim := { program := "ytodlabpgjgbbpae", sum := "e7d2694900d1d01f80c5f67695a7bf504ce4fe585df3dbe13b12f182938dcb0a", func := "agio/agiolaw12.LearnBegins", spec := "learnBegins", apart := false, narrowed := true }
def LearnBeginsUptoSaid : Prop := learnBeginsUptoRow.holds Try.pinned (OpenSpec.upto learnBeginsSpec)

/-- 'agiolaw12.LearnOnce', WHERE WHAT IT READS IS OF BULK AT MOST 1048576: true; the input reads as it did. -/
def learnOnceUptoRow : OpenClaim := { program := "ytodlabpgjgbbpae", sum := "e7d2694900d1d01f80c5f67695a7bf504ce4fe585df3dbe13b12f182938dcb0a", func := "agio/agiolaw12.LearnOnce", spec := "learnOnce", apart := false, narrowed := true }
def LearnOnceUptoSaid : Prop := learnOnceUptoRow.holds Try.pinned (OpenSpec.upto learnOnceSpec)

/-- 'agiolaw12.LearnMissing', WHERE WHAT IT READS IS OF BULK AT MOST 1048576: true; the input reads as it did. -/
def learnMissingUptoRow : OpenClaim := { program := "ytodlabpgjgbbpae", sum := "e7d2694900d1d01f80c5f67695a7bf504ce4fe585df3dbe13b12f182938dcb0a", func := "agio/agiolaw12.LearnMissing", spec := "learnMissing", unfollowed := true, recurses := true, apart := false, narrowed := true }
def LearnMissingUptoSaid : Prop := learnMissingUptoRow.holds Try.pinned (OpenSpec.upto learnMissingSpec)

/-- 'agiolaw12.LearnPlays', WHERE WHAT IT READS IS OF BULK AT MOST 1048576: true; the input reads as it did. -/
def learnPlaysUptoRow : OpenClaim := { program := "ytodlabpgjgbbpae", sum := "e7d2694900d1d01f80c5f67695a7bf504ce4fe585df3dbe13b12f182938dcb0a", func := "agio/agiolaw12.LearnPlays", spec := "learnPlays", unfollowed := true, recurses := true, apart := false, narrowed := true }
def LearnPlaysUptoSaid : Prop := learnPlaysUptoRow.holds Try.pinned (OpenSpec.upto learnPlaysSpec)

/-- 'agiolaw12.LearnNobody', WHERE WHAT IT READS IS OF BULK AT MOST 1048576: true; the input reads as it did. -/
def learnNobodyUptoRow : OpenClaim := { program := "ytodlabpgjgbbpae", sum := "e7d2694900d1d01f80c5f67695a7bf504ce4fe585df3dbe13b12f182938dcb0a", func := "agio/agiolaw12.LearnNobody", spec := "learnNobody", unfollowed := true, recurses := true, apart := false, narrowed := true }
def LearnNobodyUptoSaid : Prop := learnNobodyUptoRow.holds Try.pinned (OpenSpec.upto learnNobodySpec)

end Rows
end Go.Proofs.Ytodlabpgjgbbpae
