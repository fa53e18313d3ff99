/-
  No cell of these rows narrows 'for every input' (looked for: loops, veiled, ifaces, maps, wideKeys, modest, calm, conditions, laid).
  DERIVED. THE GIVEN ROWS OF THIS SEAT. 5 by the template 'for every input the law returns true; each argument reads behind the call as it read before'; 0 by the template 'total and deterministic' (their statements: YtaidfofcijnbeaaTotals.lean).
  GIVEN WITH THE SEED: the statements are not yours to turn. If you find one false, say at which input.
  Laid BY PROGRAM, IN A SANDBOX (cutbox-rows.mjs): the forced cells as the released guide's own fill.sh prints them over the translation 33e7bf4a8e3f5fb3… (all of the seat's roots in one cut). By AI agents, Wed Nov 11 2026. No macro, syntax, notation, axiom, sorry.
-/
import Derived.Test.YtaidfofcijnbeaaChecked
import GoSem.Claim
import GoSem.ClaimJoined
import GoSem.ClaimMapViews
import Derived.JoinedTies
import Derived.KernelRfl
namespace Go.Proofs.Ytaidfofcijnbeaa
/- THE CELL 'sum', in the pinned program and in every row, IS THE sha256 OF THE DUMP (.gsa) THAT YtaidfofcijnbeaaProg.lean LOADS. Nothing in Lean hashes anything: it is a label: what it is worth is what the hold of that sum in a sandbox is worth. -/
noncomputable def Try.pinned : Pinned := { name := "ytaidfofcijnbeaa", sum := "33e7bf4a8e3f5fb3bbd5bb25dd7452347958c413c2219407f916641a3b4193f5", checked := Try.checked }
namespace Rows
def none {H : Type} : Left H := { results := [], args := [] }

/-- 'mandolinelaw18.SumOf': WHATEVER THE INPUT: true; the input reads as it did. -/
def sumOfSpec : ChangeSpec := { name := "sumOf", fn := fun _ => fun
  | [d1, d2] => { results := [.lit (.bool true)], args := [d1, d2] }
  | _ => none }
def sumOfRow : OpenClaim := { program := "ytaidfofcijnbeaa", sum := "33e7bf4a8e3f5fb3bbd5bb25dd7452347958c413c2219407f916641a3b4193f5", func := "mandoline/mandolinelaw18.SumOf", spec := "sumOf", apart := false }
def SumOfSaid : Prop := sumOfRow.holds Try.pinned (OpenSpec.ofChange sumOfSpec)

/-- ITS FALSE NEIGHBOUR: 'it returns false'. Refute it at one input. -/
def sumOfWrong : ChangeSpec := { name := "sumOf", fn := fun _ => fun
  | [d1, d2] => { results := [.lit (.bool false)], args := [d1, d2] }
  | _ => none }
def SumOfWrongFalsely : Prop := sumOfRow.holds Try.pinned (OpenSpec.ofChange sumOfWrong)

/-- 'mandolinelaw18.SumParts': WHATEVER THE INPUT: true; the input reads as it did. -/
def sumPartsSpec : ChangeSpec := { name := "sumParts", fn := fun _ => fun
  | [d1, d2] => { results := [.lit (.bool true)], args := [d1, d2] }
  | _ => none }
def sumPartsRow : OpenClaim := { program := "ytaidfofcijnbeaa", sum := "33e7bf4a8e3f5fb3bbd5bb25dd7452347958c413c2219407f916641a3b4193f5", func := "mandoline/mandolinelaw18.SumParts", spec := "sumParts", apart := false }
def SumPartsSaid : Prop := sumPartsRow.holds Try.pinned (OpenSpec.ofChange sumPartsSpec)

/-- ITS FALSE NEIGHBOUR: 'it returns false'. Refute it at one input. -/
def sumPartsWrong : ChangeSpec := { name := "sumParts", fn := fun _ => fun
  | [d1, d2] => { results := [.lit (.bool false)], args := [d1, d2] }
  | _ => none }
def SumPartsWrongFalsely : Prop := sumPartsRow.holds Try.pinned (OpenSpec.ofChange sumPartsWrong)

/-- 'mandolinelaw18.SumFixes': WHATEVER THE INPUT: true; the input reads as it did. -/
def sumFixesSpec : ChangeSpec := { name := "sumFixes", fn := fun _ => fun
  | [d1, d2] => { results := [.lit (.bool true)], args := [d1, d2] }
  | _ => none }
def sumFixesRow : OpenClaim := { program := "ytaidfofcijnbeaa", sum := "33e7bf4a8e3f5fb3bbd5bb25dd7452347958c413c2219407f916641a3b4193f5", func := "mandoline/mandolinelaw18.SumFixes", spec := "sumFixes", apart := false }
def SumFixesSaid : Prop := sumFixesRow.holds Try.pinned (OpenSpec.ofChange sumFixesSpec)

/-- ITS FALSE NEIGHBOUR: 'it returns false'. Refute it at one input. -/
def sumFixesWrong : ChangeSpec := { name := "sumFixes", fn := fun _ => fun
  | [d1, d2] => { results := [.lit (.bool false)], args := [d1, d2] }
  | _ => none }
def SumFixesWrongFalsely : Prop := sumFixesRow.holds Try.pinned (OpenSpec.ofChange sumFixesWrong)

/-- 'mandolinelaw18.SumBursts': WHATEVER THE INPUT: true; the input reads as it did. -/
def sumBurstsSpec : ChangeSpec := { name := "sumBursts", fn := fun _ => fun
  | [d1, d2, d3] => { results := [.lit (.bool true)], args := [d1, d2, d3] }
  | _ => none }
def sumBurstsRow : OpenClaim := { program := "ytaidfofcijnbeaa", sum := "33e7bf4a8e3f5fb3bbd5bb25dd7452347958c413c2219407f916641a3b4193f5", func := "mandoline/mandolinelaw18.SumBursts", spec := "sumBursts", apart := false }
def SumBurstsSaid : Prop := sumBurstsRow.holds Try.pinned (OpenSpec.ofChange sumBurstsSpec)

/-- ITS FALSE NEIGHBOUR: 'it returns false'. Refute it at one input. -/
def sumBurstsWrong : ChangeSpec := { name := "sumBursts", fn := fun _ => fun
  | [d1, d2, d3] => { results := [.lit (.bool false)], args := [d1, d2, d3] }
  | _ => none }
def SumBurstsWrongFalsely : Prop := sumBurstsRow.holds Try.pinned (OpenSpec.ofChange sumBurstsWrong)

/-- 'mandolinelaw18.SumMarks': WHATEVER THE INPUT: true; the input reads as it did. -/
def sumMarksSpec : ChangeSpec := { name := "sumMarks", fn := fun _ => fun
  | [d1, d2] => { results := [.lit (.bool true)], args := [d1, d2] }
  | _ => none }
def sumMarksRow : OpenClaim := { program := "ytaidfofcijnbeaa", sum := "33e7bf4a8e3f5fb3bbd5bb25dd7452347958c413c2219407f916641a3b4193f5", func := "mandoline/mandolinelaw18.SumMarks", spec := "sumMarks", apart := false }
def SumMarksSaid : Prop := sumMarksRow.holds Try.pinned (OpenSpec.ofChange sumMarksSpec)

/-- ITS FALSE NEIGHBOUR: 'it returns false'. Refute it at one input. -/
def sumMarksWrong : ChangeSpec := { name := "sumMarks", fn := fun _ => fun
  | [d1, d2] => { results := [.lit (.bool false)], args := [d1, d2] }
  | _ => none }
def SumMarksWrongFalsely : Prop := sumMarksRow.holds Try.pinned (OpenSpec.ofChange sumMarksWrong)

/- THE SECOND FORM. 'bulk': how many values and letters a reading holds, each counted each time it is reached (what is shared counts as often as it is met; a slice's spare places count too). A statement '..UptoSaid' is the law's where the arguments, and the package variables that the reading takes, are together of bulk at most 1048576: NARROWER than '..Said'. Prove '..Said' where nothing that the law and all that it calls make is longer than what came in: it says more and counts as full. Else prove '..UptoSaid'. A law counts once. -/
mutual
def uptoBulk {H : Type} : DataW H → Nat
  | .lit (.string bytes) => bytes.length + 1
  | .lit _ => 1
  | .nil => 1
  | .ptr d => uptoBulk d + 1
  | .slice elems spare => uptoBulkAll elems + uptoBulkAll spare + 1
  | .agg parts => uptoBulkAll parts + 1
  | .iface _ d => uptoBulk d + 1
  | .map entries => uptoBulkEntries entries + 1
  | .held _ => 1
def uptoBulkAll {H : Type} : List (DataW H) → Nat
  | [] => 0
  | d :: r => uptoBulk d + uptoBulkAll r
def uptoBulkEntries {H : Type} : List (Lit × DataW H) → Nat
  | [] => 0
  | x :: r => uptoBulkEntry x + uptoBulkEntries r
def uptoBulkEntry {H : Type} : Lit × DataW H → Nat
  | (.string bytes, d) => bytes.length + uptoBulk d + 1
  | (_, d) => uptoBulk d + 1
 end
def uptoSmall : (H : Type) → List (DataW H) → Bool := fun _ ds => decide (uptoBulkAll ds ≤ 1048576)
def OpenSpec.upto (s : _root_.Go.ChangeSpec) : _root_.Go.OpenSpec := { _root_.Go.OpenSpec.ofChange s with cond := some uptoSmall }

/-- 'mandolinelaw18.SumOf', WHERE WHAT IT READS IS OF BULK AT MOST 1048576: true; the input reads as it did. -/
def sumOfUptoRow : OpenClaim := { program := "ytaidfofcijnbeaa", sum := "33e7bf4a8e3f5fb3bbd5bb25dd7452347958c413c2219407f916641a3b4193f5", func := "mandoline/mandolinelaw18.SumOf", spec := "sumOf", apart := false, narrowed := true }
def SumOfUptoSaid : Prop := sumOfUptoRow.holds Try.pinned (OpenSpec.upto sumOfSpec)

/-- 'mandolinelaw18.SumParts', WHERE WHAT IT READS IS OF BULK AT MOST 1048576: true; the input reads as it did. -/
def sumPartsUptoRow : OpenClaim := { program := "ytaidfofcijnbeaa", sum := "33e7bf4a8e3f5fb3bbd5bb25dd7452347958c413c2219407f916641a3b4193f5", func := "mandoline/mandolinelaw18.SumParts", spec := "sumParts", apart := false, narrowed := true }
def SumPartsUptoSaid : Prop := sumPartsUptoRow.holds Try.pinned (OpenSpec.upto sumPartsSpec)

/-- 'mandolinelaw18.SumFixes', WHERE WHAT IT READS IS OF BULK AT MOST 1048576: true; the input reads as it did. -/
def sumFixesUptoRow : OpenClaim := { program := "ytaidfofcijnbeaa", sum := "33e7bf4a8e3f5fb3bbd5bb25dd7452347958c413c2219407f916641a3b4193f5", func := "mandoline/mandolinelaw18.SumFixes", spec := "sumFixes", apart := false, narrowed := true }
def SumFixesUptoSaid : Prop := sumFixesUptoRow.holds Try.pinned (OpenSpec.upto sumFixesSpec)

/-- 'mandolinelaw18.SumBursts', WHERE WHAT IT READS IS OF BULK AT MOST 1048576: true; the input reads as it did. -/
def sumBurstsUptoRow : OpenClaim := { program := "ytaidfofcijnbeaa", sum := "33e7bf4a8e3f5fb3bbd5bb25dd7452347958c413c2219407f916641a3b4193f5", func := "mandoline/mandolinelaw18.SumBursts", spec := "sumBursts", apart := false, narrowed := true }
def SumBurstsUptoSaid : Prop := sumBurstsUptoRow.holds Try.pinned (OpenSpec.upto sumBurstsSpec)

/-- 'mandolinelaw18.SumMarks', WHERE WHAT IT READS IS OF BULK AT MOST 1048576: true; the input reads as it did. -/
def sumMarksUptoRow : OpenClaim := { program := "ytaidfofcijnbeaa", sum := "33e7bf4a8e3f5fb3bbd5bb25dd7452347958c413c2219407f916641a3b4193f5", func := "mandoline/mandolinelaw18.SumMarks", spec := "sumMarks", apart := false, narrowed := true }
def SumMarksUptoSaid : Prop := sumMarksUptoRow.holds Try.pinned (OpenSpec.upto sumMarksSpec)

end Rows
end Go.Proofs.Ytaidfofcijnbeaa
