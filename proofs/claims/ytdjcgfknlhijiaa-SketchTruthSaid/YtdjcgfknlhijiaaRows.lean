/-
  No cell of these rows narrows 'for every input' (looked for: loops, veiled, ifaces, maps, wideKeys, modest, calm, conditions, laid).
  DERIVED. THE GIVEN ROWS OF THIS SEAT. 6 by the template 'for every input the law returns true; each argument reads behind the call as it read before'; 0 by the template 'total and deterministic' (their statements: YtdjcgfknlhijiaaTotals.lean).
  GIVEN WITH THE SEED: the statements are not yours to turn. If you find one false, say at which input.
  Laid BY PROGRAM, IN A SANDBOX (cutbox-rows.mjs): the forced cells as the released guide's own fill.sh prints them over the translation f7cc2b320fe79692… (all of the seat's roots in one cut). By AI agents, Wed Nov 11 2026. No macro, syntax, notation, axiom, sorry.
-/
import Derived.Test.YtdjcgfknlhijiaaChecked
import GoSem.Claim
import GoSem.ClaimJoined
import GoSem.ClaimMapViews
import Derived.JoinedTies
import Derived.KernelRfl
namespace Go.Proofs.Ytdjcgfknlhijiaa
/- THE CELL 'sum', in the pinned program and in every row, IS THE sha256 OF THE DUMP (.gsa) THAT YtdjcgfknlhijiaaProg.lean LOADS. Nothing in Lean hashes anything: it is a label: what it is worth is what the hold of that sum in a sandbox is worth. -/
noncomputable def Try.pinned : Pinned := { name := "ytdjcgfknlhijiaa", sum := "f7cc2b320fe79692106ce813b7a110d40c75c63d5d725fa3a886dc2a3f766396", checked := Try.checked }
namespace Rows
def none {H : Type} : Left H := { results := [], args := [] }

/-- 'mandolinelaw28.SketchPlays': WHATEVER THE INPUT: true; the input reads as it did. -/
def sketchPlaysSpec : ChangeSpec := { name := "sketchPlays", fn := fun _ => fun
  | [d1, d2] => { results := [.lit (.bool true)], args := [d1, d2] }
  | _ => none }
def sketchPlaysRow : OpenClaim := { program := "ytdjcgfknlhijiaa", sum := "f7cc2b320fe79692106ce813b7a110d40c75c63d5d725fa3a886dc2a3f766396", func := "mandoline/mandolinelaw28.SketchPlays", spec := "sketchPlays", apart := false }
def SketchPlaysSaid : Prop := sketchPlaysRow.holds Try.pinned (OpenSpec.ofChange sketchPlaysSpec)

/-- ITS FALSE NEIGHBOUR: 'it returns false'. Refute it at one input. -/
def sketchPlaysWrong : ChangeSpec := { name := "sketchPlays", fn := fun _ => fun
  | [d1, d2] => { results := [.lit (.bool false)], args := [d1, d2] }
  | _ => none }
def SketchPlaysWrongFalsely : Prop := sketchPlaysRow.holds Try.pinned (OpenSpec.ofChange sketchPlaysWrong)

/-- 'mandolinelaw28.SketchNew': WHATEVER THE INPUT: true; the input reads as it did. -/
def sketchNewSpec : ChangeSpec := { name := "sketchNew", fn := fun _ => fun
  | [d1, d2, d3] => { results := [.lit (.bool true)], args := [d1, d2, d3] }
  | _ => none }
def sketchNewRow : OpenClaim := { program := "ytdjcgfknlhijiaa", sum := "f7cc2b320fe79692106ce813b7a110d40c75c63d5d725fa3a886dc2a3f766396", func := "mandoline/mandolinelaw28.SketchNew", spec := "sketchNew", apart := false }
def SketchNewSaid : Prop := sketchNewRow.holds Try.pinned (OpenSpec.ofChange sketchNewSpec)

/-- ITS FALSE NEIGHBOUR: 'it returns false'. Refute it at one input. -/
def sketchNewWrong : ChangeSpec := { name := "sketchNew", fn := fun _ => fun
  | [d1, d2, d3] => { results := [.lit (.bool false)], args := [d1, d2, d3] }
  | _ => none }
def SketchNewWrongFalsely : Prop := sketchNewRow.holds Try.pinned (OpenSpec.ofChange sketchNewWrong)

/-- 'mandolinelaw28.SketchTruth': WHATEVER THE INPUT: true; the input reads as it did. -/
def sketchTruthSpec : ChangeSpec := { name := "sketchTruth", fn := fun _ => fun
  | [d1, d2] => { results := [.lit (.bool true)], args := [d1, d2] }
  | _ => none }
def sketchTruthRow : OpenClaim := { program := "ytdjcgfknlhijiaa", sum := "f7cc2b320fe79692106ce813b7a110d40c75c63d5d725fa3a886dc2a3f766396", func := "mandoline/mandolinelaw28.SketchTruth", spec := "sketchTruth", apart := false }
def SketchTruthSaid : Prop := sketchTruthRow.holds Try.pinned (OpenSpec.ofChange sketchTruthSpec)

/-- ITS FALSE NEIGHBOUR: 'it returns false'. Refute it at one input. -/
def sketchTruthWrong : ChangeSpec := { name := "sketchTruth", fn := fun _ => fun
  | [d1, d2] => { results := [.lit (.bool false)], args := [d1, d2] }
  | _ => none }
def SketchTruthWrongFalsely : Prop := sketchTruthRow.holds Try.pinned (OpenSpec.ofChange sketchTruthWrong)

/-- 'mandolinelaw28.SketchAlone': WHATEVER THE INPUT: true; the input reads as it did. -/
def sketchAloneSpec : ChangeSpec := { name := "sketchAlone", fn := fun _ => fun
  | [d1, d2, d3] => { results := [.lit (.bool true)], args := [d1, d2, d3] }
  | _ => none }
def sketchAloneRow : OpenClaim := { program := "ytdjcgfknlhijiaa", sum := "f7cc2b320fe79692106ce813b7a110d40c75c63d5d725fa3a886dc2a3f766396", func := "mandoline/mandolinelaw28.SketchAlone", spec := "sketchAlone", apart := false }
def SketchAloneSaid : Prop := sketchAloneRow.holds Try.pinned (OpenSpec.ofChange sketchAloneSpec)

/-- ITS FALSE NEIGHBOUR: 'it returns false'. Refute it at one input. -/
def sketchAloneWrong : ChangeSpec := { name := "sketchAlone", fn := fun _ => fun
  | [d1, d2, d3] => { results := [.lit (.bool false)], args := [d1, d2, d3] }
  | _ => none }
def SketchAloneWrongFalsely : Prop := sketchAloneRow.holds Try.pinned (OpenSpec.ofChange sketchAloneWrong)

/-- 'mandolinelaw28.SketchOrder': WHATEVER THE INPUT: true; the input reads as it did. -/
def sketchOrderSpec : ChangeSpec := { name := "sketchOrder", fn := fun _ => fun
  | [d1, d2, d3] => { results := [.lit (.bool true)], args := [d1, d2, d3] }
  | _ => none }
def sketchOrderRow : OpenClaim := { program := "ytdjcgfknlhijiaa", sum := "f7cc2b320fe79692106ce813b7a110d40c75c63d5d725fa3a886dc2a3f766396", func := "mandoline/mandolinelaw28.SketchOrder", spec := "sketchOrder", apart := false }
def SketchOrderSaid : Prop := sketchOrderRow.holds Try.pinned (OpenSpec.ofChange sketchOrderSpec)

/-- ITS FALSE NEIGHBOUR: 'it returns false'. Refute it at one input. -/
def sketchOrderWrong : ChangeSpec := { name := "sketchOrder", fn := fun _ => fun
  | [d1, d2, d3] => { results := [.lit (.bool false)], args := [d1, d2, d3] }
  | _ => none }
def SketchOrderWrongFalsely : Prop := sketchOrderRow.holds Try.pinned (OpenSpec.ofChange sketchOrderWrong)

/-- 'mandolinelaw28.SketchHashes': WHATEVER THE INPUT: true; the input reads as it did. -/
def sketchHashesSpec : ChangeSpec := { name := "sketchHashes", fn := fun _ => fun
  | [d] => { results := [.lit (.bool true)], args := [d] }
  | _ => none }
def sketchHashesRow : OpenClaim := { program := "ytdjcgfknlhijiaa", sum := "f7cc2b320fe79692106ce813b7a110d40c75c63d5d725fa3a886dc2a3f766396", func := "mandoline/mandolinelaw28.SketchHashes", spec := "sketchHashes", apart := false }
def SketchHashesSaid : Prop := sketchHashesRow.holds Try.pinned (OpenSpec.ofChange sketchHashesSpec)

/-- ITS FALSE NEIGHBOUR: 'it returns false'. Refute it at one input. -/
def sketchHashesWrong : ChangeSpec := { name := "sketchHashes", fn := fun _ => fun
  | [d] => { results := [.lit (.bool false)], args := [d] }
  | _ => none }
def SketchHashesWrongFalsely : Prop := sketchHashesRow.holds Try.pinned (OpenSpec.ofChange sketchHashesWrong)

/- THE SECOND FORM. 'bulk': how many values and letters a reading holds, each counted each time it is reached (what is shared counts as often as it is met; a slice's spare places count too). A statement '..UptoSaid' is the law's where the arguments, and the package variables that the reading takes, are together of bulk at most 1048576: NARROWER than '..Said'. Prove '..Said' where nothing that the law and all that it calls make is longer than what came in: it says more and counts as full. Else prove '..UptoSaid'. A law counts once. -/
mutual
def uptoBulk {H : Type} : DataW H → Nat
  | .lit (.string bytes) => bytes.length + 1
  | .lit _ => 1
  | .nil => 1
  | .ptr d => uptoBulk d + 1
  | .slice elems spare => uptoBulkAll elems + uptoBulkAll spare + 1
  | .agg parts => uptoBulkAll parts + 1
  | .iface _ d => uptoBulk d + 1
  | .map entries => uptoBulkEntries entries + 1
  | .held _ => 1
def uptoBulkAll {H : Type} : List (DataW H) → Nat
  | [] => 0
  | d :: r => uptoBulk d + uptoBulkAll r
def uptoBulkEntries {H : Type} : List (Lit × DataW H) → Nat
  | [] => 0
  | x :: r => uptoBulkEntry x + uptoBulkEntries r
def uptoBulkEntry {H : Type} : Lit × DataW H → Nat
  | (.string bytes, d) => bytes.length + uptoBulk d + 1
  | (_, d) => uptoBulk d + 1
 end
def uptoSmall : (H : Type) → List (DataW H) → Bool := fun _ ds => decide (uptoBulkAll ds ≤ 1048576)
def OpenSpec.upto (s : _root_.Go.ChangeSpec) : _root_.Go.OpenSpec := { _root_.Go.OpenSpec.ofChange s with cond := some uptoSmall }

/-- 'mandolinelaw28.SketchPlays', WHERE WHAT IT READS IS OF BULK AT MOST 1048576: true; the input reads as it did. -/
def sketchPlaysUptoRow : OpenClaim := { program := "ytdjcgfknlhijiaa", sum := "f7cc2b320fe79692106ce813b7a110d40c75c63d5d725fa3a886dc2a3f766396", func := "mandoline/mandolinelaw28.SketchPlays", spec := "sketchPlays", apart := false, narrowed := true }
def SketchPlaysUptoSaid : Prop := sketchPlaysUptoRow.holds Try.pinned (OpenSpec.upto sketchPlaysSpec)

/-- 'mandolinelaw28.SketchNew', WHERE WHAT IT READS IS OF BULK AT MOST 1048576: true; the input reads as it did. -/
def sketchNewUptoRow : OpenClaim := { program := "ytdjcgfknlhijiaa", sum := "f7cc2b320fe79692106ce813b7a110d40c75c63d5d725fa3a886dc2a3f766396", func := "mandoline/mandolinelaw28.SketchNew", spec := "sketchNew", apart := false, narrowed := true }
def SketchNewUptoSaid : Prop := sketchNewUptoRow.holds Try.pinned (OpenSpec.upto sketchNewSpec)

/-- 'mandolinelaw28.SketchTruth', WHERE WHAT IT READS IS OF BULK AT MOST 1048576: true; the input reads as it did. -/
def sketchTruthUptoRow : OpenClaim := { program := "ytdjcgfknlhijiaa", sum := "f7cc2b320fe79692106ce813b7a110d40c75c63d5d725fa3a886dc2a3f766396", func := "mandoline/mandolinelaw28.SketchTruth", spec := "sketchTruth", apart := false, narrowed := true }
def SketchTruthUptoSaid : Prop := sketchTruthUptoRow.holds Try.pinned (OpenSpec.upto sketchTruthSpec)

/-- 'mandolinelaw28.SketchAlone', WHERE WHAT IT READS IS OF BULK AT MOST 1048576: true; the input reads as it did. -/
def sketchAloneUptoRow : OpenClaim := { program := "ytdjcgfknlhijiaa", sum := "f7cc2b320fe79692106ce813b7a110d40c75c63d5d725fa3a886dc2a3f766396", func := "mandoline/mandolinelaw28.SketchAlone", spec := "sketchAlone", apart := false, narrowed := true }
def SketchAloneUptoSaid : Prop := sketchAloneUptoRow.holds Try.pinned (OpenSpec.upto sketchAloneSpec)

/-- 'mandolinelaw28.SketchOrder', WHERE WHAT IT READS IS OF BULK AT MOST 1048576: true; the input reads as it did. -/
def sketchOrderUptoRow : OpenClaim := { program := "ytdjcgfknlhijiaa", sum := "f7cc2b320fe79692106ce813b7a110d40c75c63d5d725fa3a886dc2a3f766396", func := "mandoline/mandolinelaw28.SketchOrder", spec := "sketchOrder", apart := false, narrowed := true }
def SketchOrderUptoSaid : Prop := sketchOrderUptoRow.holds Try.pinned (OpenSpec.upto sketchOrderSpec)

/-- 'mandolinelaw28.SketchHashes', WHERE WHAT IT READS IS OF BULK AT MOST 1048576: true; the input reads as it did. -/
def sketchHashesUptoRow : OpenClaim := { program := "ytdjcgfknlhijiaa", sum := "f7cc2b320fe79692106ce813b7a110d40c75c63d5d725fa3a886dc2a3f766396", func := "mandoline/mandolinelaw28.SketchHashes", spec := "sketchHashes", apart := false, narrowed := true }
def SketchHashesUptoSaid : Prop := sketchHashesUptoRow.holds Try.pinned (OpenSpec.upto sketchHashesSpec)

end Rows
end Go.Proofs.Ytdjcgfknlhijiaa
