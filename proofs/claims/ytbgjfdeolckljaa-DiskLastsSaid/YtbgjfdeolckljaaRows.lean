/-
  No cell of these rows narrows 'for every input' (looked for: loops, veiled, ifaces, maps, wideKeys, modest, calm, conditions, laid).
  DERIVED. THE GIVEN ROWS OF THIS SEAT. 6 by the template 'for every input the law returns true; each argument reads behind the call as it read before'; 0 by the template 'total and deterministic' (their statements: YtbgjfdeolckljaaTotals.lean).
  GIVEN WITH THE SEED: the statements are not yours to turn. If you find one false, say at which input.
  Laid BY PROGRAM, IN A SANDBOX (cutbox-rows.mjs): the forced cells as the released guide's own fill.sh prints them over the translation be56dda48b030c0e… (all of the seat's roots in one cut). By AI agents, Wed Nov 11 2026. No macro, syntax, notation, axiom, sorry.
-/
import Derived.Test.YtbgjfdeolckljaaChecked
import GoSem.Claim
import GoSem.ClaimJoined
import GoSem.ClaimMapViews
import Derived.JoinedTies
import Derived.KernelRfl
namespace Go.Proofs.Ytbgjfdeolckljaa
/- THE CELL 'sum', in the pinned program and in every row, IS THE sha256 OF THE DUMP (.gsa) THAT YtbgjfdeolckljaaProg.lean LOADS. Nothing in Lean hashes anything: it is a label: what it is worth is what the hold of that sum in a sandbox is worth. -/
noncomputable def Try.pinned : Pinned := { name := "ytbgjfdeolckljaa", sum := "be56dda48b030c0ee832894373fc095853e35df6a1e9a37092b525115165b8e5", checked := Try.checked }
namespace Rows
def none {H : Type} : Left H := { results := [], args := [] }

/-- 'mandolinelaw19.DiskLasts': WHATEVER THE INPUT: true; the input reads as it did. -/
def diskLastsSpec : ChangeSpec := { name := "diskLasts", fn := fun _ => fun
  | [d1, d2, d3] => { results := [.lit (.bool true)], args := [d1, d2, d3] }
  | _ => none }
def diskLastsRow : OpenClaim := { program := "ytbgjfdeolckljaa", sum := "be56dda48b030c0ee832894373fc095853e35df6a1e9a37092b525115165b8e5", func := "mandoline/mandolinelaw19.DiskLasts", spec := "diskLasts", apart := false }
def DiskLastsSaid : Prop := diskLastsRow.holds Try.pinned (OpenSpec.ofChange diskLastsSpec)

/-- ITS FALSE NEIGHBOUR: 'it returns false'. Refute it at one input. -/
def diskLastsWrong : ChangeSpec := { name := "diskLasts", fn := fun _ => fun
  | [d1, d2, d3] => { results := [.lit (.bool false)], args := [d1, d2, d3] }
  | _ => none }
def DiskLastsWrongFalsely : Prop := diskLastsRow.holds Try.pinned (OpenSpec.ofChange diskLastsWrong)

/-- 'mandolinelaw19.DiskOwn': WHATEVER THE INPUT: true; the input reads as it did. -/
def diskOwnSpec : ChangeSpec := { name := "diskOwn", fn := fun _ => fun
  | [d1, d2, d3] => { results := [.lit (.bool true)], args := [d1, d2, d3] }
  | _ => none }
def diskOwnRow : OpenClaim := { program := "ytbgjfdeolckljaa", sum := "be56dda48b030c0ee832894373fc095853e35df6a1e9a37092b525115165b8e5", func := "mandoline/mandolinelaw19.DiskOwn", spec := "diskOwn", apart := false }
def DiskOwnSaid : Prop := diskOwnRow.holds Try.pinned (OpenSpec.ofChange diskOwnSpec)

/-- ITS FALSE NEIGHBOUR: 'it returns false'. Refute it at one input. -/
def diskOwnWrong : ChangeSpec := { name := "diskOwn", fn := fun _ => fun
  | [d1, d2, d3] => { results := [.lit (.bool false)], args := [d1, d2, d3] }
  | _ => none }
def DiskOwnWrongFalsely : Prop := diskOwnRow.holds Try.pinned (OpenSpec.ofChange diskOwnWrong)

/-- 'mandolinelaw19.DiskNews': WHATEVER THE INPUT: true; the input reads as it did. -/
def diskNewsSpec : ChangeSpec := { name := "diskNews", fn := fun _ => fun
  | [d1, d2] => { results := [.lit (.bool true)], args := [d1, d2] }
  | _ => none }
def diskNewsRow : OpenClaim := { program := "ytbgjfdeolckljaa", sum := "be56dda48b030c0ee832894373fc095853e35df6a1e9a37092b525115165b8e5", func := "mandoline/mandolinelaw19.DiskNews", spec := "diskNews", apart := false }
def DiskNewsSaid : Prop := diskNewsRow.holds Try.pinned (OpenSpec.ofChange diskNewsSpec)

/-- ITS FALSE NEIGHBOUR: 'it returns false'. Refute it at one input. -/
def diskNewsWrong : ChangeSpec := { name := "diskNews", fn := fun _ => fun
  | [d1, d2] => { results := [.lit (.bool false)], args := [d1, d2] }
  | _ => none }
def DiskNewsWrongFalsely : Prop := diskNewsRow.holds Try.pinned (OpenSpec.ofChange diskNewsWrong)

/-- 'mandolinelaw19.DiskRots': WHATEVER THE INPUT: true; the input reads as it did. -/
def diskRotsSpec : ChangeSpec := { name := "diskRots", fn := fun _ => fun
  | [d1, d2, d3, d4] => { results := [.lit (.bool true)], args := [d1, d2, d3, d4] }
  | _ => none }
def diskRotsRow : OpenClaim := { program := "ytbgjfdeolckljaa", sum := "be56dda48b030c0ee832894373fc095853e35df6a1e9a37092b525115165b8e5", func := "mandoline/mandolinelaw19.DiskRots", spec := "diskRots", apart := false }
def DiskRotsSaid : Prop := diskRotsRow.holds Try.pinned (OpenSpec.ofChange diskRotsSpec)

/-- ITS FALSE NEIGHBOUR: 'it returns false'. Refute it at one input. -/
def diskRotsWrong : ChangeSpec := { name := "diskRots", fn := fun _ => fun
  | [d1, d2, d3, d4] => { results := [.lit (.bool false)], args := [d1, d2, d3, d4] }
  | _ => none }
def DiskRotsWrongFalsely : Prop := diskRotsRow.holds Try.pinned (OpenSpec.ofChange diskRotsWrong)

/-- 'mandolinelaw19.DiskPlays': WHATEVER THE INPUT: true; the input reads as it did. -/
def diskPlaysSpec : ChangeSpec := { name := "diskPlays", fn := fun _ => fun
  | [d1, d2, d3] => { results := [.lit (.bool true)], args := [d1, d2, d3] }
  | _ => none }
def diskPlaysRow : OpenClaim := { program := "ytbgjfdeolckljaa", sum := "be56dda48b030c0ee832894373fc095853e35df6a1e9a37092b525115165b8e5", func := "mandoline/mandolinelaw19.DiskPlays", spec := "diskPlays", apart := false }
def DiskPlaysSaid : Prop := diskPlaysRow.holds Try.pinned (OpenSpec.ofChange diskPlaysSpec)

/-- ITS FALSE NEIGHBOUR: 'it returns false'. Refute it at one input. -/
def diskPlaysWrong : ChangeSpec := { name := "diskPlays", fn := fun _ => fun
  | [d1, d2, d3] => { results := [.lit (.bool false)], args := [d1, d2, d3] }
  | _ => none }
def DiskPlaysWrongFalsely : Prop := diskPlaysRow.holds Try.pinned (OpenSpec.ofChange diskPlaysWrong)

/-- 'mandolinelaw19.DiskNil': WHATEVER THE INPUT: true; the input reads as it did. -/
def diskNilSpec : ChangeSpec := { name := "diskNil", fn := fun _ => fun
  | [d1, d2, d3] => { results := [.lit (.bool true)], args := [d1, d2, d3] }
  | _ => none }
def diskNilRow : OpenClaim := { program := "ytbgjfdeolckljaa", sum := "be56dda48b030c0ee832894373fc095853e35df6a1e9a37092b525115165b8e5", func := "mandoline/mandolinelaw19.DiskNil", spec := "diskNil", apart := false }
def DiskNilSaid : Prop := diskNilRow.holds Try.pinned (OpenSpec.ofChange diskNilSpec)

/-- ITS FALSE NEIGHBOUR: 'it returns false'. Refute it at one input. -/
def diskNilWrong : ChangeSpec := { name := "diskNil", fn := fun _ => fun
  | [d1, d2, d3] => { results := [.lit (.bool false)], args := [d1, d2, d3] }
  | _ => none }
def DiskNilWrongFalsely : Prop := diskNilRow.holds Try.pinned (OpenSpec.ofChange diskNilWrong)

/- THE SECOND FORM. 'bulk': how many values and letters a reading holds, each counted each time it is reached (what is shared counts as often as it is met; a slice's spare places count too). A statement '..UptoSaid' is the law's where the arguments, and the package variables that the reading takes, are together of bulk at most 1048576: NARROWER than '..Said'. Prove '..Said' where nothing that the law and all that it calls make is longer than what came in: it says more and counts as full. Else prove '..UptoSaid'. A law counts once. -/
mutual
def uptoBulk {H : Type} : DataW H → Nat
  | .lit (.string bytes) => bytes.length + 1
  | .lit _ => 1
  | .nil => 1
  | .ptr d => uptoBulk d + 1
  | .slice elems spare => uptoBulkAll elems + uptoBulkAll spare + 1
  | .agg parts => uptoBulkAll parts + 1
  | .iface _ d => uptoBulk d + 1
  | .map entries => uptoBulkEntries entries + 1
  | .held _ => 1
def uptoBulkAll {H : Type} : List (DataW H) → Nat
  | [] => 0
  | d :: r => uptoBulk d + uptoBulkAll r
def uptoBulkEntries {H : Type} : List (Lit × DataW H) → Nat
  | [] => 0
  | x :: r => uptoBulkEntry x + uptoBulkEntries r
def uptoBulkEntry {H : Type} : Lit × DataW H → Nat
  | (.string bytes, d) => bytes.length + uptoBulk d + 1
  | (_, d) => uptoBulk d + 1
 end
def uptoSmall : (H : Type) → List (DataW H) → Bool := fun _ ds => decide (uptoBulkAll ds ≤ 1048576)
def OpenSpec.upto (s : _root_.Go.ChangeSpec) : _root_.Go.OpenSpec := { _root_.Go.OpenSpec.ofChange s with cond := some uptoSmall }

/-- 'mandolinelaw19.DiskLasts', WHERE WHAT IT READS IS OF BULK AT MOST 1048576: true; the input reads as it did. -/
def diskLastsUptoRow : OpenClaim := { program := "ytbgjfdeolckljaa", sum := "be56dda48b030c0ee832894373fc095853e35df6a1e9a37092b525115165b8e5", func := "mandoline/mandolinelaw19.DiskLasts", spec := "diskLasts", apart := false, narrowed := true }
def DiskLastsUptoSaid : Prop := diskLastsUptoRow.holds Try.pinned (OpenSpec.upto diskLastsSpec)

/-- 'mandolinelaw19.DiskOwn', WHERE WHAT IT READS IS OF BULK AT MOST 1048576: true; the input reads as it did. -/
def diskOwnUptoRow : OpenClaim := { program := "ytbgjfdeolckljaa", sum := "be56dda48b030c0ee832894373fc095853e35df6a1e9a37092b525115165b8e5", func := "mandoline/mandolinelaw19.DiskOwn", spec := "diskOwn", apart := false, narrowed := true }
def DiskOwnUptoSaid : Prop := diskOwnUptoRow.holds Try.pinned (OpenSpec.upto diskOwnSpec)

/-- 'mandolinelaw19.DiskNews', WHERE WHAT IT READS IS OF BULK AT MOST 1048576: true; the input reads as it did. -/
def diskNewsUptoRow : OpenClaim := { program := "ytbgjfdeolckljaa", sum := "be56dda48b030c0ee832894373fc095853e35df6a1e9a37092b525115165b8e5", func := "mandoline/mandolinelaw19.DiskNews", spec := "diskNews", apart := false, narrowed := true }
def DiskNewsUptoSaid : Prop := diskNewsUptoRow.holds Try.pinned (OpenSpec.upto diskNewsSpec)

/-- 'mandolinelaw19.DiskRots', WHERE WHAT IT READS IS OF BULK AT MOST 1048576: true; the input reads as it did. -/
def diskRotsUptoRow : OpenClaim := { program := "ytbgjfdeolckljaa", sum := "be56dda48b030c0ee832894373fc095853e35df6a1e9a37092b525115165b8e5", func := "mandoline/mandolinelaw19.DiskRots", spec := "diskRots", apart := false, narrowed := true }
def DiskRotsUptoSaid : Prop := diskRotsUptoRow.holds Try.pinned (OpenSpec.upto diskRotsSpec)

/-- 'mandolinelaw19.DiskPlays', WHERE WHAT IT READS IS OF BULK AT MOST 1048576: true; the input reads as it did. -/
def diskPlaysUptoRow : OpenClaim := { program := "ytbgjfdeolckljaa", sum := "be56dda48b030c0ee832894373fc095853e35df6a1e9a37092b525115165b8e5", func := "mandoline/mandolinelaw19.DiskPlays", spec := "diskPlays", apart := false, narrowed := true }
def DiskPlaysUptoSaid : Prop := diskPlaysUptoRow.holds Try.pinned (OpenSpec.upto diskPlaysSpec)

/-- 'mandolinelaw19.DiskNil', WHERE WHAT IT READS IS OF BULK AT MOST 1048576: true; the input reads as it did. -/
def diskNilUptoRow : OpenClaim := { program := "ytbgjfdeolckljaa", sum := "be56dda48b030c0ee832894373fc095853e35df6a1e9a37092b525115165b8e5", func := "mandoline/mandolinelaw19.DiskNil", spec := "diskNil", apart := false, narrowed := true }
def DiskNilUptoSaid : Prop := diskNilUptoRow.holds Try.pinned (OpenSpec.upto diskNilSpec)

end Rows
end Go.Proofs.Ytbgjfdeolckljaa
