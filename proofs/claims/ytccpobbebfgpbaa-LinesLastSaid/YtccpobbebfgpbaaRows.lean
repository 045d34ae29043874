/-
  No cell of these rows narrows 'for every input' (looked for: loops, veiled, ifaces, maps, wideKeys, modest, calm, conditions, laid).
  DERIVED. THE GIVEN ROWS OF THIS SEAT. 6 by the template 'for every input the law returns true; each argument reads behind the call as it read before'; 0 by the template 'total and deterministic' (their statements: YtccpobbebfgpbaaTotals.lean).
  GIVEN WITH THE SEED: the statements are not yours to turn. If you find one false, say at which input.
  Laid BY PROGRAM, IN A SANDBOX (cutbox-rows.mjs): the forced cells as the released guide's own fill.sh prints them over the translation 86369e88dcea5f50… (all of the seat's roots in one cut). By AI agents, Wed Nov 11 2026. No macro, syntax, notation, axiom, sorry.
-/
import Derived.Test.YtccpobbebfgpbaaChecked
import GoSem.Claim
import GoSem.ClaimJoined
import GoSem.ClaimMapViews
import Derived.JoinedTies
import Derived.KernelRfl
namespace Go.Proofs.Ytccpobbebfgpbaa
/- THE CELL 'sum', in the pinned program and in every row, IS THE sha256 OF THE DUMP (.gsa) THAT YtccpobbebfgpbaaProg.lean LOADS. Nothing in Lean hashes anything: it is a label: what it is worth is what the hold of that sum in a sandbox is worth. -/
noncomputable def Try.pinned : Pinned := { name := "ytccpobbebfgpbaa", sum := "86369e88dcea5f5049e28a61ff5d170991d8366b5b55a911f1b75462409154b2", checked := Try.checked }
namespace Rows
def none {H : Type} : Left H := { results := [], args := [] }

/-- 'seinelaw02.LinesSplit': WHATEVER THE INPUT: true; the input reads as it did. -/
def linesSplitSpec : ChangeSpec := { name := "linesSplit", fn := fun _ => fun
  | [d] => { results := [.lit (.bool true)], args := [d] }
  | _ => none }
def linesSplitRow : OpenClaim := { program := "ytccpobbebfgpbaa", sum := "86369e88dcea5f5049e28a61ff5d170991d8366b5b55a911f1b75462409154b2", func := "seine/seinelaw02.LinesSplit", spec := "linesSplit", unfollowed := true, recurses := true, apart := false }
def LinesSplitSaid : Prop := linesSplitRow.holds Try.pinned (OpenSpec.ofChange linesSplitSpec)

/-- ITS FALSE NEIGHBOUR: 'it returns false'. Refute it at one input. -/
def linesSplitWrong : ChangeSpec := { name := "linesSplit", fn := fun _ => fun
  | [d] => { results := [.lit (.bool false)], args := [d] }
  | _ => none }
def LinesSplitWrongFalsely : Prop := linesSplitRow.holds Try.pinned (OpenSpec.ofChange linesSplitWrong)

/-- 'seinelaw02.LinesAll': WHATEVER THE INPUT: true; the input reads as it did. -/
def linesAllSpec : ChangeSpec := { name := "linesAll", fn := fun _ => fun
  | [d1, d2] => { results := [.lit (.bool true)], args := [d1, d2] }
  | _ => none }
def linesAllRow : OpenClaim := { program := "ytccpobbebfgpbaa", sum := "86369e88dcea5f5049e28a61ff5d170991d8366b5b55a911f1b75462409154b2", func := "seine/seinelaw02.LinesAll", spec := "linesAll", unfollowed := true, recurses := true, apart := false }
def LinesAllSaid : Prop := linesAllRow.holds Try.pinned (OpenSpec.ofChange linesAllSpec)

/-- ITS FALSE NEIGHBOUR: 'it returns false'. Refute it at one input. -/
def linesAllWrong : ChangeSpec := { name := "linesAll", fn := fun _ => fun
  | [d1, d2] => { results := [.lit (.bool false)], args := [d1, d2] }
  | _ => none }
def LinesAllWrongFalsely : Prop := linesAllRow.holds Try.pinned (OpenSpec.ofChange linesAllWrong)

/-- 'seinelaw02.LinesBack': WHATEVER THE INPUT: true; the input reads as it did. -/
def linesBackSpec : ChangeSpec := { name := "linesBack", fn := fun _ => fun
  | [d] => { results := [.lit (.bool true)], args := [d] }
  | _ => none }
def linesBackRow : OpenClaim := { program := "ytccpobbebfgpbaa", sum := "86369e88dcea5f5049e28a61ff5d170991d8366b5b55a911f1b75462409154b2", func := "seine/seinelaw02.LinesBack", spec := "linesBack", unfollowed := true, recurses := true, apart := false }
def LinesBackSaid : Prop := linesBackRow.holds Try.pinned (OpenSpec.ofChange linesBackSpec)

/-- ITS FALSE NEIGHBOUR: 'it returns false'. Refute it at one input. -/
def linesBackWrong : ChangeSpec := { name := "linesBack", fn := fun _ => fun
  | [d] => { results := [.lit (.bool false)], args := [d] }
  | _ => none }
def LinesBackWrongFalsely : Prop := linesBackRow.holds Try.pinned (OpenSpec.ofChange linesBackWrong)

/-- 'seinelaw02.LinesJoin': WHATEVER THE INPUT: true; the input reads as it did. -/
def linesJoinSpec : ChangeSpec := { name := "linesJoin", fn := fun _ => fun
  | [d] => { results := [.lit (.bool true)], args := [d] }
  | _ => none }
def linesJoinRow : OpenClaim := { program := "ytccpobbebfgpbaa", sum := "86369e88dcea5f5049e28a61ff5d170991d8366b5b55a911f1b75462409154b2", func := "seine/seinelaw02.LinesJoin", spec := "linesJoin", unfollowed := true, recurses := true, apart := false }
def LinesJoinSaid : Prop := linesJoinRow.holds Try.pinned (OpenSpec.ofChange linesJoinSpec)

/-- ITS FALSE NEIGHBOUR: 'it returns false'. Refute it at one input. -/
def linesJoinWrong : ChangeSpec := { name := "linesJoin", fn := fun _ => fun
  | [d] => { results := [.lit (.bool false)], args := [d] }
  | _ => none }
def LinesJoinWrongFalsely : Prop := linesJoinRow.holds Try.pinned (OpenSpec.ofChange linesJoinWrong)

/-- 'seinelaw02.LinesParts': WHATEVER THE INPUT: true; the input reads as it did. -/
def linesPartsSpec : ChangeSpec := { name := "linesParts", fn := fun _ => fun
  | [d1, d2] => { results := [.lit (.bool true)], args := [d1, d2] }
  | _ => none }
def linesPartsRow : OpenClaim := { program := "ytccpobbebfgpbaa", sum := "86369e88dcea5f5049e28a61ff5d170991d8366b5b55a911f1b75462409154b2", func := "seine/seinelaw02.LinesParts", spec := "linesParts", unfollowed := true, recurses := true, apart := false }
def LinesPartsSaid : Prop := linesPartsRow.holds Try.pinned (OpenSpec.ofChange linesPartsSpec)

/-- ITS FALSE NEIGHBOUR: 'it returns false'. Refute it at one input. -/
def linesPartsWrong : ChangeSpec := { name := "linesParts", fn := fun _ => fun
  | [d1, d2] => { results := [.lit (.bool false)], args := [d1, d2] }
  | _ => none }
def LinesPartsWrongFalsely : Prop := linesPartsRow.holds Try.pinned (OpenSpec.ofChange linesPartsWrong)

/-- 'seinelaw02.LinesLast': WHATEVER THE INPUT: true; the input reads as it did. -/
def linesLastSpec : ChangeSpec := { name := "linesLast", fn := fun _ => fun
  | [d] => { results := [.lit (.bool true)], args := [d] }
  | _ => none }
def linesLastRow : OpenClaim := { program := "ytccpobbebfgpbaa", sum := "86369e88dcea5f5049e28a61ff5d170991d8366b5b55a911f1b75462409154b2", func := "seine/seinelaw02.LinesLast", spec := "linesLast", unfollowed := true, recurses := true, apart := false }
def LinesLastSaid : Prop := linesLastRow.holds Try.pinned (OpenSpec.ofChange linesLastSpec)

/-- ITS FALSE NEIGHBOUR: 'it returns false'. Refute it at one input. -/
def linesLastWrong : ChangeSpec := { name := "linesLast", fn := fun _ => fun
  | [d] => { results := [.lit (.bool false)], args := [d] }
  | _ => none }
def LinesLastWrongFalsely : Prop := linesLastRow.holds Try.pinned (OpenSpec.ofChange linesLastWrong)

/- THE SECOND FORM. 'bulk': how many values and letters a reading holds, each counted each time it is reached (what is shared counts as often as it is met; a slice's spare places count too). A statement '..UptoSaid' is the law's where the arguments, and the package variables that the reading takes, are together of bulk at most 1048576: NARROWER than '..Said'. Prove '..Said' where nothing that the law and all that it calls make is longer than what came in: it says more and counts as full. Else prove '..UptoSaid'. A law counts once. -/
mutual
def uptoBulk {H : Type} : DataW H → Nat
  | .lit (.string bytes) => bytes.length + 1
  | .lit _ => 1
  | .nil => 1
  | .ptr d => uptoBulk d + 1
  | .slice elems spare => uptoBulkAll elems + uptoBulkAll spare + 1
  | .agg parts => uptoBulkAll parts + 1
  | .iface _ d => uptoBulk d + 1
  | .map entries => uptoBulkEntries entries + 1
  | .held _ => 1
def uptoBulkAll {H : Type} : List (DataW H) → Nat
  | [] => 0
  | d :: r => uptoBulk d + uptoBulkAll r
def uptoBulkEntries {H : Type} : List (Lit × DataW H) → Nat
  | [] => 0
  | x :: r => uptoBulkEntry x + uptoBulkEntries r
def uptoBulkEntry {H : Type} : Lit × DataW H → Nat
  | (.string bytes, d) => bytes.length + uptoBulk d + 1
  | (_, d) => uptoBulk d + 1
 end
def uptoSmall : (H : Type) → List (DataW H) → Bool := fun _ ds => decide (uptoBulkAll ds ≤ 1048576)
def OpenSpec.upto (s : _root_.Go.ChangeSpec) : _root_.Go.OpenSpec := { _root_.Go.OpenSpec.ofChange s with cond := some uptoSmall }

/-- 'seinelaw02.LinesSplit', WHERE WHAT IT READS IS OF BULK AT MOST 1048576: true; the input reads as it did. -/
def linesSplitUptoRow : OpenClaim := { program := "ytccpobbebfgpbaa", sum := "86369e88dcea5f5049e28a61ff5d170991d8366b5b55a911f1b75462409154b2", func := "seine/seinelaw02.LinesSplit", spec := "linesSplit", unfollowed := true, recurses := true, apart := false, narrowed := true }
def LinesSplitUptoSaid : Prop := linesSplitUptoRow.holds Try.pinned (OpenSpec.upto linesSplitSpec)

/-- 'seinelaw02.LinesAll', WHERE WHAT IT READS IS OF BULK AT MOST 1048576: true; the input reads as it did. -/
def linesAllUptoRow : OpenClaim := { program := "ytccpobbebfgpbaa", sum := "86369e88dcea5f5049e28a61ff5d170991d8366b5b55a911f1b75462409154b2", func := "seine/seinelaw02.LinesAll", spec := "linesAll", unfollowed := true, recurses := true, apart := false, narrowed := true }
def LinesAllUptoSaid : Prop := linesAllUptoRow.holds Try.pinned (OpenSpec.upto linesAllSpec)

/-- 'seinelaw02.LinesBack', WHERE WHAT IT READS IS OF BULK AT MOST 1048576: true; the input reads as it did. -/
def linesBackUptoRow : OpenClaim := { program := "ytccpobbebfgpbaa", sum := "86369e88dcea5f5049e28a61ff5d170991d8366b5b55a911f1b75462409154b2", func := "seine/seinelaw02.LinesBack", spec := "linesBack", unfollowed := true, recurses := true, apart := false, narrowed := true }
def LinesBackUptoSaid : Prop := linesBackUptoRow.holds Try.pinned (OpenSpec.upto linesBackSpec)

/-- 'seinelaw02.LinesJoin', WHERE WHAT IT READS IS OF BULK AT MOST 1048576: true; the input reads as it did. -/
def linesJoinUptoRow : OpenClaim := { program := "ytccpobbebfgpbaa", sum := "86369e88dcea5f5049e28a61ff5d170991d8366b5b55a911f1b75462409154b2", func := "seine/seinelaw02.LinesJoin", spec := "linesJoin", unfollowed := true, recurses := true, apart := false, narrowed := true }
def LinesJoinUptoSaid : Prop := linesJoinUptoRow.holds Try.pinned (OpenSpec.upto linesJoinSpec)

/-- 'seinelaw02.LinesParts', WHERE WHAT IT READS IS OF BULK AT MOST 1048576: true; the input reads as it did. -/
def linesPartsUptoRow : OpenClaim := { program := "ytccpobbebfgpbaa", sum := "86369e88dcea5f5049e28a61ff5d170991d8366b5b55a911f1b75462409154b2", func := "seine/seinelaw02.LinesParts", spec := "linesParts", unfollowed := true, recurses := true, apart := false, narrowed := true }
def LinesPartsUptoSaid : Prop := linesPartsUptoRow.holds Try.pinned (OpenSpec.upto linesPartsSpec)

/-- 'seinelaw02.LinesLast', WHERE WHAT IT READS IS OF BULK AT MOST 1048576: true; the input reads as it did. -/
def linesLastUptoRow : OpenClaim := { program := "ytccpobbebfgpbaa", sum := "86369e88dcea5f5049e28a61ff5d170991d8366b5b55a911f1b75462409154b2", func := "seine/seinelaw02.LinesLast", spec := "linesLast", unfollowed := true, recurses := true, apart := false, narrowed := true }
def LinesLastUptoSaid : Prop := linesLastUptoRow.holds Try.pinned (OpenSpec.upto linesLastSpec)

end Rows
end Go.Proofs.Ytccpobbebfgpbaa
