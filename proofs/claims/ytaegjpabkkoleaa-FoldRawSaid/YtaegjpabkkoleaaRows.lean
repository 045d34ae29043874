/-
  No cell of these rows narrows 'for every input' (looked for: loops, veiled, ifaces, maps, wideKeys, modest, calm, conditions, laid).
  DERIVED. THE GIVEN ROWS OF THIS SEAT. 6 by the template 'for every input the law returns true; each argument reads behind the call as it read before'; 0 by the template 'total and deterministic' (their statements: YtaegjpabkkoleaaTotals.lean).
  GIVEN WITH THE SEED: the statements are not yours to turn. If you find one false, say at which input.
  Laid BY PROGRAM, IN A SANDBOX (cutbox-rows.mjs): the forced cells as the released guide's own fill.sh prints them over the translation 64e0180fa6a792cf… (all of the seat's roots in one cut). By AI agents, Wed Nov 11 2026. No macro, syntax, notation, axiom, sorry.
-/
import Derived.Test.YtaegjpabkkoleaaChecked
import GoSem.Claim
import GoSem.ClaimJoined
import GoSem.ClaimMapViews
import Derived.JoinedTies
import Derived.KernelRfl
namespace Go.Proofs.Ytaegjpabkkoleaa
/- THE CELL 'sum', in the pinned program and in every row, IS THE sha256 OF THE DUMP (.gsa) THAT YtaegjpabkkoleaaProg.lean LOADS. Nothing in Lean hashes anything: it is a label: what it is worth is what the hold of that sum in a sandbox is worth. -/
noncomputable def Try.pinned : Pinned := { name := "ytaegjpabkkoleaa", sum := "64e0180fa6a792cffc886d66191a243c6b6de67aedf3614445d8ed8402565552", checked := Try.checked }
namespace Rows
def none {H : Type} : Left H := { results := [], args := [] }

/-- 'seinelaw01.FoldBytes': WHATEVER THE INPUT: true; the input reads as it did. -/
def foldBytesSpec : ChangeSpec := { name := "foldBytes", fn := fun _ => fun
  | [d] => { results := [.lit (.bool true)], args := [d] }
  | _ => none }
def foldBytesRow : OpenClaim := { program := "ytaegjpabkkoleaa", sum := "64e0180fa6a792cffc886d66191a243c6b6de67aedf3614445d8ed8402565552", func := "seine/seinelaw01.FoldBytes", spec := "foldBytes", unfollowed := true, recurses := true, apart := false }
def FoldBytesSaid : Prop := foldBytesRow.holds Try.pinned (OpenSpec.ofChange foldBytesSpec)

/-- ITS FALSE NEIGHBOUR: 'it returns false'. Refute it at one input. -/
def foldBytesWrong : ChangeSpec := { name := "foldBytes", fn := fun _ => fun
  | [d] => { results := [.lit (.bool false)], args := [d] }
  | _ => none }
def FoldBytesWrongFalsely : Prop := foldBytesRow.holds Try.pinned (OpenSpec.ofChange foldBytesWrong)

/-- 'seinelaw01.FoldByte': WHATEVER THE INPUT: true; the input reads as it did. -/
def foldByteSpec : ChangeSpec := { name := "foldByte", fn := fun _ => fun
  | [d] => { results := [.lit (.bool true)], args := [d] }
  | _ => none }
def foldByteRow : OpenClaim := { program := "ytaegjpabkkoleaa", sum := "64e0180fa6a792cffc886d66191a243c6b6de67aedf3614445d8ed8402565552", func := "seine/seinelaw01.FoldByte", spec := "foldByte", unfollowed := true, recurses := true, apart := false }
def FoldByteSaid : Prop := foldByteRow.holds Try.pinned (OpenSpec.ofChange foldByteSpec)

/-- ITS FALSE NEIGHBOUR: 'it returns false'. Refute it at one input. -/
def foldByteWrong : ChangeSpec := { name := "foldByte", fn := fun _ => fun
  | [d] => { results := [.lit (.bool false)], args := [d] }
  | _ => none }
def FoldByteWrongFalsely : Prop := foldByteRow.holds Try.pinned (OpenSpec.ofChange foldByteWrong)

/-- 'seinelaw01.FoldTwice': WHATEVER THE INPUT: true; the input reads as it did. -/
def foldTwiceSpec : ChangeSpec := { name := "foldTwice", fn := fun _ => fun
  | [d] => { results := [.lit (.bool true)], args := [d] }
  | _ => none }
def foldTwiceRow : OpenClaim := { program := "ytaegjpabkkoleaa", sum := "64e0180fa6a792cffc886d66191a243c6b6de67aedf3614445d8ed8402565552", func := "seine/seinelaw01.FoldTwice", spec := "foldTwice", unfollowed := true, recurses := true, apart := false }
def FoldTwiceSaid : Prop := foldTwiceRow.holds Try.pinned (OpenSpec.ofChange foldTwiceSpec)

/-- ITS FALSE NEIGHBOUR: 'it returns false'. Refute it at one input. -/
def foldTwiceWrong : ChangeSpec := { name := "foldTwice", fn := fun _ => fun
  | [d] => { results := [.lit (.bool false)], args := [d] }
  | _ => none }
def FoldTwiceWrongFalsely : Prop := foldTwiceRow.holds Try.pinned (OpenSpec.ofChange foldTwiceWrong)

/-- 'seinelaw01.FoldJoins': WHATEVER THE INPUT: true; the input reads as it did. -/
def foldJoinsSpec : ChangeSpec := { name := "foldJoins", fn := fun _ => fun
  | [d1, d2] => { results := [.lit (.bool true)], args := [d1, d2] }
  | _ => none }
def foldJoinsRow : OpenClaim := { program := "ytaegjpabkkoleaa", sum := "64e0180fa6a792cffc886d66191a243c6b6de67aedf3614445d8ed8402565552", func := "seine/seinelaw01.FoldJoins", spec := "foldJoins", unfollowed := true, recurses := true, apart := false }
def FoldJoinsSaid : Prop := foldJoinsRow.holds Try.pinned (OpenSpec.ofChange foldJoinsSpec)

/-- ITS FALSE NEIGHBOUR: 'it returns false'. Refute it at one input. -/
def foldJoinsWrong : ChangeSpec := { name := "foldJoins", fn := fun _ => fun
  | [d1, d2] => { results := [.lit (.bool false)], args := [d1, d2] }
  | _ => none }
def FoldJoinsWrongFalsely : Prop := foldJoinsRow.holds Try.pinned (OpenSpec.ofChange foldJoinsWrong)

/-- 'seinelaw01.FoldSets': WHATEVER THE INPUT: true; the input reads as it did. -/
def foldSetsSpec : ChangeSpec := { name := "foldSets", fn := fun _ => fun
  | [d1, d2, d3, d4] => { results := [.lit (.bool true)], args := [d1, d2, d3, d4] }
  | _ => none }
def foldSetsRow : OpenClaim := { program := "ytaegjpabkkoleaa", sum := "64e0180fa6a792cffc886d66191a243c6b6de67aedf3614445d8ed8402565552", func := "seine/seinelaw01.FoldSets", spec := "foldSets", unfollowed := true, recurses := true, apart := false }
def FoldSetsSaid : Prop := foldSetsRow.holds Try.pinned (OpenSpec.ofChange foldSetsSpec)

/-- ITS FALSE NEIGHBOUR: 'it returns false'. Refute it at one input. -/
def foldSetsWrong : ChangeSpec := { name := "foldSets", fn := fun _ => fun
  | [d1, d2, d3, d4] => { results := [.lit (.bool false)], args := [d1, d2, d3, d4] }
  | _ => none }
def FoldSetsWrongFalsely : Prop := foldSetsRow.holds Try.pinned (OpenSpec.ofChange foldSetsWrong)

/-- 'seinelaw01.FoldRaw': WHATEVER THE INPUT: true; the input reads as it did. -/
def foldRawSpec : ChangeSpec := { name := "foldRaw", fn := fun _ => fun
  | [d1, d2] => { results := [.lit (.bool true)], args := [d1, d2] }
  | _ => none }
def foldRawRow : OpenClaim := { program := "ytaegjpabkkoleaa", sum := "64e0180fa6a792cffc886d66191a243c6b6de67aedf3614445d8ed8402565552", func := "seine/seinelaw01.FoldRaw", spec := "foldRaw", unfollowed := true, recurses := true, apart := false }
def FoldRawSaid : Prop := foldRawRow.holds Try.pinned (OpenSpec.ofChange foldRawSpec)

/-- ITS FALSE NEIGHBOUR: 'it returns false'. Refute it at one input. -/
def foldRawWrong : ChangeSpec := { name := "foldRaw", fn := fun _ => fun
  | [d1, d2] => { results := [.lit (.bool false)], args := [d1, d2] }
  | _ => none }
def FoldRawWrongFalsely : Prop := foldRawRow.holds Try.pinned (OpenSpec.ofChange foldRawWrong)

/- THE SECOND FORM. 'bulk': how many values and letters a reading holds, each counted each time it is reached (what is shared counts as often as it is met; a slice's spare places count too). A statement '..UptoSaid' is the law's where the arguments, and the package variables that the reading takes, are together of bulk at most 1048576: NARROWER than '..Said'. Prove '..Said' where nothing that the law and all that it calls make is longer than what came in: it says more and counts as full. Else prove '..UptoSaid'. A law counts once. -/
mutual
def uptoBulk {H : Type} : DataW H → Nat
  | .lit (.string bytes) => bytes.length + 1
  | .lit _ => 1
  | .nil => 1
  | .ptr d => uptoBulk d + 1
  | .slice elems spare => uptoBulkAll elems + uptoBulkAll spare + 1
  | .agg parts => uptoBulkAll parts + 1
  | .iface _ d => uptoBulk d + 1
  | .map entries => uptoBulkEntries entries + 1
  | .held _ => 1
def uptoBulkAll {H : Type} : List (DataW H) → Nat
  | [] => 0
  | d :: r => uptoBulk d + uptoBulkAll r
def uptoBulkEntries {H : Type} : List (Lit × DataW H) → Nat
  | [] => 0
  | x :: r => uptoBulkEntry x + uptoBulkEntries r
def uptoBulkEntry {H : Type} : Lit × DataW H → Nat
  | (.string bytes, d) => bytes.length + uptoBulk d + 1
  | (_, d) => uptoBulk d + 1
 end
def uptoSmall : (H : Type) → List (DataW H) → Bool := fun _ ds => decide (uptoBulkAll ds ≤ 1048576)
def OpenSpec.upto (s : _root_.Go.ChangeSpec) : _root_.Go.OpenSpec := { _root_.Go.OpenSpec.ofChange s with cond := some uptoSmall }

/-- 'seinelaw01.FoldBytes', WHERE WHAT IT READS IS OF BULK AT MOST 1048576: true; the input reads as it did. -/
def foldBytesUptoRow : OpenClaim := { program := "ytaegjpabkkoleaa", sum := "64e0180fa6a792cffc886d66191a243c6b6de67aedf3614445d8ed8402565552", func := "seine/seinelaw01.FoldBytes", spec := "foldBytes", unfollowed := true, recurses := true, apart := false, narrowed := true }
def FoldBytesUptoSaid : Prop := foldBytesUptoRow.holds Try.pinned (OpenSpec.upto foldBytesSpec)

/-- 'seinelaw01.FoldByte', WHERE WHAT IT READS IS OF BULK AT MOST 1048576: true; the input reads as it did. -/
def foldByteUptoRow : OpenClaim := { program := "ytaegjpabkkoleaa", sum := "64e0180fa6a792cffc886d66191a243c6b6de67aedf3614445d8ed8402565552", func := "seine/seinelaw01.FoldByte", spec := "foldByte", unfollowed := true, recurses := true, apart := false, narrowed := true }
def FoldByteUptoSaid : Prop := foldByteUptoRow.holds Try.pinned (OpenSpec.upto foldByteSpec)

/-- 'seinelaw01.FoldTwice', WHERE WHAT IT READS IS OF BULK AT MOST 1048576: true; the input reads as it did. -/
def foldTwiceUptoRow : OpenClaim := { program := "ytaegjpabkkoleaa", sum := "64e0180fa6a792cffc886d66191a243c6b6de67aedf3614445d8ed8402565552", func := "seine/seinelaw01.FoldTwice", spec := "foldTwice", unfollowed := true, recurses := true, apart := false, narrowed := true }
def FoldTwiceUptoSaid : Prop := foldTwiceUptoRow.holds Try.pinned (OpenSpec.upto foldTwiceSpec)

/-- 'seinelaw01.FoldJoins', WHERE WHAT IT READS IS OF BULK AT MOST 1048576: true; the input reads as it did. -/
def foldJoinsUptoRow : OpenClaim := { program := "ytaegjpabkkoleaa", sum := "64e0180fa6a792cffc886d66191a243c6b6de67aedf3614445d8ed8402565552", func := "seine/seinelaw01.FoldJoins", spec := "foldJoins", unfollowed := true, recurses := true, apart := false, narrowed := true }
def FoldJoinsUptoSaid : Prop := foldJoinsUptoRow.holds Try.pinned (OpenSpec.upto foldJoinsSpec)

/-- 'seinelaw01.FoldSets', WHERE WHAT IT READS IS OF BULK AT MOST 1048576: true; the input reads as it did. -/
def foldSetsUptoRow : OpenClaim := { program := "ytaegjpabkkoleaa", sum := "64e0180fa6a792cffc886d66191a243c6b6de67aedf3614445d8ed8402565552", func := "seine/seinelaw01.FoldSets", spec := "foldSets", unfollowed := true, recurses := true, apart := false, narrowed := true }
def FoldSetsUptoSaid : Prop := foldSetsUptoRow.holds Try.pinned (OpenSpec.upto foldSetsSpec)

/-- 'seinelaw01.FoldRaw', WHERE WHAT IT READS IS OF BULK AT MOST 1048576: true; the input reads as it did. -/
def foldRawUptoRow : OpenClaim := { program := "ytaegjpabkkoleaa", sum := "64e0180fa6a792cffc886d66191a243c6b6de67aedf3614445d8ed8402565552", func := "seine/seinelaw01.FoldRaw", spec := "foldRaw", unfollowed := true, recurses := true, apart := false, narrowed := true }
def FoldRawUptoSaid : Prop := foldRawUptoRow.holds Try.pinned (OpenSpec.upto foldRawSpec)

end Rows
end Go.Proofs.Ytaegjpabkkoleaa
