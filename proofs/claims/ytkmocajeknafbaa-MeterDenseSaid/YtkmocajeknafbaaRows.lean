/-
  No cell of these rows narrows 'for every input' (looked for: loops, veiled, ifaces, maps, wideKeys, modest, calm, conditions, laid).
  DERIVED. THE GIVEN ROWS OF THIS SEAT. 5 by the template 'for every input the law returns true; each argument reads behind the call as it read before'; 0 by the template 'total and deterministic' (their statements: YtkmocajeknafbaaTotals.lean).
  GIVEN WITH THE SEED: the statements are not yours to turn. If you find one false, say at which input.
  Laid BY PROGRAM, IN A SANDBOX (cutbox-rows.mjs): the forced cells as the released guide's own fill.sh prints them over the translation 85121f95a7b87645… (all of the seat's roots in one cut). By AI agents, Wed Nov 11 2026. No macro, syntax, notation, axiom, sorry.
-/
import Derived.Test.YtkmocajeknafbaaChecked
import GoSem.Claim
import GoSem.ClaimJoined
import GoSem.ClaimMapViews
import Derived.JoinedTies
import Derived.KernelRfl
namespace Go.Proofs.Ytkmocajeknafbaa
/- THE CELL 'sum', in the pinned program and in every row, IS THE sha256 OF THE DUMP (.gsa) THAT YtkmocajeknafbaaProg.lean LOADS. Nothing in Lean hashes anything: it is a label: what it is worth is what the hold of that sum in a sandbox is worth. -/
noncomputable def Try.pinned : Pinned := { name := "ytkmocajeknafbaa", sum := "85121f95a7b876458392a79a684f15c45b5124822f96aca88fa786d34f35d95a", checked := Try.checked }
namespace Rows
def none {H : Type} : Left H := { results := [], args := [] }

/-- 'seinelaw05.MeterTexts': WHATEVER THE INPUT: true; the input reads as it did. -/
def meterTextsSpec : ChangeSpec := { name := "meterTexts", fn := fun _ => fun
  | [d1, d2] => { results := [.lit (.bool true)], args := [d1, d2] }
  | _ => none }
def meterTextsRow : OpenClaim := { program := "ytkmocajeknafbaa", sum := "85121f95a7b876458392a79a684f15c45b5124822f96aca88fa786d34f35d95a", func := "seine/seinelaw05.MeterTexts", spec := "meterTexts", unfollowed := true, recurses := true, plainKeys := false, apart := false }
def MeterTextsSaid : Prop := meterTextsRow.holds Try.pinned (OpenSpec.ofChange meterTextsSpec)

/-- ITS FALSE NEIGHBOUR: 'it returns false'. Refute it at one input. -/
def meterTextsWrong : ChangeSpec := { name := "meterTexts", fn := fun _ => fun
  | [d1, d2] => { results := [.lit (.bool false)], args := [d1, d2] }
  | _ => none }
def MeterTextsWrongFalsely : Prop := meterTextsRow.holds Try.pinned (OpenSpec.ofChange meterTextsWrong)

/-- 'seinelaw05.MeterSparse': WHATEVER THE INPUT: true; the input reads as it did. -/
def meterSparseSpec : ChangeSpec := { name := "meterSparse", fn := fun _ => fun
  | [d1, d2] => { results := [.lit (.bool true)], args := [d1, d2] }
  | _ => none }
def meterSparseRow : OpenClaim := { program := "ytkmocajeknafbaa", sum := "85121f95a7b876458392a79a684f15c45b5124822f96aca88fa786d34f35d95a", func := "seine/seinelaw05.MeterSparse", spec := "meterSparse", unfollowed := true, recurses := true, plainKeys := false, apart := false }
def MeterSparseSaid : Prop := meterSparseRow.holds Try.pinned (OpenSpec.ofChange meterSparseSpec)

/-- ITS FALSE NEIGHBOUR: 'it returns false'. Refute it at one input. -/
def meterSparseWrong : ChangeSpec := { name := "meterSparse", fn := fun _ => fun
  | [d1, d2] => { results := [.lit (.bool false)], args := [d1, d2] }
  | _ => none }
def MeterSparseWrongFalsely : Prop := meterSparseRow.holds Try.pinned (OpenSpec.ofChange meterSparseWrong)

/-- 'seinelaw05.MeterBytes': WHATEVER THE INPUT: true; the input reads as it did. -/
def meterBytesSpec : ChangeSpec := { name := "meterBytes", fn := fun _ => fun
  | [d1, d2, d3] => { results := [.lit (.bool true)], args := [d1, d2, d3] }
  | _ => none }
def meterBytesRow : OpenClaim := { program := "ytkmocajeknafbaa", sum := "85121f95a7b876458392a79a684f15c45b5124822f96aca88fa786d34f35d95a", func := "seine/seinelaw05.MeterBytes", spec := "meterBytes", unfollowed := true, recurses := true, plainKeys := false, apart := false }
def MeterBytesSaid : Prop := meterBytesRow.holds Try.pinned (OpenSpec.ofChange meterBytesSpec)

/-- ITS FALSE NEIGHBOUR: 'it returns false'. Refute it at one input. -/
def meterBytesWrong : ChangeSpec := { name := "meterBytes", fn := fun _ => fun
  | [d1, d2, d3] => { results := [.lit (.bool false)], args := [d1, d2, d3] }
  | _ => none }
def MeterBytesWrongFalsely : Prop := meterBytesRow.holds Try.pinned (OpenSpec.ofChange meterBytesWrong)

/-- 'seinelaw05.MeterApart': WHATEVER THE INPUT: true; the input reads as it did. -/
def meterApartSpec : ChangeSpec := { name := "meterApart", fn := fun _ => fun
  | [d1, d2, d3, d4, d5] => { results := [.lit (.bool true)], args := [d1, d2, d3, d4, d5] }
  | _ => none }
def meterApartRow : OpenClaim := { program := "ytkmocajeknafbaa", sum := "85121f95a7b876458392a79a684f15c45b5124822f96aca88fa786d34f35d95a", func := "seine/seinelaw05.MeterApart", spec := "meterApart", unfollowed := true, recurses := true, plainKeys := false, apart := false }
def MeterApartSaid : Prop := meterApartRow.holds Try.pinned (OpenSpec.ofChange meterApartSpec)

/-- ITS FALSE NEIGHBOUR: 'it returns false'. Refute it at one input. -/
def meterApartWrong : ChangeSpec := { name := "meterApart", fn := fun _ => fun
  | [d1, d2, d3, d4, d5] => { results := [.lit (.bool false)], args := [d1, d2, d3, d4, d5] }
  | _ => none }
def MeterApartWrongFalsely : Prop := meterApartRow.holds Try.pinned (OpenSpec.ofChange meterApartWrong)

/-- 'seinelaw05.MeterDense': WHATEVER THE INPUT: true; the input reads as it did. -/
def meterDenseSpec : ChangeSpec := { name := "meterDense", fn := fun _ => fun
  | [d1, d2, d3, d4] => { results := [.lit (.bool true)], args := [d1, d2, d3, d4] }
  | _ => none }
def meterDenseRow : OpenClaim := { program := "ytkmocajeknafbaa", sum := "85121f95a7b876458392a79a684f15c45b5124822f96aca88fa786d34f35d95a", func := "seine/seinelaw05.MeterDense", spec := "meterDense", unfollowed := true, recurses := true, plainKeys := false, apart := false }
def MeterDenseSaid : Prop := meterDenseRow.holds Try.pinned (OpenSpec.ofChange meterDenseSpec)

/-- ITS FALSE NEIGHBOUR: 'it returns false'. Refute it at one input. -/
def meterDenseWrong : ChangeSpec := { name := "meterDense", fn := fun _ => fun
  | [d1, d2, d3, d4] => { results := [.lit (.bool false)], args := [d1, d2, d3, d4] }
  | _ => none }
def MeterDenseWrongFalsely : Prop := meterDenseRow.holds Try.pinned (OpenSpec.ofChange meterDenseWrong)

/- THE SECOND FORM. 'bulk': how many values and letters a reading holds, each counted each time it is reached (what is shared counts as often as it is met; a slice's spare places count too). A statement '..UptoSaid' is the law's where the arguments, and the package variables that the reading takes, are together of bulk at most 1048576: NARROWER than '..Said'. Prove '..Said' where nothing that the law and all that it calls make is longer than what came in: it says more and counts as full. Else prove '..UptoSaid'. A law counts once. -/
mutual
def uptoBulk {H : Type} : DataW H → Nat
  | .lit (.string bytes) => bytes.length + 1
  | .lit _ => 1
  | .nil => 1
  | .ptr d => uptoBulk d + 1
  | .slice elems spare => uptoBulkAll elems + uptoBulkAll spare + 1
  | .agg parts => uptoBulkAll parts + 1
  | .iface _ d => uptoBulk d + 1
  | .map entries => uptoBulkEntries entries + 1
  | .held _ => 1
def uptoBulkAll {H : Type} : List (DataW H) → Nat
  | [] => 0
  | d :: r => uptoBulk d + uptoBulkAll r
def uptoBulkEntries {H : Type} : List (Lit × DataW H) → Nat
  | [] => 0
  | x :: r => uptoBulkEntry x + uptoBulkEntries r
def uptoBulkEntry {H : Type} : Lit × DataW H → Nat
  | (.string bytes, d) => bytes.length + uptoBulk d + 1
  | (_, d) => uptoBulk d + 1
 end
def uptoSmall : (H : Type) → List (DataW H) → Bool := fun _ ds => decide (uptoBulkAll ds ≤ 1048576)
def OpenSpec.upto (s : _root_.Go.ChangeSpec) : _root_.Go.OpenSpec := { _root_.Go.OpenSpec.ofChange s with cond := some uptoSmall }

/-- 'seinelaw05.MeterTexts', WHERE WHAT IT READS IS OF BULK AT MOST 1048576: true; the input reads as it did. -/
def meterTextsUptoRow : OpenClaim := { program := "ytkmocajeknafbaa", sum := "85121f95a7b876458392a79a684f15c45b5124822f96aca88fa786d34f35d95a", func := "seine/seinelaw05.MeterTexts", spec := "meterTexts", unfollowed := true, recurses := true, plainKeys := false, apart := false, narrowed := true }
def MeterTextsUptoSaid : Prop := meterTextsUptoRow.holds Try.pinned (OpenSpec.upto meterTextsSpec)

/-- 'seinelaw05.MeterSparse', WHERE WHAT IT READS IS OF BULK AT MOST 1048576: true; the input reads as it did. -/
def meterSparseUptoRow : OpenClaim := { program := "ytkmocajeknafbaa", sum := "85121f95a7b876458392a79a684f15c45b5124822f96aca88fa786d34f35d95a", func := "seine/seinelaw05.MeterSparse", spec := "meterSparse", unfollowed := true, recurses := true, plainKeys := false, apart := false, narrowed := true }
def MeterSparseUptoSaid : Prop := meterSparseUptoRow.holds Try.pinned (OpenSpec.upto meterSparseSpec)

/-- 'seinelaw05.MeterBytes', WHERE WHAT IT READS IS OF BULK AT MOST 1048576: true; the input reads as it did. -/
def meterBytesUptoRow : OpenClaim := { program := "ytkmocajeknafbaa", sum := "85121f95a7b876458392a79a684f15c45b5124822f96aca88fa786d34f35d95a", func := "seine/seinelaw05.MeterBytes", spec := "meterBytes", unfollowed := true, recurses := true, plainKeys := false, apart := false, narrowed := true }
def MeterBytesUptoSaid : Prop := meterBytesUptoRow.holds Try.pinned (OpenSpec.upto meterBytesSpec)

/-- 'seinelaw05.MeterApart', WHERE WHAT IT READS IS OF BULK AT MOST 1048576: true; the input reads as it did. -/
def meterApartUptoRow : OpenClaim := { program := "ytkmocajeknafbaa", sum := "85121f95a7b876458392a79a684f15c45b5124822f96aca88fa786d34f35d95a", func := "seine/seinelaw05.MeterApart", spec := "meterApart", unfollowed := true, recurses := true, plainKeys := false, apart := false, narrowed := true }
def MeterApartUptoSaid : Prop := meterApartUptoRow.holds Try.pinned (OpenSpec.upto meterApartSpec)

/-- 'seinelaw05.MeterDense', WHERE WHAT IT READS IS OF BULK AT MOST 1048576: true; the input reads as it did. -/
def meterDenseUptoRow : OpenClaim := { program := "ytkmocajeknafbaa", sum := "85121f95a7b876458392a79a684f15c45b5124822f96aca88fa786d34f35d95a", func := "seine/seinelaw05.MeterDense", spec := "meterDense", unfollowed := true, recurses := true, plainKeys := false, apart := false, narrowed := true }
def MeterDenseUptoSaid : Prop := meterDenseUptoRow.holds Try.pinned (OpenSpec.upto meterDenseSpec)

end Rows
end Go.Proofs.Ytkmocajeknafbaa
