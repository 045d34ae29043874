/-
  No cell of these rows narrows 'for every input' (looked for: loops, veiled, ifaces, maps, wideKeys, modest, calm, conditions, laid).
  DERIVED. THE GIVEN ROWS OF THIS SEAT. 6 by the template 'for every input the law returns true; each argument reads behind the call as it read before'; 0 by the template 'total and deterministic' (their statements: YtkpfnhkfecpefaaTotals.lean).
  GIVEN WITH THE SEED: the statements are not yours to turn. If you find one false, say at which input.
  Laid BY PROGRAM, IN A SANDBOX (cutbox-rows.mjs): the forced cells as the released guide's own fill.sh prints them over the translation 21a23af168f22d36… (all of the seat's roots in one cut). By AI agents, Wed Nov 11 2026. No macro, syntax, notation, axiom, sorry.
-/
import Derived.Test.YtkpfnhkfecpefaaChecked
import GoSem.Claim
import GoSem.ClaimJoined
import GoSem.ClaimMapViews
import Derived.JoinedTies
import Derived.KernelRfl
namespace Go.Proofs.Ytkpfnhkfecpefaa
/- THE CELL 'sum', in the pinned program and in every row, IS THE sha256 OF THE DUMP (.gsa) THAT YtkpfnhkfecpefaaProg.lean LOADS. Nothing in Lean hashes anything: it is a label: what it is worth is what the hold of that sum in a sandbox is worth. -/
noncomputable def Try.pinned : Pinned := { name := "ytkpfnhkfecpefaa", sum := "21a23af168f22d367d3af828015f3406d517f280abe902a49172e319b4f2e141", checked := Try.checked }
namespace Rows
def none {H : Type} : Left H := { results := [], args := [] }

/-- 'seinelaw04.PatsetLoads': WHATEVER THE INPUT: true; the input reads as it did. -/
def patsetLoadsSpec : ChangeSpec := { name := "patsetLoads", fn := fun _ => fun
  | [d1, d2, d3] => { results := [.lit (.bool true)], args := [d1, d2, d3] }
  | _ => none }
def patsetLoadsRow : OpenClaim := { program := "ytkpfnhkfecpefaa", sum := "21a23af168f22d367d3af828015f3406d517f280abe902a49172e319b4f2e141", func := "seine/seinelaw04.PatsetLoads", spec := "patsetLoads", unfollowed := true, recurses := true, apart := false }
def PatsetLoadsSaid : Prop := patsetLoadsRow.holds Try.pinned (OpenSpec.ofChange patsetLoadsSpec)

/-- ITS FALSE NEIGHBOUR: 'it returns false'. Refute it at one input. -/
def patsetLoadsWrong : ChangeSpec := { name := "patsetLoads", fn := fun _ => fun
  | [d1, d2, d3] => { results := [.lit (.bool false)], args := [d1, d2, d3] }
  | _ => none }
def PatsetLoadsWrongFalsely : Prop := patsetLoadsRow.holds Try.pinned (OpenSpec.ofChange patsetLoadsWrong)

/-- 'seinelaw04.PatsetOf': WHATEVER THE INPUT: true; the input reads as it did. -/
def patsetOfSpec : ChangeSpec := { name := "patsetOf", fn := fun _ => fun
  | [d1, d2] => { results := [.lit (.bool true)], args := [d1, d2] }
  | _ => none }
def patsetOfRow : OpenClaim := { program := "ytkpfnhkfecpefaa", sum := "21a23af168f22d367d3af828015f3406d517f280abe902a49172e319b4f2e141", func := "seine/seinelaw04.PatsetOf", spec := "patsetOf", unfollowed := true, recurses := true, apart := false }
def PatsetOfSaid : Prop := patsetOfRow.holds Try.pinned (OpenSpec.ofChange patsetOfSpec)

/-- ITS FALSE NEIGHBOUR: 'it returns false'. Refute it at one input. -/
def patsetOfWrong : ChangeSpec := { name := "patsetOf", fn := fun _ => fun
  | [d1, d2] => { results := [.lit (.bool false)], args := [d1, d2] }
  | _ => none }
def PatsetOfWrongFalsely : Prop := patsetOfRow.holds Try.pinned (OpenSpec.ofChange patsetOfWrong)

/-- 'seinelaw04.PatsetOnce': WHATEVER THE INPUT: true; the input reads as it did. -/
def patsetOnceSpec : ChangeSpec := { name := "patsetOnce", fn := fun _ => fun
  | [d] => { results := [.lit (.bool true)], args := [d] }
  | _ => none }
def patsetOnceRow : OpenClaim := { program := "ytkpfnhkfecpefaa", sum := "21a23af168f22d367d3af828015f3406d517f280abe902a49172e319b4f2e141", func := "seine/seinelaw04.PatsetOnce", spec := "patsetOnce", unfollowed := true, recurses := true, apart := false }
def PatsetOnceSaid : Prop := patsetOnceRow.holds Try.pinned (OpenSpec.ofChange patsetOnceSpec)

/-- ITS FALSE NEIGHBOUR: 'it returns false'. Refute it at one input. -/
def patsetOnceWrong : ChangeSpec := { name := "patsetOnce", fn := fun _ => fun
  | [d] => { results := [.lit (.bool false)], args := [d] }
  | _ => none }
def PatsetOnceWrongFalsely : Prop := patsetOnceRow.holds Try.pinned (OpenSpec.ofChange patsetOnceWrong)

/-- 'seinelaw04.PatsetFolds': WHATEVER THE INPUT: true; the input reads as it did. -/
def patsetFoldsSpec : ChangeSpec := { name := "patsetFolds", fn := fun _ => fun
  | [d] => { results := [.lit (.bool true)], args := [d] }
  | _ => none }
def patsetFoldsRow : OpenClaim := { program := "ytkpfnhkfecpefaa", sum := "21a23af168f22d367d3af828015f3406d517f280abe902a49172e319b4f2e141", func := "seine/seinelaw04.PatsetFolds", spec := "patsetFolds", unfollowed := true, recurses := true, apart := false }
def PatsetFoldsSaid : Prop := patsetFoldsRow.holds Try.pinned (OpenSpec.ofChange patsetFoldsSpec)

/-- ITS FALSE NEIGHBOUR: 'it returns false'. Refute it at one input. -/
def patsetFoldsWrong : ChangeSpec := { name := "patsetFolds", fn := fun _ => fun
  | [d] => { results := [.lit (.bool false)], args := [d] }
  | _ => none }
def PatsetFoldsWrongFalsely : Prop := patsetFoldsRow.holds Try.pinned (OpenSpec.ofChange patsetFoldsWrong)

/-- 'seinelaw04.PatsetTwice': WHATEVER THE INPUT: true; the input reads as it did. -/
def patsetTwiceSpec : ChangeSpec := { name := "patsetTwice", fn := fun _ => fun
  | [d1, d2] => { results := [.lit (.bool true)], args := [d1, d2] }
  | _ => none }
def patsetTwiceRow : OpenClaim := { program := "ytkpfnhkfecpefaa", sum := "21a23af168f22d367d3af828015f3406d517f280abe902a49172e319b4f2e141", func := "seine/seinelaw04.PatsetTwice", spec := "patsetTwice", unfollowed := true, recurses := true, apart := false }
def PatsetTwiceSaid : Prop := patsetTwiceRow.holds Try.pinned (OpenSpec.ofChange patsetTwiceSpec)

/-- ITS FALSE NEIGHBOUR: 'it returns false'. Refute it at one input. -/
def patsetTwiceWrong : ChangeSpec := { name := "patsetTwice", fn := fun _ => fun
  | [d1, d2] => { results := [.lit (.bool false)], args := [d1, d2] }
  | _ => none }
def PatsetTwiceWrongFalsely : Prop := patsetTwiceRow.holds Try.pinned (OpenSpec.ofChange patsetTwiceWrong)

/-- 'seinelaw04.PatsetCap': WHATEVER THE INPUT: true; the input reads as it did. -/
def patsetCapSpec : ChangeSpec := { name := "patsetCap", fn := fun _ => fun
  | [d1, d2] => { results := [.lit (.bool true)], args := [d1, d2] }
  | _ => none }
def patsetCapRow : OpenClaim := { program := "ytkpfnhkfecpefaa", sum := "21a23af168f22d367d3af828015f3406d517f280abe902a49172e319b4f2e141", func := "seine/seinelaw04.PatsetCap", spec := "patsetCap", unfollowed := true, recurses := true, apart := false }
def PatsetCapSaid : Prop := patsetCapRow.holds Try.pinned (OpenSpec.ofChange patsetCapSpec)

/-- ITS FALSE NEIGHBOUR: 'it returns false'. Refute it at one input. -/
def patsetCapWrong : ChangeSpec := { name := "patsetCap", fn := fun _ => fun
  | [d1, d2] => { results := [.lit (.bool false)], args := [d1, d2] }
  | _ => none }
def PatsetCapWrongFalsely : Prop := patsetCapRow.holds Try.pinned (OpenSpec.ofChange patsetCapWrong)

/- THE SECOND FORM. 'bulk': how many values and letters a reading holds, each counted each time it is reached (what is shared counts as often as it is met; a slice's spare places count too). A statement '..UptoSaid' is the law's where the arguments, and the package variables that the reading takes, are together of bulk at most 1048576: NARROWER than '..Said'. Prove '..Said' where nothing that the law and all that it calls make is longer than what came in: it says more and counts as full. Else prove '..UptoSaid'. A law counts once. -/
mutual
def uptoBulk {H : Type} : DataW H → Nat
  | .lit (.string bytes) => bytes.length + 1
  | .lit _ => 1
  | .nil => 1
  | .ptr d => uptoBulk d + 1
  | .slice elems spare => uptoBulkAll elems + uptoBulkAll spare + 1
  | .agg parts => uptoBulkAll parts + 1
  | .iface _ d => uptoBulk d + 1
  | .map entries => uptoBulkEntries entries + 1
  | .held _ => 1
def uptoBulkAll {H : Type} : List (DataW H) → Nat
  | [] => 0
  | d :: r => uptoBulk d + uptoBulkAll r
def uptoBulkEntries {H : Type} : List (Lit × DataW H) → Nat
  | [] => 0
  | x :: r => uptoBulkEntry x + uptoBulkEntries r
def uptoBulkEntry {H : Type} : Lit × DataW H → Nat
  | (.string bytes, d) => bytes.length + uptoBulk d + 1
  | (_, d) => uptoBulk d + 1
 end
def uptoSmall : (H : Type) → List (DataW H) → Bool := fun _ ds => decide (uptoBulkAll ds ≤ 1048576)
def OpenSpec.upto (s : _root_.Go.ChangeSpec) : _root_.Go.OpenSpec := { _root_.Go.OpenSpec.ofChange s with cond := some uptoSmall }

/-- 'seinelaw04.PatsetLoads', WHERE WHAT IT READS IS OF BULK AT MOST 1048576: true; the input reads as it did. -/
def patsetLoadsUptoRow : OpenClaim := { program := "ytkpfnhkfecpefaa", sum := "21a23af168f22d367d3af828015f3406d517f280abe902a49172e319b4f2e141", func := "seine/seinelaw04.PatsetLoads", spec := "patsetLoads", unfollowed := true, recurses := true, apart := false, narrowed := true }
def PatsetLoadsUptoSaid : Prop := patsetLoadsUptoRow.holds Try.pinned (OpenSpec.upto patsetLoadsSpec)

/-- 'seinelaw04.PatsetOf', WHERE WHAT IT READS IS OF BULK AT MOST 1048576: true; the input reads as it did. -/
def patsetOfUptoRow : OpenClaim := { program := "ytkpfnhkfecpefaa", sum := "21a23af168f22d367d3af828015f3406d517f280abe902a49172e319b4f2e141", func := "seine/seinelaw04.PatsetOf", spec := "patsetOf", unfollowed := true, recurses := true, apart := false, narrowed := true }
def PatsetOfUptoSaid : Prop := patsetOfUptoRow.holds Try.pinned (OpenSpec.upto patsetOfSpec)

/-- 'seinelaw04.PatsetOnce', WHERE WHAT IT READS IS OF BULK AT MOST 1048576: true; the input reads as it did. -/
def patsetOnceUptoRow : OpenClaim := { program := "ytkpfnhkfecpefaa", sum := "21a23af168f22d367d3af828015f3406d517f280abe902a49172e319b4f2e141", func := "seine/seinelaw04.PatsetOnce", spec := "patsetOnce", unfollowed := true, recurses := true, apart := false, narrowed := true }
def PatsetOnceUptoSaid : Prop := patsetOnceUptoRow.holds Try.pinned (OpenSpec.upto patsetOnceSpec)

/-- 'seinelaw04.PatsetFolds', WHERE WHAT IT READS IS OF BULK AT MOST 1048576: true; the input reads as it did. -/
def patsetFoldsUptoRow : OpenClaim := { program := "ytkpfnhkfecpefaa", sum := "21a23af168f22d367d3af828015f3406d517f280abe902a49172e319b4f2e141", func := "seine/seinelaw04.PatsetFolds", spec := "patsetFolds", unfollowed := true, recurses := true, apart := false, narrowed := true }
def PatsetFoldsUptoSaid : Prop := patsetFoldsUptoRow.holds Try.pinned (OpenSpec.upto patsetFoldsSpec)

/-- 'seinelaw04.PatsetTwice', WHERE WHAT IT READS IS OF BULK AT MOST 1048576: true; the input reads as it did. -/
def patsetTwiceUptoRow : OpenClaim := { program := "ytkpfnhkfecpefaa", sum := "21a23af168f22d367d3af828015f3406d517f280abe902a49172e319b4f2e141", func := "seine/seinelaw04.PatsetTwice", spec := "patsetTwice", unfollowed := true, recurses := true, apart := false, narrowed := true }
def PatsetTwiceUptoSaid : Prop := patsetTwiceUptoRow.holds Try.pinned (OpenSpec.upto patsetTwiceSpec)

/-- 'seinelaw04.PatsetCap', WHERE WHAT IT READS IS OF BULK AT MOST 1048576: true; the input reads as it did. -/
def patsetCapUptoRow : OpenClaim := { program := "ytkpfnhkfecpefaa", sum := "21a23af168f22d367d3af828015f3406d517f280abe902a49172e319b4f2e141", func := "seine/seinelaw04.PatsetCap", spec := "patsetCap", unfollowed := true, recurses := true, apart := false, narrowed := true }
def PatsetCapUptoSaid : Prop := patsetCapUptoRow.holds Try.pinned (OpenSpec.upto patsetCapSpec)

end Rows
end Go.Proofs.Ytkpfnhkfecpefaa
