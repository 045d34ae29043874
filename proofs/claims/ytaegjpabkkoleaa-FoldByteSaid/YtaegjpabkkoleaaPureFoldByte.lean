/- FoldByte: any byte without case, and whether it is one of words, are the document's. For every byte; no condition. -/
import Derived.Test.YtaegjpabkkoleaaPFoldBytex2
import Derived.Test.YtaegjpabkkoleaaAid
namespace Go.Proofs.Ytaegjpabkkoleaa.Pure
open Go.RowKit Go.Proofs.Ytaegjpabkkoleaa.PFoldByte Go.Proofs.YtaegjpabkkoleaaW.PrintWords Go.Proofs.YtaegjpabkkoleaaW.PrintLast

theorem FoldByte : seinelaw01_FoldByte.Pure := by
  intro a h
  have hb := Go.Proofs.Ytaegjpabkkoleaa.Aid.wf8 h
  have key : ∀ n : Fin 256, seinelaw01_FoldByte.f (n.val : Int) = some true := by decide +kernel
  have := key ⟨a.toNat, by omega⟩
  rwa [show ((a.toNat : Nat) : Int) = a by omega] at this

end Go.Proofs.Ytaegjpabkkoleaa.Pure
