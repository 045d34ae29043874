/- ClassesOrder: classes rise with the bytes that have one; the order of the texts, and how often one is there, play no part. For every list of texts and every turn; no condition. -/
import Derived.Test.YtongadhccpfpeaaStatClassesOrder
import Derived.Test.YtongadhccpfpeaaAid
namespace Go.Proofs.Ytongadhccpfpeaa.Pure
open Go.RowKit Go.Proofs.Ytongadhccpfpeaa.PClassesOrder Go.Proofs.YtongadhccpfpeaaW.PrintWords Go.Proofs.YtongadhccpfpeaaW.PrintLast Go.Proofs.Ytongadhccpfpeaa.Aid

theorem ClassesOrder : Go.Proofs.Ytongadhccpfpeaa.StatClassesOrder.Pure := by
  intro a0 a1 _ hl hx h1
  have b1 := wf8 h1
  unfold seinelaw09_ClassesOrder.f
  rw [if_pos ⟨by omega, fun l hm x hxm => by have := wf8 ((hx l hm).2 x hxm); omega, by omega, by omega⟩]

end Go.Proofs.Ytongadhccpfpeaa.Pure
