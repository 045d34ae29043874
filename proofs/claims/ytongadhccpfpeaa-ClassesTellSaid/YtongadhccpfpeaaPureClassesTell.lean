/- ClassesTell: each byte's class, and how many there are, are the document's; a zero one is that of no texts. For every list of texts and every byte; no condition. -/
import Derived.Test.YtongadhccpfpeaaStatClassesTell
import Derived.Test.YtongadhccpfpeaaAid
namespace Go.Proofs.Ytongadhccpfpeaa.Pure
open Go.RowKit Go.Proofs.Ytongadhccpfpeaa.PClassesTell Go.Proofs.YtongadhccpfpeaaW.PrintWords Go.Proofs.YtongadhccpfpeaaW.PrintLast Go.Proofs.Ytongadhccpfpeaa.Aid

theorem ClassesTell : Go.Proofs.Ytongadhccpfpeaa.StatClassesTell.Pure := by
  intro a0 a1 _ hl hx h1
  have b1 := wf8 h1
  unfold seinelaw09_ClassesTell.f
  rw [if_pos ⟨by omega, fun l hm x hxm => by have := wf8 ((hx l hm).2 x hxm); omega, by omega, by omega⟩]

end Go.Proofs.Ytongadhccpfpeaa.Pure
