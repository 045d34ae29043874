/- ClassesApart: two bytes are of one class just if they are the same, or neither stands in a text. For every list of texts and any two bytes; no condition. -/
import Derived.Test.YtongadhccpfpeaaStatClassesApart
import Derived.Test.YtongadhccpfpeaaAid
namespace Go.Proofs.Ytongadhccpfpeaa.Pure
open Go.RowKit Go.Proofs.Ytongadhccpfpeaa.PClassesApart Go.Proofs.YtongadhccpfpeaaW.PrintWords Go.Proofs.YtongadhccpfpeaaW.PrintLast Go.Proofs.Ytongadhccpfpeaa.Aid

theorem ClassesApart : Go.Proofs.Ytongadhccpfpeaa.StatClassesApart.Pure := by
  intro a0 a1 a2 _ hl hx h1 h2
  have b1 := wf8 h1
  have b2 := wf8 h2
  unfold seinelaw09_ClassesApart.f
  rw [if_pos ⟨by omega, fun l hm x hxm => by have := wf8 ((hx l hm).2 x hxm); omega, by omega, by omega⟩]

end Go.Proofs.Ytongadhccpfpeaa.Pure
