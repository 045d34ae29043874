/- ClassesBytes: each byte is one of its class's, a class's bytes rise, and all classes' bytes are all there are; a number that is no class has none. For every list of texts and every number; no condition. -/
import Derived.Test.YtongadhccpfpeaaStatClassesBytes
import Derived.Test.YtongadhccpfpeaaAid
namespace Go.Proofs.Ytongadhccpfpeaa.Pure
open Go.RowKit Go.Proofs.Ytongadhccpfpeaa.PClassesBytes Go.Proofs.YtongadhccpfpeaaW.PrintWords Go.Proofs.YtongadhccpfpeaaW.PrintLast Go.Proofs.Ytongadhccpfpeaa.Aid

theorem ClassesBytes : Go.Proofs.Ytongadhccpfpeaa.StatClassesBytes.Pure := by
  intro a0 a1 _ hl hx h1
  unfold seinelaw09_ClassesBytes.f
  rw [if_pos ⟨by omega, fun l hm x hxm => by have := wf8 ((hx l hm).2 x hxm); omega⟩]

end Go.Proofs.Ytongadhccpfpeaa.Pure
