/- Signs turned. -/
import Derived.Test.YtkkfghecmhmdpaaTWord
import Derived.Test.YtkkfghecmhmdpaaFx12
namespace Gim
open Go Go.RowKit Go.Proofs.YtkkfghecmhmdpaaW.PrintWords Go.Proofs.YtkkfghecmhmdpaaW.PrintLast Go.Proofs.YtkkfghecmhmdpaaW.PrintMore Go.Proofs.Ytkkfghecmhmdpaa.F
set_option linter.unusedVariables false

theorem word_Flip_eq {a : Int} (h : U a) : word_Flip.f a = some (flip a) := by unfold word_Flip.f flip; rw [u64_xor h.1 h.2]
end Gim
