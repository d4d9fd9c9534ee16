/- Signs turned. -/
import Derived.Test.YtfbnojelmdcnoaaTWord
import Derived.Test.YtfbnojelmdcnoaaFx5
namespace Gim
open Go Go.RowKit Go.Proofs.YtfbnojelmdcnoaaW.PrintWords Go.Proofs.YtfbnojelmdcnoaaW.PrintLast Go.Proofs.YtfbnojelmdcnoaaW.PrintMore Go.Proofs.Ytfbnojelmdcnoaa.F
set_option linter.unusedVariables false

theorem word_Flip_eq {a : Int} (h : U a) : word_Flip.f a = some (flip a) := by unfold word_Flip.f flip; rw [u64_xor h.1 h.2]
end Gim
