/- Signs turned. -/
import Derived.Test.YtnjobojkoaknpaaDoorTWord
import Derived.Test.YtnjobojkoaknpaaDoorFx6
namespace Gim
open Go Go.RowKit Go.Proofs.YtnjobojkoaknpaaDoorW.PrintWords Go.Proofs.YtnjobojkoaknpaaDoorW.PrintLast Go.Proofs.YtnjobojkoaknpaaDoorW.PrintMore Go.Proofs.YtnjobojkoaknpaaDoor.F
set_option linter.unusedVariables false

theorem word_Flip_eq {a : Int} (h : U a) : word_Flip.f a = some (flip a) := by unfold word_Flip.f flip; rw [u64_xor h.1 h.2]
end Gim
