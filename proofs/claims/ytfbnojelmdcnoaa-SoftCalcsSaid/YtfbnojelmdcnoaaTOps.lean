/- Sums, products and quotients together. -/
import Derived.Test.YtfbnojelmdcnoaaTAdd
import Derived.Test.YtfbnojelmdcnoaaTMul
import Derived.Test.YtfbnojelmdcnoaaTDiv
namespace Gim
open Go Go.RowKit Go.Proofs.YtfbnojelmdcnoaaW.PrintWords Go.Proofs.YtfbnojelmdcnoaaW.PrintLast Go.Proofs.YtfbnojelmdcnoaaW.PrintMore Go.Proofs.Ytfbnojelmdcnoaa.F
set_option linter.unusedVariables false
end Gim
