/- Sums and products with what they have met. -/
import Derived.Test.YtfogmgcpajndcaaTAv
import Derived.Test.YtfogmgcpajndcaaFx9
namespace Gim
open Go Go.RowKit Go.Proofs.YtfogmgcpajndcaaW.PrintWords Go.Proofs.YtfogmgcpajndcaaW.PrintLast Go.Proofs.YtfogmgcpajndcaaW.PrintMore Go.Proofs.Ytfogmgcpajndcaa.F
set_option linter.unusedVariables false

theorem cAdd {F a b : Int} (ha : U a) (hb : U b) : ∃ F', Ev (fun k => soft_Calc_Add.f k F a b) (av a b, F') ∧ F8 F' ∧ B8 F' = B8 F ||| af a b := by
  refine ⟨Go.bits .or .u8 F (aP a b).2, ?_, F8_or _ _, B8_or _ _⟩
  unfold soft_Calc_Add.f
  exact Ev.bind (aP_ev ha hb) (Ev.call rfl (Ev.now _))
theorem cMul {F a b : Int} (ha : U a) (hb : U b) : ∃ F', Ev (fun k => soft_Calc_Mul.f k F a b) (mv a b, F') ∧ F8 F' ∧ B8 F' = B8 F ||| mf a b := by
  refine ⟨Go.bits .or .u8 F (mP a b).2, ?_, F8_or _ _, B8_or _ _⟩
  unfold soft_Calc_Mul.f
  exact Ev.bind (mP_ev ha hb) (Ev.call rfl (Ev.now _))
end Gim
