/- A number's whole part, by the reference's whole numbers. -/
import Derived.Test.YtcappkphcjgeoaaTRefW
import Derived.Test.YtcappkphcjgeoaaTInt
namespace Gim
open Go Go.RowKit Go.Proofs.YtcappkphcjgeoaaW.PrintWords Go.Proofs.YtcappkphcjgeoaaW.PrintLast Go.Proofs.YtcappkphcjgeoaaW.PrintMore Go.Proofs.Ytcappkphcjgeoaa.F
set_option linter.unusedVariables false

theorem wh_whole {a : Int} (fa : fin a) : wh a / p2 1074 = whole a ∧ decide (wh a % p2 1074 ≠ 0) = lostW a := by
  obtain ⟨e1, e2⟩ := fin_expo fa
  have hP := p2_pos (expo (mag a) + 1074)
  unfold wh whole lostW
  by_cases c : expo (mag a) < 0
  · have e : p2 1074 = p2 (expo (mag a) + 1074) * p2 (-expo (mag a)) := by rw [← p2_add (by omega) (by omega)]; congr 1; omega
    have hQ := p2_pos (-expo (mag a))
    rw [if_pos c, e, Int.mul_comm (mant (mag a)), Int.mul_ediv_mul_of_pos _ _ hP, Int.mul_emod_mul_of_pos _ _ hP]
    refine ⟨rfl, ?_⟩
    apply decide_eq_decide.mpr
    constructor
    · intro h; exact ⟨c, fun h2 => h (by rw [h2]; simp)⟩
    · intro h h2
      have h3 := Int.emod_nonneg (mant (mag a)) (show p2 (-expo (mag a)) ≠ 0 by omega)
      have h4 := h.2
      have := Int.mul_pos hP (show 0 < mant (mag a) % p2 (-expo (mag a)) by omega)
      omega
  · have e : p2 (expo (mag a) + 1074) = p2 (expo (mag a)) * p2 1074 := p2_add (by omega) (by decide)
    have hQ := p2_pos 1074
    rw [if_neg c, e, ← Int.mul_assoc, Int.mul_ediv_cancel _ (by omega), Int.mul_emod_left]
    refine ⟨rfl, ?_⟩
    simp [c]

end Gim
