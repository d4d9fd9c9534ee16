/- Layer 4's reference: a number as a whole one. -/
import Derived.Test.YtakegikedpcilaaDoorTRef4
import Derived.Test.YtakegikedpcilaaDoorFx12
namespace Gim
open Go Go.RowKit Go.Proofs.YtakegikedpcilaaDoorW.PrintWords Go.Proofs.YtakegikedpcilaaDoorW.PrintLast Go.Proofs.YtakegikedpcilaaDoorW.PrintMore Go.Proofs.YtakegikedpcilaaDoor.F
set_option linter.unusedVariables false


/-- A number as a whole one, times 2^-1074. -/
def wh (a : Int) : Int := mant (mag a) * p2 (expo (mag a) + 1074)
theorem wh_nonneg (a : Int) : 0 ≤ wh a := Int.mul_nonneg (mant_nonneg mag_lt.1) (Int.le_of_lt (p2_pos _))
theorem wh_vm (a : Int) : vm (mag a) = (wh a : Rat) * pw (-1074) := by
  have := expo_ge (mag_lt (a := a)).1
  have e : pw (expo (mag a)) = (p2 (expo (mag a) + 1074) : Rat) * pw (-1074) := by rw [← pw_p2 (by omega), ← pw_add]; congr 1; omega
  unfold vm wh
  rw [e]; push_cast; grind
theorem wh_blen {a : Int} (fa : fin a) : blen (wh a) ≤ 2100 := by
  obtain ⟨h1, h2⟩ := fin_expo fa
  have h3 := mant_lt (m := mag a)
  refine blen_le (by decide) ?_
  have e : (9007199254740992 : Int) = p2 53 := by decide
  have hP := p2_pos (expo (mag a) + 1074)
  have : wh a < p2 53 * p2 (expo (mag a) + 1074) := by rw [← e]; exact Int.mul_lt_mul_of_pos_right h3 hP
  rw [← p2_add (by decide) (by omega)] at this
  have := p2_le (show 53 + (expo (mag a) + 1074) ≤ 2100 by omega)
  omega
theorem wh_zero {a : Int} : wh a = 0 ↔ mag a = 0 := by
  have hP := p2_pos (expo (mag a) + 1074)
  have h0 := (mag_lt (a := a)).1
  constructor
  · intro h
    by_cases hm : mag a = 0
    · exact hm
    · have := Int.mul_pos (mant_pos (m := mag a) (by omega)) hP
      unfold wh at h; omega
  · intro h; unfold wh mant; rw [h]; simp
theorem wh_val (a : Int) : val a = (sgd (neg a) (wh a) : Rat) * pw (-1074) := by
  rw [val_eq, wh_vm]; unfold sgd; cases neg a <;> simp <;> grind
theorem ref_Whole {a : Int} (h : U a) (fa : fin a) : Ev (fun k => gimbalref04_Whole.f k a) (bl (wh a)) := by
  obtain ⟨p0, p1, e0, e1⟩ := ref_fin h fa
  unfold gimbalref04_Whole.f
  refine Ev.call (ref_Parts h) ?_
  dsimp only
  by_cases c : a / 4503599627370496 % 2048 = 0
  · have hw : wh a = a % 4503599627370496 := by unfold wh; rw [(p0 c).1, (p0 c).2]; simp [p2_0]
    refine Ev.pos c (Ev.bind (ref_of (x := a % 4503599627370496) ⟨by omega, by omega⟩) ?_)
    rw [hw]; exact Ev.now _
  · have hw : wh a = (a % 4503599627370496 + 4503599627370496) * p2 (a / 4503599627370496 % 2048 - 1) := by
      unfold wh; rw [(p1 (by omega)).1, (p1 (by omega)).2]; congr 2; omega
    rw [wu64 (x := a % 4503599627370496 + 4503599627370496) (by omega) (by omega), w64 (x := a / 4503599627370496 % 2048 - 1) (by omega) (by omega)]
    have hx : U (a % 4503599627370496 + 4503599627370496) := ⟨by omega, by omega⟩
    have hl := bl_length hx.1
    have hb : blen (a % 4503599627370496 + 4503599627370496) ≤ 64 := blen_le (by decide) (by rw [p2_64]; exact hx.2)
    have k := ref_up (a := bl (a % 4503599627370496 + 4503599627370496)) (n := a / 4503599627370496 % 2048 - 1) (bl_bits _) (by omega) (by omega)
    rw [bv_bl hx.1, ← hw] at k
    exact Ev.neg c (Ev.bind (ref_of hx) (Ev.bind k (Ev.now _)))

end Gim
