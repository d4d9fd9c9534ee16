/- Layer 4's reference: what a product is. -/
import Derived.Test.YtakegikedpcilaaDoorTRef4
import Derived.Test.YtakegikedpcilaaDoorTRefP
import Derived.Test.YtakegikedpcilaaDoorFx14
namespace Gim
open Go Go.RowKit Go.Proofs.YtakegikedpcilaaDoorW.PrintWords Go.Proofs.YtakegikedpcilaaDoorW.PrintLast Go.Proofs.YtakegikedpcilaaDoorW.PrintMore Go.Proofs.YtakegikedpcilaaDoor.F
set_option linter.unusedVariables false

theorem ref_mul_fin {a b : Int} (ha : U a) (hb : U b) (fa : fin a) (fb : fin b) (s : Bool) (hs : s = (neg a != neg b)) : ∃ r f, Ev (fun k => gimbalref04_Mul.j1 k a b s false) (r, f) ∧ Rd (val a * val b) (neg a != neg b) r f := by
  obtain ⟨ea1, ea2⟩ := fin_expo fa
  obtain ⟨eb1, eb2⟩ := fin_expo fb
  have uM := mant_U a
  have uN := mant_U b
  have lM := mant_blen a
  have lN := mant_blen b
  have hv : val a * val b = ((sgd s (mant (mag a) * mant (mag b)) : Int) : Rat) * pw (expo (mag a) + expo (mag b)) := by
    rw [val_mant a, val_mant b, hs, ← sgd_mul, pw_add]; push_cast; grind
  have bMN : blen (mant (mag a) * mant (mag b)) ≤ 106 := by
    refine blen_le (by decide) ?_
    rw [show p2 106 = 9007199254740992 * 9007199254740992 from by decide]
    exact mul_lt2 mant_lt mant_lt uM.1 uN.1
  obtain ⟨r, f, ev, rd⟩ := ref_roundS s (X := mant (mag a) * mant (mag b)) (E := expo (mag a) + expo (mag b)) (Int.mul_nonneg uM.1 uN.1) (by omega) (by omega) (by omega)
  refine ⟨r, f, Ev.succ ?_, by rw [hv, ← hs]; exact rd⟩
  simp only [gimbalref04_Mul.j1]
  refine Ev.neg (by decide) (Ev.call (ref_Parts ha) (Ev.call (ref_Parts hb) ?_))
  dsimp only
  refine ref_parts_step ha fa (g := fun k x y => gimbalref04_Mul.j2 k s x y (b / 4503599627370496 % 2048) (b % 4503599627370496)) (Ev.succ ?_)
  simp only [gimbalref04_Mul.j2]
  refine ref_parts_step hb fb (g := fun k x y => gimbalref04_Mul.j3 k s (expo (mag a) + 1074) (mant (mag a)) x y) (Ev.succ ?_)
  simp only [gimbalref04_Mul.j3]
  rw [w64 (x := expo (mag a) + 1074 + (expo (mag b) + 1074)) (by omega) (by omega), w64 (by omega) (by omega), show expo (mag a) + 1074 + (expo (mag b) + 1074) - 2148 = expo (mag a) + expo (mag b) from by omega]
  exact Ev.bind (ref_of uM) (Ev.bind (ref_of uN) (Ev.bind (ref_mulN uM.1 uN.1 (by omega) (by omega)) (Ev.bind ev (Ev.now _))))
end Gim
