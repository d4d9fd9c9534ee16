/- What soft.Sub answers. -/
import Derived.Test.YtnjobojkoaknpaaTAdd
import Derived.Test.YtnjobojkoaknpaaTFlip
import Derived.Test.YtnjobojkoaknpaaFx6
namespace Gim
open Go Go.RowKit Go.Proofs.YtnjobojkoaknpaaW.PrintWords Go.Proofs.YtnjobojkoaknpaaW.PrintLast Go.Proofs.YtnjobojkoaknpaaW.PrintMore Go.Proofs.Ytnjobojkoaknpaa.F
set_option linter.unusedVariables false

theorem sub_of_add {a b : Int} (hb : U b) {r : Int × Int} (h : Ev (fun k => soft_Add.f k a (flip b)) r) : Ev (fun k => soft_Sub.f k a b) r := by
  unfold soft_Sub.f
  exact Ev.call (word_Flip_eq hb) (Ev.bind h (Ev.now _))
/-- SUB: of two numbers. -/
theorem sub_fin {a b : Int} (ha : U a) (hb : U b) (fa : fin a) (fb : fin b) : ∃ r f, Ev (fun k => soft_Sub.f k a b) (r, f) ∧ Rd (val a - val b) (neg a && !neg b) r f := by
  obtain ⟨r, f, ev, rd⟩ := add_fin ha (U_flip hb) fa (fin_flip hb fb)
  rw [val_flip hb, neg_flip hb] at rd
  refine ⟨r, f, sub_of_add hb ev, ?_⟩
  rw [show val a - val b = val a + -val b from by grind]
  exact rd

end Gim
