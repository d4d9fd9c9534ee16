/- What a printed function answers, as a value. -/
import Derived.Test.YtnjobojkoaknpaaT2
namespace Gim
open Go Go.RowKit Go.Proofs.YtnjobojkoaknpaaW.PrintWords Go.Proofs.YtnjobojkoaknpaaW.PrintLast Go.Proofs.YtnjobojkoaknpaaW.PrintMore
set_option linter.unusedVariables false

/-- What is answered from some number of rounds on, if anything is. -/
noncomputable def resOf {α : Type} [Inhabited α] (g : Nat → Option α) : α := open Classical in if h : ∃ r, Ev g r then Classical.choose h else default
theorem Ev.resE {α : Type} [Inhabited α] {g : Nat → Option α} {r : α} (h : Ev g r) : Ev g (resOf g) := by
  unfold resOf
  rw [dif_pos ⟨r, h⟩]
  exact Classical.choose_spec (p := fun r => Ev g r) ⟨r, h⟩
theorem Ev.res_eq {α : Type} [Inhabited α] {g : Nat → Option α} {r : α} (h : Ev g r) : resOf g = r := Ev.det (Ev.resE h) h
end Gim
