/- Sums of products, one behind the other. -/
import Derived.Test.YtnjobojkoaknpaaTAv
namespace Gim
open Go Go.RowKit Go.Proofs.YtnjobojkoaknpaaW.PrintWords Go.Proofs.YtnjobojkoaknpaaW.PrintLast Go.Proofs.YtnjobojkoaknpaaW.PrintMore Go.Proofs.Ytnjobojkoaknpaa.F
set_option linter.unusedVariables false

noncomputable def dS (x y : Nat → Int) : Nat → Int
  | 0 => 0
  | n + 1 => av (dS x y n) (mv (x n) (y n))
noncomputable def dF (x y : Nat → Int) (i : Nat) : BitVec 8 := mf (x i) (y i) ||| af (dS x y i) (mv (x i) (y i))
theorem dS_U {x y : Nat → Int} (hx : ∀ i, U (x i)) (hy : ∀ i, U (y i)) : ∀ n, U (dS x y n)
  | 0 => show U 0 from ⟨by decide, by decide⟩
  | n + 1 => av_U (dS_U hx hy n) (mv_U (hx n) (hy n))
end Gim
