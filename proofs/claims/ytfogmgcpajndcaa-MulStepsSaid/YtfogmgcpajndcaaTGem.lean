/- A product of two matrices: what stands in it; whether it can be. -/
import Derived.Test.YtfogmgcpajndcaaTMat
import Derived.Test.YtfogmgcpajndcaaTCheck
import Derived.Test.YtfogmgcpajndcaaTWords
import Derived.Test.YtfogmgcpajndcaaTDot
import Derived.Test.YtfogmgcpajndcaaFx8
namespace Gim
open Go Go.RowKit Go.Proofs.YtfogmgcpajndcaaW.PrintWords Go.Proofs.YtfogmgcpajndcaaW.PrintLast Go.Proofs.YtfogmgcpajndcaaW.PrintMore Go.Proofs.Ytfogmgcpajndcaa.F
set_option linter.unusedVariables false

/-- A sum of products, one behind the other; what it has met. -/
noncomputable def gS (X Y : Nat → Nat → Int) (Q : Nat) (i k : Nat) : Int := dS (X i) (fun j => Y j k) Q
noncomputable def gF (X Y : Nat → Nat → Int) (Q : Nat) (i k : Nat) : BitVec 8 := orS (dF (X i) (fun j => Y j k)) Q
theorem gS_U {X Y : Nat → Nat → Int} (hX : ∀ i j, U (X i j)) (hY : ∀ i j, U (Y i j)) (Q i k : Nat) : U (gS X Y Q i k) := dS_U (hX i) (fun j => hY j k) Q
/-- What stands in a matrix without gaps. -/
def den (C : Nat) (R : Nat) (d : List Int) (i k : Nat) : Int := at4 R C C d i k
theorem den_U {R C : Nat} {d : List Int} (h : ∀ x ∈ d, U x) (i k : Nat) : U (den C R d i k) := at_U h i k
theorem fits_yes {P Q R : Nat} (hP : P ≤ 100) (hQ : Q ≤ 100) (hR : R ≤ 100) {da db : List Int} (ha : da.length = P * Q) (hb : db.length = Q * R) : Ev (fun K => mul_fits.f K P Q Q da Q R R db) 0 := by
  unfold mul_fits.f
  exact Ev.bind (check_dense (by omega) (by omega) ha) (Ev.pos rfl (Ev.bind (check_dense (by omega) (by omega) hb) (Ev.pos rfl (Ev.pos rfl (Ev.now _)))))
end Gim
