/- A product of two matrices, where nobody asks for flags. -/
import Derived.Test.YtfogmgcpajndcaaTMat
import Derived.Test.YtfogmgcpajndcaaTCheck
import Derived.Test.YtfogmgcpajndcaaTWords
import Derived.Test.YtfogmgcpajndcaaTGem
import Derived.Test.YtfogmgcpajndcaaFx13
import Derived.Test.YtfogmgcpajndcaaFx6
namespace Gim
open Go Go.RowKit Go.Proofs.YtfogmgcpajndcaaW.PrintWords Go.Proofs.YtfogmgcpajndcaaW.PrintLast Go.Proofs.YtfogmgcpajndcaaW.PrintMore Go.Proofs.Ytfogmgcpajndcaa.F
set_option linter.unusedVariables false

theorem nMul {a b : Int} (ha : U a) (hb : U b) : Ev (fun k => soft_Calc_Mul_nil.f k a b) (mv a b) := by
  unfold soft_Calc_Mul_nil.f
  exact Ev.bind (mP_ev ha hb) (Ev.call rfl (Ev.now _))
theorem nAdd {a b : Int} (ha : U a) (hb : U b) : Ev (fun k => soft_Calc_Add_nil.f k a b) (av a b) := by
  unfold soft_Calc_Add_nil.f
  exact Ev.bind (aP_ev ha hb) (Ev.call rfl (Ev.now _))
section
variable {P Q R : Nat} (hP : P ≤ 100) (hQ : Q ≤ 100) (hR : R ≤ 100) {da db : List Int} (ha : ∀ x ∈ da, U x) (hb : ∀ x ∈ db, U x)
include hP hQ hR ha hb
theorem gemmN_l2 {i k : Nat} (hi : i < P) (hk : k < R) : ∀ t j : Nat, Q - j = t → j ≤ Q → ∀ (o : List Int) (ρ : Int × Int × Int × List Int × Int), Ev (fun K => mul_Gemm_nil.l1 K i P i R ((k : Int) + 1) P Q Q da Q R R db P R R (set4 P R R o i k (gS (den Q P da) (den R Q db) Q i k))) ρ →
      Ev (fun K => mul_Gemm_nil.l2 K i k (dS (den Q P da i) (fun j => den R Q db j k) j) P i R k Q j P Q Q da Q R R db P R R o) ρ := by
  intro t
  induction t with
  | zero =>
    intro j h1 h2 o ρ h
    obtain rfl : j = Q := by omega
    refine Ev.succ ?_
    simp only [mul_Gemm_nil.l2]
    rw [w64 (x := (k : Int) + 1) (by omega) (by omega)]
    exact Ev.neg (by omega) (Ev.call (set_eq ⟨by omega, by omega, by omega⟩ _ _ _ _) h)
  | succ t ih =>
    intro j h1 h2 o ρ h
    have ux : U (den Q P da i j) := den_U ha i j
    have uy : U (den R Q db j k) := den_U hb j k
    have us := dS_U (x := den Q P da i) (y := fun j => den R Q db j k) (fun j => den_U ha i j) (fun j => den_U hb j k) j
    refine Ev.succ ?_
    simp only [mul_Gemm_nil.l2]
    rw [w64 (x := (j : Int) + 1) (by omega) (by omega)]
    exact Ev.pos (by omega) (Ev.call (at_eq ⟨by omega, by omega, by omega⟩ _ _ _) (Ev.call (at_eq ⟨by omega, by omega, by omega⟩ _ _ _) (Ev.bind (nMul ux uy) (Ev.bind (nAdd us (mv_U ux uy)) (ih (j + 1) (by omega) (by omega) o ρ h)))))
theorem gemmN_l1 {i : Nat} (hi : i < P) : ∀ t k : Nat, R - k = t → k ≤ R → ∀ (ρ : Int × Int × Int × List Int × Int), Ev (fun K => mul_Gemm_nil.l0 K P ((i : Int) + 1) P Q Q da Q R R db P R R (part P R (gS (den Q P da) (den R Q db) Q) ((i + 1) * R))) ρ →
      Ev (fun K => mul_Gemm_nil.l1 K i P i R k P Q Q da Q R R db P R R (part P R (gS (den Q P da) (den R Q db) Q) (i * R + k))) ρ := by
  intro t
  induction t with
  | zero =>
    intro k h1 h2 ρ h
    obtain rfl : k = R := by omega
    refine Ev.succ ?_
    simp only [mul_Gemm_nil.l1]
    rw [w64 (x := (i : Int) + 1) (by omega) (by omega), row_end]
    exact Ev.neg (by omega) h
  | succ t ih =>
    intro k h1 h2 ρ h
    refine Ev.succ ?_
    simp only [mul_Gemm_nil.l1]
    refine Ev.pos (by omega) (gemmN_l2 hP hQ hR ha hb (i := i) (k := k) hi (by omega) Q 0 (by omega) (by omega) _ ρ ?_)
    rw [set_part hi (by omega)]
    exact ih (k + 1) (by omega) (by omega) ρ h
theorem gemmN_l0 : ∀ t i : Nat, P - i = t → i ≤ P → Ev (fun K => mul_Gemm_nil.l0 K P i P Q Q da Q R R db P R R (part P R (gS (den Q P da) (den R Q db) Q) (i * R))) ((P : Int), (R : Int), (R : Int), gat P R (gS (den Q P da) (den R Q db) Q), 0) := by
  intro t
  induction t with
  | zero =>
    intro i h1 h2
    obtain rfl : i = P := by omega
    refine Ev.succ ?_
    simp only [mul_Gemm_nil.l0]
    rw [part_full]
    exact Ev.neg (by omega) (Ev.now _)
  | succ t ih =>
    intro i h1 h2
    refine Ev.succ ?_
    simp only [mul_Gemm_nil.l0]
    exact Ev.pos (by omega) (gemmN_l1 hP hQ hR ha hb (i := i) (by omega) R 0 (by omega) (by omega) _ (ih (i + 1) (by omega) (by omega)))
/-- THE PRODUCT OF TWO MATRICES, without flags. -/
theorem gemmN_ev (hla : da.length = P * Q) (hlb : db.length = Q * R) : Ev (fun K => mul_Gemm_nil.f K P Q Q da Q R R db) ((P : Int), (R : Int), (R : Int), gat P R (gS (den Q P da) (den R Q db) Q), 0) := by
  have ev := gemmN_l0 hP hQ hR ha hb P 0 (by omega) (by omega)
  rw [Nat.zero_mul, part_zero] at ev
  unfold mul_Gemm_nil.f
  exact Ev.bind (fits_yes hP hQ hR hla hlb) (Ev.pos rfl (Ev.call (new_eq (by omega) (by omega)) ev))
end
end Gim
