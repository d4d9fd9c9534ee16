/- A product of two matrices, and what it has met. -/
import Derived.Test.YtfogmgcpajndcaaTMat
import Derived.Test.YtfogmgcpajndcaaTCheck
import Derived.Test.YtfogmgcpajndcaaTWords
import Derived.Test.YtfogmgcpajndcaaTGem
import Derived.Test.YtfogmgcpajndcaaTCalc
import Derived.Test.YtfogmgcpajndcaaFx9
namespace Gim
open Go Go.RowKit Go.Proofs.YtfogmgcpajndcaaW.PrintWords Go.Proofs.YtfogmgcpajndcaaW.PrintLast Go.Proofs.YtfogmgcpajndcaaW.PrintMore Go.Proofs.Ytfogmgcpajndcaa.F
set_option linter.unusedVariables false

section
variable {P Q R : Nat} (hP : P ≤ 100) (hQ : Q ≤ 100) (hR : R ≤ 100) {da db : List Int} (ha : ∀ x ∈ da, U x) (hb : ∀ x ∈ db, U x)
include hP hQ hR ha hb
theorem gemm_l2 {i k : Nat} (hi : i < P) (hk : k < R) (G : BitVec 8) : ∀ t j : Nat, Q - j = t → j ≤ Q → ∀ F : Int, F8 F → B8 F = G ||| orS (dF (den Q P da i) (fun j => den R Q db j k)) j →
    ∃ F', F8 F' ∧ B8 F' = G ||| gF (den Q P da) (den R Q db) Q i k ∧ ∀ (o : List Int) (ρ : Int × Int × Int × List Int × Int × Int), Ev (fun K => mul_Gemm.l1 K i P i R ((k : Int) + 1) F' P Q Q da Q R R db P R R (set4 P R R o i k (gS (den Q P da) (den R Q db) Q i k))) ρ →
      Ev (fun K => mul_Gemm.l2 K i k (dS (den Q P da i) (fun j => den R Q db j k) j) P i R k Q j F P Q Q da Q R R db P R R o) ρ := by
  intro t
  induction t with
  | zero =>
    intro j h1 h2 F hF hB
    obtain rfl : j = Q := by omega
    refine ⟨F, hF, hB, fun o ρ h => Ev.succ ?_⟩
    simp only [mul_Gemm.l2]
    rw [w64 (x := (k : Int) + 1) (by omega) (by omega)]
    exact Ev.neg (by omega) (Ev.call (set_eq ⟨by omega, by omega, by omega⟩ _ _ _ _) h)
  | succ t ih =>
    intro j h1 h2 F hF hB
    have ux : U (den Q P da i j) := den_U ha i j
    have uy : U (den R Q db j k) := den_U hb j k
    have us := dS_U (x := den Q P da i) (y := fun j => den R Q db j k) (fun j => den_U ha i j) (fun j => den_U hb j k) j
    obtain ⟨F1, e1, f1, b1⟩ := cMul (F := F) ux uy
    obtain ⟨F2, e2, f2, b2⟩ := cAdd (F := F1) us (mv_U ux uy)
    obtain ⟨F', g1, g2, ev⟩ := ih (j + 1) (by omega) (by omega) F2 f2 (by rw [b2, b1, hB]; simp only [orS, dF]; ac_rfl)
    refine ⟨F', g1, g2, fun o ρ h => Ev.succ ?_⟩
    simp only [mul_Gemm.l2]
    rw [w64 (x := (j : Int) + 1) (by omega) (by omega)]
    exact Ev.pos (by omega) (Ev.call (at_eq ⟨by omega, by omega, by omega⟩ _ _ _) (Ev.call (at_eq ⟨by omega, by omega, by omega⟩ _ _ _) (Ev.bind e1 (Ev.bind e2 (ev o ρ h)))))
theorem gemm_l1 {i : Nat} (hi : i < P) (G : BitVec 8) : ∀ t k : Nat, R - k = t → k ≤ R → ∀ F : Int, F8 F → B8 F = G ||| orS (gF (den Q P da) (den R Q db) Q i) k →
    ∃ F', F8 F' ∧ B8 F' = G ||| orS (gF (den Q P da) (den R Q db) Q i) R ∧ ∀ (ρ : Int × Int × Int × List Int × Int × Int), Ev (fun K => mul_Gemm.l0 K P ((i : Int) + 1) F' P Q Q da Q R R db P R R (part P R (gS (den Q P da) (den R Q db) Q) ((i + 1) * R))) ρ →
      Ev (fun K => mul_Gemm.l1 K i P i R k F P Q Q da Q R R db P R R (part P R (gS (den Q P da) (den R Q db) Q) (i * R + k))) ρ := by
  intro t
  induction t with
  | zero =>
    intro k h1 h2 F hF hB
    obtain rfl : k = R := by omega
    refine ⟨F, hF, hB, fun ρ h => Ev.succ ?_⟩
    simp only [mul_Gemm.l1]
    rw [w64 (x := (i : Int) + 1) (by omega) (by omega), row_end]
    exact Ev.neg (by omega) h
  | succ t ih =>
    intro k h1 h2 F hF hB
    obtain ⟨F1, f1, b1, ev1⟩ := gemm_l2 hP hQ hR ha hb (i := i) (k := k) hi (by omega) (B8 F) Q 0 (by omega) (by omega) F hF (by simp [orS])
    obtain ⟨F', g1, g2, ev⟩ := ih (k + 1) (by omega) (by omega) F1 f1 (by rw [b1, hB]; simp only [orS]; ac_rfl)
    refine ⟨F', g1, g2, fun ρ h => Ev.succ ?_⟩
    simp only [mul_Gemm.l1]
    refine Ev.pos (by omega) (ev1 _ ρ ?_)
    rw [set_part hi (by omega)]
    exact ev ρ h
theorem gemm_l0 (G : BitVec 8) : ∀ t i : Nat, P - i = t → i ≤ P → ∀ F : Int, F8 F → B8 F = G ||| orS (fun i => orS (gF (den Q P da) (den R Q db) Q i) R) i →
    ∃ F', F8 F' ∧ B8 F' = G ||| orS (fun i => orS (gF (den Q P da) (den R Q db) Q i) R) P ∧
      Ev (fun K => mul_Gemm.l0 K P i F P Q Q da Q R R db P R R (part P R (gS (den Q P da) (den R Q db) Q) (i * R))) ((P : Int), (R : Int), (R : Int), gat P R (gS (den Q P da) (den R Q db) Q), 0, F') := by
  intro t
  induction t with
  | zero =>
    intro i h1 h2 F hF hB
    obtain rfl : i = P := by omega
    refine ⟨F, hF, hB, Ev.succ ?_⟩
    simp only [mul_Gemm.l0]
    rw [part_full]
    exact Ev.neg (by omega) (Ev.now _)
  | succ t ih =>
    intro i h1 h2 F hF hB
    obtain ⟨F1, f1, b1, ev1⟩ := gemm_l1 hP hQ hR ha hb (i := i) (by omega) (B8 F) R 0 (by omega) (by omega) F hF (by simp [orS])
    obtain ⟨F', g1, g2, ev⟩ := ih (i + 1) (by omega) (by omega) F1 f1 (by rw [b1, hB]; simp only [orS]; ac_rfl)
    refine ⟨F', g1, g2, Ev.succ ?_⟩
    simp only [mul_Gemm.l0]
    exact Ev.pos (by omega) (ev1 _ ev)
/-- THE PRODUCT OF TWO MATRICES. -/
theorem gemm_ev (hla : da.length = P * Q) (hlb : db.length = Q * R) {F : Int} (hF : F8 F) : ∃ F', F8 F' ∧ B8 F' = B8 F ||| orS (fun i => orS (gF (den Q P da) (den R Q db) Q i) R) P ∧
    Ev (fun K => mul_Gemm.f K F P Q Q da Q R R db) ((P : Int), (R : Int), (R : Int), gat P R (gS (den Q P da) (den R Q db) Q), 0, F') := by
  obtain ⟨F', g1, g2, ev⟩ := gemm_l0 hP hQ hR ha hb (B8 F) P 0 (by omega) (by omega) F hF (by simp [orS])
  refine ⟨F', g1, g2, ?_⟩
  rw [Nat.zero_mul, part_zero] at ev
  unfold mul_Gemm.f
  exact Ev.bind (fits_yes hP hQ hR hla hlb) (Ev.pos rfl (Ev.call (new_eq (by omega) (by omega)) ev))
end
end Gim
