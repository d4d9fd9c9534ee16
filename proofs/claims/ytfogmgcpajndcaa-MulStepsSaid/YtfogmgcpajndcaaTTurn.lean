/- Rows for columns. -/
import Derived.Test.YtfogmgcpajndcaaTMat
import Derived.Test.YtfogmgcpajndcaaFx2
namespace Gim
open Go Go.RowKit Go.Proofs.YtfogmgcpajndcaaW.PrintWords Go.Proofs.YtfogmgcpajndcaaW.PrintLast Go.Proofs.YtfogmgcpajndcaaW.PrintMore Go.Proofs.Ytfogmgcpajndcaa.F
set_option linter.unusedVariables false

/-- What stands in a matrix, rows for columns. -/
def atT (r c s : Int) (d : List Int) (i k : Nat) : Int := at4 r c s d k i
theorem turn_l1 {R C : Nat} (hR : R ≤ 4096) (hC : C ≤ 4096) {s : Int} (hs : s ≤ 1099511627776) (d : List Int) {ρ : Int × Int × Int × List Int} {i : Nat} (hi : i < C)
    (hk : Ev (fun K => mat_Matrix_Turn.l0 K C ((i : Int) + 1) R C s d C R R (part C R (atT R C s d) ((i + 1) * R))) ρ) :
    ∀ n k : Nat, R - k = n → k ≤ R → Ev (fun K => mat_Matrix_Turn.l1 K i C i R k R C s d C R R (part C R (atT R C s d) (i * R + k))) ρ := by
  intro n
  induction n with
  | zero =>
    intro k h1 h2
    obtain rfl : k = R := by omega
    refine Ev.succ ?_
    simp only [mat_Matrix_Turn.l1]
    refine Ev.neg (by omega) ?_
    rw [w64 (by omega) (by omega), row_end]
    exact hk
  | succ n ih =>
    intro k h1 h2
    refine Ev.succ ?_
    simp only [mat_Matrix_Turn.l1]
    refine Ev.pos (by omega) (Ev.call (at_eq ⟨by omega, by omega, hs⟩ d k i) (Ev.call (set_eq (Sm.nat hC hR) _ i k _) ?_))
    rw [w64 (by omega) (by omega), show at4 (R : Int) (C : Int) s d k i = atT R C s d i k from rfl, set_part hi (by omega)]
    have := ih (k + 1) (by omega) (by omega)
    exact this
theorem turn_l0 {R C : Nat} (hR : R ≤ 4096) (hC : C ≤ 4096) {s : Int} (hs : s ≤ 1099511627776) (d : List Int) :
    ∀ n i : Nat, C - i = n → i ≤ C → Ev (fun K => mat_Matrix_Turn.l0 K C i R C s d C R R (part C R (atT R C s d) (i * R))) ((C : Int), (R : Int), (R : Int), gat C R (atT R C s d)) := by
  intro n
  induction n with
  | zero =>
    intro i h1 h2
    obtain rfl : i = C := by omega
    refine Ev.succ ?_
    simp only [mat_Matrix_Turn.l0]
    refine Ev.neg (by omega) ?_
    rw [part_full]
    exact Ev.now _
  | succ n ih =>
    intro i h1 h2
    refine Ev.succ ?_
    simp only [mat_Matrix_Turn.l0]
    refine Ev.pos (by omega) ?_
    have := turn_l1 hR hC hs d (ρ := ((C : Int), (R : Int), (R : Int), gat C R (atT R C s d))) (i := i) (by omega) (ih (i + 1) (by omega) (by omega)) R 0 (by omega) (by omega)
    exact this
theorem turn_ev {R C : Nat} (hR : R ≤ 4096) (hC : C ≤ 4096) {s : Int} (hs : s ≤ 1099511627776) (d : List Int) :
    Ev (fun K => mat_Matrix_Turn.f K R C s d) ((C : Int), (R : Int), (R : Int), gat C R (atT R C s d)) := by
  unfold mat_Matrix_Turn.f
  refine Ev.call (new_eq hC hR) ?_
  have := turn_l0 hR hC hs d C 0 (by omega) (by omega)
  rw [Nat.zero_mul, part_zero] at this
  exact this
end Gim
