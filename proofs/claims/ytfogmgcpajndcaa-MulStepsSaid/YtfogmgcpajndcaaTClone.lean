/- The same matrix in new memory, with nothing between its rows. -/
import Derived.Test.YtfogmgcpajndcaaTMat
import Derived.Test.YtfogmgcpajndcaaFx10
namespace Gim
open Go Go.RowKit Go.Proofs.YtfogmgcpajndcaaW.PrintWords Go.Proofs.YtfogmgcpajndcaaW.PrintLast Go.Proofs.YtfogmgcpajndcaaW.PrintMore Go.Proofs.Ytfogmgcpajndcaa.F
set_option linter.unusedVariables false

/-- What stands in a matrix, by natural numbers. -/
def atN (r c s : Int) (d : List Int) (i k : Nat) : Int := at4 r c s d i k
theorem clone_l1 {R C : Nat} (hR : R ≤ 4096) (hC : C ≤ 4096) {s : Int} (hs : s ≤ 1099511627776) (d : List Int) {ρ : Int × Int × Int × List Int} {i : Nat} (hi : i < R)
    (hk : Ev (fun K => mat_Matrix_Clone.l0 K R ((i : Int) + 1) R C s d R C C (part R C (atN R C s d) ((i + 1) * C))) ρ) :
    ∀ n k : Nat, C - k = n → k ≤ C → Ev (fun K => mat_Matrix_Clone.l1 K i R i C k R C s d R C C (part R C (atN R C s d) (i * C + k))) ρ := by
  intro n
  induction n with
  | zero =>
    intro k h1 h2
    obtain rfl : k = C := by omega
    refine Ev.succ ?_
    simp only [mat_Matrix_Clone.l1]
    refine Ev.neg (by omega) ?_
    rw [w64 (by omega) (by omega), row_end]
    exact hk
  | succ n ih =>
    intro k h1 h2
    refine Ev.succ ?_
    simp only [mat_Matrix_Clone.l1]
    refine Ev.pos (by omega) (Ev.call (at_eq ⟨by omega, by omega, hs⟩ d i k) (Ev.call (set_eq (Sm.nat hR hC) _ i k _) ?_))
    rw [w64 (by omega) (by omega), show at4 (R : Int) (C : Int) s d i k = atN R C s d i k from rfl, set_part hi (by omega)]
    have := ih (k + 1) (by omega) (by omega)
    exact this
theorem clone_l0 {R C : Nat} (hR : R ≤ 4096) (hC : C ≤ 4096) {s : Int} (hs : s ≤ 1099511627776) (d : List Int) :
    ∀ n i : Nat, R - i = n → i ≤ R → Ev (fun K => mat_Matrix_Clone.l0 K R i R C s d R C C (part R C (atN R C s d) (i * C))) ((R : Int), (C : Int), (C : Int), gat R C (atN R C s d)) := by
  intro n
  induction n with
  | zero =>
    intro i h1 h2
    obtain rfl : i = R := by omega
    refine Ev.succ ?_
    simp only [mat_Matrix_Clone.l0]
    refine Ev.neg (by omega) ?_
    rw [part_full]
    exact Ev.now _
  | succ n ih =>
    intro i h1 h2
    refine Ev.succ ?_
    simp only [mat_Matrix_Clone.l0]
    refine Ev.pos (by omega) ?_
    have := clone_l1 hR hC hs d (ρ := ((R : Int), (C : Int), (C : Int), gat R C (atN R C s d))) (i := i) (by omega) (ih (i + 1) (by omega) (by omega)) C 0 (by omega) (by omega)
    exact this
theorem clone_ev {R C : Nat} (hR : R ≤ 4096) (hC : C ≤ 4096) {s : Int} (hs : s ≤ 1099511627776) (d : List Int) :
    Ev (fun K => mat_Matrix_Clone.f K R C s d) ((R : Int), (C : Int), (C : Int), gat R C (atN R C s d)) := by
  unfold mat_Matrix_Clone.f
  refine Ev.call (new_eq hR hC) ?_
  have := clone_l0 hR hC hs d R 0 (by omega) (by omega)
  rw [Nat.zero_mul, part_zero] at this
  exact this
end Gim
