/- Lists that come of counting. -/
import Derived.Test.YtnjobojkoaknpaaTMat
namespace Gim
open Go Go.RowKit Go.Proofs.YtnjobojkoaknpaaW.PrintWords Go.Proofs.YtnjobojkoaknpaaW.PrintLast Go.Proofs.YtnjobojkoaknpaaW.PrintMore Go.Proofs.Ytnjobojkoaknpaa.F
set_option linter.unusedVariables false

def cnt (n : Nat) (f : Nat → Int) : List Int := (List.range n).map f
theorem cnt_len (n : Nat) (f : Nat → Int) : (cnt n f).length = n := by simp [cnt]
theorem cnt_rd {n i : Nat} (f : Nat → Int) (h : i < n) : rd (cnt n f) (i : Int) = f i := by
  unfold rd cnt; simp [List.getD_eq_getElem?_getD, h]
theorem cnt_succ (n : Nat) (f : Nat → Int) : cnt (n + 1) f = cnt n f ++ [f n] := by unfold cnt; rw [List.range_succ, List.map_append]; rfl
theorem cnt_U {n : Nat} {f : Nat → Int} (h : ∀ i, U (f i)) : ∀ x ∈ cnt n f, U x := by
  intro x hx
  obtain ⟨i, _, rfl⟩ := List.mem_map.mp hx
  exact h i
theorem cnt_short {n : Nat} (f : Nat → Int) (h : n ≤ 1000) : (cnt n f).length < 17592186044416 := by rw [cnt_len]; omega
end Gim
