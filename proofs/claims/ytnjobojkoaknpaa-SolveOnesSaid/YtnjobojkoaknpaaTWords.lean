/- Lists of words. -/
import Derived.Test.YtnjobojkoaknpaaTMat
namespace Gim
open Go Go.RowKit Go.Proofs.YtnjobojkoaknpaaW.PrintWords Go.Proofs.YtnjobojkoaknpaaW.PrintLast Go.Proofs.YtnjobojkoaknpaaW.PrintMore Go.Proofs.Ytnjobojkoaknpaa.F
set_option linter.unusedVariables false

theorem and7 (x : Int) : Go.bits .and .i64 x 7 = x % 8 := i64_and 3 (by decide) x
theorem and3 (x : Int) : Go.bits .and .i64 x 3 = x % 4 := i64_and 2 (by decide) x
/-- A list of so many words. -/
def Words (n : Nat) (d : List Int) : Prop := d.length = n ∧ ∀ x ∈ d, U x
theorem Words.set {n : Nat} {d : List Int} (h : Words n d) (i : Nat) {v : Int} (hv : U v) : Words n (d.set i v) := by
  refine ⟨by rw [List.length_set]; exact h.1, fun x hx => ?_⟩
  rcases List.mem_or_eq_of_mem_set hx with hx | hx
  · exact h.2 x hx
  · rw [hx]; exact hv
theorem Words.set4 {n : Nat} {d : List Int} (h : Words n d) (r c s i k : Int) {v : Int} (hv : U v) : Words n (set4 r c s d i k v) := by
  unfold Gim.set4
  split
  · exact h.set _ hv
  · exact h
theorem Words.zeros (n : Nat) : Words n (List.replicate n 0) := ⟨List.length_replicate, fun x hx => by rw [(List.mem_replicate.mp hx).2]; exact ⟨by decide, by decide⟩⟩
theorem U_quiet : U 9221120237041090560 := ⟨by decide, by decide⟩
theorem U_zero : U 0 := ⟨by decide, by decide⟩
end Gim
