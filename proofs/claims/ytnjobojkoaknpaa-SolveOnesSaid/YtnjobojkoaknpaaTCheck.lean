/- Whether something is a matrix. -/
import Derived.Test.YtnjobojkoaknpaaTMat
import Derived.Test.YtnjobojkoaknpaaFx8
namespace Gim
open Go Go.RowKit Go.Proofs.YtnjobojkoaknpaaW.PrintWords Go.Proofs.YtnjobojkoaknpaaW.PrintLast Go.Proofs.YtnjobojkoaknpaaW.PrintMore Go.Proofs.Ytnjobojkoaknpaa.F
set_option linter.unusedVariables false

/-- Sizes that can't be. -/
def badSize (r c s : Int) : Prop := r < 0 ∨ 4096 < r ∨ c < 0 ∨ 4096 < c ∨ s < c ∨ 1099511627776 < s
instance (r c s : Int) : Decidable (badSize r c s) := by unfold badSize; exact inferInstance
def isMat (r c s : Int) (d : List Int) : Prop := ¬ badSize r c s ∧ (r = 0 ∨ c = 0 ∨ (r - 1) * s + c ≤ (d.length : Int))
instance (r c s : Int) (d : List Int) : Decidable (isMat r c s d) := by unfold isMat; exact inferInstance

theorem check_j0_true (r c s : Int) (d : List Int) : Ev (fun k => mat_Matrix_Check.j0 k true r c s d) 4 := by
  refine Ev.succ ?_
  simp only [mat_Matrix_Check.j0]
  exact Ev.pos trivial (Ev.now _)
theorem check_j1 {r c s : Int} (h : ¬ badSize r c s) (d : List Int) (b : Bool) (hb : b = decide (r = 0 ∨ c = 0)) :
    Ev (fun k => mat_Matrix_Check.j1 k b r c s d) (if isMat r c s d then 0 else 4) := by
  unfold badSize at h
  refine Ev.succ ?_
  simp only [mat_Matrix_Check.j1]
  by_cases h0 : r = 0 ∨ c = 0
  · rw [decide_eq_true h0] at hb
    refine Ev.pos hb ?_
    rw [if_pos (show isMat r c s d from ⟨h, by omega⟩)]
    exact Ev.now _
  · rw [decide_eq_false h0] at hb
    refine Ev.neg (by rw [hb]; decide) ?_
    obtain ⟨b0, b1⟩ := mul_bound (a := r - 1) (b := s) (m := 4096) (n := 1099511627776) (by omega) (by omega) (by omega) (by omega)
    rw [w64 (x := r - 1) (by omega) (by omega), w64 (x := (r - 1) * s) (by omega) (by omega), w64 (by omega) (by omega)]
    by_cases h1 : (r - 1) * s + c > (d.length : Int)
    · refine Ev.pos h1 ?_
      rw [if_neg (show ¬ isMat r c s d from fun hh => by have := hh.2; omega)]
      exact Ev.now _
    · refine Ev.neg h1 ?_
      rw [if_pos (show isMat r c s d from ⟨h, by omega⟩)]
      exact Ev.now _
theorem check_j0 {r c s : Int} (h : ¬ badSize r c s) (d : List Int) : Ev (fun k => mat_Matrix_Check.j0 k false r c s d) (if isMat r c s d then 0 else 4) := by
  refine Ev.succ ?_
  simp only [mat_Matrix_Check.j0]
  refine Ev.neg (by decide) ?_
  by_cases h0 : r = 0
  · exact Ev.pos h0 (check_j1 h d true (by rw [decide_eq_true (.inl h0)]))
  · refine Ev.neg h0 (check_j1 h d _ ?_)
    rw [Bool.eq_iff_iff, beq_iff_eq, decide_eq_true_eq]; omega
/-- Check: 0 of a matrix, 4 of all else. -/
theorem check_ev (r c s : Int) (d : List Int) : Ev (fun k => mat_Matrix_Check.f k r c s d) (if isMat r c s d then 0 else 4) := by
  have hbad : badSize r c s → Ev (fun k => mat_Matrix_Check.j0 k true r c s d) (if isMat r c s d then 0 else 4) := by
    intro hb
    rw [if_neg (fun hh => hh.1 hb)]
    exact check_j0_true r c s d
  unfold mat_Matrix_Check.f
  unfold badSize at hbad
  by_cases h1 : r < 0
  · exact Ev.pos h1 (hbad (by omega))
  · refine Ev.neg h1 ?_
    by_cases h2 : r > 4096
    · exact Ev.pos h2 (hbad (by omega))
    · refine Ev.neg h2 ?_
      by_cases h3 : c < 0
      · exact Ev.pos h3 (hbad (by omega))
      · refine Ev.neg h3 ?_
        by_cases h4 : c > 4096
        · exact Ev.pos h4 (hbad (by omega))
        · refine Ev.neg h4 ?_
          by_cases h5 : s < c
          · exact Ev.pos h5 (hbad (by omega))
          · refine Ev.neg h5 ?_
            by_cases h6 : s > 1099511627776
            · rw [decide_eq_true h6]; exact hbad (by omega)
            · rw [decide_eq_false h6]
              exact check_j0 (by unfold badSize; omega) d
theorem isMat_dense {R C : Nat} (hR : R ≤ 4096) (hC : C ≤ 4096) {d : List Int} (hd : d.length = R * C) : isMat R C C d := by
  refine ⟨by unfold badSize; omega, ?_⟩
  by_cases h0 : R = 0
  · left; omega
  · right; right
    obtain ⟨q, rfl⟩ : ∃ q, R = q + 1 := ⟨R - 1, by omega⟩
    rw [hd]
    have e : ((q + 1 : Nat) : Int) - 1 = (q : Int) := by omega
    rw [e, ← Int.natCast_mul, ← Int.natCast_add, ← row_end]; omega
theorem check_dense {R C : Nat} (hR : R ≤ 4096) (hC : C ≤ 4096) {d : List Int} (hd : d.length = R * C) : Ev (fun k => mat_Matrix_Check.f k R C C d) 0 := by
  have := check_ev R C C d
  rwa [if_pos (isMat_dense hR hC hd)] at this
end Gim
