/- Two words compared. -/
import Derived.Test.YtkkfghecmhmdpaaTWide
import Derived.Test.YtkkfghecmhmdpaaFx7
namespace Gim
open Go Go.RowKit Go.Proofs.YtkkfghecmhmdpaaW.PrintWords Go.Proofs.YtkkfghecmhmdpaaW.PrintLast Go.Proofs.YtkkfghecmhmdpaaW.PrintMore Go.Proofs.Ytkkfghecmhmdpaa.F
set_option linter.unusedVariables false

theorem wide_Cmp_ev {h l h' l' : Int} (hh : U h) (hl : U l) (hh' : U h') (hl' : U l') : Ev (fun k => wide_Wide_Cmp.f k h l h' l') (sgn (wv h l - wv h' l')) := by
  obtain ⟨x0, x1⟩ := hh; obtain ⟨x2, x3⟩ := hl; obtain ⟨x4, x5⟩ := hh'; obtain ⟨x6, x7⟩ := hl'
  have j0 : ∀ lt : Bool, (lt = true ↔ wv h l < wv h' l') → Ev (fun k => wide_Wide_Cmp.j0 k lt h l h' l') (sgn (wv h l - wv h' l')) := by
    intro lt hlt
    refine Ev.succ ?_
    simp only [wide_Wide_Cmp.j0]
    cases lt
    · have n1 : ¬ wv h l < wv h' l' := fun hc => by have := hlt.mpr hc; cases this
      refine Ev.neg (by decide) ?_
      by_cases c : (h == h' && l == l') = true
      · have c' : h = h' ∧ l = l' := by simpa using c
        obtain ⟨rfl, rfl⟩ := c'
        refine Ev.pos c ?_
        unfold sgn; rw [if_neg (by omega), if_pos (by omega)]
        exact Ev.now _
      · refine Ev.neg c ?_
        have c' : ¬ (h = h' ∧ l = l') := by simpa using c
        unfold sgn wv at *
        rw [if_neg (by omega), if_neg (by omega)]
        exact Ev.now _
    · have n1 := hlt.mp rfl
      refine Ev.pos rfl ?_
      unfold sgn; rw [if_pos (by omega)]
      exact Ev.now _
  unfold wide_Wide_Cmp.f
  by_cases c : h < h'
  · exact Ev.pos c (j0 true (by simp; unfold wv; omega))
  · refine Ev.neg c ?_
    by_cases c2 : h = h'
    · exact Ev.pos c2 (j0 _ (by simp; unfold wv; omega))
    · exact Ev.neg c2 (j0 false (by simp; unfold wv; omega))
theorem sgn_le {x : Int} : sgn x ≤ 0 ↔ x ≤ 0 := by unfold sgn; constructor <;> intro h <;> revert h <;> split <;> (try split) <;> omega

end Gim
