/- Layer 5's reference: what a product with a power of two is. -/
import Derived.Test.YtcappkphcjgeoaaTRef4
import Derived.Test.YtcappkphcjgeoaaTScale
import Derived.Test.YtcappkphcjgeoaaFx18
namespace Gim
open Go Go.RowKit Go.Proofs.YtcappkphcjgeoaaW.PrintWords Go.Proofs.YtcappkphcjgeoaaW.PrintLast Go.Proofs.YtcappkphcjgeoaaW.PrintMore Go.Proofs.Ytcappkphcjgeoaa.F
set_option linter.unusedVariables false

def clampR (n : Int) : Int := if n > 5000 then 5000 else if n < -5000 then -5000 else n
theorem ref_scale_ev {a : Int} (ha : U a) (n : Int) : ∃ r f, Ev (fun k => gimbalref05_Scale.f k a n) (r, f) ∧ ScaleR a (clampR n) r f := by
  unfold ScaleR
  by_cases h : isNan a = true
  · refine ⟨QNAN, _, ?_, by rw [if_pos h]; exact ⟨rfl, rfl⟩⟩
    unfold gimbalref05_Scale.f
    exact Ev.bind (ref_Nans1 ha) (Ev.pos h (Ev.now _))
  · have start : ∀ r : Int × Int, Ev (fun k => gimbalref05_Scale.j0 k a n (decide (mag a = INF ∨ mag a = 0))) r → Ev (fun k => gimbalref05_Scale.f k a n) r := by
      intro r hr
      unfold gimbalref05_Scale.f
      refine Ev.bind (ref_Nans1 ha) (Ev.neg h (Ev.call (ref_IsInf ha) ?_))
      by_cases i : mag a = INF
      · rw [decide_eq_true (.inl i)] at hr
        exact Ev.pos (decide_eq_true i) hr
      · have e : decide (mag a = INF ∨ mag a = 0) = decide (mag a = 0) := by simp [i]
        rw [e] at hr
        exact Ev.neg (by simpa using i) (Ev.call (ref_IsZero ha) hr)
    by_cases c : mag a = INF ∨ mag a = 0
    · refine ⟨a, 0, start _ (Ev.succ ?_), by rw [if_neg h, if_pos c]; exact ⟨rfl, rfl⟩⟩
      simp only [gimbalref05_Scale.j0]
      exact Ev.pos (decide_eq_true c) (Ev.now _)
    · rw [decide_eq_false c] at start
      have fa : fin a := fin_of (by simpa using h) (fun hh => c (.inl hh))
      have m0' : 0 < mag a := by have := (mag_lt (a := a)).1; omega
      obtain ⟨e1, e2⟩ := fin_expo fa
      have m0 := mant_pos m0'
      have uM := mant_U a
      have bM := mant_blen a
      have hc : -5000 ≤ clampR n ∧ clampR n ≤ 5000 := by unfold clampR; split <;> (try split) <;> omega
      obtain ⟨r, f, ev, rd⟩ := ref_roundS (neg a) (X := mant (mag a)) (E := expo (mag a) + clampR n) uM.1 (by omega) (by omega) (by omega)
      refine ⟨r, f, start _ (Ev.succ ?_), by rw [if_neg h, if_neg c, val_scale]; exact rd⟩
      simp only [gimbalref05_Scale.j0]
      refine Ev.neg (by decide) (Ev.call (ref_Parts ha) ?_)
      dsimp only
      refine ref_parts_step ha fa (g := fun k x y => gimbalref05_Scale.j1 k a n x y) (Ev.succ ?_)
      simp only [gimbalref05_Scale.j1]
      have j2 : ∀ d, d ≤ 5000 → clampR n = (if d < -5000 then -5000 else d) → Ev (fun k => gimbalref05_Scale.j2 k a d (expo (mag a) + 1074) (mant (mag a))) (r, f) := by
        intro d hd he
        refine Ev.succ ?_
        simp only [gimbalref05_Scale.j2]
        rw [w64 (x := expo (mag a) + 1074 - 1074) (by omega) (by omega), show expo (mag a) + 1074 - 1074 = expo (mag a) from by omega]
        by_cases c2 : d < -5000
        · rw [if_pos c2] at he
          rw [he] at ev
          rw [w64 (x := expo (mag a) + -5000) (by omega) (by omega)]
          exact Ev.pos c2 (Ev.call (ref_Neg ha) (Ev.bind (ref_of uM) (Ev.bind ev (Ev.now _))))
        · rw [if_neg c2] at he
          rw [he] at ev
          rw [w64 (x := expo (mag a) + d) (by omega) (by omega)]
          exact Ev.neg c2 (Ev.call (ref_Neg ha) (Ev.bind (ref_of uM) (Ev.bind ev (Ev.now _))))
      by_cases c3 : n > 5000
      · exact Ev.pos c3 (j2 5000 (by decide) (by unfold clampR; rw [if_pos c3]; rfl))
      · exact Ev.neg c3 (j2 n (by omega) (by unfold clampR; rw [if_neg c3]))
end Gim
