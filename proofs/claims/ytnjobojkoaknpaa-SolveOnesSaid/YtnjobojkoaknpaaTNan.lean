/- What comes of something that is no number. -/
import Derived.Test.YtnjobojkoaknpaaTNanB
import Derived.Test.YtnjobojkoaknpaaFx5
namespace Gim
open Go Go.RowKit Go.Proofs.YtnjobojkoaknpaaW.PrintWords Go.Proofs.YtnjobojkoaknpaaW.PrintLast Go.Proofs.YtnjobojkoaknpaaW.PrintMore Go.Proofs.Ytnjobojkoaknpaa.F
set_option linter.unusedVariables false

theorem soft_nan_step {l : List Int} {i n f : Int} {s : Bool} {r : Int × Int × Bool} (h0 : 0 ≤ i) (h1 : i < n) (h2 : i < (l.length : Int)) (hn : n ≤ 1000) (hU : U (rd l i))
    (h : Ev (fun k => soft_nan.l0 k (if signals (rd l i) then 16 else f) (s || isNan (rd l i)) l n (i + 1)) r) : Ev (fun k => soft_nan.l0 k f s l n i) r := by
  refine Ev.succ ?_
  simp only [soft_nan.l0]
  rw [w64 (x := i + 1) (by omega) (by omega)]
  refine Ev.pos h1 (Ev.pos h0 (Ev.pos h2 (Ev.bind (word_Kind_ev hU) ?_)))
  rw [kind_mag]
  by_cases hk : kindOf (mag (rd l i)) = 5
  · refine Ev.pos hk (Ev.bind (word_Signals_ev hU) ?_)
    rw [kind_nan.mp hk] at h
    by_cases hs : signals (rd l i) = true
    · rw [if_pos hs] at h
      refine Ev.pos hs ?_
      rw [Bool.or_true] at h; exact h
    · rw [if_neg hs] at h
      refine Ev.neg hs ?_
      rw [Bool.or_true] at h; exact h
  · refine Ev.neg hk ?_
    have hn : isNan (rd l i) = false := by
      cases hc : isNan (rd l i)
      · rfl
      · exact absurd (kind_nan.mpr hc) hk
    have hs : signals (rd l i) = false := by
      cases hc : signals (rd l i)
      · rfl
      · have := signals_nan hc; rw [hn] at this; cases this
    rw [hn, hs] at h
    simpa using h
theorem soft_nan_end {l : List Int} {i n f : Int} {s : Bool} (h1 : ¬ i < n) : Ev (fun k => soft_nan.l0 k f s l n i) (QNAN, f, s) := by
  refine Ev.succ ?_
  simp only [soft_nan.l0]
  exact Ev.neg h1 (Ev.now _)
theorem soft_nan2 {a b : Int} (ha : U a) (hb : U b) : Ev (fun k => soft_nan.f k [a, b]) (QNAN, nanF a b, isNan a || isNan b) := by
  unfold soft_nan.f
  refine soft_nan_step (by decide) (by simp) (by simp) (by simp) ha ?_
  refine soft_nan_step (by decide) (by simp) (by simp) (by simp) hb ?_
  have e : (if signals (rd [a, b] (0 + 1)) then (16 : Int) else if signals (rd [a, b] 0) then 16 else 0) = nanF a b := by
    show (if signals b then (16 : Int) else if signals a then 16 else 0) = nanF a b
    unfold nanF
    cases signals a <;> cases signals b <;> rfl
  have e2 : (false || isNan (rd [a, b] 0) || isNan (rd [a, b] (0 + 1))) = (isNan a || isNan b) := by
    show (false || isNan a || isNan b) = _
    rw [Bool.false_or]
  rw [e, e2]
  exact soft_nan_end (by simp)

end Gim
