/- Numbers between the same neighbours are rounded alike. -/
import Derived.Test.YtkkfghecmhmdpaaTRound
namespace Gim
open Go Go.RowKit Go.Proofs.YtkkfghecmhmdpaaW.PrintWords Go.Proofs.YtkkfghecmhmdpaaW.PrintLast Go.Proofs.YtkkfghecmhmdpaaW.PrintMore Go.Proofs.Ytkkfghecmhmdpaa.F
set_option linter.unusedVariables false



theorem tiny_iff {W E : Int} {x : Rat} (hW : 0 < W) (lo : (W : Rat) * pw E ≤ x) (hi : x < (W + 1 : Int) * pw E) : x < pw (-1022) ↔ E + blen W ≤ -1022 := by
  obtain ⟨bl1, bl2, bl3⟩ := blen_pos hW
  have hxl : pw (blen W - 1 + E) ≤ x := by
    refine Rat.le_trans ?_ lo
    rw [pw_add, pw_p2 (a := blen W - 1) (by omega)]
    exact mul_pw_le.mpr bl2
  have hxr : x < pw (blen W + E) := by
    refine Std.lt_of_lt_of_le hi ?_
    rw [pw_add, pw_p2 (a := blen W) (by omega)]
    exact mul_pw_le.mpr (by omega)
  constructor
  · intro h
    exact Decidable.byContradiction fun hc => by
      have := pw_mono (show -1022 ≤ blen W - 1 + E from by omega)
      grind
  · intro h
    exact Std.lt_of_lt_of_le hxr (pw_mono (by omega))
/-- Two numbers between the same neighbours, far apart, are rounded alike. -/
theorem RB.near {W E : Int} {x y : Rat} {b f : Int} (hW : 0 < W) (h54 : 54 ≤ blen W) (hx : (W : Rat) * pw E < x ∧ x < (W + 1 : Int) * pw E) (hy : (W : Rat) * pw E < y ∧ y < (W + 1 : Int) * pw E) (h : RB x b f) : RB y b f := by
  have key : ∀ d, 0 < d → -1074 ≤ E + d → blen W - 53 ≤ d → (E + d = -1074 ∨ d = blen W - 53) → RB y b f := by
    intro d h1 h2 h3 h4
    obtain ⟨rx, ex⟩ := rup_rnd (more := true) hW h1 h2 h3 h4 (fun h => by cases h) (fun _ => hx)
    obtain ⟨ry, ey⟩ := rup_rnd (more := true) hW h1 h2 h3 h4 (fun h => by cases h) (fun _ => hy)
    obtain ⟨q, n, hr, rfl, rfl⟩ := h.ex
    obtain ⟨rfl, rfl⟩ := hr.unique rx
    refine ⟨_, _, ry, rfl, ?_⟩
    have nx : ¬ x = (rup W d true : Rat) * pw (E + d) := fun h => by have := (ex.mp h).2; cases this
    have ny : ¬ y = (rup W d true : Rat) * pw (E + d) := fun h => by have := (ey.mp h).2; cases this
    have t : x < pw (-1022) ↔ y < pw (-1022) := by rw [tiny_iff hW (Rat.le_of_lt hx.1) hx.2, tiny_iff hW (Rat.le_of_lt hy.1) hy.2]
    rw [if_neg nx, if_neg ny]
    simp only [t]
  by_cases c : E + blen W - 53 < -1074
  · exact key (-1074 - E) (by omega) (by omega) (by omega) (.inl (by omega))
  · exact key (blen W - 53) (by omega) (by omega) (by omega) (.inr rfl)
end Gim
