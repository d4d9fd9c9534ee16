/- Exact numbers: the nearest pattern; what a pattern is. -/
import Derived.Test.YtenegelkbfmjkaaDoorTDyD
import Derived.Test.YtenegelkbfmjkaaDoorTNanB
import Derived.Test.YtenegelkbfmjkaaDoorTRep
import Derived.Test.YtenegelkbfmjkaaDoorFx6
import Derived.Test.YtenegelkbfmjkaaDoorFx5
namespace Gim
open Go Go.RowKit Go.Proofs.YtenegelkbfmjkaaDoorW.PrintWords Go.Proofs.YtenegelkbfmjkaaDoorW.PrintLast Go.Proofs.YtenegelkbfmjkaaDoorW.PrintMore Go.Proofs.YtenegelkbfmjkaaDoor.F
set_option linter.unusedVariables false
set_option linter.unusedSectionVars false

theorem nval_sgd (n : Bool) (m : List Int) (e : Int) : nval n m e = (sgd n (nv m) : Rat) * pw e := by
  unfold nval sgd
  cases n
  · simp
  · simp; grind
/-- WHAT A PATTERN IS. -/
theorem of_ev {a E : Int} (hE : E = 1074) (ha : U a) (fa : fin a) : ∃ r l f, Ev (fun K => dyad_Of.f K a) (r, l, f, true) ∧ Nm E (val a) r l f := by
  obtain ⟨e1, e2⟩ := fin_expo fa
  have uM := mant_U a
  have lM := mant_lt (m := mag a)
  have parts : ∃ p q, Ev (fun k => word_Parts.f k a) (p, q) ∧ 0 ≤ p ∧ p < 9007199254740992 ∧ -1074 ≤ q ∧ q ≤ 971 ∧ val a = (sgd (neg a) p : Rat) * pw q := by
    by_cases h : 0 < mag a
    · exact ⟨_, _, word_Parts_ev ha h fa, uM.1, lM, e1, e2, val_mant a⟩
    · have h0 : mag a = 0 := by have := (mag_lt (a := a)).1; omega
      refine ⟨0, 0, word_Parts_none ha (.inl h0), by decide, by decide, by decide, by decide, ?_⟩
      rw [val_zero_iff.mpr h0]; unfold sgd; cases neg a <;> simp
  obtain ⟨p, q, ev, p0, p1, q0, q1, hv⟩ := parts
  obtain ⟨dg, vl⟩ := nv_two (u := p) (by omega) (by omega)
  obtain ⟨r, l, f, evt, cn, v⟩ := trim_ev (neg := neg a) (e := q) dg (by simp) (by omega) (by omega)
  rw [nval_sgd (neg a), vl] at v
  refine ⟨r, l, f, ?_, ?_⟩
  · unfold dyad_Of.f
    refine Ev.call (word_Finite_eq ha) (Ev.pos (decide_eq_true fa) (Ev.bind ev (Ev.call (word_Neg_eq ha) (Ev.bind evt (Ev.now _)))))
  · have hb : rabs (val a) ≤ pw E := by
      rw [hv, rabs_sgd _ p0]
      have h1 : (p : Rat) * pw q ≤ pw 53 * pw 971 := by
        refine (prod_le ?_ ?_ (Rat.le_of_lt (pw_pos q)) (pw_mono q1)).2
        · exact_mod_cast p0
        · rw [pw_p2 (a := 53) (by decide), show p2 53 = 9007199254740992 from by decide]; exact Rat.intCast_le_intCast.mpr (Int.le_of_lt p1)
      rw [← pw_add] at h1
      exact Rat.le_trans h1 (pw_mono (by omega))
    refine Nm.of (k := sgd (neg a) p * p2 (q + E)) (by omega) cn (v.trans hv.symm) ?_ ?_ ?_
    · rw [hv]
      have : pw q = ((p2 (q + E) : Int) : Rat) * pw (-E) := by rw [← pw_p2 (by omega), ← pw_add]; congr 1; omega
      rw [this]; push_cast; grind
    · unfold rabs at hb; split at hb <;> grind
    · unfold rabs at hb; split at hb <;> grind
theorem of_none {a : Int} (ha : U a) (fa : ¬ fin a) (K : Nat) : dyad_Of.f K a = some (false, [], 0, false) := by
  unfold dyad_Of.f
  rw [word_Finite_eq ha, decide_eq_false fa]
  rfl
end Gim
