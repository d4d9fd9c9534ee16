/- Exact numbers: whole numbers. -/
import Derived.Test.YtenegelkbfmjkaaDoorTDyD
import Derived.Test.YtenegelkbfmjkaaDoorFx10
namespace Gim
open Go Go.RowKit Go.Proofs.YtenegelkbfmjkaaDoorW.PrintWords Go.Proofs.YtenegelkbfmjkaaDoorW.PrintLast Go.Proofs.YtenegelkbfmjkaaDoorW.PrintMore Go.Proofs.YtenegelkbfmjkaaDoor.F
set_option linter.unusedVariables false

theorem int_ev {z : Int} (h0 : -9223372036854775808 ≤ z) (h1 : z ≤ 9223372036854775807) : ∃ r l f, Ev (fun K => dyad_Int.f K z) (r, l, f) ∧ Nm 64 (z : Rat) r l f := by
  have hb := int_bounds (z := z) (E := 64) (by decide) (by rw [p2_64]; omega) (by rw [p2_64]; omega)
  have wrap : ∀ {r : Bool} {l : List Int} {f : Int}, Gim.Can r l f → nval r l f = (z : Rat) → Nm 64 (z : Rat) r l f :=
    fun c h => Nm.of (by decide) c h hb.1 hb.2.1 hb.2.2
  by_cases c : z < 0
  · have w : IntKind.u64.wrap (-(IntKind.u64.wrap z)) = -z := by rw [wu64_mod, wu64_mod]; omega
    obtain ⟨dg, vl⟩ := nv_two (u := -z) (by omega) (by omega)
    obtain ⟨r, l, f, ev, cn, v⟩ := trim_ev (neg := true) (e := 0) dg (by simp) (by decide) (by decide)
    refine ⟨r, l, f, ?_, wrap cn ?_⟩
    · unfold dyad_Int.f
      rw [w, decide_eq_true c]
      exact Ev.pos c (Ev.bind ev (Ev.now _))
    · rw [v]; unfold nval; rw [vl, pw_zero]; push_cast; simp
  · have w : IntKind.u64.wrap z = z := wu64 (by omega) (by omega)
    obtain ⟨dg, vl⟩ := nv_two (u := z) (by omega) (by omega)
    obtain ⟨r, l, f, ev, cn, v⟩ := trim_ev (neg := false) (e := 0) dg (by simp) (by decide) (by decide)
    refine ⟨r, l, f, ?_, wrap cn ?_⟩
    · unfold dyad_Int.f
      rw [w, decide_eq_false c]
      exact Ev.neg c (Ev.bind ev (Ev.now _))
    · rw [v]; unfold nval; rw [vl, pw_zero]; simp
end Gim
