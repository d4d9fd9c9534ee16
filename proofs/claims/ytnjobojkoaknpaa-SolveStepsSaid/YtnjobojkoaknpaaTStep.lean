/- Steps of layer 4 with exactly what they have met: for chains that are compared step by step. -/
import Derived.Test.YtnjobojkoaknpaaTAv
import Derived.Test.YtnjobojkoaknpaaTSub
import Derived.Test.YtnjobojkoaknpaaTDiv
import Derived.Test.YtnjobojkoaknpaaFx18
import Derived.Test.YtnjobojkoaknpaaFx11
namespace Gim
open Go Go.RowKit Go.Proofs.YtnjobojkoaknpaaW.PrintWords Go.Proofs.YtnjobojkoaknpaaW.PrintLast Go.Proofs.YtnjobojkoaknpaaW.PrintMore Go.Proofs.Ytnjobojkoaknpaa.F
set_option linter.unusedVariables false

theorem DivR.rangeU {a b r f : Int} (h : DivR a b r f) : U r := by
  unfold DivR at h
  have q : U QNAN := by unfold QNAN U; decide
  split at h
  · rw [h.1]; exact q
  · split at h
    · rw [h.1]; exact q
    · split at h
      · rw [h.1]; exact U_signed INF_lt.1 INF_lt.2
      · split at h
        · rw [h.1]; exact U_signed (by decide) (by decide)
        · split at h
          · rw [h.1]; exact U_signed INF_lt.1 INF_lt.2
          · exact h.range.1
noncomputable def dP (a b : Int) : Int × Int := resOf (fun k => soft_Div.f k a b)
theorem dP_ev {a b : Int} (ha : U a) (hb : U b) : Ev (fun k => soft_Div.f k a b) (dP a b) := by
  obtain ⟨r, f, ev, R⟩ := div_ev ha hb
  exact Ev.resE ev
theorem dP_R {a b : Int} (ha : U a) (hb : U b) : DivR a b (dP a b).1 (dP a b).2 := by
  obtain ⟨r, f, ev, R⟩ := div_ev ha hb
  rw [Ev.det (dP_ev ha hb) ev]
  exact R
noncomputable def cA (F a b : Int) : Int × Int := (av a b, Go.bits .or .u8 F (aP a b).2)
noncomputable def cS (F a b : Int) : Int × Int := (av a (flip b), Go.bits .or .u8 F (aP a (flip b)).2)
noncomputable def cM (F a b : Int) : Int × Int := (mv a b, Go.bits .or .u8 F (mP a b).2)
noncomputable def cD (F a b : Int) : Int × Int := ((dP a b).1, Go.bits .or .u8 F (dP a b).2)
theorem cA_ev {F a b : Int} (ha : U a) (hb : U b) : Ev (fun k => soft_Calc_Add.f k F a b) (cA F a b) := by
  unfold soft_Calc_Add.f
  exact Ev.bind (aP_ev ha hb) (Ev.call rfl (Ev.now _))
theorem cM_ev {F a b : Int} (ha : U a) (hb : U b) : Ev (fun k => soft_Calc_Mul.f k F a b) (cM F a b) := by
  unfold soft_Calc_Mul.f
  exact Ev.bind (mP_ev ha hb) (Ev.call rfl (Ev.now _))
theorem cS_ev {F a b : Int} (ha : U a) (hb : U b) : Ev (fun k => soft_Calc_Sub.f k F a b) (cS F a b) := by
  unfold soft_Calc_Sub.f
  exact Ev.bind (sub_of_add hb (aP_ev ha (U_flip hb))) (Ev.call rfl (Ev.now _))
theorem cD_ev {F a b : Int} (ha : U a) (hb : U b) : Ev (fun k => soft_Calc_Div.f k F a b) (cD F a b) := by
  unfold soft_Calc_Div.f
  exact Ev.bind (dP_ev ha hb) (Ev.call rfl (Ev.now _))
theorem cA_U {F a b : Int} (ha : U a) (hb : U b) : U (cA F a b).1 := av_U ha hb
theorem cS_U {F a b : Int} (ha : U a) (hb : U b) : U (cS F a b).1 := av_U ha (U_flip hb)
theorem cM_U {F a b : Int} (ha : U a) (hb : U b) : U (cM F a b).1 := mv_U ha hb
theorem cD_U {F a b : Int} (ha : U a) (hb : U b) : U (cD F a b).1 := (dP_R ha hb).rangeU
end Gim
