/- MoreFmas: the product and sum of any three patterns, and the flags, are the reference's. -/
import Derived.Test.YtcappkphcjgeoaaTRefF
import Derived.Test.YtcappkphcjgeoaaTRep
import Derived.Test.YtcappkphcjgeoaaFx5
import Derived.Test.YtcappkphcjgeoaaFx23
namespace Go.Proofs.Ytcappkphcjgeoaa.Pure
open Gim Go.RowKit Go.Proofs.Ytcappkphcjgeoaa.F Go.Proofs.YtcappkphcjgeoaaW.PrintWords Go.Proofs.YtcappkphcjgeoaaW.PrintLast
set_option linter.unusedVariables false

theorem head_ok : gimballaw05_head.f 100 = some true := by decide +kernel
theorem head_ev : Ev (fun k => gimballaw05_head.f k) true := Ev.of (fun k => gimballaw05_head.mono k) head_ok

theorem MoreFmas : gimballaw05_MoreFmas.Pure := by
  intro a b c wa wb wc
  have ha := U_of_wf wa
  have hb := U_of_wf wb
  have hc := U_of_wf wc
  apply Ev.rounds
  unfold gimballaw05_MoreFmas.f
  obtain ⟨r1, f1, e1, R1⟩ := more_Fma_ev ha hb hc
  obtain ⟨r2, f2, e2, R2⟩ := ref_fma_ev ha hb hc
  obtain ⟨rfl, rfl⟩ := R1.unique R2
  have hf := R1.flags
  refine Ev.bind head_ev (Ev.pos rfl (Ev.bind e1 (Ev.bind e2 (Ev.pos rfl ?_))))
  dsimp only
  rw [w64 (by omega) (by omega)]
  exact Ev.ofEq (by simp)
end Go.Proofs.Ytcappkphcjgeoaa.Pure
