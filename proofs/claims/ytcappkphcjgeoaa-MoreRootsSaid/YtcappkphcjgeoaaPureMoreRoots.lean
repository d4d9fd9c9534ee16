/- MoreRoots: the root of any pattern, and the flags, are the reference's. -/
import Derived.Test.YtcappkphcjgeoaaTRefS
import Derived.Test.YtcappkphcjgeoaaTRep
import Derived.Test.YtcappkphcjgeoaaFx5
import Derived.Test.YtcappkphcjgeoaaFx17
namespace Go.Proofs.Ytcappkphcjgeoaa.Pure
open Gim Go.RowKit Go.Proofs.Ytcappkphcjgeoaa.F Go.Proofs.YtcappkphcjgeoaaW.PrintWords Go.Proofs.YtcappkphcjgeoaaW.PrintLast
set_option linter.unusedVariables false

theorem head_ok : gimballaw05_head.f 100 = some true := by decide +kernel
theorem head_ev : Ev (fun k => gimballaw05_head.f k) true := Ev.of (fun k => gimballaw05_head.mono k) head_ok

theorem MoreRoots : gimballaw05_MoreRoots.Pure := by
  intro a wa
  have ha := U_of_wf wa
  apply Ev.rounds
  unfold gimballaw05_MoreRoots.f
  obtain ⟨r1, f1, e1, R1⟩ := more_Sqrt_ev ha
  obtain ⟨r2, f2, e2, R2⟩ := ref_sqrt_ev ha
  obtain ⟨rfl, rfl⟩ := R1.unique R2
  have hf := R1.flags
  refine Ev.bind head_ev (Ev.pos rfl (Ev.bind e1 (Ev.bind e2 (Ev.pos rfl ?_))))
  dsimp only
  rw [w64 (by omega) (by omega)]
  exact Ev.ofEq (by simp)
end Go.Proofs.Ytcappkphcjgeoaa.Pure
