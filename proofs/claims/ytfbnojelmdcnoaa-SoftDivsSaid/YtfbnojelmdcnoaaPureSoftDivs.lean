/- SoftDivs: the quotient of any two patterns, and the flags, are the reference's: both are the same, only answer. -/
import Derived.Test.YtfbnojelmdcnoaaTRefD
import Derived.Test.YtfbnojelmdcnoaaTRep
import Derived.Test.YtfbnojelmdcnoaaFx6
import Derived.Test.YtfbnojelmdcnoaaFx15
namespace Go.Proofs.Ytfbnojelmdcnoaa.Pure
open Gim Go.RowKit Go.Proofs.Ytfbnojelmdcnoaa.F Go.Proofs.YtfbnojelmdcnoaaW.PrintWords Go.Proofs.YtfbnojelmdcnoaaW.PrintLast
set_option linter.unusedVariables false

theorem head_ok : gimballaw04_head.f 60 = some true := by decide +kernel
theorem head_ev : Ev (fun k => gimballaw04_head.f k) true := Ev.of (fun k => gimballaw04_head.mono k) head_ok

theorem SoftDivs : gimballaw04_SoftDivs.Pure := by
  intro a b wa wb
  have ha := U_of_wf wa
  have hb := U_of_wf wb
  apply Ev.rounds
  unfold gimballaw04_SoftDivs.f
  obtain ⟨r1, f1, e1, R1⟩ := div_ev ha hb
  obtain ⟨r2, f2, e2, R2⟩ := ref_div_ev ha hb
  obtain ⟨rfl, rfl⟩ := R1.unique R2
  have hf := R1.flags
  refine Ev.bind head_ev (Ev.pos rfl (Ev.bind e1 (Ev.bind e2 (Ev.pos rfl ?_))))
  dsimp only
  rw [w64 (by omega) (by omega)]
  exact Ev.ofEq (by simp)
end Go.Proofs.Ytfbnojelmdcnoaa.Pure
