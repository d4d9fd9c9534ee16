/- SoftSubs: the difference of any two patterns is the reference's sum with the second turned round. -/
import Derived.Test.YtfbnojelmdcnoaaTRef4
import Derived.Test.YtfbnojelmdcnoaaTRep
import Derived.Test.YtfbnojelmdcnoaaFx6
import Derived.Test.YtfbnojelmdcnoaaFx14
namespace Go.Proofs.Ytfbnojelmdcnoaa.Pure
open Gim Go.RowKit Go.Proofs.Ytfbnojelmdcnoaa.F Go.Proofs.YtfbnojelmdcnoaaW.PrintWords Go.Proofs.YtfbnojelmdcnoaaW.PrintLast
set_option linter.unusedVariables false

theorem head_ok : gimballaw04_head.f 60 = some true := by decide +kernel
theorem head_ev : Ev (fun k => gimballaw04_head.f k) true := Ev.of (fun k => gimballaw04_head.mono k) head_ok

theorem SoftSubs : gimballaw04_SoftSubs.Pure := by
  intro a b wa wb
  have ha := U_of_wf wa
  have hb := U_of_wf wb
  apply Ev.rounds
  unfold gimballaw04_SoftSubs.f
  obtain ⟨r1, f1, e1, R1⟩ := add_ev ha (U_flip hb)
  obtain ⟨r2, f2, e2, R2⟩ := ref_add_ev ha (U_flip hb)
  obtain ⟨rfl, rfl⟩ := R1.unique R2
  have hf := R1.flags
  refine Ev.bind head_ev (Ev.pos rfl (Ev.bind (sub_of_add hb e1) (Ev.call (word_Flip_eq hb) (Ev.bind e2 (Ev.pos rfl ?_)))))
  dsimp only
  rw [w64 (by omega) (by omega)]
  exact Ev.ofEq (by simp)
end Go.Proofs.Ytfbnojelmdcnoaa.Pure
