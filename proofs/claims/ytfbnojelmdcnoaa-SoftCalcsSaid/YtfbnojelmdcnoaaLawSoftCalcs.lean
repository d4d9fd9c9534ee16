/- SoftCalcs: whatever is reckoned one behind the other; for every input. -/
import Derived.Test.YtfbnojelmdcnoaaRows
import Derived.Test.YtfbnojelmdcnoaaFx7
import Derived.Test.YtfbnojelmdcnoaaPureSoftCalcs
import Derived.Test.YtfbnojelmdcnoaaTOpsRow
import Derived.WalkKit
import Derived.ProofKit
import Derived.OpenShut
import Derived.ShutString
import Derived.ChangeOld
import Derived.Below
import Derived.SizedLaws
namespace Go.Proofs.Ytfbnojelmdcnoaa.softCalcs
open Go.ChangeShapes Go.WideShapes Go.ChangeAt Go.RowKit
open Go.ChangeMaps (open_string shut_string)
set_option linter.unusedVariables false
theorem own : ownKnob Try.prog.godebug = none := by kernel_rfl
theorem laidOut : laidOutB Try.prog = true := by kernel_rfl
set_option maxRecDepth 100000 in
theorem lifted (os : Os) (started : os.Started) (H : Type) (enc : TypeId × Value → H) :
    ReturnsInHanded {} Try.checked os 10 .any (Rows.softCalcsSpec.pre6 enc Try.prog Try.f10 Rows.softCalcsRow.domain false) (Rows.softCalcsSpec.post enc Try.prog Try.f10 false true false false) := by
  refine returnsInHanded_of_change_sized (C := Try.checked) own started (by kernel_rfl) Try.func10
    (ChangeSpec.witness6 (enc := enc) (C := Try.checked) false ⟨#[], #[.int .u64 0, .slice none 0 0], []⟩ 8 (by kernel_rfl) (by kernel_rfl) (by kernel_rfl) (by kernel_rfl)) ?_
  intro W base args ds gs before hval0 hW hcnd hsz0 _
  have hsz : (DataW.weightsEach Try.prog (Try.f10.params.toList ++ Rows.softCalcsSpec.plain.varTypes Try.prog) (ds ++ gs)).all (· ≤ reachBytes) = true := hsz0
  have hval : ∀ (j : Nat) t v, Try.f10.params[j]? = some t → args[j]? = some v → Value.okWide Try.prog W .any base t v := hval0
  have hW' := hW
  obtain ⟨p, q, hA0, hV, rfl, hfz, hnd⟩ := hW
  have hA : DataW.TrodAll enc Try.prog W 0 (fun _ => true) true Try.f10.params.toList args.toList ds p := hA0
  rw [Try.params10] at hA hval hsz
  obtain ⟨v0, vs0, d0, ds0, p0, q0, hargs, rfl, rfl, h0, r0⟩ := trodAll_cons hA
  obtain ⟨v1, vs1, d1, ds1, p1, q1, rfl, rfl, rfl, h1, r1⟩ := trodAll_cons r0
  obtain ⟨rfl, rfl, rfl⟩ := trodAll_nil r1
  obtain rfl : args = #[v0, v1] := by cases args; simp_all
  obtain ⟨rfl, rfl⟩ := trodVars_none hV
  obtain ⟨a0, rfl, rfl, rfl, w0⟩ := open_int Try.underlying22 (hval 0 22 v0 rfl rfl) h0
  obtain ⟨a1, len1, cap1, rfl⟩ := okWide_slice Try.underlying35 (hval 1 35 v1 rfl rfl)
  have k1 := h1
  have lt1 : ∀ x ∈ p1, x.block < W.heap.size := by obtain ⟨m, hm⟩ := k1; exact DataW.trod_lt m _ _ _ hm
  obtain ⟨l1, hl1, hr1, hc1, hn1, hw1⟩ : ∃ l : List F.S40, len1 = l.length ∧ Go.Proofs.YtfbnojelmdcnoaaW.PrintWords.Kd.C F.k40 W a1 l.length l ∧ l.length ≤ cap1 ∧ l.length ≤ 9223372036854775807 ∧ ∀ y ∈ l, (Lit.int .u64 y.f1).wf = true := by
    obtain ⟨fuel, hf⟩ := h1
    exact F.open_ops Try.underlying35 Try.underlying40 Try.underlying3 Try.underlying22 (by kernel_rfl) (by kernel_rfl) (by kernel_rfl) rfl rfl (by simpa [Value.cells] using hf)
  subst hl1
  clear hA0 hval0 hsz0 hsz
  obtain ⟨k, hk⟩ := Pure.SoftCalcs a0 l1 w0 hw1 hn1
  refine (F.gimballaw04_SoftCalcs.calls k a0 a1 cap1 l1 true W hr1 hc1 rfl hk).mono fun e W' ⟨he, bel⟩ => ?_
  subst he
  exact ⟨_, rfl, _, _, _, [], _, [], hW', trodAll_mk1 (shut_bool Try.underlying4 _), (trodAll_cons_mk (shut_int Try.underlying22 w0) (trodAll_cons_mk (Below.trod laidOut (by kernel_rfl) (of_decide_eq_true (by kernel_rfl)) k1 bel lt1) trodAll_mk0)), rfl, bel.frame _, fun h => by cases h⟩
theorem over : Rows.softCalcsRow.holds Try.pinned (OpenSpec.ofChange Rows.softCalcsSpec) :=
  OpenClaim.holds_of_wide 10 Try.f10 rfl rfl rfl rfl rfl rfl rfl ⟨rfl, rfl, rfl, rfl, rfl⟩ rfl rfl rfl rfl rfl (by kernel_rfl) Try.func10 (by kernel_rfl)
    (of_decide_eq_true (by kernel_rfl)) (by unfold Func.isWrapper; first | (rw [if_pos (by decide +kernel)]; kernel_rfl) | (rw [if_neg (by decide +kernel)]; exact ⟨rfl, rfl⟩))
    (fun os started H enc _ => lifted os started H enc)
theorem proved : Rows.SoftCalcsSaid := over
#print axioms proved
end Go.Proofs.Ytfbnojelmdcnoaa.softCalcs
namespace Go.Proofs.Ytfbnojelmdcnoaa
/-- The row, under a short name, for the claim. -/
theorem softCalcs_holds : Rows.SoftCalcsSaid := softCalcs.proved
end Go.Proofs.Ytfbnojelmdcnoaa
