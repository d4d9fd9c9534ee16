/- BlockSums: the sum of a block's diagonal is kept, near; so is its determinant -/
import Derived.Test.YtdmhepgfmickdaaDoorRows
import Derived.Test.YtdmhepgfmickdaaDoorRx2
import Derived.Test.YtdmhepgfmickdaaDoorPureBlockSums
import Derived.Test.YtdmhepgfmickdaaDoorCards
import Derived.Test.YtdmhepgfmickdaaDoorTie
import Derived.Test.YtdmhepgfmickdaaDoorTLaid
import Derived.SevenTiedAt
import Derived.LaidMore
import Derived.WalkKit
import Derived.ProofKit
import Derived.OpenShut
import Derived.ShutString
import Derived.ChangeOld
import Derived.Below
import Derived.SizedLaws
import Derived.Lib.SmallJoins
set_option linter.constructorNameAsVariable false
set_option linter.unusedSimpArgs false
set_option linter.unusedVariables false
set_option linter.unusedSectionVars false
namespace Go.Proofs.YtdmhepgfmickdaaDoor.blockSums
open Go.ChangeShapes Go.WideShapes Go.ChangeAt Go.RowKit
open Go.ChangeMaps (open_string shut_string)
set_option linter.unusedVariables false
theorem own : ownKnob Tryd.prog.godebug = none := by kernel_rfl
set_option maxRecDepth 100000 in
theorem lifted (os : Os) (started : os.Started) (H : Type) (enc : TypeId × Value → H) :
    ReturnsInHanded {} Tryd.checked os 5 .any (fun w args => (Rows.blockSumsSpec.pre enc Tryd.prog Tryd.f5 [] false w args ∧ laidMetH Tryd.prog Laid.laid w) ∧ sizedMet enc Tryd.prog Tryd.f5 (OpenSpec.ofChange Rows.blockSumsSpec) false w args) (Rows.blockSumsSpec.post enc Tryd.prog Tryd.f5 false true false false) := by
  refine returnsInHanded_of_change_and (C := Tryd.checked) (X := fun w _ => laidMetH Tryd.prog Laid.laid w) (fun _ _ _ hh h => h.of_heap hh) own started (by kernel_rfl) Tryd.func5
    (ChangeSpec.witness_shaped (enc := enc) (C := Tryd.checked) (os := os) (X := fun w _ => laidMetH Tryd.prog Laid.laid w) false (World.doorLaid Tryd.prog 400 os) #[.agg #[.int .u64 0, .int .u64 0, .int .u64 0, .int .u64 0]] 8 rfl (World.shaped_of_RefB (by kernel_rfl) (by kernel_rfl)) (by kernel_rfl) (by kernel_rfl) (by kernel_rfl) (Laid.door_met os _)) ?_
  intro W base args ds gs before hval0 hW hcnd hsz0 hL _
  have hval : ∀ (j : Nat) t v, Tryd.f5.params[j]? = some t → args[j]? = some v → Value.okWide Tryd.prog W .any base t v := hval0
  have hW' := hW
  obtain ⟨p, q, hA0, hV, rfl, hfz, hnd⟩ := hW
  have hA : DataW.TrodAll enc Tryd.prog W 0 (fun _ => true) true Tryd.f5.params.toList args.toList ds p := hA0
  rw [Tryd.params5] at hA hval
  obtain ⟨v0, vs0, d0, ds0, p0, q0, hargs, rfl, rfl, h0, r0⟩ := trodAll_cons hA
  obtain ⟨rfl, rfl, rfl⟩ := trodAll_nil r0
  obtain rfl : args = #[v0] := by cases args; simp_all
  obtain ⟨rfl, rfl⟩ := trodVars_none hV
  obtain ⟨c0_0, c0_1, c0_2, c0_3, y0_0, y0_1, y0_2, y0_3, n0, rfl, rfl, rfl, t0_0, t0_1, t0_2, t0_3⟩ := Go.Joins.open_agg4 Tryd.underlying35 (by kernel_rfl) (by kernel_rfl) (hval 0 35 v0 rfl rfl) h0
  obtain ⟨a0_0, g0_0, x0_0, w0_0⟩ := DataW.trod_int Tryd.underlying23 t0_0
  obtain rfl : c0_0 = .int .u64 a0_0 := by simpa using g0_0
  subst x0_0
  obtain ⟨a0_1, g0_1, x0_1, w0_1⟩ := DataW.trod_int Tryd.underlying23 t0_1
  obtain rfl : c0_1 = .int .u64 a0_1 := by simpa using g0_1
  subst x0_1
  obtain ⟨a0_2, g0_2, x0_2, w0_2⟩ := DataW.trod_int Tryd.underlying23 t0_2
  obtain rfl : c0_2 = .int .u64 a0_2 := by simpa using g0_2
  subst x0_2
  obtain ⟨a0_3, g0_3, x0_3, w0_3⟩ := DataW.trod_int Tryd.underlying23 t0_3
  obtain rfl : c0_3 = .int .u64 a0_3 := by simpa using g0_3
  subst x0_3
  clear hA0 hval0 hsz0
  obtain ⟨rk, hk⟩ := Pure.BlockSums a0_0 w0_0 a0_1 w0_1 a0_2 w0_2 a0_3 w0_3
  refine (Go.Rk.calls_true F.envOk (args' := #[.agg #[.int .u64 a0_0, .int .u64 a0_1, .int .u64 a0_2, .int .u64 a0_3]]) (F.gimballaw15_BlockSums.does hk) (Laid.tabV (Laid.tabW hL)) (.cons (.a (cs := [.int .u64 a0_0, .int .u64 a0_1, .int .u64 a0_2, .int .u64 a0_3]) rfl (fun q hq => by match q, hq with | 0, _ => exact .c .i | 1, _ => exact .c .i | 2, _ => exact .c .i | 3, _ => exact .c .i)) Go.Rk.Vs.nil)).mono fun e W' ⟨he, bel⟩ => ?_
  subst he
  exact ⟨_, rfl, _, _, _, [], _, [], hW', trodAll_mk1 (shut_bool Tryd.underlying4 _), (trodAll_cons_mk (Go.Joins.shut_agg4 Tryd.underlying35 (by kernel_rfl) (by kernel_rfl) (shut_int Tryd.underlying23 w0_0) (shut_int Tryd.underlying23 w0_1) (shut_int Tryd.underlying23 w0_2) (shut_int Tryd.underlying23 w0_3)) trodAll_mk0), rfl, bel.frame _, fun h => by cases h⟩
theorem over : Rows.blockSumsRow.holds Tryd.pinned (OpenSpec.ofChange Rows.blockSumsSpec) :=
  OpenClaim.holds_of_wide 5 Tryd.f5 rfl rfl rfl rfl rfl rfl rfl ⟨rfl, rfl, rfl, rfl, rfl⟩ rfl rfl rfl rfl rfl (by kernel_rfl) Tryd.func5 (by kernel_rfl)
    (of_decide_eq_true (by kernel_rfl)) (by unfold Func.isWrapper; first | (rw [if_pos (by decide +kernel)]; kernel_rfl) | (rw [if_neg (by decide +kernel)]; exact ⟨rfl, rfl⟩))
    (fun os started H enc _ => lifted os started H enc)
theorem proved : Rows.BlockSumsSaid := over
/-- The tied card. -/
theorem card : Rows.BlockSumsCardSaid :=
  Claim7.holds_tied_plain_at .later [] [.data] true (true, "9df85dac2e357c9e40476555e3cc5496a4f238fd5935ee12c956818283a7d50c") false
    proved (fun _ h => by cases h) (by kernel_rfl) (fun _ h => by cases h) blockSums_row_tie rfl ⟨rfl, rfl⟩ (by kernel_rfl) rfl
    (fun f fn hf hfn => by
      obtain rfl : f = 5 := Option.some.inj ((show Tryd.prog.funcNamed "gimbal/gimballaw15.BlockSums" = some 5 by kernel_rfl).symm.trans hf) |>.symm
      obtain rfl : fn = Tryd.f5 := (Option.some.inj (Tryd.func5.symm.trans hfn)).symm
      exact ⟨by kernel_rfl, fun j t ht => by
        have hm : t ∈ Tryd.f5.params.toList := by simpa using Array.mem_of_getElem? ht
        have hall : (Tryd.f5.params.toList.all fun u => !Tryd.prog.wantsStandIn u) = true := by kernel_rfl
        exact (show Tryd.prog.wantsStandIn t = false by simpa using List.all_eq_true.1 hall t hm)⟩)
    (by kernel_rfl)
#print axioms card
end Go.Proofs.YtdmhepgfmickdaaDoor.blockSums
namespace Go.Proofs.YtdmhepgfmickdaaDoor
/-- The card, under a short name, for the claim. -/
theorem blockSums_holds : Rows.BlockSumsCardSaid := blockSums.card
end Go.Proofs.YtdmhepgfmickdaaDoor
