/-
  No cell of these rows narrows 'for every input' (looked for: loops, veiled, ifaces, maps, wideKeys, modest, calm, conditions, laid).
  DERIVED. THE GIVEN ROWS OF THIS SEAT. 3 by the template 'for every input the law returns true; each argument reads behind the call as it read before'; 0 by the template 'total and deterministic' (their statements: YtkkfghecmhmdpaaTotals.lean).
  GIVEN WITH THE SEED: the statements are not yours to turn. If you find one false, say at which input.
  Laid BY PROGRAM, IN A SANDBOX (cutbox-rows.mjs): the forced cells as the released guide's own fill.sh prints them over the translation 484cb578216c1ca8… (all of the seat's roots in one cut). By AI agents, Wed Nov 11 2026. No macro, syntax, notation, axiom, sorry.
-/
import Derived.Test.YtkkfghecmhmdpaaChecked
import GoSem.Claim
import GoSem.ClaimJoined
import GoSem.ClaimMapViews
import Derived.JoinedTies
import Derived.KernelRfl
namespace Go.Proofs.Ytkkfghecmhmdpaa
/- THE CELL 'sum', in the pinned program and in every row, IS THE sha256 OF THE DUMP (.gsa) THAT YtkkfghecmhmdpaaProg.lean LOADS. Nothing in Lean hashes anything: it is a label: what it is worth is what the hold of that sum in a sandbox is worth. -/
noncomputable def Try.pinned : Pinned := { name := "ytkkfghecmhmdpaa", sum := "484cb578216c1ca8e3124c1aa0d309d1331f64508ef7a6d233281aa4da450fc6", checked := Try.checked }
namespace Rows
def none {H : Type} : Left H := { results := [], args := [] }

/-- 'gimballaw10.VecNormSteps': WHATEVER THE INPUT: true; the input reads as it did. -/
def vecNormStepsSpec : ChangeSpec := { name := "vecNormSteps", fn := fun _ => fun
  | [d] => { results := [.lit (.bool true)], args := [d] }
  | _ => none }
def vecNormStepsRow : OpenClaim := { program := "ytkkfghecmhmdpaa", sum := "484cb578216c1ca8e3124c1aa0d309d1331f64508ef7a6d233281aa4da450fc6", func := "gimbal/gimballaw10.VecNormSteps", spec := "vecNormSteps", inPlace := ["math/bits.Add64", "math/bits.Sub64"], apart := false }
def VecNormStepsSaid : Prop := vecNormStepsRow.holds Try.pinned (OpenSpec.ofChange vecNormStepsSpec)

/-- ITS FALSE NEIGHBOUR: 'it returns false'. Refute it at one input. -/
def vecNormStepsWrong : ChangeSpec := { name := "vecNormSteps", fn := fun _ => fun
  | [d] => { results := [.lit (.bool false)], args := [d] }
  | _ => none }
def VecNormStepsWrongFalsely : Prop := vecNormStepsRow.holds Try.pinned (OpenSpec.ofChange vecNormStepsWrong)

/-- 'gimballaw10.VecPower': WHATEVER THE INPUT: true; the input reads as it did. -/
def vecPowerSpec : ChangeSpec := { name := "vecPower", fn := fun _ => fun
  | [d1, d2] => { results := [.lit (.bool true)], args := [d1, d2] }
  | _ => none }
def vecPowerRow : OpenClaim := { program := "ytkkfghecmhmdpaa", sum := "484cb578216c1ca8e3124c1aa0d309d1331f64508ef7a6d233281aa4da450fc6", func := "gimbal/gimballaw10.VecPower", spec := "vecPower", inPlace := ["math/bits.Add64", "math/bits.Sub64"], apart := false }
def VecPowerSaid : Prop := vecPowerRow.holds Try.pinned (OpenSpec.ofChange vecPowerSpec)

/-- ITS FALSE NEIGHBOUR: 'it returns false'. Refute it at one input. -/
def vecPowerWrong : ChangeSpec := { name := "vecPower", fn := fun _ => fun
  | [d1, d2] => { results := [.lit (.bool false)], args := [d1, d2] }
  | _ => none }
def VecPowerWrongFalsely : Prop := vecPowerRow.holds Try.pinned (OpenSpec.ofChange vecPowerWrong)

/-- 'gimballaw10.VecSteps': WHATEVER THE INPUT: true; the input reads as it did. -/
def vecStepsSpec : ChangeSpec := { name := "vecSteps", fn := fun _ => fun
  | [d1, d2, d3, d4] => { results := [.lit (.bool true)], args := [d1, d2, d3, d4] }
  | _ => none }
def vecStepsRow : OpenClaim := { program := "ytkkfghecmhmdpaa", sum := "484cb578216c1ca8e3124c1aa0d309d1331f64508ef7a6d233281aa4da450fc6", func := "gimbal/gimballaw10.VecSteps", spec := "vecSteps", inPlace := ["math/bits.Add64", "math/bits.Sub64"], unfollowed := true, recurses := true, apart := false }
def VecStepsSaid : Prop := vecStepsRow.holds Try.pinned (OpenSpec.ofChange vecStepsSpec)

/-- ITS FALSE NEIGHBOUR: 'it returns false'. Refute it at one input. -/
def vecStepsWrong : ChangeSpec := { name := "vecSteps", fn := fun _ => fun
  | [d1, d2, d3, d4] => { results := [.lit (.bool false)], args := [d1, d2, d3, d4] }
  | _ => none }
def VecStepsWrongFalsely : Prop := vecStepsRow.holds Try.pinned (OpenSpec.ofChange vecStepsWrong)

/- THE SECOND FORM. 'bulk': how many values and letters a reading holds, each counted each time it is reached (what is shared counts as often as it is met; a slice's spare places count too). A statement '..UptoSaid' is the law's where the arguments, and the package variables that the reading takes, are together of bulk at most 1048576: NARROWER than '..Said'. Prove '..Said' where nothing that the law and all that it calls make is longer than what came in: it says more and counts as full. Else prove '..UptoSaid'. A law counts once. -/
mutual
def uptoBulk {H : Type} : DataW H → Nat
  | .lit (.string bytes) => bytes.length + 1
  | .lit _ => 1
  | .nil => 1
  | .ptr d => uptoBulk d + 1
  | .slice elems spare => uptoBulkAll elems + uptoBulkAll spare + 1
  | .agg parts => uptoBulkAll parts + 1
  | .iface _ d => uptoBulk d + 1
  | .map entries => uptoBulkEntries entries + 1
  | .held _ => 1
def uptoBulkAll {H : Type} : List (DataW H) → Nat
  | [] => 0
  | d :: r => uptoBulk d + uptoBulkAll r
def uptoBulkEntries {H : Type} : List (Lit × DataW H) → Nat
  | [] => 0
  | x :: r => uptoBulkEntry x + uptoBulkEntries r
def uptoBulkEntry {H : Type} : Lit × DataW H → Nat
  | (.string bytes, d) => bytes.length + uptoBulk d + 1
  | (_, d) => uptoBulk d + 1
 end
def uptoSmall : (H : Type) → List (DataW H) → Bool := fun _ ds => decide (uptoBulkAll ds ≤ 1048576)
def OpenSpec.upto (s : _root_.Go.ChangeSpec) : _root_.Go.OpenSpec := { _root_.Go.OpenSpec.ofChange s with cond := some uptoSmall }

/-- 'gimballaw10.VecNormSteps', WHERE WHAT IT READS IS OF BULK AT MOST 1048576: true; the input reads as it did. -/
def vecNormStepsUptoRow : OpenClaim := { program := "ytkkfghecmhmdpaa", sum := "484cb578216c1ca8e3124c1aa0d309d1331f64508ef7a6d233281aa4da450fc6", func := "gimbal/gimballaw10.VecNormSteps", spec := "vecNormSteps", inPlace := ["math/bits.Add64", "math/bits.Sub64"], apart := false, narrowed := true }
def VecNormStepsUptoSaid : Prop := vecNormStepsUptoRow.holds Try.pinned (OpenSpec.upto vecNormStepsSpec)

/-- 'gimballaw10.VecPower', WHERE WHAT IT READS IS OF BULK AT MOST 1048576: true; the input reads as it did. -/
def vecPowerUptoRow : OpenClaim := { program := "ytkkfghecmhmdpaa", sum := "484cb578216c1ca8e3124c1aa0d309d1331f64508ef7a6d233281aa4da450fc6", func := "gimbal/gimballaw10.VecPower", spec := "vecPower", inPlace := ["math/bits.Add64", "math/bits.Sub64"], apart := false, narrowed := true }
def VecPowerUptoSaid : Prop := vecPowerUptoRow.holds Try.pinned (OpenSpec.upto vecPowerSpec)

/-- 'gimballaw10.VecSteps', WHERE WHAT IT READS IS OF BULK AT MOST 1048576: true; the input reads as it did. -/
def vecStepsUptoRow : OpenClaim := { program := "ytkkfghecmhmdpaa", sum := "484cb578216c1ca8e3124c1aa0d309d1331f64508ef7a6d233281aa4da450fc6", func := "gimbal/gimballaw10.VecSteps", spec := "vecSteps", inPlace := ["math/bits.Add64", "math/bits.Sub64"], unfollowed := true, recurses := true, apart := false, narrowed := true }
def VecStepsUptoSaid : Prop := vecStepsUptoRow.holds Try.pinned (OpenSpec.upto vecStepsSpec)

end Rows
end Go.Proofs.Ytkkfghecmhmdpaa
