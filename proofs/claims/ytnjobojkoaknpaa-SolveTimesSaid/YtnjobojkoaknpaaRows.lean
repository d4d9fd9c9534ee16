/-
  No cell of these rows narrows 'for every input' (looked for: loops, veiled, ifaces, maps, wideKeys, modest, calm, conditions, laid).
  DERIVED. THE GIVEN ROWS OF THIS SEAT. 3 by the template 'for every input the law returns true; each argument reads behind the call as it read before'; 0 by the template 'total and deterministic' (their statements: YtnjobojkoaknpaaTotals.lean).
  GIVEN WITH THE SEED: the statements are not yours to turn. If you find one false, say at which input.
  Laid BY PROGRAM, IN A SANDBOX (cutbox-rows.mjs): the forced cells as the released guide's own fill.sh prints them over the translation 9765f16cbef077d0… (all of the seat's roots in one cut). By AI agents, Wed Nov 11 2026. No macro, syntax, notation, axiom, sorry.
-/
import Derived.Test.YtnjobojkoaknpaaChecked
import GoSem.Claim
import GoSem.ClaimJoined
import GoSem.ClaimMapViews
import Derived.JoinedTies
import Derived.KernelRfl
namespace Go.Proofs.Ytnjobojkoaknpaa
/- THE CELL 'sum', in the pinned program and in every row, IS THE sha256 OF THE DUMP (.gsa) THAT YtnjobojkoaknpaaProg.lean LOADS. Nothing in Lean hashes anything: it is a label: what it is worth is what the hold of that sum in a sandbox is worth. -/
noncomputable def Try.pinned : Pinned := { name := "ytnjobojkoaknpaa", sum := "9765f16cbef077d066e657721438bb20141f5b2e9c1ccfb7dc2f7fee60707c16", checked := Try.checked }
namespace Rows
def none {H : Type} : Left H := { results := [], args := [] }

/-- 'gimballaw12.SolveSteps': WHATEVER THE INPUT: true; the input reads as it did. -/
def solveStepsSpec : ChangeSpec := { name := "solveSteps", fn := fun _ => fun
  | [d1, d2, d3, d4] => { results := [.lit (.bool true)], args := [d1, d2, d3, d4] }
  | _ => none }
def solveStepsRow : OpenClaim := { program := "ytnjobojkoaknpaa", sum := "9765f16cbef077d066e657721438bb20141f5b2e9c1ccfb7dc2f7fee60707c16", func := "gimbal/gimballaw12.SolveSteps", spec := "solveSteps", inPlace := ["math/bits.Add64", "math/bits.Sub64"], unfollowed := true, recurses := true, named := ["math/bits.divideError", "math/bits.overflowError"], apart := false }
def SolveStepsSaid : Prop := solveStepsRow.holds Try.pinned (OpenSpec.ofChange solveStepsSpec)

/-- ITS FALSE NEIGHBOUR: 'it returns false'. Refute it at one input. -/
def solveStepsWrong : ChangeSpec := { name := "solveSteps", fn := fun _ => fun
  | [d1, d2, d3, d4] => { results := [.lit (.bool false)], args := [d1, d2, d3, d4] }
  | _ => none }
def SolveStepsWrongFalsely : Prop := solveStepsRow.holds Try.pinned (OpenSpec.ofChange solveStepsWrong)

/-- 'gimballaw12.SolveOnes': WHATEVER THE INPUT: true; the input reads as it did. -/
def solveOnesSpec : ChangeSpec := { name := "solveOnes", fn := fun _ => fun
  | [d1, d2, d3] => { results := [.lit (.bool true)], args := [d1, d2, d3] }
  | _ => none }
def solveOnesRow : OpenClaim := { program := "ytnjobojkoaknpaa", sum := "9765f16cbef077d066e657721438bb20141f5b2e9c1ccfb7dc2f7fee60707c16", func := "gimbal/gimballaw12.SolveOnes", spec := "solveOnes", inPlace := ["math/bits.Add64", "math/bits.Sub64"], unfollowed := true, recurses := true, named := ["math/bits.divideError", "math/bits.overflowError"], apart := false }
def SolveOnesSaid : Prop := solveOnesRow.holds Try.pinned (OpenSpec.ofChange solveOnesSpec)

/-- ITS FALSE NEIGHBOUR: 'it returns false'. Refute it at one input. -/
def solveOnesWrong : ChangeSpec := { name := "solveOnes", fn := fun _ => fun
  | [d1, d2, d3] => { results := [.lit (.bool false)], args := [d1, d2, d3] }
  | _ => none }
def SolveOnesWrongFalsely : Prop := solveOnesRow.holds Try.pinned (OpenSpec.ofChange solveOnesWrong)

/-- 'gimballaw12.SolveTimes': WHATEVER THE INPUT: true; the input reads as it did. -/
def solveTimesSpec : ChangeSpec := { name := "solveTimes", fn := fun _ => fun
  | [d1, d2, d3, d4] => { results := [.lit (.bool true)], args := [d1, d2, d3, d4] }
  | _ => none }
def solveTimesRow : OpenClaim := { program := "ytnjobojkoaknpaa", sum := "9765f16cbef077d066e657721438bb20141f5b2e9c1ccfb7dc2f7fee60707c16", func := "gimbal/gimballaw12.SolveTimes", spec := "solveTimes", inPlace := ["math/bits.Add64", "math/bits.Sub64"], unfollowed := true, recurses := true, named := ["math/bits.divideError", "math/bits.overflowError"], apart := false }
def SolveTimesSaid : Prop := solveTimesRow.holds Try.pinned (OpenSpec.ofChange solveTimesSpec)

/-- ITS FALSE NEIGHBOUR: 'it returns false'. Refute it at one input. -/
def solveTimesWrong : ChangeSpec := { name := "solveTimes", fn := fun _ => fun
  | [d1, d2, d3, d4] => { results := [.lit (.bool false)], args := [d1, d2, d3, d4] }
  | _ => none }
def SolveTimesWrongFalsely : Prop := solveTimesRow.holds Try.pinned (OpenSpec.ofChange solveTimesWrong)

/- THE SECOND FORM. 'bulk': how many values and letters a reading holds, each counted each time it is reached (what is shared counts as often as it is met; a slice's spare places count too). A statement '..UptoSaid' is the law's where the arguments, and the package variables that the reading takes, are together of bulk at most 1048576: NARROWER than '..Said'. Prove '..Said' where nothing that the law and all that it calls make is longer than what came in: it says more and counts as full. Else prove '..UptoSaid'. A law counts once. -/
mutual
def uptoBulk {H : Type} : DataW H → Nat
  | .lit (.string bytes) => bytes.length + 1
  | .lit _ => 1
  | .nil => 1
  | .ptr d => uptoBulk d + 1
  | .slice elems spare => uptoBulkAll elems + uptoBulkAll spare + 1
  | .agg parts => uptoBulkAll parts + 1
  | .iface _ d => uptoBulk d + 1
  | .map entries => uptoBulkEntries entries + 1
  | .held _ => 1
def uptoBulkAll {H : Type} : List (DataW H) → Nat
  | [] => 0
  | d :: r => uptoBulk d + uptoBulkAll r
def uptoBulkEntries {H : Type} : List (Lit × DataW H) → Nat
  | [] => 0
  | x :: r => uptoBulkEntry x + uptoBulkEntries r
def uptoBulkEntry {H : Type} : Lit × DataW H → Nat
  | (.string bytes, d) => bytes.length + uptoBulk d + 1
  | (_, d) => uptoBulk d + 1
 end
def uptoSmall : (H : Type) → List (DataW H) → Bool := fun _ ds => decide (uptoBulkAll ds ≤ 1048576)
def OpenSpec.upto (s : _root_.Go.ChangeSpec) : _root_.Go.OpenSpec := { _root_.Go.OpenSpec.ofChange s with cond := some uptoSmall }

/-- 'gimballaw12.SolveSteps', WHERE WHAT IT READS IS OF BULK AT MOST 1048576: true; the input reads as it did. -/
def solveStepsUptoRow : OpenClaim := { program := "ytnjobojkoaknpaa", sum := "9765f16cbef077d066e657721438bb20141f5b2e9c1ccfb7dc2f7fee60707c16", func := "gimbal/gimballaw12.SolveSteps", spec := "solveSteps", inPlace := ["math/bits.Add64", "math/bits.Sub64"], unfollowed := true, recurses := true, named := ["math/bits.divideError", "math/bits.overflowError"], apart := false, narrowed := true }
def SolveStepsUptoSaid : Prop := solveStepsUptoRow.holds Try.pinned (OpenSpec.upto solveStepsSpec)

/-- 'gimballaw12.SolveOnes', WHERE WHAT IT READS IS OF BULK AT MOST 1048576: true; the input reads as it did. -/
def solveOnesUptoRow : OpenClaim := { program := "ytnjobojkoaknpaa", sum := "9765f16cbef077d066e657721438bb20141f5b2e9c1ccfb7dc2f7fee60707c16", func := "gimbal/gimballaw12.SolveOnes", spec := "solveOnes", inPlace := ["math/bits.Add64", "math/bits.Sub64"], unfollowed := true, recurses := true, named := ["math/bits.divideError", "math/bits.overflowError"], apart := false, narrowed := true }
def SolveOnesUptoSaid : Prop := solveOnesUptoRow.holds Try.pinned (OpenSpec.upto solveOnesSpec)

/-- 'gimballaw12.SolveTimes', WHERE WHAT IT READS IS OF BULK AT MOST 1048576: true; the input reads as it did. -/
def solveTimesUptoRow : OpenClaim := { program := "ytnjobojkoaknpaa", sum := "9765f16cbef077d066e657721438bb20141f5b2e9c1ccfb7dc2f7fee60707c16", func := "gimbal/gimballaw12.SolveTimes", spec := "solveTimes", inPlace := ["math/bits.Add64", "math/bits.Sub64"], unfollowed := true, recurses := true, named := ["math/bits.divideError", "math/bits.overflowError"], apart := false, narrowed := true }
def SolveTimesUptoSaid : Prop := solveTimesUptoRow.holds Try.pinned (OpenSpec.upto solveTimesSpec)

end Rows
end Go.Proofs.Ytnjobojkoaknpaa
