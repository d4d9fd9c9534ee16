/-
  No cell of these rows narrows 'for every input' (looked for: loops, veiled, ifaces, maps, wideKeys, modest, calm, conditions, laid).
  DERIVED. THE GIVEN ROWS OF THIS SEAT. 7 by the template 'for every input the law returns true; each argument reads behind the call as it read before'; 0 by the template 'total and deterministic' (their statements: YtcappkphcjgeoaaTotals.lean).
  GIVEN WITH THE SEED: the statements are not yours to turn. If you find one false, say at which input.
  Laid BY PROGRAM, IN A SANDBOX (cutbox-rows.mjs): the forced cells as the released guide's own fill.sh prints them over the translation 950718e84d27c754… (all of the seat's roots in one cut). By AI agents, Wed Nov 11 2026. No macro, syntax, notation, axiom, sorry.
-/
import Derived.Test.YtcappkphcjgeoaaChecked
import GoSem.Claim
import GoSem.ClaimJoined
import GoSem.ClaimMapViews
import Derived.JoinedTies
import Derived.KernelRfl
namespace Go.Proofs.Ytcappkphcjgeoaa
/- THE CELL 'sum', in the pinned program and in every row, IS THE sha256 OF THE DUMP (.gsa) THAT YtcappkphcjgeoaaProg.lean LOADS. Nothing in Lean hashes anything: it is a label: what it is worth is what the hold of that sum in a sandbox is worth. -/
noncomputable def Try.pinned : Pinned := { name := "ytcappkphcjgeoaa", sum := "950718e84d27c7548a0d4641323843795cfcf5084fb72f8479bdc030bd301a28", checked := Try.checked }
namespace Rows
def none {H : Type} : Left H := { results := [], args := [] }

/-- 'gimballaw05.MoreRoots': WHATEVER THE INPUT: true; the input reads as it did. -/
def moreRootsSpec : ChangeSpec := { name := "moreRoots", fn := fun _ => fun
  | [d] => { results := [.lit (.bool true)], args := [d] }
  | _ => none }
def moreRootsRow : OpenClaim := { program := "ytcappkphcjgeoaa", sum := "950718e84d27c7548a0d4641323843795cfcf5084fb72f8479bdc030bd301a28", func := "gimbal/gimballaw05.MoreRoots", spec := "moreRoots", inPlace := ["math/bits.Add64"], apart := false }
def MoreRootsSaid : Prop := moreRootsRow.holds Try.pinned (OpenSpec.ofChange moreRootsSpec)

/-- ITS FALSE NEIGHBOUR: 'it returns false'. Refute it at one input. -/
def moreRootsWrong : ChangeSpec := { name := "moreRoots", fn := fun _ => fun
  | [d] => { results := [.lit (.bool false)], args := [d] }
  | _ => none }
def MoreRootsWrongFalsely : Prop := moreRootsRow.holds Try.pinned (OpenSpec.ofChange moreRootsWrong)

/-- 'gimballaw05.MoreScales': WHATEVER THE INPUT: true; the input reads as it did. -/
def moreScalesSpec : ChangeSpec := { name := "moreScales", fn := fun _ => fun
  | [d1, d2] => { results := [.lit (.bool true)], args := [d1, d2] }
  | _ => none }
def moreScalesRow : OpenClaim := { program := "ytcappkphcjgeoaa", sum := "950718e84d27c7548a0d4641323843795cfcf5084fb72f8479bdc030bd301a28", func := "gimbal/gimballaw05.MoreScales", spec := "moreScales", inPlace := ["math/bits.Add64"], apart := false }
def MoreScalesSaid : Prop := moreScalesRow.holds Try.pinned (OpenSpec.ofChange moreScalesSpec)

/-- ITS FALSE NEIGHBOUR: 'it returns false'. Refute it at one input. -/
def moreScalesWrong : ChangeSpec := { name := "moreScales", fn := fun _ => fun
  | [d1, d2] => { results := [.lit (.bool false)], args := [d1, d2] }
  | _ => none }
def MoreScalesWrongFalsely : Prop := moreScalesRow.holds Try.pinned (OpenSpec.ofChange moreScalesWrong)

/-- 'gimballaw05.MoreWholes': WHATEVER THE INPUT: true; the input reads as it did. -/
def moreWholesSpec : ChangeSpec := { name := "moreWholes", fn := fun _ => fun
  | [d] => { results := [.lit (.bool true)], args := [d] }
  | _ => none }
def moreWholesRow : OpenClaim := { program := "ytcappkphcjgeoaa", sum := "950718e84d27c7548a0d4641323843795cfcf5084fb72f8479bdc030bd301a28", func := "gimbal/gimballaw05.MoreWholes", spec := "moreWholes", inPlace := ["math/bits.Add64"], apart := false }
def MoreWholesSaid : Prop := moreWholesRow.holds Try.pinned (OpenSpec.ofChange moreWholesSpec)

/-- ITS FALSE NEIGHBOUR: 'it returns false'. Refute it at one input. -/
def moreWholesWrong : ChangeSpec := { name := "moreWholes", fn := fun _ => fun
  | [d] => { results := [.lit (.bool false)], args := [d] }
  | _ => none }
def MoreWholesWrongFalsely : Prop := moreWholesRow.holds Try.pinned (OpenSpec.ofChange moreWholesWrong)

/-- 'gimballaw05.MoreInts': WHATEVER THE INPUT: true; the input reads as it did. -/
def moreIntsSpec : ChangeSpec := { name := "moreInts", fn := fun _ => fun
  | [d] => { results := [.lit (.bool true)], args := [d] }
  | _ => none }
def moreIntsRow : OpenClaim := { program := "ytcappkphcjgeoaa", sum := "950718e84d27c7548a0d4641323843795cfcf5084fb72f8479bdc030bd301a28", func := "gimbal/gimballaw05.MoreInts", spec := "moreInts", inPlace := ["math/bits.Add64"], apart := false }
def MoreIntsSaid : Prop := moreIntsRow.holds Try.pinned (OpenSpec.ofChange moreIntsSpec)

/-- ITS FALSE NEIGHBOUR: 'it returns false'. Refute it at one input. -/
def moreIntsWrong : ChangeSpec := { name := "moreInts", fn := fun _ => fun
  | [d] => { results := [.lit (.bool false)], args := [d] }
  | _ => none }
def MoreIntsWrongFalsely : Prop := moreIntsRow.holds Try.pinned (OpenSpec.ofChange moreIntsWrong)

/-- 'gimballaw05.MorePowers': WHATEVER THE INPUT: true; the input reads as it did. -/
def morePowersSpec : ChangeSpec := { name := "morePowers", fn := fun _ => fun
  | [d1, d2, d3] => { results := [.lit (.bool true)], args := [d1, d2, d3] }
  | _ => none }
def morePowersRow : OpenClaim := { program := "ytcappkphcjgeoaa", sum := "950718e84d27c7548a0d4641323843795cfcf5084fb72f8479bdc030bd301a28", func := "gimbal/gimballaw05.MorePowers", spec := "morePowers", inPlace := ["math/bits.Add64"], apart := false }
def MorePowersSaid : Prop := morePowersRow.holds Try.pinned (OpenSpec.ofChange morePowersSpec)

/-- ITS FALSE NEIGHBOUR: 'it returns false'. Refute it at one input. -/
def morePowersWrong : ChangeSpec := { name := "morePowers", fn := fun _ => fun
  | [d1, d2, d3] => { results := [.lit (.bool false)], args := [d1, d2, d3] }
  | _ => none }
def MorePowersWrongFalsely : Prop := morePowersRow.holds Try.pinned (OpenSpec.ofChange morePowersWrong)

/-- 'gimballaw05.MoreFmas': WHATEVER THE INPUT: true; the input reads as it did. -/
def moreFmasSpec : ChangeSpec := { name := "moreFmas", fn := fun _ => fun
  | [d1, d2, d3] => { results := [.lit (.bool true)], args := [d1, d2, d3] }
  | _ => none }
def moreFmasRow : OpenClaim := { program := "ytcappkphcjgeoaa", sum := "950718e84d27c7548a0d4641323843795cfcf5084fb72f8479bdc030bd301a28", func := "gimbal/gimballaw05.MoreFmas", spec := "moreFmas", inPlace := ["math/bits.Add64", "math/bits.Sub64"], apart := false }
def MoreFmasSaid : Prop := moreFmasRow.holds Try.pinned (OpenSpec.ofChange moreFmasSpec)

/-- ITS FALSE NEIGHBOUR: 'it returns false'. Refute it at one input. -/
def moreFmasWrong : ChangeSpec := { name := "moreFmas", fn := fun _ => fun
  | [d1, d2, d3] => { results := [.lit (.bool false)], args := [d1, d2, d3] }
  | _ => none }
def MoreFmasWrongFalsely : Prop := moreFmasRow.holds Try.pinned (OpenSpec.ofChange moreFmasWrong)

/-- 'gimballaw05.MoreOnce': WHATEVER THE INPUT: true; the input reads as it did. -/
def moreOnceSpec : ChangeSpec := { name := "moreOnce", fn := fun _ => fun
  | [d1, d2] => { results := [.lit (.bool true)], args := [d1, d2] }
  | _ => none }
def moreOnceRow : OpenClaim := { program := "ytcappkphcjgeoaa", sum := "950718e84d27c7548a0d4641323843795cfcf5084fb72f8479bdc030bd301a28", func := "gimbal/gimballaw05.MoreOnce", spec := "moreOnce", inPlace := ["math/bits.Add64", "math/bits.Sub64"], apart := false }
def MoreOnceSaid : Prop := moreOnceRow.holds Try.pinned (OpenSpec.ofChange moreOnceSpec)

/-- ITS FALSE NEIGHBOUR: 'it returns false'. Refute it at one input. -/
def moreOnceWrong : ChangeSpec := { name := "moreOnce", fn := fun _ => fun
  | [d1, d2] => { results := [.lit (.bool false)], args := [d1, d2] }
  | _ => none }
def MoreOnceWrongFalsely : Prop := moreOnceRow.holds Try.pinned (OpenSpec.ofChange moreOnceWrong)

/- THE SECOND FORM. 'bulk': how many values and letters a reading holds, each counted each time it is reached (what is shared counts as often as it is met; a slice's spare places count too). A statement '..UptoSaid' is the law's where the arguments, and the package variables that the reading takes, are together of bulk at most 1048576: NARROWER than '..Said'. Prove '..Said' where nothing that the law and all that it calls make is longer than what came in: it says more and counts as full. Else prove '..UptoSaid'. A law counts once. -/
mutual
def uptoBulk {H : Type} : DataW H → Nat
  | .lit (.string bytes) => bytes.length + 1
  | .lit _ => 1
  | .nil => 1
  | .ptr d => uptoBulk d + 1
  | .slice elems spare => uptoBulkAll elems + uptoBulkAll spare + 1
  | .agg parts => uptoBulkAll parts + 1
  | .iface _ d => uptoBulk d + 1
  | .map entries => uptoBulkEntries entries + 1
  | .held _ => 1
def uptoBulkAll {H : Type} : List (DataW H) → Nat
  | [] => 0
  | d :: r => uptoBulk d + uptoBulkAll r
def uptoBulkEntries {H : Type} : List (Lit × DataW H) → Nat
  | [] => 0
  | x :: r => uptoBulkEntry x + uptoBulkEntries r
def uptoBulkEntry {H : Type} : Lit × DataW H → Nat
  | (.string bytes, d) => bytes.length + uptoBulk d + 1
  | (_, d) => uptoBulk d + 1
 end
def uptoSmall : (H : Type) → List (DataW H) → Bool := fun _ ds => decide (uptoBulkAll ds ≤ 1048576)
def OpenSpec.upto (s : _root_.Go.ChangeSpec) : _root_.Go.OpenSpec := { _root_.Go.OpenSpec.ofChange s with cond := some uptoSmall }

/-- 'gimballaw05.MoreRoots', WHERE WHAT IT READS IS OF BULK AT MOST 1048576: true; the input reads as it did. -/
def moreRootsUptoRow : OpenClaim := { program := "ytcappkphcjgeoaa", sum := "950718e84d27c7548a0d4641323843795cfcf5084fb72f8479bdc030bd301a28", func := "gimbal/gimballaw05.MoreRoots", spec := "moreRoots", inPlace := ["math/bits.Add64"], apart := false, narrowed := true }
def MoreRootsUptoSaid : Prop := moreRootsUptoRow.holds Try.pinned (OpenSpec.upto moreRootsSpec)

/-- 'gimballaw05.MoreScales', WHERE WHAT IT READS IS OF BULK AT MOST 1048576: true; the input reads as it did. -/
def moreScalesUptoRow : OpenClaim := { program := "ytcappkphcjgeoaa", sum := "950718e84d27c7548a0d4641323843795cfcf5084fb72f8479bdc030bd301a28", func := "gimbal/gimballaw05.MoreScales", spec := "moreScales", inPlace := ["math/bits.Add64"], apart := false, narrowed := true }
def MoreScalesUptoSaid : Prop := moreScalesUptoRow.holds Try.pinned (OpenSpec.upto moreScalesSpec)

/-- 'gimballaw05.MoreWholes', WHERE WHAT IT READS IS OF BULK AT MOST 1048576: true; the input reads as it did. -/
def moreWholesUptoRow : OpenClaim := { program := "ytcappkphcjgeoaa", sum := "950718e84d27c7548a0d4641323843795cfcf5084fb72f8479bdc030bd301a28", func := "gimbal/gimballaw05.MoreWholes", spec := "moreWholes", inPlace := ["math/bits.Add64"], apart := false, narrowed := true }
def MoreWholesUptoSaid : Prop := moreWholesUptoRow.holds Try.pinned (OpenSpec.upto moreWholesSpec)

/-- 'gimballaw05.MoreInts', WHERE WHAT IT READS IS OF BULK AT MOST 1048576: true; the input reads as it did. -/
def moreIntsUptoRow : OpenClaim := { program := "ytcappkphcjgeoaa", sum := "950718e84d27c7548a0d4641323843795cfcf5084fb72f8479bdc030bd301a28", func := "gimbal/gimballaw05.MoreInts", spec := "moreInts", inPlace := ["math/bits.Add64"], apart := false, narrowed := true }
def MoreIntsUptoSaid : Prop := moreIntsUptoRow.holds Try.pinned (OpenSpec.upto moreIntsSpec)

/-- 'gimballaw05.MorePowers', WHERE WHAT IT READS IS OF BULK AT MOST 1048576: true; the input reads as it did. -/
def morePowersUptoRow : OpenClaim := { program := "ytcappkphcjgeoaa", sum := "950718e84d27c7548a0d4641323843795cfcf5084fb72f8479bdc030bd301a28", func := "gimbal/gimballaw05.MorePowers", spec := "morePowers", inPlace := ["math/bits.Add64"], apart := false, narrowed := true }
def MorePowersUptoSaid : Prop := morePowersUptoRow.holds Try.pinned (OpenSpec.upto morePowersSpec)

/-- 'gimballaw05.MoreFmas', WHERE WHAT IT READS IS OF BULK AT MOST 1048576: true; the input reads as it did. -/
def moreFmasUptoRow : OpenClaim := { program := "ytcappkphcjgeoaa", sum := "950718e84d27c7548a0d4641323843795cfcf5084fb72f8479bdc030bd301a28", func := "gimbal/gimballaw05.MoreFmas", spec := "moreFmas", inPlace := ["math/bits.Add64", "math/bits.Sub64"], apart := false, narrowed := true }
def MoreFmasUptoSaid : Prop := moreFmasUptoRow.holds Try.pinned (OpenSpec.upto moreFmasSpec)

/-- 'gimballaw05.MoreOnce', WHERE WHAT IT READS IS OF BULK AT MOST 1048576: true; the input reads as it did. -/
def moreOnceUptoRow : OpenClaim := { program := "ytcappkphcjgeoaa", sum := "950718e84d27c7548a0d4641323843795cfcf5084fb72f8479bdc030bd301a28", func := "gimbal/gimballaw05.MoreOnce", spec := "moreOnce", inPlace := ["math/bits.Add64", "math/bits.Sub64"], apart := false, narrowed := true }
def MoreOnceUptoSaid : Prop := moreOnceUptoRow.holds Try.pinned (OpenSpec.upto moreOnceSpec)

end Rows
end Go.Proofs.Ytcappkphcjgeoaa
