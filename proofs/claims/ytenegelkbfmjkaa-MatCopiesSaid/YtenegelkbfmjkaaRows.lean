/-
  No cell of these rows narrows 'for every input' (looked for: loops, veiled, ifaces, maps, wideKeys, modest, calm, conditions, laid).
  DERIVED. THE GIVEN ROWS OF THIS SEAT. 4 by the template 'for every input the law returns true; each argument reads behind the call as it read before'; 0 by the template 'total and deterministic' (their statements: YtenegelkbfmjkaaTotals.lean).
  GIVEN WITH THE SEED: the statements are not yours to turn. If you find one false, say at which input.
  Laid BY PROGRAM, IN A SANDBOX (cutbox-rows.mjs): the forced cells as the released guide's own fill.sh prints them over the translation e9bd8f4f982b48a6… (all of the seat's roots in one cut). By AI agents, Wed Nov 11 2026. No macro, syntax, notation, axiom, sorry.
-/
import Derived.Test.YtenegelkbfmjkaaChecked
import GoSem.Claim
import GoSem.ClaimJoined
import GoSem.ClaimMapViews
import Derived.JoinedTies
import Derived.KernelRfl
namespace Go.Proofs.Ytenegelkbfmjkaa
/- THE CELL 'sum', in the pinned program and in every row, IS THE sha256 OF THE DUMP (.gsa) THAT YtenegelkbfmjkaaProg.lean LOADS. Nothing in Lean hashes anything: it is a label: what it is worth is what the hold of that sum in a sandbox is worth. -/
noncomputable def Try.pinned : Pinned := { name := "ytenegelkbfmjkaa", sum := "e9bd8f4f982b48a6c6e9a6aa03be19ab7e22ddf750d5a734776b5f81d2278d39", checked := Try.checked }
namespace Rows
def none {H : Type} : Left H := { results := [], args := [] }

/-- 'gimballaw09.MatScales': WHATEVER THE INPUT: true; the input reads as it did. -/
def matScalesSpec : ChangeSpec := { name := "matScales", fn := fun _ => fun
  | [d1, d2, d3, d4, d5] => { results := [.lit (.bool true)], args := [d1, d2, d3, d4, d5] }
  | _ => none }
def matScalesRow : OpenClaim := { program := "ytenegelkbfmjkaa", sum := "e9bd8f4f982b48a6c6e9a6aa03be19ab7e22ddf750d5a734776b5f81d2278d39", func := "gimbal/gimballaw09.MatScales", spec := "matScales", inPlace := ["math/bits.Add64"], apart := false }
def MatScalesSaid : Prop := matScalesRow.holds Try.pinned (OpenSpec.ofChange matScalesSpec)

/-- ITS FALSE NEIGHBOUR: 'it returns false'. Refute it at one input. -/
def matScalesWrong : ChangeSpec := { name := "matScales", fn := fun _ => fun
  | [d1, d2, d3, d4, d5] => { results := [.lit (.bool false)], args := [d1, d2, d3, d4, d5] }
  | _ => none }
def MatScalesWrongFalsely : Prop := matScalesRow.holds Try.pinned (OpenSpec.ofChange matScalesWrong)

/-- 'gimballaw09.MatChecks': WHATEVER THE INPUT: true; the input reads as it did. -/
def matChecksSpec : ChangeSpec := { name := "matChecks", fn := fun _ => fun
  | [d1, d2, d3, d4, d5, d6] => { results := [.lit (.bool true)], args := [d1, d2, d3, d4, d5, d6] }
  | _ => none }
def matChecksRow : OpenClaim := { program := "ytenegelkbfmjkaa", sum := "e9bd8f4f982b48a6c6e9a6aa03be19ab7e22ddf750d5a734776b5f81d2278d39", func := "gimbal/gimballaw09.MatChecks", spec := "matChecks", inPlace := ["math/bits.Add64"], apart := false }
def MatChecksSaid : Prop := matChecksRow.holds Try.pinned (OpenSpec.ofChange matChecksSpec)

/-- ITS FALSE NEIGHBOUR: 'it returns false'. Refute it at one input. -/
def matChecksWrong : ChangeSpec := { name := "matChecks", fn := fun _ => fun
  | [d1, d2, d3, d4, d5, d6] => { results := [.lit (.bool false)], args := [d1, d2, d3, d4, d5, d6] }
  | _ => none }
def MatChecksWrongFalsely : Prop := matChecksRow.holds Try.pinned (OpenSpec.ofChange matChecksWrong)

/-- 'gimballaw09.MatCopies': WHATEVER THE INPUT: true; the input reads as it did. -/
def matCopiesSpec : ChangeSpec := { name := "matCopies", fn := fun _ => fun
  | [d1, d2, d3, d4, d5, d6] => { results := [.lit (.bool true)], args := [d1, d2, d3, d4, d5, d6] }
  | _ => none }
def matCopiesRow : OpenClaim := { program := "ytenegelkbfmjkaa", sum := "e9bd8f4f982b48a6c6e9a6aa03be19ab7e22ddf750d5a734776b5f81d2278d39", func := "gimbal/gimballaw09.MatCopies", spec := "matCopies", inPlace := ["math/bits.Add64"], apart := false }
def MatCopiesSaid : Prop := matCopiesRow.holds Try.pinned (OpenSpec.ofChange matCopiesSpec)

/-- ITS FALSE NEIGHBOUR: 'it returns false'. Refute it at one input. -/
def matCopiesWrong : ChangeSpec := { name := "matCopies", fn := fun _ => fun
  | [d1, d2, d3, d4, d5, d6] => { results := [.lit (.bool false)], args := [d1, d2, d3, d4, d5, d6] }
  | _ => none }
def MatCopiesWrongFalsely : Prop := matCopiesRow.holds Try.pinned (OpenSpec.ofChange matCopiesWrong)

/-- 'gimballaw09.MatParts': WHATEVER THE INPUT: true; the input reads as it did. -/
def matPartsSpec : ChangeSpec := { name := "matParts", fn := fun _ => fun
  | [d1, d2, d3, d4, d5, d6, d7, d8] => { results := [.lit (.bool true)], args := [d1, d2, d3, d4, d5, d6, d7, d8] }
  | _ => none }
def matPartsRow : OpenClaim := { program := "ytenegelkbfmjkaa", sum := "e9bd8f4f982b48a6c6e9a6aa03be19ab7e22ddf750d5a734776b5f81d2278d39", func := "gimbal/gimballaw09.MatParts", spec := "matParts", inPlace := ["math/bits.Add64"], apart := false }
def MatPartsSaid : Prop := matPartsRow.holds Try.pinned (OpenSpec.ofChange matPartsSpec)

/-- ITS FALSE NEIGHBOUR: 'it returns false'. Refute it at one input. -/
def matPartsWrong : ChangeSpec := { name := "matParts", fn := fun _ => fun
  | [d1, d2, d3, d4, d5, d6, d7, d8] => { results := [.lit (.bool false)], args := [d1, d2, d3, d4, d5, d6, d7, d8] }
  | _ => none }
def MatPartsWrongFalsely : Prop := matPartsRow.holds Try.pinned (OpenSpec.ofChange matPartsWrong)

/- THE SECOND FORM. 'bulk': how many values and letters a reading holds, each counted each time it is reached (what is shared counts as often as it is met; a slice's spare places count too). A statement '..UptoSaid' is the law's where the arguments, and the package variables that the reading takes, are together of bulk at most 1048576: NARROWER than '..Said'. Prove '..Said' where nothing that the law and all that it calls make is longer than what came in: it says more and counts as full. Else prove '..UptoSaid'. A law counts once. -/
mutual
def uptoBulk {H : Type} : DataW H → Nat
  | .lit (.string bytes) => bytes.length + 1
  | .lit _ => 1
  | .nil => 1
  | .ptr d => uptoBulk d + 1
  | .slice elems spare => uptoBulkAll elems + uptoBulkAll spare + 1
  | .agg parts => uptoBulkAll parts + 1
  | .iface _ d => uptoBulk d + 1
  | .map entries => uptoBulkEntries entries + 1
  | .held _ => 1
def uptoBulkAll {H : Type} : List (DataW H) → Nat
  | [] => 0
  | d :: r => uptoBulk d + uptoBulkAll r
def uptoBulkEntries {H : Type} : List (Lit × DataW H) → Nat
  | [] => 0
  | x :: r => uptoBulkEntry x + uptoBulkEntries r
def uptoBulkEntry {H : Type} : Lit × DataW H → Nat
  | (.string bytes, d) => bytes.length + uptoBulk d + 1
  | (_, d) => uptoBulk d + 1
 end
def uptoSmall : (H : Type) → List (DataW H) → Bool := fun _ ds => decide (uptoBulkAll ds ≤ 1048576)
def OpenSpec.upto (s : _root_.Go.ChangeSpec) : _root_.Go.OpenSpec := { _root_.Go.OpenSpec.ofChange s with cond := some uptoSmall }

/-- 'gimballaw09.MatScales', WHERE WHAT IT READS IS OF BULK AT MOST 1048576: true; the input reads as it did. -/
def matScalesUptoRow : OpenClaim := { program := "ytenegelkbfmjkaa", sum := "e9bd8f4f982b48a6c6e9a6aa03be19ab7e22ddf750d5a734776b5f81d2278d39", func := "gimbal/gimballaw09.MatScales", spec := "matScales", inPlace := ["math/bits.Add64"], apart := false, narrowed := true }
def MatScalesUptoSaid : Prop := matScalesUptoRow.holds Try.pinned (OpenSpec.upto matScalesSpec)

/-- 'gimballaw09.MatChecks', WHERE WHAT IT READS IS OF BULK AT MOST 1048576: true; the input reads as it did. -/
def matChecksUptoRow : OpenClaim := { program := "ytenegelkbfmjkaa", sum := "e9bd8f4f982b48a6c6e9a6aa03be19ab7e22ddf750d5a734776b5f81d2278d39", func := "gimbal/gimballaw09.MatChecks", spec := "matChecks", inPlace := ["math/bits.Add64"], apart := false, narrowed := true }
def MatChecksUptoSaid : Prop := matChecksUptoRow.holds Try.pinned (OpenSpec.upto matChecksSpec)

/-- 'gimballaw09.MatCopies', WHERE WHAT IT READS IS OF BULK AT MOST 1048576: true; the input reads as it did. -/
def matCopiesUptoRow : OpenClaim := { program := "ytenegelkbfmjkaa", sum := "e9bd8f4f982b48a6c6e9a6aa03be19ab7e22ddf750d5a734776b5f81d2278d39", func := "gimbal/gimballaw09.MatCopies", spec := "matCopies", inPlace := ["math/bits.Add64"], apart := false, narrowed := true }
def MatCopiesUptoSaid : Prop := matCopiesUptoRow.holds Try.pinned (OpenSpec.upto matCopiesSpec)

/-- 'gimballaw09.MatParts', WHERE WHAT IT READS IS OF BULK AT MOST 1048576: true; the input reads as it did. -/
def matPartsUptoRow : OpenClaim := { program := "ytenegelkbfmjkaa", sum := "e9bd8f4f982b48a6c6e9a6aa03be19ab7e22ddf750d5a734776b5f81d2278d39", func := "gimbal/gimballaw09.MatParts", spec := "matParts", inPlace := ["math/bits.Add64"], apart := false, narrowed := true }
def MatPartsUptoSaid : Prop := matPartsUptoRow.holds Try.pinned (OpenSpec.upto matPartsSpec)

end Rows
end Go.Proofs.Ytenegelkbfmjkaa
