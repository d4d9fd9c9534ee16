/-
  NARROWER THAN 'FOR EVERY INPUT', by the rows' own cells (each row's printed sentence says how): BlockKinds: laid · BlockStandards: laid · BlockSums: laid.
  DERIVED. THE GIVEN ROWS OF THIS SEAT. 3 by the template 'for every input the law returns true; each argument reads behind the call as it read before'; 0 by the template 'total and deterministic' (their statements: YtdmhepgfmickdaaDoorTotals.lean).
  GIVEN WITH THE SEED: the statements are not yours to turn. If you find one false, say at which input.
  Laid BY PROGRAM, IN A SANDBOX (cutbox-rows.mjs): the forced cells as the released guide's own fill.sh prints them over the translation 9d01980898616fa8… (all of the seat's roots in one cut). By AI agents, Wed Nov 11 2026. No macro, syntax, notation, axiom, sorry.
-/
import Derived.Test.YtdmhepgfmickdaaDoorChecked
import GoSem.Claim
import GoSem.ClaimJoined
import GoSem.ClaimMapViews
import Derived.JoinedTies
import Derived.KernelRfl
namespace Go.Proofs.YtdmhepgfmickdaaDoor
/- THE CELL 'sum', in the pinned program and in every row, IS THE sha256 OF THE DUMP (.gsa) THAT YtdmhepgfmickdaaDoorProg.lean LOADS. Nothing in Lean hashes anything: it is a label: what it is worth is what the hold of that sum in a sandbox is worth. -/
noncomputable def Tryd.pinned : Pinned := { name := "ytdmhepgfmickdaadoor", sum := "9d01980898616fa83fc20019da43b64248761f28f9a709f297969d9ee23a4f51", checked := Tryd.checked }
namespace Rows
def none {H : Type} : Left H := { results := [], args := [] }

/- WHAT THE LISTED PACKAGE-LEVEL VARIABLES READ AS WHEN THE CALL BEGINS. Each datum BY PROGRAM (the guide's laid-datum.mjs) off the statement by which the dump's own 'gosem.cut.vars' lays the variable. In a bare row this is a premise. The card (YtdmhepgfmickdaaDoorCards.lean) ties it to the program's text. -/
def laid_math_bits_deBruijn32tab {H : Type} : DataW H := .agg [.lit (.int .u8 0), .lit (.int .u8 1), .lit (.int .u8 28), .lit (.int .u8 2), .lit (.int .u8 29), .lit (.int .u8 14), .lit (.int .u8 24), .lit (.int .u8 3), .lit (.int .u8 30), .lit (.int .u8 22), .lit (.int .u8 20), .lit (.int .u8 15), .lit (.int .u8 25), .lit (.int .u8 17), .lit (.int .u8 4), .lit (.int .u8 8), .lit (.int .u8 31), .lit (.int .u8 27), .lit (.int .u8 13), .lit (.int .u8 23), .lit (.int .u8 21), .lit (.int .u8 19), .lit (.int .u8 16), .lit (.int .u8 7), .lit (.int .u8 26), .lit (.int .u8 12), .lit (.int .u8 18), .lit (.int .u8 6), .lit (.int .u8 11), .lit (.int .u8 5), .lit (.int .u8 10), .lit (.int .u8 9)]

/-- 'gimballaw15.BlockKinds': WHATEVER THE INPUT: true; the input reads as it did. -/
def blockKindsSpec : ChangeSpec := { name := "blockKinds", fn := fun _ => fun
  | [d1, d2, d3, d4] => { results := [.lit (.bool true)], args := [d1, d2, d3, d4] }
  | _ => none }
def blockKindsRow : OpenClaim := { program := "ytdmhepgfmickdaadoor", sum := "9d01980898616fa83fc20019da43b64248761f28f9a709f297969d9ee23a4f51", func := "gimbal/gimballaw15.BlockKinds", spec := "blockKinds", inPlace := ["math/bits.Add64", "math/bits.Sub64"], unfollowed := true, recurses := true, named := ["math/bits.deBruijn32tab", "math/bits.divideError", "math/bits.overflowError"], apart := false, laid := [("math/bits.deBruijn32tab", laid_math_bits_deBruijn32tab)] }
def BlockKindsSaid : Prop := blockKindsRow.holds Tryd.pinned (OpenSpec.ofChange blockKindsSpec)

/-- ITS FALSE NEIGHBOUR: 'it returns false'. Refute it at one input. -/
def blockKindsWrong : ChangeSpec := { name := "blockKinds", fn := fun _ => fun
  | [d1, d2, d3, d4] => { results := [.lit (.bool false)], args := [d1, d2, d3, d4] }
  | _ => none }
def BlockKindsWrongFalsely : Prop := blockKindsRow.holds Tryd.pinned (OpenSpec.ofChange blockKindsWrong)

/-- 'gimballaw15.BlockStandards': WHATEVER THE INPUT: true; the input reads as it did. -/
def blockStandardsSpec : ChangeSpec := { name := "blockStandards", fn := fun _ => fun
  | [d] => { results := [.lit (.bool true)], args := [d] }
  | _ => none }
def blockStandardsRow : OpenClaim := { program := "ytdmhepgfmickdaadoor", sum := "9d01980898616fa83fc20019da43b64248761f28f9a709f297969d9ee23a4f51", func := "gimbal/gimballaw15.BlockStandards", spec := "blockStandards", inPlace := ["math/bits.Add64", "math/bits.Sub64"], unfollowed := true, recurses := true, named := ["math/bits.divideError", "math/bits.overflowError", "math/bits.deBruijn32tab"], apart := false, laid := [("math/bits.deBruijn32tab", laid_math_bits_deBruijn32tab)] }
def BlockStandardsSaid : Prop := blockStandardsRow.holds Tryd.pinned (OpenSpec.ofChange blockStandardsSpec)

/-- ITS FALSE NEIGHBOUR: 'it returns false'. Refute it at one input. -/
def blockStandardsWrong : ChangeSpec := { name := "blockStandards", fn := fun _ => fun
  | [d] => { results := [.lit (.bool false)], args := [d] }
  | _ => none }
def BlockStandardsWrongFalsely : Prop := blockStandardsRow.holds Tryd.pinned (OpenSpec.ofChange blockStandardsWrong)

/-- 'gimballaw15.BlockSums': WHATEVER THE INPUT: true; the input reads as it did. -/
def blockSumsSpec : ChangeSpec := { name := "blockSums", fn := fun _ => fun
  | [d] => { results := [.lit (.bool true)], args := [d] }
  | _ => none }
def blockSumsRow : OpenClaim := { program := "ytdmhepgfmickdaadoor", sum := "9d01980898616fa83fc20019da43b64248761f28f9a709f297969d9ee23a4f51", func := "gimbal/gimballaw15.BlockSums", spec := "blockSums", inPlace := ["math/bits.Add64", "math/bits.Sub64"], unfollowed := true, recurses := true, named := ["math/bits.divideError", "math/bits.overflowError", "math/bits.deBruijn32tab"], apart := false, laid := [("math/bits.deBruijn32tab", laid_math_bits_deBruijn32tab)] }
def BlockSumsSaid : Prop := blockSumsRow.holds Tryd.pinned (OpenSpec.ofChange blockSumsSpec)

/-- ITS FALSE NEIGHBOUR: 'it returns false'. Refute it at one input. -/
def blockSumsWrong : ChangeSpec := { name := "blockSums", fn := fun _ => fun
  | [d] => { results := [.lit (.bool false)], args := [d] }
  | _ => none }
def BlockSumsWrongFalsely : Prop := blockSumsRow.holds Tryd.pinned (OpenSpec.ofChange blockSumsWrong)

/- THE SECOND FORM. 'bulk': how many values and letters a reading holds, each counted each time it is reached (what is shared counts as often as it is met; a slice's spare places count too). A statement '..UptoSaid' is the law's where the arguments, and the package variables that the reading takes, are together of bulk at most 1048576: NARROWER than '..Said'. Prove '..Said' where nothing that the law and all that it calls make is longer than what came in: it says more and counts as full. Else prove '..UptoSaid'. A law counts once. -/
mutual
def uptoBulk {H : Type} : DataW H → Nat
  | .lit (.string bytes) => bytes.length + 1
  | .lit _ => 1
  | .nil => 1
  | .ptr d => uptoBulk d + 1
  | .slice elems spare => uptoBulkAll elems + uptoBulkAll spare + 1
  | .agg parts => uptoBulkAll parts + 1
  | .iface _ d => uptoBulk d + 1
  | .map entries => uptoBulkEntries entries + 1
  | .held _ => 1
def uptoBulkAll {H : Type} : List (DataW H) → Nat
  | [] => 0
  | d :: r => uptoBulk d + uptoBulkAll r
def uptoBulkEntries {H : Type} : List (Lit × DataW H) → Nat
  | [] => 0
  | x :: r => uptoBulkEntry x + uptoBulkEntries r
def uptoBulkEntry {H : Type} : Lit × DataW H → Nat
  | (.string bytes, d) => bytes.length + uptoBulk d + 1
  | (_, d) => uptoBulk d + 1
 end
def uptoSmall : (H : Type) → List (DataW H) → Bool := fun _ ds => decide (uptoBulkAll ds ≤ 1048576)
def OpenSpec.upto (s : _root_.Go.ChangeSpec) : _root_.Go.OpenSpec := { _root_.Go.OpenSpec.ofChange s with cond := some uptoSmall }

/-- 'gimballaw15.BlockKinds', WHERE WHAT IT READS IS OF BULK AT MOST 1048576: true; the input reads as it did. -/
def blockKindsUptoRow : OpenClaim := { program := "ytdmhepgfmickdaadoor", sum := "9d01980898616fa83fc20019da43b64248761f28f9a709f297969d9ee23a4f51", func := "gimbal/gimballaw15.BlockKinds", spec := "blockKinds", inPlace := ["math/bits.Add64", "math/bits.Sub64"], unfollowed := true, recurses := true, named := ["math/bits.deBruijn32tab", "math/bits.divideError", "math/bits.overflowError"], apart := false, laid := [("math/bits.deBruijn32tab", laid_math_bits_deBruijn32tab)], narrowed := true }
def BlockKindsUptoSaid : Prop := blockKindsUptoRow.holds Tryd.pinned (OpenSpec.upto blockKindsSpec)

/-- 'gimballaw15.BlockStandards', WHERE WHAT IT READS IS OF BULK AT MOST 1048576: true; the input reads as it did. -/
def blockStandardsUptoRow : OpenClaim := { program := "ytdmhepgfmickdaadoor", sum := "9d01980898616fa83fc20019da43b64248761f28f9a709f297969d9ee23a4f51", func := "gimbal/gimballaw15.BlockStandards", spec := "blockStandards", inPlace := ["math/bits.Add64", "math/bits.Sub64"], unfollowed := true, recurses := true, named := ["math/bits.divideError", "math/bits.overflowError", "math/bits.deBruijn32tab"], apart := false, laid := [("math/bits.deBruijn32tab", laid_math_bits_deBruijn32tab)], narrowed := true }
def BlockStandardsUptoSaid : Prop := blockStandardsUptoRow.holds Tryd.pinned (OpenSpec.upto blockStandardsSpec)

/-- 'gimballaw15.BlockSums', WHERE WHAT IT READS IS OF BULK AT MOST 1048576: true; the input reads as it did. -/
def blockSumsUptoRow : OpenClaim := { program := "ytdmhepgfmickdaadoor", sum := "9d01980898616fa83fc20019da43b64248761f28f9a709f297969d9ee23a4f51", func := "gimbal/gimballaw15.BlockSums", spec := "blockSums", inPlace := ["math/bits.Add64", "math/bits.Sub64"], unfollowed := true, recurses := true, named := ["math/bits.divideError", "math/bits.overflowError", "math/bits.deBruijn32tab"], apart := false, laid := [("math/bits.deBruijn32tab", laid_math_bits_deBruijn32tab)], narrowed := true }
def BlockSumsUptoSaid : Prop := blockSumsUptoRow.holds Tryd.pinned (OpenSpec.upto blockSumsSpec)

end Rows
end Go.Proofs.YtdmhepgfmickdaaDoor
