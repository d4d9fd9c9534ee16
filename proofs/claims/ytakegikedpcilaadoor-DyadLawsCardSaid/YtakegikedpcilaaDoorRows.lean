/-
  NARROWER THAN 'FOR EVERY INPUT', by the rows' own cells (each row's printed sentence says how): DyadNears: laid · DyadSums: laid · DyadInts: laid · DyadLaws: laid.
  DERIVED. THE GIVEN ROWS OF THIS SEAT. 4 by the template 'for every input the law returns true; each argument reads behind the call as it read before'; 0 by the template 'total and deterministic' (their statements: YtakegikedpcilaaDoorTotals.lean).
  GIVEN WITH THE SEED: the statements are not yours to turn. If you find one false, say at which input.
  Laid BY PROGRAM, IN A SANDBOX (cutbox-rows.mjs): the forced cells as the released guide's own fill.sh prints them over the translation fae7b35709bcf8dd… (all of the seat's roots in one cut). By AI agents, Wed Nov 11 2026. No macro, syntax, notation, axiom, sorry.
-/
import Derived.Test.YtakegikedpcilaaDoorChecked
import GoSem.Claim
import GoSem.ClaimJoined
import GoSem.ClaimMapViews
import Derived.JoinedTies
import Derived.KernelRfl
namespace Go.Proofs.YtakegikedpcilaaDoor
/- THE CELL 'sum', in the pinned program and in every row, IS THE sha256 OF THE DUMP (.gsa) THAT YtakegikedpcilaaDoorProg.lean LOADS. Nothing in Lean hashes anything: it is a label: what it is worth is what the hold of that sum in a sandbox is worth. -/
noncomputable def Tryd.pinned : Pinned := { name := "ytakegikedpcilaadoor", sum := "fae7b35709bcf8dd60b82db58b9c62d9f1a107b5199036259d1c6959b47cf6ec", checked := Tryd.checked }
namespace Rows
def none {H : Type} : Left H := { results := [], args := [] }

/- WHAT THE LISTED PACKAGE-LEVEL VARIABLES READ AS WHEN THE CALL BEGINS. Each datum BY PROGRAM (the guide's laid-datum.mjs) off the statement by which the dump's own 'gosem.cut.vars' lays the variable. In a bare row this is a premise. The card (YtakegikedpcilaaDoorCards.lean) ties it to the program's text. -/
def laid_math_bits_deBruijn32tab {H : Type} : DataW H := .agg [.lit (.int .u8 0), .lit (.int .u8 1), .lit (.int .u8 28), .lit (.int .u8 2), .lit (.int .u8 29), .lit (.int .u8 14), .lit (.int .u8 24), .lit (.int .u8 3), .lit (.int .u8 30), .lit (.int .u8 22), .lit (.int .u8 20), .lit (.int .u8 15), .lit (.int .u8 25), .lit (.int .u8 17), .lit (.int .u8 4), .lit (.int .u8 8), .lit (.int .u8 31), .lit (.int .u8 27), .lit (.int .u8 13), .lit (.int .u8 23), .lit (.int .u8 21), .lit (.int .u8 19), .lit (.int .u8 16), .lit (.int .u8 7), .lit (.int .u8 26), .lit (.int .u8 12), .lit (.int .u8 18), .lit (.int .u8 6), .lit (.int .u8 11), .lit (.int .u8 5), .lit (.int .u8 10), .lit (.int .u8 9)]

/-- 'gimballaw07.DyadNears': WHATEVER THE INPUT: true; the input reads as it did. -/
def dyadNearsSpec : ChangeSpec := { name := "dyadNears", fn := fun _ => fun
  | [d1, d2] => { results := [.lit (.bool true)], args := [d1, d2] }
  | _ => none }
def dyadNearsRow : OpenClaim := { program := "ytakegikedpcilaadoor", sum := "fae7b35709bcf8dd60b82db58b9c62d9f1a107b5199036259d1c6959b47cf6ec", func := "gimbal/gimballaw07.DyadNears", spec := "dyadNears", inPlace := ["math/bits.Add64"], unfollowed := true, recurses := true, named := ["math/bits.deBruijn32tab"], apart := false, laid := [("math/bits.deBruijn32tab", laid_math_bits_deBruijn32tab)] }
def DyadNearsSaid : Prop := dyadNearsRow.holds Tryd.pinned (OpenSpec.ofChange dyadNearsSpec)

/-- ITS FALSE NEIGHBOUR: 'it returns false'. Refute it at one input. -/
def dyadNearsWrong : ChangeSpec := { name := "dyadNears", fn := fun _ => fun
  | [d1, d2] => { results := [.lit (.bool false)], args := [d1, d2] }
  | _ => none }
def DyadNearsWrongFalsely : Prop := dyadNearsRow.holds Tryd.pinned (OpenSpec.ofChange dyadNearsWrong)

/-- 'gimballaw07.DyadSums': WHATEVER THE INPUT: true; the input reads as it did. -/
def dyadSumsSpec : ChangeSpec := { name := "dyadSums", fn := fun _ => fun
  | [d1, d2] => { results := [.lit (.bool true)], args := [d1, d2] }
  | _ => none }
def dyadSumsRow : OpenClaim := { program := "ytakegikedpcilaadoor", sum := "fae7b35709bcf8dd60b82db58b9c62d9f1a107b5199036259d1c6959b47cf6ec", func := "gimbal/gimballaw07.DyadSums", spec := "dyadSums", inPlace := ["math/bits.Add64"], unfollowed := true, recurses := true, named := ["math/bits.deBruijn32tab"], apart := false, laid := [("math/bits.deBruijn32tab", laid_math_bits_deBruijn32tab)] }
def DyadSumsSaid : Prop := dyadSumsRow.holds Tryd.pinned (OpenSpec.ofChange dyadSumsSpec)

/-- ITS FALSE NEIGHBOUR: 'it returns false'. Refute it at one input. -/
def dyadSumsWrong : ChangeSpec := { name := "dyadSums", fn := fun _ => fun
  | [d1, d2] => { results := [.lit (.bool false)], args := [d1, d2] }
  | _ => none }
def DyadSumsWrongFalsely : Prop := dyadSumsRow.holds Tryd.pinned (OpenSpec.ofChange dyadSumsWrong)

/-- 'gimballaw07.DyadInts': WHATEVER THE INPUT: true; the input reads as it did. -/
def dyadIntsSpec : ChangeSpec := { name := "dyadInts", fn := fun _ => fun
  | [d1, d2] => { results := [.lit (.bool true)], args := [d1, d2] }
  | _ => none }
def dyadIntsRow : OpenClaim := { program := "ytakegikedpcilaadoor", sum := "fae7b35709bcf8dd60b82db58b9c62d9f1a107b5199036259d1c6959b47cf6ec", func := "gimbal/gimballaw07.DyadInts", spec := "dyadInts", inPlace := ["math/bits.Add64"], unfollowed := true, recurses := true, named := ["math/bits.deBruijn32tab"], apart := false, laid := [("math/bits.deBruijn32tab", laid_math_bits_deBruijn32tab)] }
def DyadIntsSaid : Prop := dyadIntsRow.holds Tryd.pinned (OpenSpec.ofChange dyadIntsSpec)

/-- ITS FALSE NEIGHBOUR: 'it returns false'. Refute it at one input. -/
def dyadIntsWrong : ChangeSpec := { name := "dyadInts", fn := fun _ => fun
  | [d1, d2] => { results := [.lit (.bool false)], args := [d1, d2] }
  | _ => none }
def DyadIntsWrongFalsely : Prop := dyadIntsRow.holds Tryd.pinned (OpenSpec.ofChange dyadIntsWrong)

/-- 'gimballaw07.DyadLaws': WHATEVER THE INPUT: true; the input reads as it did. -/
def dyadLawsSpec : ChangeSpec := { name := "dyadLaws", fn := fun _ => fun
  | [d1, d2, d3] => { results := [.lit (.bool true)], args := [d1, d2, d3] }
  | _ => none }
def dyadLawsRow : OpenClaim := { program := "ytakegikedpcilaadoor", sum := "fae7b35709bcf8dd60b82db58b9c62d9f1a107b5199036259d1c6959b47cf6ec", func := "gimbal/gimballaw07.DyadLaws", spec := "dyadLaws", inPlace := ["math/bits.Add64"], unfollowed := true, recurses := true, named := ["math/bits.deBruijn32tab"], apart := false, laid := [("math/bits.deBruijn32tab", laid_math_bits_deBruijn32tab)] }
def DyadLawsSaid : Prop := dyadLawsRow.holds Tryd.pinned (OpenSpec.ofChange dyadLawsSpec)

/-- ITS FALSE NEIGHBOUR: 'it returns false'. Refute it at one input. -/
def dyadLawsWrong : ChangeSpec := { name := "dyadLaws", fn := fun _ => fun
  | [d1, d2, d3] => { results := [.lit (.bool false)], args := [d1, d2, d3] }
  | _ => none }
def DyadLawsWrongFalsely : Prop := dyadLawsRow.holds Tryd.pinned (OpenSpec.ofChange dyadLawsWrong)

/- THE SECOND FORM. 'bulk': how many values and letters a reading holds, each counted each time it is reached (what is shared counts as often as it is met; a slice's spare places count too). A statement '..UptoSaid' is the law's where the arguments, and the package variables that the reading takes, are together of bulk at most 1048576: NARROWER than '..Said'. Prove '..Said' where nothing that the law and all that it calls make is longer than what came in: it says more and counts as full. Else prove '..UptoSaid'. A law counts once. -/
mutual
def uptoBulk {H : Type} : DataW H → Nat
  | .lit (.string bytes) => bytes.length + 1
  | .lit _ => 1
  | .nil => 1
  | .ptr d => uptoBulk d + 1
  | .slice elems spare => uptoBulkAll elems + uptoBulkAll spare + 1
  | .agg parts => uptoBulkAll parts + 1
  | .iface _ d => uptoBulk d + 1
  | .map entries => uptoBulkEntries entries + 1
  | .held _ => 1
def uptoBulkAll {H : Type} : List (DataW H) → Nat
  | [] => 0
  | d :: r => uptoBulk d + uptoBulkAll r
def uptoBulkEntries {H : Type} : List (Lit × DataW H) → Nat
  | [] => 0
  | x :: r => uptoBulkEntry x + uptoBulkEntries r
def uptoBulkEntry {H : Type} : Lit × DataW H → Nat
  | (.string bytes, d) => bytes.length + uptoBulk d + 1
  | (_, d) => uptoBulk d + 1
 end
def uptoSmall : (H : Type) → List (DataW H) → Bool := fun _ ds => decide (uptoBulkAll ds ≤ 1048576)
def OpenSpec.upto (s : _root_.Go.ChangeSpec) : _root_.Go.OpenSpec := { _root_.Go.OpenSpec.ofChange s with cond := some uptoSmall }

/-- 'gimballaw07.DyadNears', WHERE WHAT IT READS IS OF BULK AT MOST 1048576: true; the input reads as it did. -/
def dyadNearsUptoRow : OpenClaim := { program := "ytakegikedpcilaadoor", sum := "fae7b35709bcf8dd60b82db58b9c62d9f1a107b5199036259d1c6959b47cf6ec", func := "gimbal/gimballaw07.DyadNears", spec := "dyadNears", inPlace := ["math/bits.Add64"], unfollowed := true, recurses := true, named := ["math/bits.deBruijn32tab"], apart := false, laid := [("math/bits.deBruijn32tab", laid_math_bits_deBruijn32tab)], narrowed := true }
def DyadNearsUptoSaid : Prop := dyadNearsUptoRow.holds Tryd.pinned (OpenSpec.upto dyadNearsSpec)

/-- 'gimballaw07.DyadSums', WHERE WHAT IT READS IS OF BULK AT MOST 1048576: true; the input reads as it did. -/
def dyadSumsUptoRow : OpenClaim := { program := "ytakegikedpcilaadoor", sum := "fae7b35709bcf8dd60b82db58b9c62d9f1a107b5199036259d1c6959b47cf6ec", func := "gimbal/gimballaw07.DyadSums", spec := "dyadSums", inPlace := ["math/bits.Add64"], unfollowed := true, recurses := true, named := ["math/bits.deBruijn32tab"], apart := false, laid := [("math/bits.deBruijn32tab", laid_math_bits_deBruijn32tab)], narrowed := true }
def DyadSumsUptoSaid : Prop := dyadSumsUptoRow.holds Tryd.pinned (OpenSpec.upto dyadSumsSpec)

/-- 'gimballaw07.DyadInts', WHERE WHAT IT READS IS OF BULK AT MOST 1048576: true; the input reads as it did. -/
def dyadIntsUptoRow : OpenClaim := { program := "ytakegikedpcilaadoor", sum := "fae7b35709bcf8dd60b82db58b9c62d9f1a107b5199036259d1c6959b47cf6ec", func := "gimbal/gimballaw07.DyadInts", spec := "dyadInts", inPlace := ["math/bits.Add64"], unfollowed := true, recurses := true, named := ["math/bits.deBruijn32tab"], apart := false, laid := [("math/bits.deBruijn32tab", laid_math_bits_deBruijn32tab)], narrowed := true }
def DyadIntsUptoSaid : Prop := dyadIntsUptoRow.holds Tryd.pinned (OpenSpec.upto dyadIntsSpec)

/-- 'gimballaw07.DyadLaws', WHERE WHAT IT READS IS OF BULK AT MOST 1048576: true; the input reads as it did. -/
def dyadLawsUptoRow : OpenClaim := { program := "ytakegikedpcilaadoor", sum := "fae7b35709bcf8dd60b82db58b9c62d9f1a107b5199036259d1c6959b47cf6ec", func := "gimbal/gimballaw07.DyadLaws", spec := "dyadLaws", inPlace := ["math/bits.Add64"], unfollowed := true, recurses := true, named := ["math/bits.deBruijn32tab"], apart := false, laid := [("math/bits.deBruijn32tab", laid_math_bits_deBruijn32tab)], narrowed := true }
def DyadLawsUptoSaid : Prop := dyadLawsUptoRow.holds Tryd.pinned (OpenSpec.upto dyadLawsSpec)

end Rows
end Go.Proofs.YtakegikedpcilaaDoor
