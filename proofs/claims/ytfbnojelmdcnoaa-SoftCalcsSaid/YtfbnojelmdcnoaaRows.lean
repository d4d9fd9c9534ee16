/-
  No cell of these rows narrows 'for every input' (looked for: loops, veiled, ifaces, maps, wideKeys, modest, calm, conditions, laid).
  DERIVED. THE GIVEN ROWS OF THIS SEAT. 8 by the template 'for every input the law returns true; each argument reads behind the call as it read before'; 0 by the template 'total and deterministic' (their statements: YtfbnojelmdcnoaaTotals.lean).
  GIVEN WITH THE SEED: the statements are not yours to turn. If you find one false, say at which input.
  Laid BY PROGRAM, IN A SANDBOX (cutbox-rows.mjs): the forced cells as the released guide's own fill.sh prints them over the translation f81aafcb5dfde5fd… (all of the seat's roots in one cut). By AI agents, Wed Nov 11 2026. No macro, syntax, notation, axiom, sorry.
-/
import Derived.Test.YtfbnojelmdcnoaaChecked
import GoSem.Claim
import GoSem.ClaimJoined
import GoSem.ClaimMapViews
import Derived.JoinedTies
import Derived.KernelRfl
namespace Go.Proofs.Ytfbnojelmdcnoaa
/- THE CELL 'sum', in the pinned program and in every row, IS THE sha256 OF THE DUMP (.gsa) THAT YtfbnojelmdcnoaaProg.lean LOADS. Nothing in Lean hashes anything: it is a label: what it is worth is what the hold of that sum in a sandbox is worth. -/
noncomputable def Try.pinned : Pinned := { name := "ytfbnojelmdcnoaa", sum := "f81aafcb5dfde5fdc501ffab61df40cbe974c5c9e10fb7a8ff0b39523d23f413", checked := Try.checked }
namespace Rows
def none {H : Type} : Left H := { results := [], args := [] }

/-- 'gimballaw04.SoftAdds': WHATEVER THE INPUT: true; the input reads as it did. -/
def softAddsSpec : ChangeSpec := { name := "softAdds", fn := fun _ => fun
  | [d1, d2] => { results := [.lit (.bool true)], args := [d1, d2] }
  | _ => none }
def softAddsRow : OpenClaim := { program := "ytfbnojelmdcnoaa", sum := "f81aafcb5dfde5fdc501ffab61df40cbe974c5c9e10fb7a8ff0b39523d23f413", func := "gimbal/gimballaw04.SoftAdds", spec := "softAdds", inPlace := ["math/bits.Add64", "math/bits.Sub64"], named := ["math/bits.divideError", "math/bits.overflowError"], apart := false }
def SoftAddsSaid : Prop := softAddsRow.holds Try.pinned (OpenSpec.ofChange softAddsSpec)

/-- ITS FALSE NEIGHBOUR: 'it returns false'. Refute it at one input. -/
def softAddsWrong : ChangeSpec := { name := "softAdds", fn := fun _ => fun
  | [d1, d2] => { results := [.lit (.bool false)], args := [d1, d2] }
  | _ => none }
def SoftAddsWrongFalsely : Prop := softAddsRow.holds Try.pinned (OpenSpec.ofChange softAddsWrong)

/-- 'gimballaw04.SoftSubs': WHATEVER THE INPUT: true; the input reads as it did. -/
def softSubsSpec : ChangeSpec := { name := "softSubs", fn := fun _ => fun
  | [d1, d2] => { results := [.lit (.bool true)], args := [d1, d2] }
  | _ => none }
def softSubsRow : OpenClaim := { program := "ytfbnojelmdcnoaa", sum := "f81aafcb5dfde5fdc501ffab61df40cbe974c5c9e10fb7a8ff0b39523d23f413", func := "gimbal/gimballaw04.SoftSubs", spec := "softSubs", inPlace := ["math/bits.Add64", "math/bits.Sub64"], named := ["math/bits.divideError", "math/bits.overflowError"], apart := false }
def SoftSubsSaid : Prop := softSubsRow.holds Try.pinned (OpenSpec.ofChange softSubsSpec)

/-- ITS FALSE NEIGHBOUR: 'it returns false'. Refute it at one input. -/
def softSubsWrong : ChangeSpec := { name := "softSubs", fn := fun _ => fun
  | [d1, d2] => { results := [.lit (.bool false)], args := [d1, d2] }
  | _ => none }
def SoftSubsWrongFalsely : Prop := softSubsRow.holds Try.pinned (OpenSpec.ofChange softSubsWrong)

/-- 'gimballaw04.SoftDivs': WHATEVER THE INPUT: true; the input reads as it did. -/
def softDivsSpec : ChangeSpec := { name := "softDivs", fn := fun _ => fun
  | [d1, d2] => { results := [.lit (.bool true)], args := [d1, d2] }
  | _ => none }
def softDivsRow : OpenClaim := { program := "ytfbnojelmdcnoaa", sum := "f81aafcb5dfde5fdc501ffab61df40cbe974c5c9e10fb7a8ff0b39523d23f413", func := "gimbal/gimballaw04.SoftDivs", spec := "softDivs", inPlace := ["math/bits.Add64", "math/bits.Sub64"], named := ["math/bits.divideError", "math/bits.overflowError"], apart := false }
def SoftDivsSaid : Prop := softDivsRow.holds Try.pinned (OpenSpec.ofChange softDivsSpec)

/-- ITS FALSE NEIGHBOUR: 'it returns false'. Refute it at one input. -/
def softDivsWrong : ChangeSpec := { name := "softDivs", fn := fun _ => fun
  | [d1, d2] => { results := [.lit (.bool false)], args := [d1, d2] }
  | _ => none }
def SoftDivsWrongFalsely : Prop := softDivsRow.holds Try.pinned (OpenSpec.ofChange softDivsWrong)

/-- 'gimballaw04.SoftExact': WHATEVER THE INPUT: true; the input reads as it did. -/
def softExactSpec : ChangeSpec := { name := "softExact", fn := fun _ => fun
  | [d1, d2] => { results := [.lit (.bool true)], args := [d1, d2] }
  | _ => none }
def softExactRow : OpenClaim := { program := "ytfbnojelmdcnoaa", sum := "f81aafcb5dfde5fdc501ffab61df40cbe974c5c9e10fb7a8ff0b39523d23f413", func := "gimbal/gimballaw04.SoftExact", spec := "softExact", inPlace := ["math/bits.Add64", "math/bits.Sub64"], named := ["math/bits.divideError", "math/bits.overflowError"], apart := false }
def SoftExactSaid : Prop := softExactRow.holds Try.pinned (OpenSpec.ofChange softExactSpec)

/-- ITS FALSE NEIGHBOUR: 'it returns false'. Refute it at one input. -/
def softExactWrong : ChangeSpec := { name := "softExact", fn := fun _ => fun
  | [d1, d2] => { results := [.lit (.bool false)], args := [d1, d2] }
  | _ => none }
def SoftExactWrongFalsely : Prop := softExactRow.holds Try.pinned (OpenSpec.ofChange softExactWrong)

/-- 'gimballaw04.SoftMuls': WHATEVER THE INPUT: true; the input reads as it did. -/
def softMulsSpec : ChangeSpec := { name := "softMuls", fn := fun _ => fun
  | [d1, d2] => { results := [.lit (.bool true)], args := [d1, d2] }
  | _ => none }
def softMulsRow : OpenClaim := { program := "ytfbnojelmdcnoaa", sum := "f81aafcb5dfde5fdc501ffab61df40cbe974c5c9e10fb7a8ff0b39523d23f413", func := "gimbal/gimballaw04.SoftMuls", spec := "softMuls", inPlace := ["math/bits.Add64", "math/bits.Sub64"], named := ["math/bits.divideError", "math/bits.overflowError"], apart := false }
def SoftMulsSaid : Prop := softMulsRow.holds Try.pinned (OpenSpec.ofChange softMulsSpec)

/-- ITS FALSE NEIGHBOUR: 'it returns false'. Refute it at one input. -/
def softMulsWrong : ChangeSpec := { name := "softMuls", fn := fun _ => fun
  | [d1, d2] => { results := [.lit (.bool false)], args := [d1, d2] }
  | _ => none }
def SoftMulsWrongFalsely : Prop := softMulsRow.holds Try.pinned (OpenSpec.ofChange softMulsWrong)

/-- 'gimballaw04.SoftLaws': WHATEVER THE INPUT: true; the input reads as it did. -/
def softLawsSpec : ChangeSpec := { name := "softLaws", fn := fun _ => fun
  | [d1, d2] => { results := [.lit (.bool true)], args := [d1, d2] }
  | _ => none }
def softLawsRow : OpenClaim := { program := "ytfbnojelmdcnoaa", sum := "f81aafcb5dfde5fdc501ffab61df40cbe974c5c9e10fb7a8ff0b39523d23f413", func := "gimbal/gimballaw04.SoftLaws", spec := "softLaws", inPlace := ["math/bits.Add64", "math/bits.Sub64"], named := ["math/bits.divideError", "math/bits.overflowError"], apart := false }
def SoftLawsSaid : Prop := softLawsRow.holds Try.pinned (OpenSpec.ofChange softLawsSpec)

/-- ITS FALSE NEIGHBOUR: 'it returns false'. Refute it at one input. -/
def softLawsWrong : ChangeSpec := { name := "softLaws", fn := fun _ => fun
  | [d1, d2] => { results := [.lit (.bool false)], args := [d1, d2] }
  | _ => none }
def SoftLawsWrongFalsely : Prop := softLawsRow.holds Try.pinned (OpenSpec.ofChange softLawsWrong)

/-- 'gimballaw04.SoftOrder': WHATEVER THE INPUT: true; the input reads as it did. -/
def softOrderSpec : ChangeSpec := { name := "softOrder", fn := fun _ => fun
  | [d1, d2, d3] => { results := [.lit (.bool true)], args := [d1, d2, d3] }
  | _ => none }
def softOrderRow : OpenClaim := { program := "ytfbnojelmdcnoaa", sum := "f81aafcb5dfde5fdc501ffab61df40cbe974c5c9e10fb7a8ff0b39523d23f413", func := "gimbal/gimballaw04.SoftOrder", spec := "softOrder", inPlace := ["math/bits.Add64", "math/bits.Sub64"], unfollowed := true, recurses := true, named := ["math/bits.divideError", "math/bits.overflowError"], apart := false }
def SoftOrderSaid : Prop := softOrderRow.holds Try.pinned (OpenSpec.ofChange softOrderSpec)

/-- ITS FALSE NEIGHBOUR: 'it returns false'. Refute it at one input. -/
def softOrderWrong : ChangeSpec := { name := "softOrder", fn := fun _ => fun
  | [d1, d2, d3] => { results := [.lit (.bool false)], args := [d1, d2, d3] }
  | _ => none }
def SoftOrderWrongFalsely : Prop := softOrderRow.holds Try.pinned (OpenSpec.ofChange softOrderWrong)

/-- 'gimballaw04.SoftCalcs': WHATEVER THE INPUT: true; the input reads as it did. -/
def softCalcsSpec : ChangeSpec := { name := "softCalcs", fn := fun _ => fun
  | [d1, d2] => { results := [.lit (.bool true)], args := [d1, d2] }
  | _ => none }
def softCalcsRow : OpenClaim := { program := "ytfbnojelmdcnoaa", sum := "f81aafcb5dfde5fdc501ffab61df40cbe974c5c9e10fb7a8ff0b39523d23f413", func := "gimbal/gimballaw04.SoftCalcs", spec := "softCalcs", inPlace := ["math/bits.Add64", "math/bits.Sub64"], named := ["math/bits.divideError", "math/bits.overflowError"], apart := false }
def SoftCalcsSaid : Prop := softCalcsRow.holds Try.pinned (OpenSpec.ofChange softCalcsSpec)

/-- ITS FALSE NEIGHBOUR: 'it returns false'. Refute it at one input. -/
def softCalcsWrong : ChangeSpec := { name := "softCalcs", fn := fun _ => fun
  | [d1, d2] => { results := [.lit (.bool false)], args := [d1, d2] }
  | _ => none }
def SoftCalcsWrongFalsely : Prop := softCalcsRow.holds Try.pinned (OpenSpec.ofChange softCalcsWrong)

/- THE SECOND FORM. 'bulk': how many values and letters a reading holds, each counted each time it is reached (what is shared counts as often as it is met; a slice's spare places count too). A statement '..UptoSaid' is the law's where the arguments, and the package variables that the reading takes, are together of bulk at most 1048576: NARROWER than '..Said'. Prove '..Said' where nothing that the law and all that it calls make is longer than what came in: it says more and counts as full. Else prove '..UptoSaid'. A law counts once. -/
mutual
def uptoBulk {H : Type} : DataW H → Nat
  | .lit (.string bytes) => bytes.length + 1
  | .lit _ => 1
  | .nil => 1
  | .ptr d => uptoBulk d + 1
  | .slice elems spare => uptoBulkAll elems + uptoBulkAll spare + 1
  | .agg parts => uptoBulkAll parts + 1
  | .iface _ d => uptoBulk d + 1
  | .map entries => uptoBulkEntries entries + 1
  | .held _ => 1
def uptoBulkAll {H : Type} : List (DataW H) → Nat
  | [] => 0
  | d :: r => uptoBulk d + uptoBulkAll r
def uptoBulkEntries {H : Type} : List (Lit × DataW H) → Nat
  | [] => 0
  | x :: r => uptoBulkEntry x + uptoBulkEntries r
def uptoBulkEntry {H : Type} : Lit × DataW H → Nat
  | (.string bytes, d) => bytes.length + uptoBulk d + 1
  | (_, d) => uptoBulk d + 1
 end
def uptoSmall : (H : Type) → List (DataW H) → Bool := fun _ ds => decide (uptoBulkAll ds ≤ 1048576)
def OpenSpec.upto (s : _root_.Go.ChangeSpec) : _root_.Go.OpenSpec := { _root_.Go.OpenSpec.ofChange s with cond := some uptoSmall }

/-- 'gimballaw04.SoftAdds', WHERE WHAT IT READS IS OF BULK AT MOST 1048576: true; the input reads as it did. -/
def softAddsUptoRow : OpenClaim := { program := "ytfbnojelmdcnoaa", sum := "f81aafcb5dfde5fdc501ffab61df40cbe974c5c9e10fb7a8ff0b39523d23f413", func := "gimbal/gimballaw04.SoftAdds", spec := "softAdds", inPlace := ["math/bits.Add64", "math/bits.Sub64"], named := ["math/bits.divideError", "math/bits.overflowError"], apart := false, narrowed := true }
def SoftAddsUptoSaid : Prop := softAddsUptoRow.holds Try.pinned (OpenSpec.upto softAddsSpec)

/-- 'gimballaw04.SoftSubs', WHERE WHAT IT READS IS OF BULK AT MOST 1048576: true; the input reads as it did. -/
def softSubsUptoRow : OpenClaim := { program := "ytfbnojelmdcnoaa", sum := "f81aafcb5dfde5fdc501ffab61df40cbe974c5c9e10fb7a8ff0b39523d23f413", func := "gimbal/gimballaw04.SoftSubs", spec := "softSubs", inPlace := ["math/bits.Add64", "math/bits.Sub64"], named := ["math/bits.divideError", "math/bits.overflowError"], apart := false, narrowed := true }
def SoftSubsUptoSaid : Prop := softSubsUptoRow.holds Try.pinned (OpenSpec.upto softSubsSpec)

/-- 'gimballaw04.SoftDivs', WHERE WHAT IT READS IS OF BULK AT MOST 1048576: true; the input reads as it did. -/
def softDivsUptoRow : OpenClaim := { program := "ytfbnojelmdcnoaa", sum := "f81aafcb5dfde5fdc501ffab61df40cbe974c5c9e10fb7a8ff0b39523d23f413", func := "gimbal/gimballaw04.SoftDivs", spec := "softDivs", inPlace := ["math/bits.Add64", "math/bits.Sub64"], named := ["math/bits.divideError", "math/bits.overflowError"], apart := false, narrowed := true }
def SoftDivsUptoSaid : Prop := softDivsUptoRow.holds Try.pinned (OpenSpec.upto softDivsSpec)

/-- 'gimballaw04.SoftExact', WHERE WHAT IT READS IS OF BULK AT MOST 1048576: true; the input reads as it did. -/
def softExactUptoRow : OpenClaim := { program := "ytfbnojelmdcnoaa", sum := "f81aafcb5dfde5fdc501ffab61df40cbe974c5c9e10fb7a8ff0b39523d23f413", func := "gimbal/gimballaw04.SoftExact", spec := "softExact", inPlace := ["math/bits.Add64", "math/bits.Sub64"], named := ["math/bits.divideError", "math/bits.overflowError"], apart := false, narrowed := true }
def SoftExactUptoSaid : Prop := softExactUptoRow.holds Try.pinned (OpenSpec.upto softExactSpec)

/-- 'gimballaw04.SoftMuls', WHERE WHAT IT READS IS OF BULK AT MOST 1048576: true; the input reads as it did. -/
def softMulsUptoRow : OpenClaim := { program := "ytfbnojelmdcnoaa", sum := "f81aafcb5dfde5fdc501ffab61df40cbe974c5c9e10fb7a8ff0b39523d23f413", func := "gimbal/gimballaw04.SoftMuls", spec := "softMuls", inPlace := ["math/bits.Add64", "math/bits.Sub64"], named := ["math/bits.divideError", "math/bits.overflowError"], apart := false, narrowed := true }
def SoftMulsUptoSaid : Prop := softMulsUptoRow.holds Try.pinned (OpenSpec.upto softMulsSpec)

/-- 'gimballaw04.SoftLaws', WHERE WHAT IT READS IS OF BULK AT MOST 1048576: true; the input reads as it did. -/
def softLawsUptoRow : OpenClaim := { program := "ytfbnojelmdcnoaa", sum := "f81aafcb5dfde5fdc501ffab61df40cbe974c5c9e10fb7a8ff0b39523d23f413", func := "gimbal/gimballaw04.SoftLaws", spec := "softLaws", inPlace := ["math/bits.Add64", "math/bits.Sub64"], named := ["math/bits.divideError", "math/bits.overflowError"], apart := false, narrowed := true }
def SoftLawsUptoSaid : Prop := softLawsUptoRow.holds Try.pinned (OpenSpec.upto softLawsSpec)

/-- 'gimballaw04.SoftOrder', WHERE WHAT IT READS IS OF BULK AT MOST 1048576: true; the input reads as it did. -/
def softOrderUptoRow : OpenClaim := { program := "ytfbnojelmdcnoaa", sum := "f81aafcb5dfde5fdc501ffab61df40cbe974c5c9e10fb7a8ff0b39523d23f413", func := "gimbal/gimballaw04.SoftOrder", spec := "softOrder", inPlace := ["math/bits.Add64", "math/bits.Sub64"], unfollowed := true, recurses := true, named := ["math/bits.divideError", "math/bits.overflowError"], apart := false, narrowed := true }
def SoftOrderUptoSaid : Prop := softOrderUptoRow.holds Try.pinned (OpenSpec.upto softOrderSpec)

/-- 'gimballaw04.SoftCalcs', WHERE WHAT IT READS IS OF BULK AT MOST 1048576: true; the input reads as it did. -/
def softCalcsUptoRow : OpenClaim := { program := "ytfbnojelmdcnoaa", sum := "f81aafcb5dfde5fdc501ffab61df40cbe974c5c9e10fb7a8ff0b39523d23f413", func := "gimbal/gimballaw04.SoftCalcs", spec := "softCalcs", inPlace := ["math/bits.Add64", "math/bits.Sub64"], named := ["math/bits.divideError", "math/bits.overflowError"], apart := false, narrowed := true }
def SoftCalcsUptoSaid : Prop := softCalcsUptoRow.holds Try.pinned (OpenSpec.upto softCalcsSpec)

end Rows
end Go.Proofs.Ytfbnojelmdcnoaa
