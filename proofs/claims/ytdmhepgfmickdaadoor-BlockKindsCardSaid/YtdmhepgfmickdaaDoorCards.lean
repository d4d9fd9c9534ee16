/-
  DERIVED. GIVEN WITH THE SEED: THE CARDS: each row of YtdmhepgfmickdaaDoorRows.lean that lists a variable, with what it lists TIED to the program's text (the seventh form; the later family's looks); each row that meets fmt, with fmt's text TOLD by the authors' own Lean function (tested against real Go, not proved from fmt's source: count such statements apart). THE CARD IS WHAT COUNTS. Prove the row's statement (the work); the ties are given (YtdmhepgfmickdaaDoorTie.lean); close each card by the builder's one call (the guide's Derived/Test/ToyasCard.lean, 'card_holds'). Laid BY PROGRAM, IN A SANDBOX (cutbox-door.mjs). By AI agents, Wed Nov 11 2026. No macro, syntax, notation, axiom, sorry.
-/
import Derived.Test.YtdmhepgfmickdaaDoorRows
import GoSem.ClaimSeven
namespace Go.Proofs.YtdmhepgfmickdaaDoor
namespace Rows

/-- THE TIED CARD OF 'gimballaw15.BlockKinds'. -/
def blockKindsCard : Claim7 := { stood := { row := blockKindsRow, standIns := [], harness := (true, "9df85dac2e357c9e40476555e3cc5496a4f238fd5935ee12c956818283a7d50c"), looks := false }, kinds := [], alts := [], laidByText := true, laidKinds := [.data], laidTests := true, laidLooks := .later }
def BlockKindsCardSaid : Prop := Claim7.holds Tryd.pinned (.plain (OpenSpec.ofChange blockKindsSpec)) blockKindsCard

/-- THE TIED CARD OF 'gimballaw15.BlockStandards'. -/
def blockStandardsCard : Claim7 := { stood := { row := blockStandardsRow, standIns := [], harness := (true, "9df85dac2e357c9e40476555e3cc5496a4f238fd5935ee12c956818283a7d50c"), looks := false }, kinds := [], alts := [], laidByText := true, laidKinds := [.data], laidTests := true, laidLooks := .later }
def BlockStandardsCardSaid : Prop := Claim7.holds Tryd.pinned (.plain (OpenSpec.ofChange blockStandardsSpec)) blockStandardsCard

/-- THE TIED CARD OF 'gimballaw15.BlockSums'. -/
def blockSumsCard : Claim7 := { stood := { row := blockSumsRow, standIns := [], harness := (true, "9df85dac2e357c9e40476555e3cc5496a4f238fd5935ee12c956818283a7d50c"), looks := false }, kinds := [], alts := [], laidByText := true, laidKinds := [.data], laidTests := true, laidLooks := .later }
def BlockSumsCardSaid : Prop := Claim7.holds Tryd.pinned (.plain (OpenSpec.ofChange blockSumsSpec)) blockSumsCard

/-- THE SECOND FORM's CARD OF 'gimballaw15.BlockKinds'. -/
def blockKindsUptoCard : Claim7 := { stood := { row := blockKindsUptoRow, standIns := [], harness := (true, "9df85dac2e357c9e40476555e3cc5496a4f238fd5935ee12c956818283a7d50c"), looks := false }, kinds := [], alts := [], laidByText := true, laidKinds := [.data], laidTests := true, laidLooks := .later }
def BlockKindsUptoCardSaid : Prop := Claim7.holds Tryd.pinned (.plain (OpenSpec.upto blockKindsSpec)) blockKindsUptoCard

/-- THE SECOND FORM's CARD OF 'gimballaw15.BlockStandards'. -/
def blockStandardsUptoCard : Claim7 := { stood := { row := blockStandardsUptoRow, standIns := [], harness := (true, "9df85dac2e357c9e40476555e3cc5496a4f238fd5935ee12c956818283a7d50c"), looks := false }, kinds := [], alts := [], laidByText := true, laidKinds := [.data], laidTests := true, laidLooks := .later }
def BlockStandardsUptoCardSaid : Prop := Claim7.holds Tryd.pinned (.plain (OpenSpec.upto blockStandardsSpec)) blockStandardsUptoCard

/-- THE SECOND FORM's CARD OF 'gimballaw15.BlockSums'. -/
def blockSumsUptoCard : Claim7 := { stood := { row := blockSumsUptoRow, standIns := [], harness := (true, "9df85dac2e357c9e40476555e3cc5496a4f238fd5935ee12c956818283a7d50c"), looks := false }, kinds := [], alts := [], laidByText := true, laidKinds := [.data], laidTests := true, laidLooks := .later }
def BlockSumsUptoCardSaid : Prop := Claim7.holds Tryd.pinned (.plain (OpenSpec.upto blockSumsSpec)) blockSumsUptoCard
end Rows
end Go.Proofs.YtdmhepgfmickdaaDoor
