/-
  DERIVED. GIVEN WITH THE SEED: THE CARDS: each row of YtgmikbdmfggnhaaDoorRows.lean that lists a variable, with what it lists TIED to the program's text (the seventh form; the later family's looks); each row that meets fmt, with fmt's text TOLD by the authors' own Lean function (tested against real Go, not proved from fmt's source: count such statements apart). THE CARD IS WHAT COUNTS. Prove the row's statement (the work); the ties are given (YtgmikbdmfggnhaaDoorTie.lean); close each card by the builder's one call (the guide's Derived/Test/ToyasCard.lean, 'card_holds'). Laid BY PROGRAM, IN A SANDBOX (cutbox-door.mjs). By AI agents, Wed Nov 11 2026. No macro, syntax, notation, axiom, sorry.
-/
import Derived.Test.YtgmikbdmfggnhaaDoorRows
import GoSem.ClaimSeven
namespace Go.Proofs.YtgmikbdmfggnhaaDoor
namespace Rows

/-- THE TIED CARD OF 'gimballaw15.BlockValues'. -/
def blockValuesCard : Claim7 := { stood := { row := blockValuesRow, standIns := [], harness := (true, "fa6ddcbb03c395f1d994a1596328db851b4616b80bae51f3324a391136236517"), looks := false }, kinds := [], alts := [], laidByText := true, laidKinds := [.data], laidTests := true, laidLooks := .later }
def BlockValuesCardSaid : Prop := Claim7.holds Tryd.pinned (.plain (OpenSpec.ofChange blockValuesSpec)) blockValuesCard

/-- THE TIED CARD OF 'gimballaw15.BlockKinds'. -/
def blockKindsCard : Claim7 := { stood := { row := blockKindsRow, standIns := [], harness := (true, "fa6ddcbb03c395f1d994a1596328db851b4616b80bae51f3324a391136236517"), looks := false }, kinds := [], alts := [], laidByText := true, laidKinds := [.data], laidTests := true, laidLooks := .later }
def BlockKindsCardSaid : Prop := Claim7.holds Tryd.pinned (.plain (OpenSpec.ofChange blockKindsSpec)) blockKindsCard

/-- THE TIED CARD OF 'gimballaw15.BlockStandards'. -/
def blockStandardsCard : Claim7 := { stood := { row := blockStandardsRow, standIns := [], harness := (true, "fa6ddcbb03c395f1d994a1596328db851b4616b80bae51f3324a391136236517"), looks := false }, kinds := [], alts := [], laidByText := true, laidKinds := [.data], laidTests := true, laidLooks := .later }
def BlockStandardsCardSaid : Prop := Claim7.holds Tryd.pinned (.plain (OpenSpec.ofChange blockStandardsSpec)) blockStandardsCard

/-- THE TIED CARD OF 'gimballaw15.BlockSums'. -/
def blockSumsCard : Claim7 := { stood := { row := blockSumsRow, standIns := [], harness := (true, "fa6ddcbb03c395f1d994a1596328db851b4616b80bae51f3324a391136236517"), looks := false }, kinds := [], alts := [], laidByText := true, laidKinds := [.data], laidTests := true, laidLooks := .later }
def BlockSumsCardSaid : Prop := Claim7.holds Tryd.pinned (.plain (OpenSpec.ofChange blockSumsSpec)) blockSumsCard

/-- THE SECOND FORM's CARD OF 'gimballaw15.BlockValues'. -/
def blockValuesUptoCard : Claim7 := { stood := { row := blockValuesUptoRow, standIns := [], harness := (true, "fa6ddcbb03c395f1d994a1596328db851b4616b80bae51f3324a391136236517"), looks := false }, kinds := [], alts := [], laidByText := true, laidKinds := [.data], laidTests := true, laidLooks := .later }
def BlockValuesUptoCardSaid : Prop := Claim7.holds Tryd.pinned (.plain (OpenSpec.upto blockValuesSpec)) blockValuesUptoCard

/-- THE SECOND FORM's CARD OF 'gimballaw15.BlockKinds'. -/
def blockKindsUptoCard : Claim7 := { stood := { row := blockKindsUptoRow, standIns := [], harness := (true, "fa6ddcbb03c395f1d994a1596328db851b4616b80bae51f3324a391136236517"), looks := false }, kinds := [], alts := [], laidByText := true, laidKinds := [.data], laidTests := true, laidLooks := .later }
def BlockKindsUptoCardSaid : Prop := Claim7.holds Tryd.pinned (.plain (OpenSpec.upto blockKindsSpec)) blockKindsUptoCard

/-- THE SECOND FORM's CARD OF 'gimballaw15.BlockStandards'. -/
def blockStandardsUptoCard : Claim7 := { stood := { row := blockStandardsUptoRow, standIns := [], harness := (true, "fa6ddcbb03c395f1d994a1596328db851b4616b80bae51f3324a391136236517"), looks := false }, kinds := [], alts := [], laidByText := true, laidKinds := [.data], laidTests := true, laidLooks := .later }
def BlockStandardsUptoCardSaid : Prop := Claim7.holds Tryd.pinned (.plain (OpenSpec.upto blockStandardsSpec)) blockStandardsUptoCard

/-- THE SECOND FORM's CARD OF 'gimballaw15.BlockSums'. -/
def blockSumsUptoCard : Claim7 := { stood := { row := blockSumsUptoRow, standIns := [], harness := (true, "fa6ddcbb03c395f1d994a1596328db851b4616b80bae51f3324a391136236517"), looks := false }, kinds := [], alts := [], laidByText := true, laidKinds := [.data], laidTests := true, laidLooks := .later }
def BlockSumsUptoCardSaid : Prop := Claim7.holds Tryd.pinned (.plain (OpenSpec.upto blockSumsSpec)) blockSumsUptoCard
end Rows
end Go.Proofs.YtgmikbdmfggnhaaDoor
