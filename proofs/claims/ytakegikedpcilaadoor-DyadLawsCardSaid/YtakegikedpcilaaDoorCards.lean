/-
  DERIVED. GIVEN WITH THE SEED: THE CARDS: each row of YtakegikedpcilaaDoorRows.lean that lists a variable, with what it lists TIED to the program's text (the seventh form; the later family's looks); each row that meets fmt, with fmt's text TOLD by the authors' own Lean function (tested against real Go, not proved from fmt's source: count such statements apart). THE CARD IS WHAT COUNTS. Prove the row's statement (the work); the ties are given (YtakegikedpcilaaDoorTie.lean); close each card by the builder's one call (the guide's Derived/Test/ToyasCard.lean, 'card_holds'). Laid BY PROGRAM, IN A SANDBOX (cutbox-door.mjs). By AI agents, Wed Nov 11 2026. No macro, syntax, notation, axiom, sorry.
-/
import Derived.Test.YtakegikedpcilaaDoorRows
import GoSem.ClaimSeven
namespace Go.Proofs.YtakegikedpcilaaDoor
namespace Rows

/-- THE TIED CARD OF 'gimballaw07.DyadNears'. -/
def dyadNearsCard : Claim7 := { stood := { row := dyadNearsRow, standIns := [], harness := (true, "69bffa0044f617eb04f83a7174f0b807afa01a9e556f8a01350f3f7f01098298"), looks := false }, kinds := [], alts := [], laidByText := true, laidKinds := [.data], laidTests := true, laidLooks := .later }
def DyadNearsCardSaid : Prop := Claim7.holds Tryd.pinned (.plain (OpenSpec.ofChange dyadNearsSpec)) dyadNearsCard

/-- THE TIED CARD OF 'gimballaw07.DyadSums'. -/
def dyadSumsCard : Claim7 := { stood := { row := dyadSumsRow, standIns := [], harness := (true, "69bffa0044f617eb04f83a7174f0b807afa01a9e556f8a01350f3f7f01098298"), looks := false }, kinds := [], alts := [], laidByText := true, laidKinds := [.data], laidTests := true, laidLooks := .later }
def DyadSumsCardSaid : Prop := Claim7.holds Tryd.pinned (.plain (OpenSpec.ofChange dyadSumsSpec)) dyadSumsCard

/-- THE TIED CARD OF 'gimballaw07.DyadInts'. -/
def dyadIntsCard : Claim7 := { stood := { row := dyadIntsRow, standIns := [], harness := (true, "69bffa0044f617eb04f83a7174f0b807afa01a9e556f8a01350f3f7f01098298"), looks := false }, kinds := [], alts := [], laidByText := true, laidKinds := [.data], laidTests := true, laidLooks := .later }
def DyadIntsCardSaid : Prop := Claim7.holds Tryd.pinned (.plain (OpenSpec.ofChange dyadIntsSpec)) dyadIntsCard

/-- THE TIED CARD OF 'gimballaw07.DyadLaws'. -/
def dyadLawsCard : Claim7 := { stood := { row := dyadLawsRow, standIns := [], harness := (true, "69bffa0044f617eb04f83a7174f0b807afa01a9e556f8a01350f3f7f01098298"), looks := false }, kinds := [], alts := [], laidByText := true, laidKinds := [.data], laidTests := true, laidLooks := .later }
def DyadLawsCardSaid : Prop := Claim7.holds Tryd.pinned (.plain (OpenSpec.ofChange dyadLawsSpec)) dyadLawsCard

/-- THE SECOND FORM's CARD OF 'gimballaw07.DyadNears'. -/
def dyadNearsUptoCard : Claim7 := { stood := { row := dyadNearsUptoRow, standIns := [], harness := (true, "69bffa0044f617eb04f83a7174f0b807afa01a9e556f8a01350f3f7f01098298"), looks := false }, kinds := [], alts := [], laidByText := true, laidKinds := [.data], laidTests := true, laidLooks := .later }
def DyadNearsUptoCardSaid : Prop := Claim7.holds Tryd.pinned (.plain (OpenSpec.upto dyadNearsSpec)) dyadNearsUptoCard

/-- THE SECOND FORM's CARD OF 'gimballaw07.DyadSums'. -/
def dyadSumsUptoCard : Claim7 := { stood := { row := dyadSumsUptoRow, standIns := [], harness := (true, "69bffa0044f617eb04f83a7174f0b807afa01a9e556f8a01350f3f7f01098298"), looks := false }, kinds := [], alts := [], laidByText := true, laidKinds := [.data], laidTests := true, laidLooks := .later }
def DyadSumsUptoCardSaid : Prop := Claim7.holds Tryd.pinned (.plain (OpenSpec.upto dyadSumsSpec)) dyadSumsUptoCard

/-- THE SECOND FORM's CARD OF 'gimballaw07.DyadInts'. -/
def dyadIntsUptoCard : Claim7 := { stood := { row := dyadIntsUptoRow, standIns := [], harness := (true, "69bffa0044f617eb04f83a7174f0b807afa01a9e556f8a01350f3f7f01098298"), looks := false }, kinds := [], alts := [], laidByText := true, laidKinds := [.data], laidTests := true, laidLooks := .later }
def DyadIntsUptoCardSaid : Prop := Claim7.holds Tryd.pinned (.plain (OpenSpec.upto dyadIntsSpec)) dyadIntsUptoCard

/-- THE SECOND FORM's CARD OF 'gimballaw07.DyadLaws'. -/
def dyadLawsUptoCard : Claim7 := { stood := { row := dyadLawsUptoRow, standIns := [], harness := (true, "69bffa0044f617eb04f83a7174f0b807afa01a9e556f8a01350f3f7f01098298"), looks := false }, kinds := [], alts := [], laidByText := true, laidKinds := [.data], laidTests := true, laidLooks := .later }
def DyadLawsUptoCardSaid : Prop := Claim7.holds Tryd.pinned (.plain (OpenSpec.upto dyadLawsSpec)) dyadLawsUptoCard
end Rows
end Go.Proofs.YtakegikedpcilaaDoor
