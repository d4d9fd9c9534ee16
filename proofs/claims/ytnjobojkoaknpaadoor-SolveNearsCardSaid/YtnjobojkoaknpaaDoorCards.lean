/-
  DERIVED. GIVEN WITH THE SEED: THE CARDS: each row of YtnjobojkoaknpaaDoorRows.lean that lists a variable, with what it lists TIED to the program's text (the seventh form; the later family's looks); each row that meets fmt, with fmt's text TOLD by the authors' own Lean function (tested against real Go, not proved from fmt's source: count such statements apart). THE CARD IS WHAT COUNTS. Prove the row's statement (the work); the ties are given (YtnjobojkoaknpaaDoorTie.lean); close each card by the builder's one call (the guide's Derived/Test/ToyasCard.lean, 'card_holds'). Laid BY PROGRAM, IN A SANDBOX (cutbox-door.mjs). By AI agents, Wed Nov 11 2026. No macro, syntax, notation, axiom, sorry.
-/
import Derived.Test.YtnjobojkoaknpaaDoorRows
import GoSem.ClaimSeven
namespace Go.Proofs.YtnjobojkoaknpaaDoor
namespace Rows

/-- THE TIED CARD OF 'gimballaw12.SolveBack'. -/
def solveBackCard : Claim7 := { stood := { row := solveBackRow, standIns := [], harness := (true, "41b70855cea3a746330eeae3703a81d6cc5782cfe5e98f1d76867c0b342e461d"), looks := false }, kinds := [], alts := [], laidByText := true, laidKinds := [.data], laidTests := true, laidLooks := .later }
def SolveBackCardSaid : Prop := Claim7.holds Tryd.pinned (.plain (OpenSpec.ofChange solveBackSpec)) solveBackCard

/-- THE TIED CARD OF 'gimballaw12.SolveNears'. -/
def solveNearsCard : Claim7 := { stood := { row := solveNearsRow, standIns := [], harness := (true, "41b70855cea3a746330eeae3703a81d6cc5782cfe5e98f1d76867c0b342e461d"), looks := false }, kinds := [], alts := [], laidByText := true, laidKinds := [.data], laidTests := true, laidLooks := .later }
def SolveNearsCardSaid : Prop := Claim7.holds Tryd.pinned (.plain (OpenSpec.ofChange solveNearsSpec)) solveNearsCard

/-- THE TIED CARD OF 'gimballaw12.SolvePivots'. -/
def solvePivotsCard : Claim7 := { stood := { row := solvePivotsRow, standIns := [], harness := (true, "41b70855cea3a746330eeae3703a81d6cc5782cfe5e98f1d76867c0b342e461d"), looks := false }, kinds := [], alts := [], laidByText := true, laidKinds := [.data], laidTests := true, laidLooks := .later }
def SolvePivotsCardSaid : Prop := Claim7.holds Tryd.pinned (.plain (OpenSpec.ofChange solvePivotsSpec)) solvePivotsCard

/-- THE SECOND FORM's CARD OF 'gimballaw12.SolveBack'. -/
def solveBackUptoCard : Claim7 := { stood := { row := solveBackUptoRow, standIns := [], harness := (true, "41b70855cea3a746330eeae3703a81d6cc5782cfe5e98f1d76867c0b342e461d"), looks := false }, kinds := [], alts := [], laidByText := true, laidKinds := [.data], laidTests := true, laidLooks := .later }
def SolveBackUptoCardSaid : Prop := Claim7.holds Tryd.pinned (.plain (OpenSpec.upto solveBackSpec)) solveBackUptoCard

/-- THE SECOND FORM's CARD OF 'gimballaw12.SolveNears'. -/
def solveNearsUptoCard : Claim7 := { stood := { row := solveNearsUptoRow, standIns := [], harness := (true, "41b70855cea3a746330eeae3703a81d6cc5782cfe5e98f1d76867c0b342e461d"), looks := false }, kinds := [], alts := [], laidByText := true, laidKinds := [.data], laidTests := true, laidLooks := .later }
def SolveNearsUptoCardSaid : Prop := Claim7.holds Tryd.pinned (.plain (OpenSpec.upto solveNearsSpec)) solveNearsUptoCard

/-- THE SECOND FORM's CARD OF 'gimballaw12.SolvePivots'. -/
def solvePivotsUptoCard : Claim7 := { stood := { row := solvePivotsUptoRow, standIns := [], harness := (true, "41b70855cea3a746330eeae3703a81d6cc5782cfe5e98f1d76867c0b342e461d"), looks := false }, kinds := [], alts := [], laidByText := true, laidKinds := [.data], laidTests := true, laidLooks := .later }
def SolvePivotsUptoCardSaid : Prop := Claim7.holds Tryd.pinned (.plain (OpenSpec.upto solvePivotsSpec)) solvePivotsUptoCard
end Rows
end Go.Proofs.YtnjobojkoaknpaaDoor
