/-
  DERIVED. GIVEN WITH THE SEED: THE CARDS: each row of YtikebaljjclbnaaDoorRows.lean that lists a variable, with what it lists TIED to the program's text (the seventh form; the later family's looks); each row that meets fmt, with fmt's text TOLD by the authors' own Lean function (tested against real Go, not proved from fmt's source: count such statements apart). THE CARD IS WHAT COUNTS. Prove the row's statement (the work); the ties are given (YtikebaljjclbnaaDoorTie.lean); close each card by the builder's one call (the guide's Derived/Test/ToyasCard.lean, 'card_holds'). Laid BY PROGRAM, IN A SANDBOX (cutbox-door.mjs). By AI agents, Wed Nov 11 2026. No macro, syntax, notation, axiom, sorry.
-/
import Derived.Test.YtikebaljjclbnaaDoorRows
import GoSem.ClaimSeven
namespace Go.Proofs.YtikebaljjclbnaaDoor
namespace Rows

/-- THE TIED CARD OF 'gimballaw12.SolvePivots'. -/
def solvePivotsCard : Claim7 := { stood := { row := solvePivotsRow, standIns := [], harness := (true, "7c16415dc89127ac6af057de939910f8413f712bb7766c68bf46bbefd1747986"), looks := false }, kinds := [], alts := [], laidByText := true, laidKinds := [.data], laidTests := true, laidLooks := .later }
def SolvePivotsCardSaid : Prop := Claim7.holds Tryd.pinned (.plain (OpenSpec.ofChange solvePivotsSpec)) solvePivotsCard

/-- THE SECOND FORM's CARD OF 'gimballaw12.SolvePivots'. -/
def solvePivotsUptoCard : Claim7 := { stood := { row := solvePivotsUptoRow, standIns := [], harness := (true, "7c16415dc89127ac6af057de939910f8413f712bb7766c68bf46bbefd1747986"), looks := false }, kinds := [], alts := [], laidByText := true, laidKinds := [.data], laidTests := true, laidLooks := .later }
def SolvePivotsUptoCardSaid : Prop := Claim7.holds Tryd.pinned (.plain (OpenSpec.upto solvePivotsSpec)) solvePivotsUptoCard
end Rows
end Go.Proofs.YtikebaljjclbnaaDoor
