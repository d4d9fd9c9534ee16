/-
  DERIVED. GIVEN WITH THE SEED: THE CARDS: each row of YtejkoahgmnejkaaDoorRows.lean that lists a variable, with what it lists TIED to the program's text (the seventh form; the later family's looks); each row that meets fmt, with fmt's text TOLD by the authors' own Lean function (tested against real Go, not proved from fmt's source: count such statements apart). THE CARD IS WHAT COUNTS. Prove the row's statement (the work); the ties are given (YtejkoahgmnejkaaDoorTie.lean); close each card by the builder's one call (the guide's Derived/Test/ToyasCard.lean, 'card_holds'). Laid BY PROGRAM, IN A SANDBOX (cutbox-door.mjs). By AI agents, Wed Nov 11 2026. No macro, syntax, notation, axiom, sorry.
-/
import Derived.Test.YtejkoahgmnejkaaDoorRows
import GoSem.ClaimSeven
namespace Go.Proofs.YtejkoahgmnejkaaDoor
namespace Rows

/-- THE TIED CARD OF 'gimballaw21.SylvShapes'. -/
def sylvShapesCard : Claim7 := { stood := { row := sylvShapesRow, standIns := [], harness := (true, "1cc302f8a4db580f52408e59d77cf2bc9df164434db5d9dac9b542065e3bed29"), looks := false }, kinds := [], alts := [], laidByText := true, laidKinds := [.data], laidTests := true, laidLooks := .later }
def SylvShapesCardSaid : Prop := Claim7.holds Tryd.pinned (.plain (OpenSpec.ofChange sylvShapesSpec)) sylvShapesCard

/-- THE TIED CARD OF 'gimballaw21.SylvPower'. -/
def sylvPowerCard : Claim7 := { stood := { row := sylvPowerRow, standIns := [], harness := (true, "1cc302f8a4db580f52408e59d77cf2bc9df164434db5d9dac9b542065e3bed29"), looks := false }, kinds := [], alts := [], laidByText := true, laidKinds := [.data], laidTests := true, laidLooks := .later }
def SylvPowerCardSaid : Prop := Claim7.holds Tryd.pinned (.plain (OpenSpec.ofChange sylvPowerSpec)) sylvPowerCard

/-- THE SECOND FORM's CARD OF 'gimballaw21.SylvShapes'. -/
def sylvShapesUptoCard : Claim7 := { stood := { row := sylvShapesUptoRow, standIns := [], harness := (true, "1cc302f8a4db580f52408e59d77cf2bc9df164434db5d9dac9b542065e3bed29"), looks := false }, kinds := [], alts := [], laidByText := true, laidKinds := [.data], laidTests := true, laidLooks := .later }
def SylvShapesUptoCardSaid : Prop := Claim7.holds Tryd.pinned (.plain (OpenSpec.upto sylvShapesSpec)) sylvShapesUptoCard

/-- THE SECOND FORM's CARD OF 'gimballaw21.SylvPower'. -/
def sylvPowerUptoCard : Claim7 := { stood := { row := sylvPowerUptoRow, standIns := [], harness := (true, "1cc302f8a4db580f52408e59d77cf2bc9df164434db5d9dac9b542065e3bed29"), looks := false }, kinds := [], alts := [], laidByText := true, laidKinds := [.data], laidTests := true, laidLooks := .later }
def SylvPowerUptoCardSaid : Prop := Claim7.holds Tryd.pinned (.plain (OpenSpec.upto sylvPowerSpec)) sylvPowerUptoCard
end Rows
end Go.Proofs.YtejkoahgmnejkaaDoor
