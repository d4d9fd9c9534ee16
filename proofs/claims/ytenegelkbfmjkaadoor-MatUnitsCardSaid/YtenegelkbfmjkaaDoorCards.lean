/-
  DERIVED. GIVEN WITH THE SEED: THE CARDS: each row of YtenegelkbfmjkaaDoorRows.lean that lists a variable, with what it lists TIED to the program's text (the seventh form; the later family's looks); each row that meets fmt, with fmt's text TOLD by the authors' own Lean function (tested against real Go, not proved from fmt's source: count such statements apart). THE CARD IS WHAT COUNTS. Prove the row's statement (the work); the ties are given (YtenegelkbfmjkaaDoorTie.lean); close each card by the builder's one call (the guide's Derived/Test/ToyasCard.lean, 'card_holds'). Laid BY PROGRAM, IN A SANDBOX (cutbox-door.mjs). By AI agents, Wed Nov 11 2026. No macro, syntax, notation, axiom, sorry.
-/
import Derived.Test.YtenegelkbfmjkaaDoorRows
import GoSem.ClaimSeven
namespace Go.Proofs.YtenegelkbfmjkaaDoor
namespace Rows

/-- THE TIED CARD OF 'gimballaw09.MatUnits'. -/
def matUnitsCard : Claim7 := { stood := { row := matUnitsRow, standIns := [], harness := (true, "55bcce1f6ee58b1786f78b4dee79c0f2076c990a76418a925903dc65adddf8b7"), looks := false }, kinds := [], alts := [], laidByText := true, laidKinds := [.data], laidTests := true, laidLooks := .later }
def MatUnitsCardSaid : Prop := Claim7.holds Tryd.pinned (.plain (OpenSpec.ofChange matUnitsSpec)) matUnitsCard

/-- THE TIED CARD OF 'gimballaw09.MatOnes'. -/
def matOnesCard : Claim7 := { stood := { row := matOnesRow, standIns := [], harness := (true, "55bcce1f6ee58b1786f78b4dee79c0f2076c990a76418a925903dc65adddf8b7"), looks := false }, kinds := [], alts := [], laidByText := true, laidKinds := [.data], laidTests := true, laidLooks := .later }
def MatOnesCardSaid : Prop := Claim7.holds Tryd.pinned (.plain (OpenSpec.ofChange matOnesSpec)) matOnesCard

/-- THE SECOND FORM's CARD OF 'gimballaw09.MatUnits'. -/
def matUnitsUptoCard : Claim7 := { stood := { row := matUnitsUptoRow, standIns := [], harness := (true, "55bcce1f6ee58b1786f78b4dee79c0f2076c990a76418a925903dc65adddf8b7"), looks := false }, kinds := [], alts := [], laidByText := true, laidKinds := [.data], laidTests := true, laidLooks := .later }
def MatUnitsUptoCardSaid : Prop := Claim7.holds Tryd.pinned (.plain (OpenSpec.upto matUnitsSpec)) matUnitsUptoCard

/-- THE SECOND FORM's CARD OF 'gimballaw09.MatOnes'. -/
def matOnesUptoCard : Claim7 := { stood := { row := matOnesUptoRow, standIns := [], harness := (true, "55bcce1f6ee58b1786f78b4dee79c0f2076c990a76418a925903dc65adddf8b7"), looks := false }, kinds := [], alts := [], laidByText := true, laidKinds := [.data], laidTests := true, laidLooks := .later }
def MatOnesUptoCardSaid : Prop := Claim7.holds Tryd.pinned (.plain (OpenSpec.upto matOnesSpec)) matOnesUptoCard
end Rows
end Go.Proofs.YtenegelkbfmjkaaDoor
