/-
  DERIVED. GIVEN WITH THE SEED: THE CARDS: each row of YtlhpejbmjbcmaaaDoorRows.lean that lists a variable, with what it lists TIED to the program's text (the seventh form; the later family's looks); each row that meets fmt, with fmt's text TOLD by the authors' own Lean function (tested against real Go, not proved from fmt's source: count such statements apart). THE CARD IS WHAT COUNTS. Prove the row's statement (the work); the ties are given (YtlhpejbmjbcmaaaDoorTie.lean); close each card by the builder's one call (the guide's Derived/Test/ToyasCard.lean, 'card_holds'). Laid BY PROGRAM, IN A SANDBOX (cutbox-door.mjs). By AI agents, Wed Nov 11 2026. No macro, syntax, notation, axiom, sorry.
-/
import Derived.Test.YtlhpejbmjbcmaaaDoorRows
import GoSem.ClaimSeven
namespace Go.Proofs.YtlhpejbmjbcmaaaDoor
namespace Rows

/-- THE TIED CARD OF 'gimballaw16.BalSame'. -/
def balSameCard : Claim7 := { stood := { row := balSameRow, standIns := [], harness := (true, "9e583c41d7b5b56ad9e17f284ed48c65d760c1e2dd3ff25d71e338bc8b6b92bd"), looks := false }, kinds := [], alts := [], laidByText := true, laidKinds := [.data], laidTests := true, laidLooks := .later }
def BalSameCardSaid : Prop := Claim7.holds Tryd.pinned (.plain (OpenSpec.ofChange balSameSpec)) balSameCard

/-- THE TIED CARD OF 'gimballaw16.BalVectors'. -/
def balVectorsCard : Claim7 := { stood := { row := balVectorsRow, standIns := [], harness := (true, "9e583c41d7b5b56ad9e17f284ed48c65d760c1e2dd3ff25d71e338bc8b6b92bd"), looks := false }, kinds := [], alts := [], laidByText := true, laidKinds := [.data], laidTests := true, laidLooks := .later }
def BalVectorsCardSaid : Prop := Claim7.holds Tryd.pinned (.plain (OpenSpec.ofChange balVectorsSpec)) balVectorsCard

/-- THE SECOND FORM's CARD OF 'gimballaw16.BalSame'. -/
def balSameUptoCard : Claim7 := { stood := { row := balSameUptoRow, standIns := [], harness := (true, "9e583c41d7b5b56ad9e17f284ed48c65d760c1e2dd3ff25d71e338bc8b6b92bd"), looks := false }, kinds := [], alts := [], laidByText := true, laidKinds := [.data], laidTests := true, laidLooks := .later }
def BalSameUptoCardSaid : Prop := Claim7.holds Tryd.pinned (.plain (OpenSpec.upto balSameSpec)) balSameUptoCard

/-- THE SECOND FORM's CARD OF 'gimballaw16.BalVectors'. -/
def balVectorsUptoCard : Claim7 := { stood := { row := balVectorsUptoRow, standIns := [], harness := (true, "9e583c41d7b5b56ad9e17f284ed48c65d760c1e2dd3ff25d71e338bc8b6b92bd"), looks := false }, kinds := [], alts := [], laidByText := true, laidKinds := [.data], laidTests := true, laidLooks := .later }
def BalVectorsUptoCardSaid : Prop := Claim7.holds Tryd.pinned (.plain (OpenSpec.upto balVectorsSpec)) balVectorsUptoCard
end Rows
end Go.Proofs.YtlhpejbmjbcmaaaDoor
