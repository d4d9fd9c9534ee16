/-
  DERIVED. GIVEN WITH THE SEED: THE CARDS: each row of YtkkfghecmhmdpaaDoorRows.lean that lists a variable, with what it lists TIED to the program's text (the seventh form; the later family's looks); each row that meets fmt, with fmt's text TOLD by the authors' own Lean function (tested against real Go, not proved from fmt's source: count such statements apart). THE CARD IS WHAT COUNTS. Prove the row's statement (the work); the ties are given (YtkkfghecmhmdpaaDoorTie.lean); close each card by the builder's one call (the guide's Derived/Test/ToyasCard.lean, 'card_holds'). Laid BY PROGRAM, IN A SANDBOX (cutbox-door.mjs). By AI agents, Wed Nov 11 2026. No macro, syntax, notation, axiom, sorry.
-/
import Derived.Test.YtkkfghecmhmdpaaDoorRows
import GoSem.ClaimSeven
namespace Go.Proofs.YtkkfghecmhmdpaaDoor
namespace Rows

/-- THE TIED CARD OF 'gimballaw10.VecNorms'. -/
def vecNormsCard : Claim7 := { stood := { row := vecNormsRow, standIns := [], harness := (true, "e7b869ccf4166c2446ea2b58434f6fc2d529bc6e54347afbc5dd71426dce2052"), looks := false }, kinds := [], alts := [], laidByText := true, laidKinds := [.data], laidTests := true, laidLooks := .later }
def VecNormsCardSaid : Prop := Claim7.holds Tryd.pinned (.plain (OpenSpec.ofChange vecNormsSpec)) vecNormsCard

/-- THE TIED CARD OF 'gimballaw10.VecDots'. -/
def vecDotsCard : Claim7 := { stood := { row := vecDotsRow, standIns := [], harness := (true, "e7b869ccf4166c2446ea2b58434f6fc2d529bc6e54347afbc5dd71426dce2052"), looks := false }, kinds := [], alts := [], laidByText := true, laidKinds := [.data], laidTests := true, laidLooks := .later }
def VecDotsCardSaid : Prop := Claim7.holds Tryd.pinned (.plain (OpenSpec.ofChange vecDotsSpec)) vecDotsCard

/-- THE SECOND FORM's CARD OF 'gimballaw10.VecNorms'. -/
def vecNormsUptoCard : Claim7 := { stood := { row := vecNormsUptoRow, standIns := [], harness := (true, "e7b869ccf4166c2446ea2b58434f6fc2d529bc6e54347afbc5dd71426dce2052"), looks := false }, kinds := [], alts := [], laidByText := true, laidKinds := [.data], laidTests := true, laidLooks := .later }
def VecNormsUptoCardSaid : Prop := Claim7.holds Tryd.pinned (.plain (OpenSpec.upto vecNormsSpec)) vecNormsUptoCard

/-- THE SECOND FORM's CARD OF 'gimballaw10.VecDots'. -/
def vecDotsUptoCard : Claim7 := { stood := { row := vecDotsUptoRow, standIns := [], harness := (true, "e7b869ccf4166c2446ea2b58434f6fc2d529bc6e54347afbc5dd71426dce2052"), looks := false }, kinds := [], alts := [], laidByText := true, laidKinds := [.data], laidTests := true, laidLooks := .later }
def VecDotsUptoCardSaid : Prop := Claim7.holds Tryd.pinned (.plain (OpenSpec.upto vecDotsSpec)) vecDotsUptoCard
end Rows
end Go.Proofs.YtkkfghecmhmdpaaDoor
