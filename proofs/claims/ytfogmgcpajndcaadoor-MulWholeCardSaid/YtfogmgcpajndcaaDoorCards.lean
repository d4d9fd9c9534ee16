/-
  DERIVED. GIVEN WITH THE SEED: THE CARDS: each row of YtfogmgcpajndcaaDoorRows.lean that lists a variable, with what it lists TIED to the program's text (the seventh form; the later family's looks); each row that meets fmt, with fmt's text TOLD by the authors' own Lean function (tested against real Go, not proved from fmt's source: count such statements apart). THE CARD IS WHAT COUNTS. Prove the row's statement (the work); the ties are given (YtfogmgcpajndcaaDoorTie.lean); close each card by the builder's one call (the guide's Derived/Test/ToyasCard.lean, 'card_holds'). Laid BY PROGRAM, IN A SANDBOX (cutbox-door.mjs). By AI agents, Wed Nov 11 2026. No macro, syntax, notation, axiom, sorry.
-/
import Derived.Test.YtfogmgcpajndcaaDoorRows
import GoSem.ClaimSeven
namespace Go.Proofs.YtfogmgcpajndcaaDoor
namespace Rows

/-- THE TIED CARD OF 'gimballaw11.MulWhole'. -/
def mulWholeCard : Claim7 := { stood := { row := mulWholeRow, standIns := [], harness := (true, "f09e8087a8c74c3970d9117ba528bcf95b47de6dbe0e56ecaca9d82beb9408ef"), looks := false }, kinds := [], alts := [], laidByText := true, laidKinds := [.data], laidTests := true, laidLooks := .later }
def MulWholeCardSaid : Prop := Claim7.holds Tryd.pinned (.plain (OpenSpec.ofChange mulWholeSpec)) mulWholeCard

/-- THE TIED CARD OF 'gimballaw11.MulNears'. -/
def mulNearsCard : Claim7 := { stood := { row := mulNearsRow, standIns := [], harness := (true, "f09e8087a8c74c3970d9117ba528bcf95b47de6dbe0e56ecaca9d82beb9408ef"), looks := false }, kinds := [], alts := [], laidByText := true, laidKinds := [.data], laidTests := true, laidLooks := .later }
def MulNearsCardSaid : Prop := Claim7.holds Tryd.pinned (.plain (OpenSpec.ofChange mulNearsSpec)) mulNearsCard

/-- THE SECOND FORM's CARD OF 'gimballaw11.MulWhole'. -/
def mulWholeUptoCard : Claim7 := { stood := { row := mulWholeUptoRow, standIns := [], harness := (true, "f09e8087a8c74c3970d9117ba528bcf95b47de6dbe0e56ecaca9d82beb9408ef"), looks := false }, kinds := [], alts := [], laidByText := true, laidKinds := [.data], laidTests := true, laidLooks := .later }
def MulWholeUptoCardSaid : Prop := Claim7.holds Tryd.pinned (.plain (OpenSpec.upto mulWholeSpec)) mulWholeUptoCard

/-- THE SECOND FORM's CARD OF 'gimballaw11.MulNears'. -/
def mulNearsUptoCard : Claim7 := { stood := { row := mulNearsUptoRow, standIns := [], harness := (true, "f09e8087a8c74c3970d9117ba528bcf95b47de6dbe0e56ecaca9d82beb9408ef"), looks := false }, kinds := [], alts := [], laidByText := true, laidKinds := [.data], laidTests := true, laidLooks := .later }
def MulNearsUptoCardSaid : Prop := Claim7.holds Tryd.pinned (.plain (OpenSpec.upto mulNearsSpec)) mulNearsUptoCard
end Rows
end Go.Proofs.YtfogmgcpajndcaaDoor
