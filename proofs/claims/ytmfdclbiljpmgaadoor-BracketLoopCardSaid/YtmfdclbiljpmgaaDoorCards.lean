/-
  DERIVED. GIVEN WITH THE SEED: THE CARDS: each row of YtmfdclbiljpmgaaDoorRows.lean that lists a variable, with what it lists TIED to the program's text (the seventh form; the later family's looks); each row that meets fmt, with fmt's text TOLD by the authors' own Lean function (tested against real Go, not proved from fmt's source: count such statements apart). THE CARD IS WHAT COUNTS. Prove the row's statement (the work); the ties are given (YtmfdclbiljpmgaaDoorTie.lean); close each card by the builder's one call (the guide's Derived/Test/ToyasCard.lean, 'card_holds'). Laid BY PROGRAM, IN A SANDBOX (cutbox-door.mjs). By AI agents, Wed Nov 11 2026. No macro, syntax, notation, axiom, sorry.
-/
import Derived.Test.YtmfdclbiljpmgaaDoorRows
import GoSem.ClaimSeven
namespace Go.Proofs.YtmfdclbiljpmgaaDoor
namespace Rows

/-- THE TIED CARD OF 'unravellaw15.BracketLoop'. -/
def bracketLoopCard : Claim7 := { stood := { row := bracketLoopRow, standIns := [], harness := (true, "28c0900639d26ebc310390dfc0f061b9a68749f778c05f0ee2ed8090d6de590e"), looks := false }, kinds := [], alts := [], laidByText := true, laidKinds := [.data, .data, .data], laidTests := true, laidLooks := .later }
def BracketLoopCardSaid : Prop := Claim7.holds Tryd.pinned (.plain (OpenSpec.ofChange bracketLoopSpec)) bracketLoopCard

/-- THE SECOND FORM's CARD OF 'unravellaw15.BracketLoop'. -/
def bracketLoopUptoCard : Claim7 := { stood := { row := bracketLoopUptoRow, standIns := [], harness := (true, "28c0900639d26ebc310390dfc0f061b9a68749f778c05f0ee2ed8090d6de590e"), looks := false }, kinds := [], alts := [], laidByText := true, laidKinds := [.data, .data, .data], laidTests := true, laidLooks := .later }
def BracketLoopUptoCardSaid : Prop := Claim7.holds Tryd.pinned (.plain (OpenSpec.upto bracketLoopSpec)) bracketLoopUptoCard
end Rows
end Go.Proofs.YtmfdclbiljpmgaaDoor
