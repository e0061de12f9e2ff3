/-
  DERIVED. GIVEN WITH THE SEED: THE CARDS: each row of YthohfoombimbeaaGreatDoorRows.lean that lists a variable, with what it lists TIED to the program's text (the seventh form; the later family's looks); each row that meets fmt, with fmt's text TOLD by the authors' own Lean function (tested against real Go, not proved from fmt's source: count such statements apart). THE CARD IS WHAT COUNTS. Prove the row's statement (the work); the ties are given (YthohfoombimbeaaGreatDoorTie.lean); close each card by the builder's one call (the guide's Derived/Test/ToyasCard.lean, 'card_holds'). Laid BY PROGRAM, IN A SANDBOX (cutbox-door.mjs). By AI agents, Wed Nov 11 2026. No macro, syntax, notation, axiom, sorry.
-/
import Derived.Test.YthohfoombimbeaaGreatDoorRows
import GoSem.ClaimSeven
namespace Go.Proofs.YthohfoombimbeaaGreatDoor
namespace Rows

/-- THE TIED CARD OF 'unravellaw15.BracketMoves'. -/
def bracketMovesCard : Claim7 := { stood := { row := bracketMovesRow, standIns := [], harness := (true, "a6f609d1eb28788e54ee6c4cfaf466adadbcb55a474a5073b80b9802ffc531c3"), looks := false }, kinds := [], alts := [], laidByText := true, laidKinds := [.data, .data, .data], laidTests := true, laidLooks := .later }
def BracketMovesCardSaid : Prop := Claim7.holds Tryz.pinned (.plain (OpenSpec.ofChange bracketMovesSpec)) bracketMovesCard

/-- THE SECOND FORM's CARD OF 'unravellaw15.BracketMoves'. -/
def bracketMovesUptoCard : Claim7 := { stood := { row := bracketMovesUptoRow, standIns := [], harness := (true, "a6f609d1eb28788e54ee6c4cfaf466adadbcb55a474a5073b80b9802ffc531c3"), looks := false }, kinds := [], alts := [], laidByText := true, laidKinds := [.data, .data, .data], laidTests := true, laidLooks := .later }
def BracketMovesUptoCardSaid : Prop := Claim7.holds Tryz.pinned (.plain (OpenSpec.upto bracketMovesSpec)) bracketMovesUptoCard
end Rows
end Go.Proofs.YthohfoombimbeaaGreatDoor
