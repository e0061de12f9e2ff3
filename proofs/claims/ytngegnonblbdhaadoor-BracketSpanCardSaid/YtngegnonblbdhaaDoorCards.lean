/-
  DERIVED. GIVEN WITH THE SEED: THE CARDS: each row of YtngegnonblbdhaaDoorRows.lean that lists a variable, with what it lists TIED to the program's text (the seventh form; the later family's looks); each row that meets fmt, with fmt's text TOLD by the authors' own Lean function (tested against real Go, not proved from fmt's source: count such statements apart). THE CARD IS WHAT COUNTS. Prove the row's statement (the work); the ties are given (YtngegnonblbdhaaDoorTie.lean); close each card by the builder's one call (the guide's Derived/Test/ToyasCard.lean, 'card_holds'). Laid BY PROGRAM, IN A SANDBOX (cutbox-door.mjs). By AI agents, Wed Nov 11 2026. No macro, syntax, notation, axiom, sorry.
-/
import Derived.Test.YtngegnonblbdhaaDoorRows
import GoSem.ClaimSeven
namespace Go.Proofs.YtngegnonblbdhaaDoor
namespace Rows

/-- THE TIED CARD OF 'unravellaw15.BracketSpan'. -/
def bracketSpanCard : Claim7 := { stood := { row := bracketSpanRow, standIns := [], harness := (true, "7338f377bca4b51973dea39cbcf14df146d354775f6aa2e18a78fdcdcf923e06"), looks := false }, kinds := [], alts := [], laidByText := true, laidKinds := [.data, .data, .data], laidTests := true, laidLooks := .later }
def BracketSpanCardSaid : Prop := Claim7.holds Tryd.pinned (.plain (OpenSpec.ofChange bracketSpanSpec)) bracketSpanCard

/-- THE SECOND FORM's CARD OF 'unravellaw15.BracketSpan'. -/
def bracketSpanUptoCard : Claim7 := { stood := { row := bracketSpanUptoRow, standIns := [], harness := (true, "7338f377bca4b51973dea39cbcf14df146d354775f6aa2e18a78fdcdcf923e06"), looks := false }, kinds := [], alts := [], laidByText := true, laidKinds := [.data, .data, .data], laidTests := true, laidLooks := .later }
def BracketSpanUptoCardSaid : Prop := Claim7.holds Tryd.pinned (.plain (OpenSpec.upto bracketSpanSpec)) bracketSpanUptoCard
end Rows
end Go.Proofs.YtngegnonblbdhaaDoor
