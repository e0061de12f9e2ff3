/-
  DERIVED. GIVEN WITH THE SEED: THE CARDS: each row of YtalmkaiiffodnaaGreatDoorRows.lean that lists a variable, with what it lists TIED to the program's text (the seventh form; the later family's looks); each row that meets fmt, with fmt's text TOLD by the authors' own Lean function (tested against real Go, not proved from fmt's source: count such statements apart). THE CARD IS WHAT COUNTS. Prove the row's statement (the work); the ties are given (YtalmkaiiffodnaaGreatDoorTie.lean); close each card by the builder's one call (the guide's Derived/Test/ToyasCard.lean, 'card_holds'). Laid BY PROGRAM, IN A SANDBOX (cutbox-door.mjs). By AI agents, Wed Nov 11 2026. No macro, syntax, notation, axiom, sorry.
-/
import Derived.Test.YtalmkaiiffodnaaGreatDoorRows
import GoSem.ClaimSeven
namespace Go.Proofs.YtalmkaiiffodnaaGreatDoor
namespace Rows

/-- THE TIED CARD OF 'unravellaw15.BracketSums'. -/
def bracketSumsCard : Claim7 := { stood := { row := bracketSumsRow, standIns := [], harness := (true, "1117e7cee5d6f0a7bbd096b60e92ecf0aed3c7202b2f4bfa1bcd1f5b972ec6d1"), looks := false }, kinds := [], alts := [], laidByText := true, laidKinds := [.data, .data, .data], laidTests := true, laidLooks := .later }
def BracketSumsCardSaid : Prop := Claim7.holds Tryz.pinned (.plain (OpenSpec.ofChange bracketSumsSpec)) bracketSumsCard

/-- THE TIED CARD OF 'unravellaw15.BracketMirrors'. -/
def bracketMirrorsCard : Claim7 := { stood := { row := bracketMirrorsRow, standIns := [], harness := (true, "1117e7cee5d6f0a7bbd096b60e92ecf0aed3c7202b2f4bfa1bcd1f5b972ec6d1"), looks := false }, kinds := [], alts := [], laidByText := true, laidKinds := [.data, .data, .data], laidTests := true, laidLooks := .later }
def BracketMirrorsCardSaid : Prop := Claim7.holds Tryz.pinned (.plain (OpenSpec.ofChange bracketMirrorsSpec)) bracketMirrorsCard

/-- THE SECOND FORM's CARD OF 'unravellaw15.BracketSums'. -/
def bracketSumsUptoCard : Claim7 := { stood := { row := bracketSumsUptoRow, standIns := [], harness := (true, "1117e7cee5d6f0a7bbd096b60e92ecf0aed3c7202b2f4bfa1bcd1f5b972ec6d1"), looks := false }, kinds := [], alts := [], laidByText := true, laidKinds := [.data, .data, .data], laidTests := true, laidLooks := .later }
def BracketSumsUptoCardSaid : Prop := Claim7.holds Tryz.pinned (.plain (OpenSpec.upto bracketSumsSpec)) bracketSumsUptoCard

/-- THE SECOND FORM's CARD OF 'unravellaw15.BracketMirrors'. -/
def bracketMirrorsUptoCard : Claim7 := { stood := { row := bracketMirrorsUptoRow, standIns := [], harness := (true, "1117e7cee5d6f0a7bbd096b60e92ecf0aed3c7202b2f4bfa1bcd1f5b972ec6d1"), looks := false }, kinds := [], alts := [], laidByText := true, laidKinds := [.data, .data, .data], laidTests := true, laidLooks := .later }
def BracketMirrorsUptoCardSaid : Prop := Claim7.holds Tryz.pinned (.plain (OpenSpec.upto bracketMirrorsSpec)) bracketMirrorsUptoCard
end Rows
end Go.Proofs.YtalmkaiiffodnaaGreatDoor
