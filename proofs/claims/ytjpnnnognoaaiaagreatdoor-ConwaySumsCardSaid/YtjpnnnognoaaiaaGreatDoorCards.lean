/-
  DERIVED. GIVEN WITH THE SEED: THE CARDS: each row of YtjpnnnognoaaiaaGreatDoorRows.lean that lists a variable, with what it lists TIED to the program's text (the seventh form; the later family's looks); each row that meets fmt, with fmt's text TOLD by the authors' own Lean function (tested against real Go, not proved from fmt's source: count such statements apart). THE CARD IS WHAT COUNTS. Prove the row's statement (the work); the ties are given (YtjpnnnognoaaiaaGreatDoorTie.lean); close each card by the builder's one call (the guide's Derived/Test/ToyasCard.lean, 'card_holds'). Laid BY PROGRAM, IN A SANDBOX (cutbox-door.mjs). By AI agents, Wed Nov 11 2026. No macro, syntax, notation, axiom, sorry.
-/
import Derived.Test.YtjpnnnognoaaiaaGreatDoorRows
import GoSem.ClaimSeven
namespace Go.Proofs.YtjpnnnognoaaiaaGreatDoor
namespace Rows

/-- THE TIED CARD OF 'unravellaw19.ConwayMoves'. -/
def conwayMovesCard : Claim7 := { stood := { row := conwayMovesRow, standIns := [], harness := (true, "6b893627e79f9a3893fa3b75157aef4d6e2e0cc0b0338056762177275cb6476e"), looks := false }, kinds := [], alts := [], laidByText := true, laidKinds := [.data, .data, .data], laidTests := true, laidLooks := .later }
def ConwayMovesCardSaid : Prop := Claim7.holds Tryz.pinned (.plain (OpenSpec.ofChange conwayMovesSpec)) conwayMovesCard

/-- THE TIED CARD OF 'unravellaw19.ConwaySkein'. -/
def conwaySkeinCard : Claim7 := { stood := { row := conwaySkeinRow, standIns := [], harness := (true, "6b893627e79f9a3893fa3b75157aef4d6e2e0cc0b0338056762177275cb6476e"), looks := false }, kinds := [], alts := [], laidByText := true, laidKinds := [.data, .data, .data], laidTests := true, laidLooks := .later }
def ConwaySkeinCardSaid : Prop := Claim7.holds Tryz.pinned (.plain (OpenSpec.ofChange conwaySkeinSpec)) conwaySkeinCard

/-- THE TIED CARD OF 'unravellaw19.ConwaySums'. -/
def conwaySumsCard : Claim7 := { stood := { row := conwaySumsRow, standIns := [], harness := (true, "6b893627e79f9a3893fa3b75157aef4d6e2e0cc0b0338056762177275cb6476e"), looks := false }, kinds := [], alts := [], laidByText := true, laidKinds := [.data, .data, .data], laidTests := true, laidLooks := .later }
def ConwaySumsCardSaid : Prop := Claim7.holds Tryz.pinned (.plain (OpenSpec.ofChange conwaySumsSpec)) conwaySumsCard

/-- THE TIED CARD OF 'unravellaw15.BracketMoves'. -/
def bracketMovesCard : Claim7 := { stood := { row := bracketMovesRow, standIns := [], harness := (true, "6b893627e79f9a3893fa3b75157aef4d6e2e0cc0b0338056762177275cb6476e"), looks := false }, kinds := [], alts := [], laidByText := true, laidKinds := [.data, .data, .data], laidTests := true, laidLooks := .later }
def BracketMovesCardSaid : Prop := Claim7.holds Tryz.pinned (.plain (OpenSpec.ofChange bracketMovesSpec)) bracketMovesCard

/-- THE TIED CARD OF 'unravellaw17.TransferMoves'. -/
def transferMovesCard : Claim7 := { stood := { row := transferMovesRow, standIns := [], harness := (true, "6b893627e79f9a3893fa3b75157aef4d6e2e0cc0b0338056762177275cb6476e"), looks := false }, kinds := [], alts := [], laidByText := true, laidKinds := [.data, .data, .data], laidTests := true, laidLooks := .later }
def TransferMovesCardSaid : Prop := Claim7.holds Tryz.pinned (.plain (OpenSpec.ofChange transferMovesSpec)) transferMovesCard

/-- THE TIED CARD OF 'unravellaw18.JonesMoves'. -/
def jonesMovesCard : Claim7 := { stood := { row := jonesMovesRow, standIns := [], harness := (true, "6b893627e79f9a3893fa3b75157aef4d6e2e0cc0b0338056762177275cb6476e"), looks := false }, kinds := [], alts := [], laidByText := true, laidKinds := [.data, .data, .data], laidTests := true, laidLooks := .later }
def JonesMovesCardSaid : Prop := Claim7.holds Tryz.pinned (.plain (OpenSpec.ofChange jonesMovesSpec)) jonesMovesCard

/-- THE SECOND FORM's CARD OF 'unravellaw19.ConwayMoves'. -/
def conwayMovesUptoCard : Claim7 := { stood := { row := conwayMovesUptoRow, standIns := [], harness := (true, "6b893627e79f9a3893fa3b75157aef4d6e2e0cc0b0338056762177275cb6476e"), looks := false }, kinds := [], alts := [], laidByText := true, laidKinds := [.data, .data, .data], laidTests := true, laidLooks := .later }
def ConwayMovesUptoCardSaid : Prop := Claim7.holds Tryz.pinned (.plain (OpenSpec.upto conwayMovesSpec)) conwayMovesUptoCard

/-- THE SECOND FORM's CARD OF 'unravellaw19.ConwaySkein'. -/
def conwaySkeinUptoCard : Claim7 := { stood := { row := conwaySkeinUptoRow, standIns := [], harness := (true, "6b893627e79f9a3893fa3b75157aef4d6e2e0cc0b0338056762177275cb6476e"), looks := false }, kinds := [], alts := [], laidByText := true, laidKinds := [.data, .data, .data], laidTests := true, laidLooks := .later }
def ConwaySkeinUptoCardSaid : Prop := Claim7.holds Tryz.pinned (.plain (OpenSpec.upto conwaySkeinSpec)) conwaySkeinUptoCard

/-- THE SECOND FORM's CARD OF 'unravellaw19.ConwaySums'. -/
def conwaySumsUptoCard : Claim7 := { stood := { row := conwaySumsUptoRow, standIns := [], harness := (true, "6b893627e79f9a3893fa3b75157aef4d6e2e0cc0b0338056762177275cb6476e"), looks := false }, kinds := [], alts := [], laidByText := true, laidKinds := [.data, .data, .data], laidTests := true, laidLooks := .later }
def ConwaySumsUptoCardSaid : Prop := Claim7.holds Tryz.pinned (.plain (OpenSpec.upto conwaySumsSpec)) conwaySumsUptoCard

/-- THE SECOND FORM's CARD OF 'unravellaw15.BracketMoves'. -/
def bracketMovesUptoCard : Claim7 := { stood := { row := bracketMovesUptoRow, standIns := [], harness := (true, "6b893627e79f9a3893fa3b75157aef4d6e2e0cc0b0338056762177275cb6476e"), looks := false }, kinds := [], alts := [], laidByText := true, laidKinds := [.data, .data, .data], laidTests := true, laidLooks := .later }
def BracketMovesUptoCardSaid : Prop := Claim7.holds Tryz.pinned (.plain (OpenSpec.upto bracketMovesSpec)) bracketMovesUptoCard

/-- THE SECOND FORM's CARD OF 'unravellaw17.TransferMoves'. -/
def transferMovesUptoCard : Claim7 := { stood := { row := transferMovesUptoRow, standIns := [], harness := (true, "6b893627e79f9a3893fa3b75157aef4d6e2e0cc0b0338056762177275cb6476e"), looks := false }, kinds := [], alts := [], laidByText := true, laidKinds := [.data, .data, .data], laidTests := true, laidLooks := .later }
def TransferMovesUptoCardSaid : Prop := Claim7.holds Tryz.pinned (.plain (OpenSpec.upto transferMovesSpec)) transferMovesUptoCard

/-- THE SECOND FORM's CARD OF 'unravellaw18.JonesMoves'. -/
def jonesMovesUptoCard : Claim7 := { stood := { row := jonesMovesUptoRow, standIns := [], harness := (true, "6b893627e79f9a3893fa3b75157aef4d6e2e0cc0b0338056762177275cb6476e"), looks := false }, kinds := [], alts := [], laidByText := true, laidKinds := [.data, .data, .data], laidTests := true, laidLooks := .later }
def JonesMovesUptoCardSaid : Prop := Claim7.holds Tryz.pinned (.plain (OpenSpec.upto jonesMovesSpec)) jonesMovesUptoCard
end Rows
end Go.Proofs.YtjpnnnognoaaiaaGreatDoor
