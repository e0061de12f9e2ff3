/-
  DERIVED. GIVEN WITH THE SEED: THE CARDS: each row of YtcnilhcplgiidaaDoorRows.lean that lists a variable, with what it lists TIED to the program's text (the seventh form; the later family's looks); each row that meets fmt, with fmt's text TOLD by the authors' own Lean function (tested against real Go, not proved from fmt's source: count such statements apart). THE CARD IS WHAT COUNTS. Prove the row's statement (the work); the ties are given (YtcnilhcplgiidaaDoorTie.lean); close each card by the builder's one call (the guide's Derived/Test/ToyasCard.lean, 'card_holds'). Laid BY PROGRAM, IN A SANDBOX (cutbox-door.mjs). By AI agents, Wed Nov 11 2026. No macro, syntax, notation, axiom, sorry.
-/
import Derived.Test.YtcnilhcplgiidaaDoorRows
import GoSem.ClaimSeven
namespace Go.Proofs.YtcnilhcplgiidaaDoor
namespace Rows

/-- THE TIED CARD OF 'unravellaw19.ConwayShape'. -/
def conwayShapeCard : Claim7 := { stood := { row := conwayShapeRow, standIns := [], harness := (true, "974150a06c84985d907ff96010acad358a250400e3dd55149a48a0d658b25757"), looks := false }, kinds := [], alts := [], laidByText := true, laidKinds := [.data, .data, .data], laidTests := true, laidLooks := .later }
def ConwayShapeCardSaid : Prop := Claim7.holds Tryd.pinned (.plain (OpenSpec.ofChange conwayShapeSpec)) conwayShapeCard

/-- THE TIED CARD OF 'unravellaw17.TransferTorus'. -/
def transferTorusCard : Claim7 := { stood := { row := transferTorusRow, standIns := [], harness := (true, "974150a06c84985d907ff96010acad358a250400e3dd55149a48a0d658b25757"), looks := false }, kinds := [], alts := [], laidByText := true, laidKinds := [.data, .data, .data], laidTests := true, laidLooks := .later }
def TransferTorusCardSaid : Prop := Claim7.holds Tryd.pinned (.plain (OpenSpec.ofChange transferTorusSpec)) transferTorusCard

/-- THE TIED CARD OF 'unravellaw15.BracketSpan'. -/
def bracketSpanCard : Claim7 := { stood := { row := bracketSpanRow, standIns := [], harness := (true, "974150a06c84985d907ff96010acad358a250400e3dd55149a48a0d658b25757"), looks := false }, kinds := [], alts := [], laidByText := true, laidKinds := [.data, .data, .data], laidTests := true, laidLooks := .later }
def BracketSpanCardSaid : Prop := Claim7.holds Tryd.pinned (.plain (OpenSpec.ofChange bracketSpanSpec)) bracketSpanCard

/-- THE SECOND FORM's CARD OF 'unravellaw19.ConwayShape'. -/
def conwayShapeUptoCard : Claim7 := { stood := { row := conwayShapeUptoRow, standIns := [], harness := (true, "974150a06c84985d907ff96010acad358a250400e3dd55149a48a0d658b25757"), looks := false }, kinds := [], alts := [], laidByText := true, laidKinds := [.data, .data, .data], laidTests := true, laidLooks := .later }
def ConwayShapeUptoCardSaid : Prop := Claim7.holds Tryd.pinned (.plain (OpenSpec.upto conwayShapeSpec)) conwayShapeUptoCard

/-- THE SECOND FORM's CARD OF 'unravellaw17.TransferTorus'. -/
def transferTorusUptoCard : Claim7 := { stood := { row := transferTorusUptoRow, standIns := [], harness := (true, "974150a06c84985d907ff96010acad358a250400e3dd55149a48a0d658b25757"), looks := false }, kinds := [], alts := [], laidByText := true, laidKinds := [.data, .data, .data], laidTests := true, laidLooks := .later }
def TransferTorusUptoCardSaid : Prop := Claim7.holds Tryd.pinned (.plain (OpenSpec.upto transferTorusSpec)) transferTorusUptoCard

/-- THE SECOND FORM's CARD OF 'unravellaw15.BracketSpan'. -/
def bracketSpanUptoCard : Claim7 := { stood := { row := bracketSpanUptoRow, standIns := [], harness := (true, "974150a06c84985d907ff96010acad358a250400e3dd55149a48a0d658b25757"), looks := false }, kinds := [], alts := [], laidByText := true, laidKinds := [.data, .data, .data], laidTests := true, laidLooks := .later }
def BracketSpanUptoCardSaid : Prop := Claim7.holds Tryd.pinned (.plain (OpenSpec.upto bracketSpanSpec)) bracketSpanUptoCard
end Rows
end Go.Proofs.YtcnilhcplgiidaaDoor
