/-
  DERIVED. GIVEN WITH THE SEED: THE CARDS: each row of YtmplhbgolhlicaaDoorRows.lean that lists a variable, with what it lists TIED to the program's text (the seventh form; the later family's looks); each row that meets fmt, with fmt's text TOLD by the authors' own Lean function (tested against real Go, not proved from fmt's source: count such statements apart). THE CARD IS WHAT COUNTS. Prove the row's statement (the work); the ties are given (YtmplhbgolhlicaaDoorTie.lean); close each card by the builder's one call (the guide's Derived/Test/ToyasCard.lean, 'card_holds'). Laid BY PROGRAM, IN A SANDBOX (cutbox-door.mjs). By AI agents, Wed Nov 11 2026. No macro, syntax, notation, axiom, sorry.
-/
import Derived.Test.YtmplhbgolhlicaaDoorRows
import GoSem.ClaimSeven
namespace Go.Proofs.YtmplhbgolhlicaaDoor
namespace Rows

/-- THE TIED CARD OF 'unravellaw19.ConwayDescends'. -/
def conwayDescendsCard : Claim7 := { stood := { row := conwayDescendsRow, standIns := [], harness := (true, "30a746590171e93b75571c7c1e8d48b0f880eef9c18ac623533c34dc4b8d0578"), looks := false }, kinds := [], alts := [], laidByText := true, laidKinds := [.data, .data, .data], laidTests := true, laidLooks := .later }
def ConwayDescendsCardSaid : Prop := Claim7.holds Tryd.pinned (.plain (OpenSpec.ofChange conwayDescendsSpec)) conwayDescendsCard

/-- THE TIED CARD OF 'unravellaw19.ConwayPolys'. -/
def conwayPolysCard : Claim7 := { stood := { row := conwayPolysRow, standIns := [], harness := (true, "30a746590171e93b75571c7c1e8d48b0f880eef9c18ac623533c34dc4b8d0578"), looks := false }, kinds := [], alts := [], laidByText := true, laidKinds := [.data, .data, .data], laidTests := true, laidLooks := .later }
def ConwayPolysCardSaid : Prop := Claim7.holds Tryd.pinned (.plain (OpenSpec.ofChange conwayPolysSpec)) conwayPolysCard

/-- THE TIED CARD OF 'unravellaw19.ConwaySplits'. -/
def conwaySplitsCard : Claim7 := { stood := { row := conwaySplitsRow, standIns := [], harness := (true, "30a746590171e93b75571c7c1e8d48b0f880eef9c18ac623533c34dc4b8d0578"), looks := false }, kinds := [], alts := [], laidByText := true, laidKinds := [.data, .data, .data], laidTests := true, laidLooks := .later }
def ConwaySplitsCardSaid : Prop := Claim7.holds Tryd.pinned (.plain (OpenSpec.ofChange conwaySplitsSpec)) conwaySplitsCard

/-- THE TIED CARD OF 'unravellaw19.ConwayShape'. -/
def conwayShapeCard : Claim7 := { stood := { row := conwayShapeRow, standIns := [], harness := (true, "30a746590171e93b75571c7c1e8d48b0f880eef9c18ac623533c34dc4b8d0578"), looks := false }, kinds := [], alts := [], laidByText := true, laidKinds := [.data, .data, .data], laidTests := true, laidLooks := .later }
def ConwayShapeCardSaid : Prop := Claim7.holds Tryd.pinned (.plain (OpenSpec.ofChange conwayShapeSpec)) conwayShapeCard

/-- THE TIED CARD OF 'unravellaw15.BracketLoops'. -/
def bracketLoopsCard : Claim7 := { stood := { row := bracketLoopsRow, standIns := [], harness := (true, "30a746590171e93b75571c7c1e8d48b0f880eef9c18ac623533c34dc4b8d0578"), looks := false }, kinds := [], alts := [], laidByText := true, laidKinds := [.data, .data, .data], laidTests := true, laidLooks := .later }
def BracketLoopsCardSaid : Prop := Claim7.holds Tryd.pinned (.plain (OpenSpec.ofChange bracketLoopsSpec)) bracketLoopsCard

/-- THE TIED CARD OF 'unravellaw15.BracketAdequate'. -/
def bracketAdequateCard : Claim7 := { stood := { row := bracketAdequateRow, standIns := [], harness := (true, "30a746590171e93b75571c7c1e8d48b0f880eef9c18ac623533c34dc4b8d0578"), looks := false }, kinds := [], alts := [], laidByText := true, laidKinds := [.data, .data, .data], laidTests := true, laidLooks := .later }
def BracketAdequateCardSaid : Prop := Claim7.holds Tryd.pinned (.plain (OpenSpec.ofChange bracketAdequateSpec)) bracketAdequateCard

/-- THE TIED CARD OF 'unravellaw15.BracketLoop'. -/
def bracketLoopCard : Claim7 := { stood := { row := bracketLoopRow, standIns := [], harness := (true, "30a746590171e93b75571c7c1e8d48b0f880eef9c18ac623533c34dc4b8d0578"), looks := false }, kinds := [], alts := [], laidByText := true, laidKinds := [.data, .data, .data], laidTests := true, laidLooks := .later }
def BracketLoopCardSaid : Prop := Claim7.holds Tryd.pinned (.plain (OpenSpec.ofChange bracketLoopSpec)) bracketLoopCard

/-- THE TIED CARD OF 'unravellaw17.TransferOrders'. -/
def transferOrdersCard : Claim7 := { stood := { row := transferOrdersRow, standIns := [], harness := (true, "30a746590171e93b75571c7c1e8d48b0f880eef9c18ac623533c34dc4b8d0578"), looks := false }, kinds := [], alts := [], laidByText := true, laidKinds := [.data, .data, .data], laidTests := true, laidLooks := .later }
def TransferOrdersCardSaid : Prop := Claim7.holds Tryd.pinned (.plain (OpenSpec.ofChange transferOrdersSpec)) transferOrdersCard

/-- THE SECOND FORM's CARD OF 'unravellaw19.ConwayDescends'. -/
def conwayDescendsUptoCard : Claim7 := { stood := { row := conwayDescendsUptoRow, standIns := [], harness := (true, "30a746590171e93b75571c7c1e8d48b0f880eef9c18ac623533c34dc4b8d0578"), looks := false }, kinds := [], alts := [], laidByText := true, laidKinds := [.data, .data, .data], laidTests := true, laidLooks := .later }
def ConwayDescendsUptoCardSaid : Prop := Claim7.holds Tryd.pinned (.plain (OpenSpec.upto conwayDescendsSpec)) conwayDescendsUptoCard

/-- THE SECOND FORM's CARD OF 'unravellaw19.ConwayPolys'. -/
def conwayPolysUptoCard : Claim7 := { stood := { row := conwayPolysUptoRow, standIns := [], harness := (true, "30a746590171e93b75571c7c1e8d48b0f880eef9c18ac623533c34dc4b8d0578"), looks := false }, kinds := [], alts := [], laidByText := true, laidKinds := [.data, .data, .data], laidTests := true, laidLooks := .later }
def ConwayPolysUptoCardSaid : Prop := Claim7.holds Tryd.pinned (.plain (OpenSpec.upto conwayPolysSpec)) conwayPolysUptoCard

/-- THE SECOND FORM's CARD OF 'unravellaw19.ConwaySplits'. -/
def conwaySplitsUptoCard : Claim7 := { stood := { row := conwaySplitsUptoRow, standIns := [], harness := (true, "30a746590171e93b75571c7c1e8d48b0f880eef9c18ac623533c34dc4b8d0578"), looks := false }, kinds := [], alts := [], laidByText := true, laidKinds := [.data, .data, .data], laidTests := true, laidLooks := .later }
def ConwaySplitsUptoCardSaid : Prop := Claim7.holds Tryd.pinned (.plain (OpenSpec.upto conwaySplitsSpec)) conwaySplitsUptoCard

/-- THE SECOND FORM's CARD OF 'unravellaw19.ConwayShape'. -/
def conwayShapeUptoCard : Claim7 := { stood := { row := conwayShapeUptoRow, standIns := [], harness := (true, "30a746590171e93b75571c7c1e8d48b0f880eef9c18ac623533c34dc4b8d0578"), looks := false }, kinds := [], alts := [], laidByText := true, laidKinds := [.data, .data, .data], laidTests := true, laidLooks := .later }
def ConwayShapeUptoCardSaid : Prop := Claim7.holds Tryd.pinned (.plain (OpenSpec.upto conwayShapeSpec)) conwayShapeUptoCard

/-- THE SECOND FORM's CARD OF 'unravellaw15.BracketLoops'. -/
def bracketLoopsUptoCard : Claim7 := { stood := { row := bracketLoopsUptoRow, standIns := [], harness := (true, "30a746590171e93b75571c7c1e8d48b0f880eef9c18ac623533c34dc4b8d0578"), looks := false }, kinds := [], alts := [], laidByText := true, laidKinds := [.data, .data, .data], laidTests := true, laidLooks := .later }
def BracketLoopsUptoCardSaid : Prop := Claim7.holds Tryd.pinned (.plain (OpenSpec.upto bracketLoopsSpec)) bracketLoopsUptoCard

/-- THE SECOND FORM's CARD OF 'unravellaw15.BracketAdequate'. -/
def bracketAdequateUptoCard : Claim7 := { stood := { row := bracketAdequateUptoRow, standIns := [], harness := (true, "30a746590171e93b75571c7c1e8d48b0f880eef9c18ac623533c34dc4b8d0578"), looks := false }, kinds := [], alts := [], laidByText := true, laidKinds := [.data, .data, .data], laidTests := true, laidLooks := .later }
def BracketAdequateUptoCardSaid : Prop := Claim7.holds Tryd.pinned (.plain (OpenSpec.upto bracketAdequateSpec)) bracketAdequateUptoCard

/-- THE SECOND FORM's CARD OF 'unravellaw15.BracketLoop'. -/
def bracketLoopUptoCard : Claim7 := { stood := { row := bracketLoopUptoRow, standIns := [], harness := (true, "30a746590171e93b75571c7c1e8d48b0f880eef9c18ac623533c34dc4b8d0578"), looks := false }, kinds := [], alts := [], laidByText := true, laidKinds := [.data, .data, .data], laidTests := true, laidLooks := .later }
def BracketLoopUptoCardSaid : Prop := Claim7.holds Tryd.pinned (.plain (OpenSpec.upto bracketLoopSpec)) bracketLoopUptoCard

/-- THE SECOND FORM's CARD OF 'unravellaw17.TransferOrders'. -/
def transferOrdersUptoCard : Claim7 := { stood := { row := transferOrdersUptoRow, standIns := [], harness := (true, "30a746590171e93b75571c7c1e8d48b0f880eef9c18ac623533c34dc4b8d0578"), looks := false }, kinds := [], alts := [], laidByText := true, laidKinds := [.data, .data, .data], laidTests := true, laidLooks := .later }
def TransferOrdersUptoCardSaid : Prop := Claim7.holds Tryd.pinned (.plain (OpenSpec.upto transferOrdersSpec)) transferOrdersUptoCard
end Rows
end Go.Proofs.YtmplhbgolhlicaaDoor
