/-
  DERIVED. GIVEN WITH THE SEED: THE CARDS: each row of YtebdkebfkpbmpaaGreatDoorRows.lean that lists a variable, with what it lists TIED to the program's text (the seventh form; the later family's looks); each row that meets fmt, with fmt's text TOLD by the authors' own Lean function (tested against real Go, not proved from fmt's source: count such statements apart). THE CARD IS WHAT COUNTS. Prove the row's statement (the work); the ties are given (YtebdkebfkpbmpaaGreatDoorTie.lean); close each card by the builder's one call (the guide's Derived/Test/ToyasCard.lean, 'card_holds'). Laid BY PROGRAM, IN A SANDBOX (cutbox-door.mjs). By AI agents, Wed Nov 11 2026. No macro, syntax, notation, axiom, sorry.
-/
import Derived.Test.YtebdkebfkpbmpaaGreatDoorRows
import GoSem.ClaimSeven
namespace Go.Proofs.YtebdkebfkpbmpaaGreatDoor
namespace Rows

/-- THE TIED CARD OF 'unravellaw17.TransferBracket'. -/
def transferBracketCard : Claim7 := { stood := { row := transferBracketRow, standIns := [], harness := (true, "d23207fbc0a3a864d76451638e1eb60d1934876c8cf2ecaf0269dc684837ebc8"), looks := false }, kinds := [], alts := [], laidByText := true, laidKinds := [.data, .data, .data], laidTests := true, laidLooks := .later }
def TransferBracketCardSaid : Prop := Claim7.holds Tryz.pinned (.plain (OpenSpec.ofChange transferBracketSpec)) transferBracketCard

/-- THE TIED CARD OF 'unravellaw18.JonesIs'. -/
def jonesIsCard : Claim7 := { stood := { row := jonesIsRow, standIns := [], harness := (true, "d23207fbc0a3a864d76451638e1eb60d1934876c8cf2ecaf0269dc684837ebc8"), looks := false }, kinds := [], alts := [], laidByText := true, laidKinds := [.data, .data, .data], laidTests := true, laidLooks := .later }
def JonesIsCardSaid : Prop := Claim7.holds Tryz.pinned (.plain (OpenSpec.ofChange jonesIsSpec)) jonesIsCard

/-- THE TIED CARD OF 'unravellaw18.JonesOrders'. -/
def jonesOrdersCard : Claim7 := { stood := { row := jonesOrdersRow, standIns := [], harness := (true, "d23207fbc0a3a864d76451638e1eb60d1934876c8cf2ecaf0269dc684837ebc8"), looks := false }, kinds := [], alts := [], laidByText := true, laidKinds := [.data, .data, .data], laidTests := true, laidLooks := .later }
def JonesOrdersCardSaid : Prop := Claim7.holds Tryz.pinned (.plain (OpenSpec.ofChange jonesOrdersSpec)) jonesOrdersCard

/-- THE TIED CARD OF 'unravellaw18.JonesMirrors'. -/
def jonesMirrorsCard : Claim7 := { stood := { row := jonesMirrorsRow, standIns := [], harness := (true, "d23207fbc0a3a864d76451638e1eb60d1934876c8cf2ecaf0269dc684837ebc8"), looks := false }, kinds := [], alts := [], laidByText := true, laidKinds := [.data, .data, .data], laidTests := true, laidLooks := .later }
def JonesMirrorsCardSaid : Prop := Claim7.holds Tryz.pinned (.plain (OpenSpec.ofChange jonesMirrorsSpec)) jonesMirrorsCard

/-- THE TIED CARD OF 'unravellaw18.JonesAtOne'. -/
def jonesAtOneCard : Claim7 := { stood := { row := jonesAtOneRow, standIns := [], harness := (true, "d23207fbc0a3a864d76451638e1eb60d1934876c8cf2ecaf0269dc684837ebc8"), looks := false }, kinds := [], alts := [], laidByText := true, laidKinds := [.data, .data, .data], laidTests := true, laidLooks := .later }
def JonesAtOneCardSaid : Prop := Claim7.holds Tryz.pinned (.plain (OpenSpec.ofChange jonesAtOneSpec)) jonesAtOneCard

/-- THE SECOND FORM's CARD OF 'unravellaw17.TransferBracket'. -/
def transferBracketUptoCard : Claim7 := { stood := { row := transferBracketUptoRow, standIns := [], harness := (true, "d23207fbc0a3a864d76451638e1eb60d1934876c8cf2ecaf0269dc684837ebc8"), looks := false }, kinds := [], alts := [], laidByText := true, laidKinds := [.data, .data, .data], laidTests := true, laidLooks := .later }
def TransferBracketUptoCardSaid : Prop := Claim7.holds Tryz.pinned (.plain (OpenSpec.upto transferBracketSpec)) transferBracketUptoCard

/-- THE SECOND FORM's CARD OF 'unravellaw18.JonesIs'. -/
def jonesIsUptoCard : Claim7 := { stood := { row := jonesIsUptoRow, standIns := [], harness := (true, "d23207fbc0a3a864d76451638e1eb60d1934876c8cf2ecaf0269dc684837ebc8"), looks := false }, kinds := [], alts := [], laidByText := true, laidKinds := [.data, .data, .data], laidTests := true, laidLooks := .later }
def JonesIsUptoCardSaid : Prop := Claim7.holds Tryz.pinned (.plain (OpenSpec.upto jonesIsSpec)) jonesIsUptoCard

/-- THE SECOND FORM's CARD OF 'unravellaw18.JonesOrders'. -/
def jonesOrdersUptoCard : Claim7 := { stood := { row := jonesOrdersUptoRow, standIns := [], harness := (true, "d23207fbc0a3a864d76451638e1eb60d1934876c8cf2ecaf0269dc684837ebc8"), looks := false }, kinds := [], alts := [], laidByText := true, laidKinds := [.data, .data, .data], laidTests := true, laidLooks := .later }
def JonesOrdersUptoCardSaid : Prop := Claim7.holds Tryz.pinned (.plain (OpenSpec.upto jonesOrdersSpec)) jonesOrdersUptoCard

/-- THE SECOND FORM's CARD OF 'unravellaw18.JonesMirrors'. -/
def jonesMirrorsUptoCard : Claim7 := { stood := { row := jonesMirrorsUptoRow, standIns := [], harness := (true, "d23207fbc0a3a864d76451638e1eb60d1934876c8cf2ecaf0269dc684837ebc8"), looks := false }, kinds := [], alts := [], laidByText := true, laidKinds := [.data, .data, .data], laidTests := true, laidLooks := .later }
def JonesMirrorsUptoCardSaid : Prop := Claim7.holds Tryz.pinned (.plain (OpenSpec.upto jonesMirrorsSpec)) jonesMirrorsUptoCard

/-- THE SECOND FORM's CARD OF 'unravellaw18.JonesAtOne'. -/
def jonesAtOneUptoCard : Claim7 := { stood := { row := jonesAtOneUptoRow, standIns := [], harness := (true, "d23207fbc0a3a864d76451638e1eb60d1934876c8cf2ecaf0269dc684837ebc8"), looks := false }, kinds := [], alts := [], laidByText := true, laidKinds := [.data, .data, .data], laidTests := true, laidLooks := .later }
def JonesAtOneUptoCardSaid : Prop := Claim7.holds Tryz.pinned (.plain (OpenSpec.upto jonesAtOneSpec)) jonesAtOneUptoCard
end Rows
end Go.Proofs.YtebdkebfkpbmpaaGreatDoor
