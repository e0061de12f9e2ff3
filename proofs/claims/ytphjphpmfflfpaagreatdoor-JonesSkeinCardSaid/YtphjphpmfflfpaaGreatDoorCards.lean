/-
  DERIVED. GIVEN WITH THE SEED: THE CARDS: each row of YtphjphpmfflfpaaGreatDoorRows.lean that lists a variable, with what it lists TIED to the program's text (the seventh form; the later family's looks); each row that meets fmt, with fmt's text TOLD by the authors' own Lean function (tested against real Go, not proved from fmt's source: count such statements apart). THE CARD IS WHAT COUNTS. Prove the row's statement (the work); the ties are given (YtphjphpmfflfpaaGreatDoorTie.lean); close each card by the builder's one call (the guide's Derived/Test/ToyasCard.lean, 'card_holds'). Laid BY PROGRAM, IN A SANDBOX (cutbox-door.mjs). By AI agents, Wed Nov 11 2026. No macro, syntax, notation, axiom, sorry.
-/
import Derived.Test.YtphjphpmfflfpaaGreatDoorRows
import GoSem.ClaimSeven
namespace Go.Proofs.YtphjphpmfflfpaaGreatDoor
namespace Rows

/-- THE TIED CARD OF 'unravellaw17.TransferSums'. -/
def transferSumsCard : Claim7 := { stood := { row := transferSumsRow, standIns := [], harness := (true, "77cbfbe2fa7b0b65142e09c1c8745e5f384e47a463e32ecd83df0e612e2578ef"), looks := false }, kinds := [], alts := [], laidByText := true, laidKinds := [.data, .data, .data], laidTests := true, laidLooks := .later }
def TransferSumsCardSaid : Prop := Claim7.holds Tryz.pinned (.plain (OpenSpec.ofChange transferSumsSpec)) transferSumsCard

/-- THE TIED CARD OF 'unravellaw18.JonesIs'. -/
def jonesIsCard : Claim7 := { stood := { row := jonesIsRow, standIns := [], harness := (true, "77cbfbe2fa7b0b65142e09c1c8745e5f384e47a463e32ecd83df0e612e2578ef"), looks := false }, kinds := [], alts := [], laidByText := true, laidKinds := [.data, .data, .data], laidTests := true, laidLooks := .later }
def JonesIsCardSaid : Prop := Claim7.holds Tryz.pinned (.plain (OpenSpec.ofChange jonesIsSpec)) jonesIsCard

/-- THE TIED CARD OF 'unravellaw18.JonesOrders'. -/
def jonesOrdersCard : Claim7 := { stood := { row := jonesOrdersRow, standIns := [], harness := (true, "77cbfbe2fa7b0b65142e09c1c8745e5f384e47a463e32ecd83df0e612e2578ef"), looks := false }, kinds := [], alts := [], laidByText := true, laidKinds := [.data, .data, .data], laidTests := true, laidLooks := .later }
def JonesOrdersCardSaid : Prop := Claim7.holds Tryz.pinned (.plain (OpenSpec.ofChange jonesOrdersSpec)) jonesOrdersCard

/-- THE TIED CARD OF 'unravellaw18.JonesMirrors'. -/
def jonesMirrorsCard : Claim7 := { stood := { row := jonesMirrorsRow, standIns := [], harness := (true, "77cbfbe2fa7b0b65142e09c1c8745e5f384e47a463e32ecd83df0e612e2578ef"), looks := false }, kinds := [], alts := [], laidByText := true, laidKinds := [.data, .data, .data], laidTests := true, laidLooks := .later }
def JonesMirrorsCardSaid : Prop := Claim7.holds Tryz.pinned (.plain (OpenSpec.ofChange jonesMirrorsSpec)) jonesMirrorsCard

/-- THE TIED CARD OF 'unravellaw18.JonesReverses'. -/
def jonesReversesCard : Claim7 := { stood := { row := jonesReversesRow, standIns := [], harness := (true, "77cbfbe2fa7b0b65142e09c1c8745e5f384e47a463e32ecd83df0e612e2578ef"), looks := false }, kinds := [], alts := [], laidByText := true, laidKinds := [.data, .data, .data], laidTests := true, laidLooks := .later }
def JonesReversesCardSaid : Prop := Claim7.holds Tryz.pinned (.plain (OpenSpec.ofChange jonesReversesSpec)) jonesReversesCard

/-- THE TIED CARD OF 'unravellaw18.JonesSums'. -/
def jonesSumsCard : Claim7 := { stood := { row := jonesSumsRow, standIns := [], harness := (true, "77cbfbe2fa7b0b65142e09c1c8745e5f384e47a463e32ecd83df0e612e2578ef"), looks := false }, kinds := [], alts := [], laidByText := true, laidKinds := [.data, .data, .data], laidTests := true, laidLooks := .later }
def JonesSumsCardSaid : Prop := Claim7.holds Tryz.pinned (.plain (OpenSpec.ofChange jonesSumsSpec)) jonesSumsCard

/-- THE TIED CARD OF 'unravellaw18.JonesSkein'. -/
def jonesSkeinCard : Claim7 := { stood := { row := jonesSkeinRow, standIns := [], harness := (true, "77cbfbe2fa7b0b65142e09c1c8745e5f384e47a463e32ecd83df0e612e2578ef"), looks := false }, kinds := [], alts := [], laidByText := true, laidKinds := [.data, .data, .data], laidTests := true, laidLooks := .later }
def JonesSkeinCardSaid : Prop := Claim7.holds Tryz.pinned (.plain (OpenSpec.ofChange jonesSkeinSpec)) jonesSkeinCard

/-- THE TIED CARD OF 'unravellaw18.JonesAtOne'. -/
def jonesAtOneCard : Claim7 := { stood := { row := jonesAtOneRow, standIns := [], harness := (true, "77cbfbe2fa7b0b65142e09c1c8745e5f384e47a463e32ecd83df0e612e2578ef"), looks := false }, kinds := [], alts := [], laidByText := true, laidKinds := [.data, .data, .data], laidTests := true, laidLooks := .later }
def JonesAtOneCardSaid : Prop := Claim7.holds Tryz.pinned (.plain (OpenSpec.ofChange jonesAtOneSpec)) jonesAtOneCard

/-- THE SECOND FORM's CARD OF 'unravellaw17.TransferSums'. -/
def transferSumsUptoCard : Claim7 := { stood := { row := transferSumsUptoRow, standIns := [], harness := (true, "77cbfbe2fa7b0b65142e09c1c8745e5f384e47a463e32ecd83df0e612e2578ef"), looks := false }, kinds := [], alts := [], laidByText := true, laidKinds := [.data, .data, .data], laidTests := true, laidLooks := .later }
def TransferSumsUptoCardSaid : Prop := Claim7.holds Tryz.pinned (.plain (OpenSpec.upto transferSumsSpec)) transferSumsUptoCard

/-- THE SECOND FORM's CARD OF 'unravellaw18.JonesIs'. -/
def jonesIsUptoCard : Claim7 := { stood := { row := jonesIsUptoRow, standIns := [], harness := (true, "77cbfbe2fa7b0b65142e09c1c8745e5f384e47a463e32ecd83df0e612e2578ef"), looks := false }, kinds := [], alts := [], laidByText := true, laidKinds := [.data, .data, .data], laidTests := true, laidLooks := .later }
def JonesIsUptoCardSaid : Prop := Claim7.holds Tryz.pinned (.plain (OpenSpec.upto jonesIsSpec)) jonesIsUptoCard

/-- THE SECOND FORM's CARD OF 'unravellaw18.JonesOrders'. -/
def jonesOrdersUptoCard : Claim7 := { stood := { row := jonesOrdersUptoRow, standIns := [], harness := (true, "77cbfbe2fa7b0b65142e09c1c8745e5f384e47a463e32ecd83df0e612e2578ef"), looks := false }, kinds := [], alts := [], laidByText := true, laidKinds := [.data, .data, .data], laidTests := true, laidLooks := .later }
def JonesOrdersUptoCardSaid : Prop := Claim7.holds Tryz.pinned (.plain (OpenSpec.upto jonesOrdersSpec)) jonesOrdersUptoCard

/-- THE SECOND FORM's CARD OF 'unravellaw18.JonesMirrors'. -/
def jonesMirrorsUptoCard : Claim7 := { stood := { row := jonesMirrorsUptoRow, standIns := [], harness := (true, "77cbfbe2fa7b0b65142e09c1c8745e5f384e47a463e32ecd83df0e612e2578ef"), looks := false }, kinds := [], alts := [], laidByText := true, laidKinds := [.data, .data, .data], laidTests := true, laidLooks := .later }
def JonesMirrorsUptoCardSaid : Prop := Claim7.holds Tryz.pinned (.plain (OpenSpec.upto jonesMirrorsSpec)) jonesMirrorsUptoCard

/-- THE SECOND FORM's CARD OF 'unravellaw18.JonesReverses'. -/
def jonesReversesUptoCard : Claim7 := { stood := { row := jonesReversesUptoRow, standIns := [], harness := (true, "77cbfbe2fa7b0b65142e09c1c8745e5f384e47a463e32ecd83df0e612e2578ef"), looks := false }, kinds := [], alts := [], laidByText := true, laidKinds := [.data, .data, .data], laidTests := true, laidLooks := .later }
def JonesReversesUptoCardSaid : Prop := Claim7.holds Tryz.pinned (.plain (OpenSpec.upto jonesReversesSpec)) jonesReversesUptoCard

/-- THE SECOND FORM's CARD OF 'unravellaw18.JonesSums'. -/
def jonesSumsUptoCard : Claim7 := { stood := { row := jonesSumsUptoRow, standIns := [], harness := (true, "77cbfbe2fa7b0b65142e09c1c8745e5f384e47a463e32ecd83df0e612e2578ef"), looks := false }, kinds := [], alts := [], laidByText := true, laidKinds := [.data, .data, .data], laidTests := true, laidLooks := .later }
def JonesSumsUptoCardSaid : Prop := Claim7.holds Tryz.pinned (.plain (OpenSpec.upto jonesSumsSpec)) jonesSumsUptoCard

/-- THE SECOND FORM's CARD OF 'unravellaw18.JonesSkein'. -/
def jonesSkeinUptoCard : Claim7 := { stood := { row := jonesSkeinUptoRow, standIns := [], harness := (true, "77cbfbe2fa7b0b65142e09c1c8745e5f384e47a463e32ecd83df0e612e2578ef"), looks := false }, kinds := [], alts := [], laidByText := true, laidKinds := [.data, .data, .data], laidTests := true, laidLooks := .later }
def JonesSkeinUptoCardSaid : Prop := Claim7.holds Tryz.pinned (.plain (OpenSpec.upto jonesSkeinSpec)) jonesSkeinUptoCard

/-- THE SECOND FORM's CARD OF 'unravellaw18.JonesAtOne'. -/
def jonesAtOneUptoCard : Claim7 := { stood := { row := jonesAtOneUptoRow, standIns := [], harness := (true, "77cbfbe2fa7b0b65142e09c1c8745e5f384e47a463e32ecd83df0e612e2578ef"), looks := false }, kinds := [], alts := [], laidByText := true, laidKinds := [.data, .data, .data], laidTests := true, laidLooks := .later }
def JonesAtOneUptoCardSaid : Prop := Claim7.holds Tryz.pinned (.plain (OpenSpec.upto jonesAtOneSpec)) jonesAtOneUptoCard
end Rows
end Go.Proofs.YtphjphpmfflfpaaGreatDoor
