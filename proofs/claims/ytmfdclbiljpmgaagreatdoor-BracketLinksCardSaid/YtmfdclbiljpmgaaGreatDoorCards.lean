/-
  DERIVED. GIVEN WITH THE SEED: THE CARDS: each row of YtmfdclbiljpmgaaGreatDoorRows.lean that lists a variable, with what it lists TIED to the program's text (the seventh form; the later family's looks); each row that meets fmt, with fmt's text TOLD by the authors' own Lean function (tested against real Go, not proved from fmt's source: count such statements apart). THE CARD IS WHAT COUNTS. Prove the row's statement (the work); the ties are given (YtmfdclbiljpmgaaGreatDoorTie.lean); close each card by the builder's one call (the guide's Derived/Test/ToyasCard.lean, 'card_holds'). Laid BY PROGRAM, IN A SANDBOX (cutbox-door.mjs). By AI agents, Wed Nov 11 2026. No macro, syntax, notation, axiom, sorry.
-/
import Derived.Test.YtmfdclbiljpmgaaGreatDoorRows
import GoSem.ClaimSeven
namespace Go.Proofs.YtmfdclbiljpmgaaGreatDoor
namespace Rows

/-- THE TIED CARD OF 'unravellaw15.BracketSums'. -/
def bracketSumsCard : Claim7 := { stood := { row := bracketSumsRow, standIns := [], harness := (true, "278b0f7e745416ec5d4eaa3e1e4e21e6649696b50b0a2ba56a105426752d9664"), looks := false }, kinds := [], alts := [], laidByText := true, laidKinds := [.data, .data, .data], laidTests := true, laidLooks := .later }
def BracketSumsCardSaid : Prop := Claim7.holds Tryz.pinned (.plain (OpenSpec.ofChange bracketSumsSpec)) bracketSumsCard

/-- THE TIED CARD OF 'unravellaw15.BracketMirrors'. -/
def bracketMirrorsCard : Claim7 := { stood := { row := bracketMirrorsRow, standIns := [], harness := (true, "278b0f7e745416ec5d4eaa3e1e4e21e6649696b50b0a2ba56a105426752d9664"), looks := false }, kinds := [], alts := [], laidByText := true, laidKinds := [.data, .data, .data], laidTests := true, laidLooks := .later }
def BracketMirrorsCardSaid : Prop := Claim7.holds Tryz.pinned (.plain (OpenSpec.ofChange bracketMirrorsSpec)) bracketMirrorsCard

/-- THE TIED CARD OF 'unravellaw15.BracketLinks'. -/
def bracketLinksCard : Claim7 := { stood := { row := bracketLinksRow, standIns := [], harness := (true, "278b0f7e745416ec5d4eaa3e1e4e21e6649696b50b0a2ba56a105426752d9664"), looks := false }, kinds := [], alts := [], laidByText := true, laidKinds := [.data, .data, .data], laidTests := true, laidLooks := .later }
def BracketLinksCardSaid : Prop := Claim7.holds Tryz.pinned (.plain (OpenSpec.ofChange bracketLinksSpec)) bracketLinksCard

/-- THE TIED CARD OF 'unravellaw18.JonesIs'. -/
def jonesIsCard : Claim7 := { stood := { row := jonesIsRow, standIns := [], harness := (true, "278b0f7e745416ec5d4eaa3e1e4e21e6649696b50b0a2ba56a105426752d9664"), looks := false }, kinds := [], alts := [], laidByText := true, laidKinds := [.data, .data, .data], laidTests := true, laidLooks := .later }
def JonesIsCardSaid : Prop := Claim7.holds Tryz.pinned (.plain (OpenSpec.ofChange jonesIsSpec)) jonesIsCard

/-- THE TIED CARD OF 'unravellaw18.JonesMirrors'. -/
def jonesMirrorsCard : Claim7 := { stood := { row := jonesMirrorsRow, standIns := [], harness := (true, "278b0f7e745416ec5d4eaa3e1e4e21e6649696b50b0a2ba56a105426752d9664"), looks := false }, kinds := [], alts := [], laidByText := true, laidKinds := [.data, .data, .data], laidTests := true, laidLooks := .later }
def JonesMirrorsCardSaid : Prop := Claim7.holds Tryz.pinned (.plain (OpenSpec.ofChange jonesMirrorsSpec)) jonesMirrorsCard

/-- THE TIED CARD OF 'unravellaw18.JonesReverses'. -/
def jonesReversesCard : Claim7 := { stood := { row := jonesReversesRow, standIns := [], harness := (true, "278b0f7e745416ec5d4eaa3e1e4e21e6649696b50b0a2ba56a105426752d9664"), looks := false }, kinds := [], alts := [], laidByText := true, laidKinds := [.data, .data, .data], laidTests := true, laidLooks := .later }
def JonesReversesCardSaid : Prop := Claim7.holds Tryz.pinned (.plain (OpenSpec.ofChange jonesReversesSpec)) jonesReversesCard

/-- THE TIED CARD OF 'unravellaw18.JonesAtOne'. -/
def jonesAtOneCard : Claim7 := { stood := { row := jonesAtOneRow, standIns := [], harness := (true, "278b0f7e745416ec5d4eaa3e1e4e21e6649696b50b0a2ba56a105426752d9664"), looks := false }, kinds := [], alts := [], laidByText := true, laidKinds := [.data, .data, .data], laidTests := true, laidLooks := .later }
def JonesAtOneCardSaid : Prop := Claim7.holds Tryz.pinned (.plain (OpenSpec.ofChange jonesAtOneSpec)) jonesAtOneCard

/-- THE SECOND FORM's CARD OF 'unravellaw15.BracketSums'. -/
def bracketSumsUptoCard : Claim7 := { stood := { row := bracketSumsUptoRow, standIns := [], harness := (true, "278b0f7e745416ec5d4eaa3e1e4e21e6649696b50b0a2ba56a105426752d9664"), looks := false }, kinds := [], alts := [], laidByText := true, laidKinds := [.data, .data, .data], laidTests := true, laidLooks := .later }
def BracketSumsUptoCardSaid : Prop := Claim7.holds Tryz.pinned (.plain (OpenSpec.upto bracketSumsSpec)) bracketSumsUptoCard

/-- THE SECOND FORM's CARD OF 'unravellaw15.BracketMirrors'. -/
def bracketMirrorsUptoCard : Claim7 := { stood := { row := bracketMirrorsUptoRow, standIns := [], harness := (true, "278b0f7e745416ec5d4eaa3e1e4e21e6649696b50b0a2ba56a105426752d9664"), looks := false }, kinds := [], alts := [], laidByText := true, laidKinds := [.data, .data, .data], laidTests := true, laidLooks := .later }
def BracketMirrorsUptoCardSaid : Prop := Claim7.holds Tryz.pinned (.plain (OpenSpec.upto bracketMirrorsSpec)) bracketMirrorsUptoCard

/-- THE SECOND FORM's CARD OF 'unravellaw15.BracketLinks'. -/
def bracketLinksUptoCard : Claim7 := { stood := { row := bracketLinksUptoRow, standIns := [], harness := (true, "278b0f7e745416ec5d4eaa3e1e4e21e6649696b50b0a2ba56a105426752d9664"), looks := false }, kinds := [], alts := [], laidByText := true, laidKinds := [.data, .data, .data], laidTests := true, laidLooks := .later }
def BracketLinksUptoCardSaid : Prop := Claim7.holds Tryz.pinned (.plain (OpenSpec.upto bracketLinksSpec)) bracketLinksUptoCard

/-- THE SECOND FORM's CARD OF 'unravellaw18.JonesIs'. -/
def jonesIsUptoCard : Claim7 := { stood := { row := jonesIsUptoRow, standIns := [], harness := (true, "278b0f7e745416ec5d4eaa3e1e4e21e6649696b50b0a2ba56a105426752d9664"), looks := false }, kinds := [], alts := [], laidByText := true, laidKinds := [.data, .data, .data], laidTests := true, laidLooks := .later }
def JonesIsUptoCardSaid : Prop := Claim7.holds Tryz.pinned (.plain (OpenSpec.upto jonesIsSpec)) jonesIsUptoCard

/-- THE SECOND FORM's CARD OF 'unravellaw18.JonesMirrors'. -/
def jonesMirrorsUptoCard : Claim7 := { stood := { row := jonesMirrorsUptoRow, standIns := [], harness := (true, "278b0f7e745416ec5d4eaa3e1e4e21e6649696b50b0a2ba56a105426752d9664"), looks := false }, kinds := [], alts := [], laidByText := true, laidKinds := [.data, .data, .data], laidTests := true, laidLooks := .later }
def JonesMirrorsUptoCardSaid : Prop := Claim7.holds Tryz.pinned (.plain (OpenSpec.upto jonesMirrorsSpec)) jonesMirrorsUptoCard

/-- THE SECOND FORM's CARD OF 'unravellaw18.JonesReverses'. -/
def jonesReversesUptoCard : Claim7 := { stood := { row := jonesReversesUptoRow, standIns := [], harness := (true, "278b0f7e745416ec5d4eaa3e1e4e21e6649696b50b0a2ba56a105426752d9664"), looks := false }, kinds := [], alts := [], laidByText := true, laidKinds := [.data, .data, .data], laidTests := true, laidLooks := .later }
def JonesReversesUptoCardSaid : Prop := Claim7.holds Tryz.pinned (.plain (OpenSpec.upto jonesReversesSpec)) jonesReversesUptoCard

/-- THE SECOND FORM's CARD OF 'unravellaw18.JonesAtOne'. -/
def jonesAtOneUptoCard : Claim7 := { stood := { row := jonesAtOneUptoRow, standIns := [], harness := (true, "278b0f7e745416ec5d4eaa3e1e4e21e6649696b50b0a2ba56a105426752d9664"), looks := false }, kinds := [], alts := [], laidByText := true, laidKinds := [.data, .data, .data], laidTests := true, laidLooks := .later }
def JonesAtOneUptoCardSaid : Prop := Claim7.holds Tryz.pinned (.plain (OpenSpec.upto jonesAtOneSpec)) jonesAtOneUptoCard
end Rows
end Go.Proofs.YtmfdclbiljpmgaaGreatDoor
