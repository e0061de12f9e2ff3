/-
  DERIVED. GIVEN WITH THE SEED: THE CARDS: each row of YtmdjdekgakidhaaGreatDoorRows.lean that lists a variable, with what it lists TIED to the program's text (the seventh form; the later family's looks); each row that meets fmt, with fmt's text TOLD by the authors' own Lean function (tested against real Go, not proved from fmt's source: count such statements apart). THE CARD IS WHAT COUNTS. Prove the row's statement (the work); the ties are given (YtmdjdekgakidhaaGreatDoorTie.lean); close each card by the builder's one call (the guide's Derived/Test/ToyasCard.lean, 'card_holds'). Laid BY PROGRAM, IN A SANDBOX (cutbox-door.mjs). By AI agents, Wed Nov 11 2026. No macro, syntax, notation, axiom, sorry.
-/
import Derived.Test.YtmdjdekgakidhaaGreatDoorRows
import GoSem.ClaimSeven
namespace Go.Proofs.YtmdjdekgakidhaaGreatDoor
namespace Rows

/-- THE TIED CARD OF 'unravellaw17.TransferSums'. -/
def transferSumsCard : Claim7 := { stood := { row := transferSumsRow, standIns := [], harness := (true, "89a0cbeb2c2b998dcaafeeeca4f8d2536ff67bc5b865ed4e0bc80a6ed152f348"), looks := false }, kinds := [], alts := [], laidByText := true, laidKinds := [.data, .data, .data], laidTests := true, laidLooks := .later }
def TransferSumsCardSaid : Prop := Claim7.holds Tryz.pinned (.plain (OpenSpec.ofChange transferSumsSpec)) transferSumsCard

/-- THE TIED CARD OF 'unravellaw18.JonesIs'. -/
def jonesIsCard : Claim7 := { stood := { row := jonesIsRow, standIns := [], harness := (true, "89a0cbeb2c2b998dcaafeeeca4f8d2536ff67bc5b865ed4e0bc80a6ed152f348"), looks := false }, kinds := [], alts := [], laidByText := true, laidKinds := [.data, .data, .data], laidTests := true, laidLooks := .later }
def JonesIsCardSaid : Prop := Claim7.holds Tryz.pinned (.plain (OpenSpec.ofChange jonesIsSpec)) jonesIsCard

/-- THE SECOND FORM's CARD OF 'unravellaw17.TransferSums'. -/
def transferSumsUptoCard : Claim7 := { stood := { row := transferSumsUptoRow, standIns := [], harness := (true, "89a0cbeb2c2b998dcaafeeeca4f8d2536ff67bc5b865ed4e0bc80a6ed152f348"), looks := false }, kinds := [], alts := [], laidByText := true, laidKinds := [.data, .data, .data], laidTests := true, laidLooks := .later }
def TransferSumsUptoCardSaid : Prop := Claim7.holds Tryz.pinned (.plain (OpenSpec.upto transferSumsSpec)) transferSumsUptoCard

/-- THE SECOND FORM's CARD OF 'unravellaw18.JonesIs'. -/
def jonesIsUptoCard : Claim7 := { stood := { row := jonesIsUptoRow, standIns := [], harness := (true, "89a0cbeb2c2b998dcaafeeeca4f8d2536ff67bc5b865ed4e0bc80a6ed152f348"), looks := false }, kinds := [], alts := [], laidByText := true, laidKinds := [.data, .data, .data], laidTests := true, laidLooks := .later }
def JonesIsUptoCardSaid : Prop := Claim7.holds Tryz.pinned (.plain (OpenSpec.upto jonesIsSpec)) jonesIsUptoCard
end Rows
end Go.Proofs.YtmdjdekgakidhaaGreatDoor
