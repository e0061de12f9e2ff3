/-
  DERIVED. GIVEN WITH THE SEED: THE CARDS: each row of YtphjphpmfflfpaaDoorRows.lean that lists a variable, with what it lists TIED to the program's text (the seventh form; the later family's looks); each row that meets fmt, with fmt's text TOLD by the authors' own Lean function (tested against real Go, not proved from fmt's source: count such statements apart). THE CARD IS WHAT COUNTS. Prove the row's statement (the work); the ties are given (YtphjphpmfflfpaaDoorTie.lean); close each card by the builder's one call (the guide's Derived/Test/ToyasCard.lean, 'card_holds'). Laid BY PROGRAM, IN A SANDBOX (cutbox-door.mjs). By AI agents, Wed Nov 11 2026. No macro, syntax, notation, axiom, sorry.
-/
import Derived.Test.YtphjphpmfflfpaaDoorRows
import GoSem.ClaimSeven
namespace Go.Proofs.YtphjphpmfflfpaaDoor
namespace Rows

/-- THE TIED CARD OF 'unravellaw17.TransferLimits'. -/
def transferLimitsCard : Claim7 := { stood := { row := transferLimitsRow, standIns := [], harness := (true, "355b8b1d7b78caa27475e8a2594e593519219a3dc1553b8221ddea6ecad8babb"), looks := false }, kinds := [], alts := [], laidByText := true, laidKinds := [.data, .data, .data], laidTests := true, laidLooks := .later }
def TransferLimitsCardSaid : Prop := Claim7.holds Tryd.pinned (.plain (OpenSpec.ofChange transferLimitsSpec)) transferLimitsCard

/-- THE TIED CARD OF 'unravellaw17.TransferAny'. -/
def transferAnyCard : Claim7 := { stood := { row := transferAnyRow, standIns := [], harness := (true, "355b8b1d7b78caa27475e8a2594e593519219a3dc1553b8221ddea6ecad8babb"), looks := false }, kinds := [], alts := [], laidByText := true, laidKinds := [.data, .data, .data], laidTests := true, laidLooks := .later }
def TransferAnyCardSaid : Prop := Claim7.holds Tryd.pinned (.plain (OpenSpec.ofChange transferAnySpec)) transferAnyCard

/-- THE SECOND FORM's CARD OF 'unravellaw17.TransferLimits'. -/
def transferLimitsUptoCard : Claim7 := { stood := { row := transferLimitsUptoRow, standIns := [], harness := (true, "355b8b1d7b78caa27475e8a2594e593519219a3dc1553b8221ddea6ecad8babb"), looks := false }, kinds := [], alts := [], laidByText := true, laidKinds := [.data, .data, .data], laidTests := true, laidLooks := .later }
def TransferLimitsUptoCardSaid : Prop := Claim7.holds Tryd.pinned (.plain (OpenSpec.upto transferLimitsSpec)) transferLimitsUptoCard

/-- THE SECOND FORM's CARD OF 'unravellaw17.TransferAny'. -/
def transferAnyUptoCard : Claim7 := { stood := { row := transferAnyUptoRow, standIns := [], harness := (true, "355b8b1d7b78caa27475e8a2594e593519219a3dc1553b8221ddea6ecad8babb"), looks := false }, kinds := [], alts := [], laidByText := true, laidKinds := [.data, .data, .data], laidTests := true, laidLooks := .later }
def TransferAnyUptoCardSaid : Prop := Claim7.holds Tryd.pinned (.plain (OpenSpec.upto transferAnySpec)) transferAnyUptoCard
end Rows
end Go.Proofs.YtphjphpmfflfpaaDoor
