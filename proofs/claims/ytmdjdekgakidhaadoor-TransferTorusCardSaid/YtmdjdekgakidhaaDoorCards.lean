/-
  DERIVED. GIVEN WITH THE SEED: THE CARDS: each row of YtmdjdekgakidhaaDoorRows.lean that lists a variable, with what it lists TIED to the program's text (the seventh form; the later family's looks); each row that meets fmt, with fmt's text TOLD by the authors' own Lean function (tested against real Go, not proved from fmt's source: count such statements apart). THE CARD IS WHAT COUNTS. Prove the row's statement (the work); the ties are given (YtmdjdekgakidhaaDoorTie.lean); close each card by the builder's one call (the guide's Derived/Test/ToyasCard.lean, 'card_holds'). Laid BY PROGRAM, IN A SANDBOX (cutbox-door.mjs). By AI agents, Wed Nov 11 2026. No macro, syntax, notation, axiom, sorry.
-/
import Derived.Test.YtmdjdekgakidhaaDoorRows
import GoSem.ClaimSeven
namespace Go.Proofs.YtmdjdekgakidhaaDoor
namespace Rows

/-- THE TIED CARD OF 'unravellaw17.TransferTorus'. -/
def transferTorusCard : Claim7 := { stood := { row := transferTorusRow, standIns := [], harness := (true, "51c71afc73db372ce508187544a28e9d1144c715309f36dc9eff08445c4c1f7d"), looks := false }, kinds := [], alts := [], laidByText := true, laidKinds := [.data, .data, .data], laidTests := true, laidLooks := .later }
def TransferTorusCardSaid : Prop := Claim7.holds Tryd.pinned (.plain (OpenSpec.ofChange transferTorusSpec)) transferTorusCard

/-- THE SECOND FORM's CARD OF 'unravellaw17.TransferTorus'. -/
def transferTorusUptoCard : Claim7 := { stood := { row := transferTorusUptoRow, standIns := [], harness := (true, "51c71afc73db372ce508187544a28e9d1144c715309f36dc9eff08445c4c1f7d"), looks := false }, kinds := [], alts := [], laidByText := true, laidKinds := [.data, .data, .data], laidTests := true, laidLooks := .later }
def TransferTorusUptoCardSaid : Prop := Claim7.holds Tryd.pinned (.plain (OpenSpec.upto transferTorusSpec)) transferTorusUptoCard
end Rows
end Go.Proofs.YtmdjdekgakidhaaDoor
