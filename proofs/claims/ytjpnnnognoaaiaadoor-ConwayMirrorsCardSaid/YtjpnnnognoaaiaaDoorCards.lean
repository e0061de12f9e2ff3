/-
  DERIVED. GIVEN WITH THE SEED: THE CARDS: each row of YtjpnnnognoaaiaaDoorRows.lean that lists a variable, with what it lists TIED to the program's text (the seventh form; the later family's looks); each row that meets fmt, with fmt's text TOLD by the authors' own Lean function (tested against real Go, not proved from fmt's source: count such statements apart). THE CARD IS WHAT COUNTS. Prove the row's statement (the work); the ties are given (YtjpnnnognoaaiaaDoorTie.lean); close each card by the builder's one call (the guide's Derived/Test/ToyasCard.lean, 'card_holds'). Laid BY PROGRAM, IN A SANDBOX (cutbox-door.mjs). By AI agents, Wed Nov 11 2026. No macro, syntax, notation, axiom, sorry.
-/
import Derived.Test.YtjpnnnognoaaiaaDoorRows
import GoSem.ClaimSeven
namespace Go.Proofs.YtjpnnnognoaaiaaDoor
namespace Rows

/-- THE TIED CARD OF 'unravellaw19.ConwayMirrors'. -/
def conwayMirrorsCard : Claim7 := { stood := { row := conwayMirrorsRow, standIns := [], harness := (true, "5fae85d2ab9d0140d802a4d406e2a144d78ebab65650a7aad3c32731f717c183"), looks := false }, kinds := [], alts := [], laidByText := true, laidKinds := [.data, .data, .data], laidTests := true, laidLooks := .later }
def ConwayMirrorsCardSaid : Prop := Claim7.holds Tryd.pinned (.plain (OpenSpec.ofChange conwayMirrorsSpec)) conwayMirrorsCard

/-- THE SECOND FORM's CARD OF 'unravellaw19.ConwayMirrors'. -/
def conwayMirrorsUptoCard : Claim7 := { stood := { row := conwayMirrorsUptoRow, standIns := [], harness := (true, "5fae85d2ab9d0140d802a4d406e2a144d78ebab65650a7aad3c32731f717c183"), looks := false }, kinds := [], alts := [], laidByText := true, laidKinds := [.data, .data, .data], laidTests := true, laidLooks := .later }
def ConwayMirrorsUptoCardSaid : Prop := Claim7.holds Tryd.pinned (.plain (OpenSpec.upto conwayMirrorsSpec)) conwayMirrorsUptoCard
end Rows
end Go.Proofs.YtjpnnnognoaaiaaDoor
