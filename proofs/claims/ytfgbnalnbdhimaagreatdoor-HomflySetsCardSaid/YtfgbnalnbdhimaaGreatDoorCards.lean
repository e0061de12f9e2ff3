/-
  DERIVED. GIVEN WITH THE SEED: THE CARDS: each row of YtfgbnalnbdhimaaGreatDoorRows.lean that lists a variable, with what it lists TIED to the program's text (the seventh form; the later family's looks); each row that meets fmt, with fmt's text TOLD by the authors' own Lean function (tested against real Go, not proved from fmt's source: count such statements apart). THE CARD IS WHAT COUNTS. Prove the row's statement (the work); the ties are given (YtfgbnalnbdhimaaGreatDoorTie.lean); close each card by the builder's one call (the guide's Derived/Test/ToyasCard.lean, 'card_holds'). Laid BY PROGRAM, IN A SANDBOX (cutbox-door.mjs). By AI agents, Wed Nov 11 2026. No macro, syntax, notation, axiom, sorry.
-/
import Derived.Test.YtfgbnalnbdhimaaGreatDoorRows
import GoSem.ClaimSeven
namespace Go.Proofs.YtfgbnalnbdhimaaGreatDoor
namespace Rows

/-- THE TIED CARD OF 'unravellaw20.HomflySets'. -/
def homflySetsCard : Claim7 := { stood := { row := homflySetsRow, standIns := [], harness := (true, "ffd4eff7805e9c8e113f7ffb10a38d1b4acc6ae7b6427c932134f6975f0346ab"), looks := false }, kinds := [], alts := [], laidByText := true, laidKinds := [.data, .data, .data], laidTests := true, laidLooks := .later }
def HomflySetsCardSaid : Prop := Claim7.holds Tryz.pinned (.plain (OpenSpec.ofChange homflySetsSpec)) homflySetsCard

/-- THE SECOND FORM's CARD OF 'unravellaw20.HomflySets'. -/
def homflySetsUptoCard : Claim7 := { stood := { row := homflySetsUptoRow, standIns := [], harness := (true, "ffd4eff7805e9c8e113f7ffb10a38d1b4acc6ae7b6427c932134f6975f0346ab"), looks := false }, kinds := [], alts := [], laidByText := true, laidKinds := [.data, .data, .data], laidTests := true, laidLooks := .later }
def HomflySetsUptoCardSaid : Prop := Claim7.holds Tryz.pinned (.plain (OpenSpec.upto homflySetsSpec)) homflySetsUptoCard
end Rows
end Go.Proofs.YtfgbnalnbdhimaaGreatDoor
