/-
  DERIVED. GIVEN WITH THE SEED: THE CARDS: each row of YtbblgobamoabkaaGreatDoorRows.lean that lists a variable, with what it lists TIED to the program's text (the seventh form; the later family's looks); each row that meets fmt, with fmt's text TOLD by the authors' own Lean function (tested against real Go, not proved from fmt's source: count such statements apart). THE CARD IS WHAT COUNTS. Prove the row's statement (the work); the ties are given (YtbblgobamoabkaaGreatDoorTie.lean); close each card by the builder's one call (the guide's Derived/Test/ToyasCard.lean, 'card_holds'). Laid BY PROGRAM, IN A SANDBOX (cutbox-door.mjs). By AI agents, Wed Nov 11 2026. No macro, syntax, notation, axiom, sorry.
-/
import Derived.Test.YtbblgobamoabkaaGreatDoorRows
import GoSem.ClaimSeven
namespace Go.Proofs.YtbblgobamoabkaaGreatDoor
namespace Rows

/-- THE TIED CARD OF 'unravellaw20.HomflyPoly'. -/
def homflyPolyCard : Claim7 := { stood := { row := homflyPolyRow, standIns := [], harness := (true, "c9c9f5eb900f2b9b797eeb0836fe3de55002cb90a4c016396f9449c8aad1abf9"), looks := false }, kinds := [], alts := [], laidByText := true, laidKinds := [.data, .data, .data], laidTests := true, laidLooks := .later }
def HomflyPolyCardSaid : Prop := Claim7.holds Tryz.pinned (.plain (OpenSpec.ofChange homflyPolySpec)) homflyPolyCard

/-- THE TIED CARD OF 'unravellaw20.HomflySets'. -/
def homflySetsCard : Claim7 := { stood := { row := homflySetsRow, standIns := [], harness := (true, "c9c9f5eb900f2b9b797eeb0836fe3de55002cb90a4c016396f9449c8aad1abf9"), looks := false }, kinds := [], alts := [], laidByText := true, laidKinds := [.data, .data, .data], laidTests := true, laidLooks := .later }
def HomflySetsCardSaid : Prop := Claim7.holds Tryz.pinned (.plain (OpenSpec.ofChange homflySetsSpec)) homflySetsCard

/-- THE TIED CARD OF 'unravellaw20.HomflyConway'. -/
def homflyConwayCard : Claim7 := { stood := { row := homflyConwayRow, standIns := [], harness := (true, "c9c9f5eb900f2b9b797eeb0836fe3de55002cb90a4c016396f9449c8aad1abf9"), looks := false }, kinds := [], alts := [], laidByText := true, laidKinds := [.data, .data, .data], laidTests := true, laidLooks := .later }
def HomflyConwayCardSaid : Prop := Claim7.holds Tryz.pinned (.plain (OpenSpec.ofChange homflyConwaySpec)) homflyConwayCard

/-- THE SECOND FORM's CARD OF 'unravellaw20.HomflyPoly'. -/
def homflyPolyUptoCard : Claim7 := { stood := { row := homflyPolyUptoRow, standIns := [], harness := (true, "c9c9f5eb900f2b9b797eeb0836fe3de55002cb90a4c016396f9449c8aad1abf9"), looks := false }, kinds := [], alts := [], laidByText := true, laidKinds := [.data, .data, .data], laidTests := true, laidLooks := .later }
def HomflyPolyUptoCardSaid : Prop := Claim7.holds Tryz.pinned (.plain (OpenSpec.upto homflyPolySpec)) homflyPolyUptoCard

/-- THE SECOND FORM's CARD OF 'unravellaw20.HomflySets'. -/
def homflySetsUptoCard : Claim7 := { stood := { row := homflySetsUptoRow, standIns := [], harness := (true, "c9c9f5eb900f2b9b797eeb0836fe3de55002cb90a4c016396f9449c8aad1abf9"), looks := false }, kinds := [], alts := [], laidByText := true, laidKinds := [.data, .data, .data], laidTests := true, laidLooks := .later }
def HomflySetsUptoCardSaid : Prop := Claim7.holds Tryz.pinned (.plain (OpenSpec.upto homflySetsSpec)) homflySetsUptoCard

/-- THE SECOND FORM's CARD OF 'unravellaw20.HomflyConway'. -/
def homflyConwayUptoCard : Claim7 := { stood := { row := homflyConwayUptoRow, standIns := [], harness := (true, "c9c9f5eb900f2b9b797eeb0836fe3de55002cb90a4c016396f9449c8aad1abf9"), looks := false }, kinds := [], alts := [], laidByText := true, laidKinds := [.data, .data, .data], laidTests := true, laidLooks := .later }
def HomflyConwayUptoCardSaid : Prop := Claim7.holds Tryz.pinned (.plain (OpenSpec.upto homflyConwaySpec)) homflyConwayUptoCard
end Rows
end Go.Proofs.YtbblgobamoabkaaGreatDoor
