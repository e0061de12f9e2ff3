/-
  DERIVED. GIVEN WITH THE SEED: THE CARDS: each row of YtjpbeacamoijhaaDoorRows.lean that lists a variable, with what it lists TIED to the program's text (the seventh form; the later family's looks); each row that meets fmt, with fmt's text TOLD by the authors' own Lean function (tested against real Go, not proved from fmt's source: count such statements apart). THE CARD IS WHAT COUNTS. Prove the row's statement (the work); the ties are given (YtjpbeacamoijhaaDoorTie.lean); close each card by the builder's one call (the guide's Derived/Test/ToyasCard.lean, 'card_holds'). Laid BY PROGRAM, IN A SANDBOX (cutbox-door.mjs). By AI agents, Wed Nov 11 2026. No macro, syntax, notation, axiom, sorry.
-/
import Derived.Test.YtjpbeacamoijhaaDoorRows
import GoSem.ClaimSeven
namespace Go.Proofs.YtjpbeacamoijhaaDoor
namespace Rows

/-- THE TIED CARD OF 'unravellaw20.HomflySkein'. -/
def homflySkeinCard : Claim7 := { stood := { row := homflySkeinRow, standIns := [], harness := (true, "ce6a993c36d66c069fc456d47b4273aef64d4fe2aa267e994f39750ed1e0dbaa"), looks := false }, kinds := [], alts := [], laidByText := true, laidKinds := [.data, .data, .data], laidTests := true, laidLooks := .later }
def HomflySkeinCardSaid : Prop := Claim7.holds Tryd.pinned (.plain (OpenSpec.ofChange homflySkeinSpec)) homflySkeinCard

/-- THE TIED CARD OF 'unravellaw20.HomflyRenumbers'. -/
def homflyRenumbersCard : Claim7 := { stood := { row := homflyRenumbersRow, standIns := [], harness := (true, "ce6a993c36d66c069fc456d47b4273aef64d4fe2aa267e994f39750ed1e0dbaa"), looks := false }, kinds := [], alts := [], laidByText := true, laidKinds := [.data, .data, .data], laidTests := true, laidLooks := .later }
def HomflyRenumbersCardSaid : Prop := Claim7.holds Tryd.pinned (.plain (OpenSpec.ofChange homflyRenumbersSpec)) homflyRenumbersCard

/-- THE SECOND FORM's CARD OF 'unravellaw20.HomflySkein'. -/
def homflySkeinUptoCard : Claim7 := { stood := { row := homflySkeinUptoRow, standIns := [], harness := (true, "ce6a993c36d66c069fc456d47b4273aef64d4fe2aa267e994f39750ed1e0dbaa"), looks := false }, kinds := [], alts := [], laidByText := true, laidKinds := [.data, .data, .data], laidTests := true, laidLooks := .later }
def HomflySkeinUptoCardSaid : Prop := Claim7.holds Tryd.pinned (.plain (OpenSpec.upto homflySkeinSpec)) homflySkeinUptoCard

/-- THE SECOND FORM's CARD OF 'unravellaw20.HomflyRenumbers'. -/
def homflyRenumbersUptoCard : Claim7 := { stood := { row := homflyRenumbersUptoRow, standIns := [], harness := (true, "ce6a993c36d66c069fc456d47b4273aef64d4fe2aa267e994f39750ed1e0dbaa"), looks := false }, kinds := [], alts := [], laidByText := true, laidKinds := [.data, .data, .data], laidTests := true, laidLooks := .later }
def HomflyRenumbersUptoCardSaid : Prop := Claim7.holds Tryd.pinned (.plain (OpenSpec.upto homflyRenumbersSpec)) homflyRenumbersUptoCard
end Rows
end Go.Proofs.YtjpbeacamoijhaaDoor
