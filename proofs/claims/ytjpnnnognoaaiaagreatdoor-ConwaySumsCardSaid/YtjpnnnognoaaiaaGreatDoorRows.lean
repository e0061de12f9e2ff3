/-
  NARROWER THAN 'FOR EVERY INPUT', by the rows' own cells (each row's printed sentence says how): ConwayMoves: laid · ConwaySkein: laid · ConwaySums: laid · BracketMoves: laid · TransferMoves: laid · JonesMoves: laid.
  DERIVED. THE GIVEN ROWS OF THIS SEAT. 6 by the template 'for every input the law returns true; each argument reads behind the call as it read before'; 0 by the template 'total and deterministic' (their statements: YtjpnnnognoaaiaaGreatDoorTotals.lean).
  GIVEN WITH THE SEED: the statements are not yours to turn. If you find one false, say at which input.
  Laid BY PROGRAM, IN A SANDBOX (cutbox-rows.mjs): the forced cells as the released guide's own fill.sh prints them over the translation 50c21b3cb6254743… (all of the seat's roots in one cut). By AI agents, Wed Nov 11 2026. No macro, syntax, notation, axiom, sorry.
-/
import Derived.Test.YtjpnnnognoaaiaaGreatDoorChecked
import GoSem.Claim
import GoSem.ClaimJoined
import GoSem.ClaimMapViews
import Derived.JoinedTies
import Derived.KernelRfl
namespace Go.Proofs.YtjpnnnognoaaiaaGreatDoor
/- THE CELL 'sum', in the pinned program and in every row, IS THE sha256 OF THE DUMP (.gsa) THAT YtjpnnnognoaaiaaGreatDoorProg.lean LOADS. Nothing in Lean hashes anything: it is a label: what it is worth is what the hold of that sum in a sandbox is worth. -/
noncomputable def Tryz.pinned : Pinned := { name := "ytjpnnnognoaaiaagreatdoor", sum := "50c21b3cb62547433246eb60916fa2ee3d63e54745f809953534a00b16429e92", checked := Tryz.checked }
namespace Rows
def none {H : Type} : Left H := { results := [], args := [] }

/- WHAT THE LISTED PACKAGE-LEVEL VARIABLES READ AS WHEN THE CALL BEGINS. Each datum BY PROGRAM (the guide's laid-datum.mjs) off the statement by which the dump's own 'gosem.cut.vars' lays the variable. In a bare row this is a premise. The card (YtjpnnnognoaaiaaGreatDoorCards.lean) ties it to the program's text. -/
def laid_math_bits_deBruijn32tab {H : Type} : DataW H := .agg [.lit (.int .u8 0), .lit (.int .u8 1), .lit (.int .u8 28), .lit (.int .u8 2), .lit (.int .u8 29), .lit (.int .u8 14), .lit (.int .u8 24), .lit (.int .u8 3), .lit (.int .u8 30), .lit (.int .u8 22), .lit (.int .u8 20), .lit (.int .u8 15), .lit (.int .u8 25), .lit (.int .u8 17), .lit (.int .u8 4), .lit (.int .u8 8), .lit (.int .u8 31), .lit (.int .u8 27), .lit (.int .u8 13), .lit (.int .u8 23), .lit (.int .u8 21), .lit (.int .u8 19), .lit (.int .u8 16), .lit (.int .u8 7), .lit (.int .u8 26), .lit (.int .u8 12), .lit (.int .u8 18), .lit (.int .u8 6), .lit (.int .u8 11), .lit (.int .u8 5), .lit (.int .u8 10), .lit (.int .u8 9)]
def laid_math_bits_deBruijn64tab {H : Type} : DataW H := .agg [.lit (.int .u8 0), .lit (.int .u8 1), .lit (.int .u8 56), .lit (.int .u8 2), .lit (.int .u8 57), .lit (.int .u8 49), .lit (.int .u8 28), .lit (.int .u8 3), .lit (.int .u8 61), .lit (.int .u8 58), .lit (.int .u8 42), .lit (.int .u8 50), .lit (.int .u8 38), .lit (.int .u8 29), .lit (.int .u8 17), .lit (.int .u8 4), .lit (.int .u8 62), .lit (.int .u8 47), .lit (.int .u8 59), .lit (.int .u8 36), .lit (.int .u8 45), .lit (.int .u8 43), .lit (.int .u8 51), .lit (.int .u8 22), .lit (.int .u8 53), .lit (.int .u8 39), .lit (.int .u8 33), .lit (.int .u8 30), .lit (.int .u8 24), .lit (.int .u8 18), .lit (.int .u8 12), .lit (.int .u8 5), .lit (.int .u8 63), .lit (.int .u8 55), .lit (.int .u8 48), .lit (.int .u8 27), .lit (.int .u8 60), .lit (.int .u8 41), .lit (.int .u8 37), .lit (.int .u8 16), .lit (.int .u8 46), .lit (.int .u8 35), .lit (.int .u8 44), .lit (.int .u8 21), .lit (.int .u8 52), .lit (.int .u8 32), .lit (.int .u8 23), .lit (.int .u8 11), .lit (.int .u8 54), .lit (.int .u8 26), .lit (.int .u8 40), .lit (.int .u8 15), .lit (.int .u8 34), .lit (.int .u8 20), .lit (.int .u8 31), .lit (.int .u8 10), .lit (.int .u8 25), .lit (.int .u8 14), .lit (.int .u8 19), .lit (.int .u8 9), .lit (.int .u8 13), .lit (.int .u8 8), .lit (.int .u8 7), .lit (.int .u8 6)]
def laid_internal_strconv_uint64pow10 {H : Type} : DataW H := .agg [.lit (.int .u64 1), .lit (.int .u64 10), .lit (.int .u64 100), .lit (.int .u64 1000), .lit (.int .u64 10000), .lit (.int .u64 100000), .lit (.int .u64 1000000), .lit (.int .u64 10000000), .lit (.int .u64 100000000), .lit (.int .u64 1000000000), .lit (.int .u64 10000000000), .lit (.int .u64 100000000000), .lit (.int .u64 1000000000000), .lit (.int .u64 10000000000000), .lit (.int .u64 100000000000000), .lit (.int .u64 1000000000000000), .lit (.int .u64 10000000000000000), .lit (.int .u64 100000000000000000), .lit (.int .u64 1000000000000000000), .lit (.int .u64 10000000000000000000)]

/-- 'unravellaw19.ConwayMoves': WHATEVER THE INPUT: true; the input reads as it did. -/
def conwayMovesSpec : ChangeSpec := { name := "conwayMoves", fn := fun _ => fun
  | [d1, d2] => { results := [.lit (.bool true)], args := [d1, d2] }
  | _ => none }
def conwayMovesRow : OpenClaim := { program := "ytjpnnnognoaaiaagreatdoor", sum := "50c21b3cb62547433246eb60916fa2ee3d63e54745f809953534a00b16429e92", func := "unravel/unravellaw19.ConwayMoves", spec := "conwayMoves", inPlace := ["internal/abi.NoEscape"], unfollowed := true, recurses := true, named := ["internal/strconv.uint64pow10", "math/bits.deBruijn32tab", "math/bits.deBruijn64tab"], apart := false, laid := [("math/bits.deBruijn32tab", laid_math_bits_deBruijn32tab), ("math/bits.deBruijn64tab", laid_math_bits_deBruijn64tab), ("internal/strconv.uint64pow10", laid_internal_strconv_uint64pow10)] }
def ConwayMovesSaid : Prop := conwayMovesRow.holds Tryz.pinned (OpenSpec.ofChange conwayMovesSpec)

/-- ITS FALSE NEIGHBOUR: 'it returns false'. Refute it at one input. -/
def conwayMovesWrong : ChangeSpec := { name := "conwayMoves", fn := fun _ => fun
  | [d1, d2] => { results := [.lit (.bool false)], args := [d1, d2] }
  | _ => none }
def ConwayMovesWrongFalsely : Prop := conwayMovesRow.holds Tryz.pinned (OpenSpec.ofChange conwayMovesWrong)

/-- 'unravellaw19.ConwaySkein': WHATEVER THE INPUT: true; the input reads as it did. -/
def conwaySkeinSpec : ChangeSpec := { name := "conwaySkein", fn := fun _ => fun
  | [d1, d2] => { results := [.lit (.bool true)], args := [d1, d2] }
  | _ => none }
def conwaySkeinRow : OpenClaim := { program := "ytjpnnnognoaaiaagreatdoor", sum := "50c21b3cb62547433246eb60916fa2ee3d63e54745f809953534a00b16429e92", func := "unravel/unravellaw19.ConwaySkein", spec := "conwaySkein", inPlace := ["internal/abi.NoEscape", "math/bits.Add64", "math/bits.Sub64"], unfollowed := true, recurses := true, named := ["internal/strconv.uint64pow10", "math/bits.deBruijn32tab", "math/bits.deBruijn64tab"], apart := false, laid := [("math/bits.deBruijn32tab", laid_math_bits_deBruijn32tab), ("math/bits.deBruijn64tab", laid_math_bits_deBruijn64tab), ("internal/strconv.uint64pow10", laid_internal_strconv_uint64pow10)] }
def ConwaySkeinSaid : Prop := conwaySkeinRow.holds Tryz.pinned (OpenSpec.ofChange conwaySkeinSpec)

/-- ITS FALSE NEIGHBOUR: 'it returns false'. Refute it at one input. -/
def conwaySkeinWrong : ChangeSpec := { name := "conwaySkein", fn := fun _ => fun
  | [d1, d2] => { results := [.lit (.bool false)], args := [d1, d2] }
  | _ => none }
def ConwaySkeinWrongFalsely : Prop := conwaySkeinRow.holds Tryz.pinned (OpenSpec.ofChange conwaySkeinWrong)

/-- 'unravellaw19.ConwaySums': WHATEVER THE INPUT: true; the input reads as it did. -/
def conwaySumsSpec : ChangeSpec := { name := "conwaySums", fn := fun _ => fun
  | [d1, d2, d3, d4] => { results := [.lit (.bool true)], args := [d1, d2, d3, d4] }
  | _ => none }
def conwaySumsRow : OpenClaim := { program := "ytjpnnnognoaaiaagreatdoor", sum := "50c21b3cb62547433246eb60916fa2ee3d63e54745f809953534a00b16429e92", func := "unravel/unravellaw19.ConwaySums", spec := "conwaySums", inPlace := ["internal/abi.NoEscape", "math/bits.Add64", "math/bits.Sub64"], unfollowed := true, recurses := true, named := ["internal/strconv.uint64pow10", "math/bits.deBruijn32tab", "math/bits.deBruijn64tab"], apart := false, laid := [("math/bits.deBruijn32tab", laid_math_bits_deBruijn32tab), ("math/bits.deBruijn64tab", laid_math_bits_deBruijn64tab), ("internal/strconv.uint64pow10", laid_internal_strconv_uint64pow10)] }
def ConwaySumsSaid : Prop := conwaySumsRow.holds Tryz.pinned (OpenSpec.ofChange conwaySumsSpec)

/-- ITS FALSE NEIGHBOUR: 'it returns false'. Refute it at one input. -/
def conwaySumsWrong : ChangeSpec := { name := "conwaySums", fn := fun _ => fun
  | [d1, d2, d3, d4] => { results := [.lit (.bool false)], args := [d1, d2, d3, d4] }
  | _ => none }
def ConwaySumsWrongFalsely : Prop := conwaySumsRow.holds Tryz.pinned (OpenSpec.ofChange conwaySumsWrong)

/-- 'unravellaw15.BracketMoves': WHATEVER THE INPUT: true; the input reads as it did. -/
def bracketMovesSpec : ChangeSpec := { name := "bracketMoves", fn := fun _ => fun
  | [d1, d2] => { results := [.lit (.bool true)], args := [d1, d2] }
  | _ => none }
def bracketMovesRow : OpenClaim := { program := "ytjpnnnognoaaiaagreatdoor", sum := "50c21b3cb62547433246eb60916fa2ee3d63e54745f809953534a00b16429e92", func := "unravel/unravellaw15.BracketMoves", spec := "bracketMoves", inPlace := ["math/bits.Add64", "math/bits.Sub64", "internal/abi.NoEscape"], unfollowed := true, recurses := true, named := ["internal/strconv.uint64pow10", "math/bits.deBruijn32tab", "math/bits.deBruijn64tab"], apart := false, laid := [("math/bits.deBruijn32tab", laid_math_bits_deBruijn32tab), ("math/bits.deBruijn64tab", laid_math_bits_deBruijn64tab), ("internal/strconv.uint64pow10", laid_internal_strconv_uint64pow10)] }
def BracketMovesSaid : Prop := bracketMovesRow.holds Tryz.pinned (OpenSpec.ofChange bracketMovesSpec)

/-- ITS FALSE NEIGHBOUR: 'it returns false'. Refute it at one input. -/
def bracketMovesWrong : ChangeSpec := { name := "bracketMoves", fn := fun _ => fun
  | [d1, d2] => { results := [.lit (.bool false)], args := [d1, d2] }
  | _ => none }
def BracketMovesWrongFalsely : Prop := bracketMovesRow.holds Tryz.pinned (OpenSpec.ofChange bracketMovesWrong)

/-- 'unravellaw17.TransferMoves': WHATEVER THE INPUT: true; the input reads as it did. -/
def transferMovesSpec : ChangeSpec := { name := "transferMoves", fn := fun _ => fun
  | [d1, d2] => { results := [.lit (.bool true)], args := [d1, d2] }
  | _ => none }
def transferMovesRow : OpenClaim := { program := "ytjpnnnognoaaiaagreatdoor", sum := "50c21b3cb62547433246eb60916fa2ee3d63e54745f809953534a00b16429e92", func := "unravel/unravellaw17.TransferMoves", spec := "transferMoves", inPlace := ["math/bits.Add64", "math/bits.Sub64", "internal/abi.NoEscape"], unfollowed := true, recurses := true, named := ["internal/strconv.uint64pow10", "math/bits.deBruijn32tab", "math/bits.deBruijn64tab"], apart := false, laid := [("math/bits.deBruijn32tab", laid_math_bits_deBruijn32tab), ("math/bits.deBruijn64tab", laid_math_bits_deBruijn64tab), ("internal/strconv.uint64pow10", laid_internal_strconv_uint64pow10)] }
def TransferMovesSaid : Prop := transferMovesRow.holds Tryz.pinned (OpenSpec.ofChange transferMovesSpec)

/-- ITS FALSE NEIGHBOUR: 'it returns false'. Refute it at one input. -/
def transferMovesWrong : ChangeSpec := { name := "transferMoves", fn := fun _ => fun
  | [d1, d2] => { results := [.lit (.bool false)], args := [d1, d2] }
  | _ => none }
def TransferMovesWrongFalsely : Prop := transferMovesRow.holds Tryz.pinned (OpenSpec.ofChange transferMovesWrong)

/-- 'unravellaw18.JonesMoves': WHATEVER THE INPUT: true; the input reads as it did. -/
def jonesMovesSpec : ChangeSpec := { name := "jonesMoves", fn := fun _ => fun
  | [d1, d2] => { results := [.lit (.bool true)], args := [d1, d2] }
  | _ => none }
def jonesMovesRow : OpenClaim := { program := "ytjpnnnognoaaiaagreatdoor", sum := "50c21b3cb62547433246eb60916fa2ee3d63e54745f809953534a00b16429e92", func := "unravel/unravellaw18.JonesMoves", spec := "jonesMoves", inPlace := ["math/bits.Add64", "math/bits.Sub64", "internal/abi.NoEscape"], unfollowed := true, recurses := true, named := ["internal/strconv.uint64pow10", "math/bits.deBruijn32tab", "math/bits.deBruijn64tab"], apart := false, laid := [("math/bits.deBruijn32tab", laid_math_bits_deBruijn32tab), ("math/bits.deBruijn64tab", laid_math_bits_deBruijn64tab), ("internal/strconv.uint64pow10", laid_internal_strconv_uint64pow10)] }
def JonesMovesSaid : Prop := jonesMovesRow.holds Tryz.pinned (OpenSpec.ofChange jonesMovesSpec)

/-- ITS FALSE NEIGHBOUR: 'it returns false'. Refute it at one input. -/
def jonesMovesWrong : ChangeSpec := { name := "jonesMoves", fn := fun _ => fun
  | [d1, d2] => { results := [.lit (.bool false)], args := [d1, d2] }
  | _ => none }
def JonesMovesWrongFalsely : Prop := jonesMovesRow.holds Tryz.pinned (OpenSpec.ofChange jonesMovesWrong)

/- THE SECOND FORM. 'bulk': how many values and letters a reading holds, each counted each time it is reached (what is shared counts as often as it is met; a slice's spare places count too). A statement '..UptoSaid' is the law's where the arguments, and the package variables that the reading takes, are together of bulk at most 1048576: NARROWER than '..Said'. Prove '..Said' where nothing that the law and all that it calls make is longer than what came in: it says more and counts as full. Else prove '..UptoSaid'. A law counts once. -/
mutual
def uptoBulk {H : Type} : DataW H → Nat
  | .lit (.string bytes) => bytes.length + 1
  | .lit _ => 1
  | .nil => 1
  | .ptr d => uptoBulk d + 1
  | .slice elems spare => uptoBulkAll elems + uptoBulkAll spare + 1
  | .agg parts => uptoBulkAll parts + 1
  | .iface _ d => uptoBulk d + 1
  | .map entries => uptoBulkEntries entries + 1
  | .held _ => 1
def uptoBulkAll {H : Type} : List (DataW H) → Nat
  | [] => 0
  | d :: r => uptoBulk d + uptoBulkAll r
def uptoBulkEntries {H : Type} : List (Lit × DataW H) → Nat
  | [] => 0
  | x :: r => uptoBulkEntry x + uptoBulkEntries r
def uptoBulkEntry {H : Type} : Lit × DataW H → Nat
  | (.string bytes, d) => bytes.length + uptoBulk d + 1
  | (_, d) => uptoBulk d + 1
 end
def uptoSmall : (H : Type) → List (DataW H) → Bool := fun _ ds => decide (uptoBulkAll ds ≤ 1048576)
def OpenSpec.upto (s : _root_.Go.ChangeSpec) : _root_.Go.OpenSpec := { _root_.Go.OpenSpec.ofChange s with cond := some uptoSmall }

/-- 'unravellaw19.ConwayMoves', WHERE WHAT IT READS IS OF BULK AT MOST 1048576: true; the input reads as it did. -/
def conwayMovesUptoRow : OpenClaim := { program := "ytjpnnnognoaaiaagreatdoor", sum := "50c21b3cb62547433246eb60916fa2ee3d63e54745f809953534a00b16429e92", func := "unravel/unravellaw19.ConwayMoves", spec := "conwayMoves", inPlace := ["internal/abi.NoEscape"], unfollowed := true, recurses := true, named := ["internal/strconv.uint64pow10", "math/bits.deBruijn32tab", "math/bits.deBruijn64tab"], apart := false, laid := [("math/bits.deBruijn32tab", laid_math_bits_deBruijn32tab), ("math/bits.deBruijn64tab", laid_math_bits_deBruijn64tab), ("internal/strconv.uint64pow10", laid_internal_strconv_uint64pow10)], narrowed := true }
def ConwayMovesUptoSaid : Prop := conwayMovesUptoRow.holds Tryz.pinned (OpenSpec.upto conwayMovesSpec)

/-- 'unravellaw19.ConwaySkein', WHERE WHAT IT READS IS OF BULK AT MOST 1048576: true; the input reads as it did. -/
def conwaySkeinUptoRow : OpenClaim := { program := "ytjpnnnognoaaiaagreatdoor", sum := "50c21b3cb62547433246eb60916fa2ee3d63e54745f809953534a00b16429e92", func := "unravel/unravellaw19.ConwaySkein", spec := "conwaySkein", inPlace := ["internal/abi.NoEscape", "math/bits.Add64", "math/bits.Sub64"], unfollowed := true, recurses := true, named := ["internal/strconv.uint64pow10", "math/bits.deBruijn32tab", "math/bits.deBruijn64tab"], apart := false, laid := [("math/bits.deBruijn32tab", laid_math_bits_deBruijn32tab), ("math/bits.deBruijn64tab", laid_math_bits_deBruijn64tab), ("internal/strconv.uint64pow10", laid_internal_strconv_uint64pow10)], narrowed := true }
def ConwaySkeinUptoSaid : Prop := conwaySkeinUptoRow.holds Tryz.pinned (OpenSpec.upto conwaySkeinSpec)

/-- 'unravellaw19.ConwaySums', WHERE WHAT IT READS IS OF BULK AT MOST 1048576: true; the input reads as it did. -/
def conwaySumsUptoRow : OpenClaim := { program := "ytjpnnnognoaaiaagreatdoor", sum := "50c21b3cb62547433246eb60916fa2ee3d63e54745f809953534a00b16429e92", func := "unravel/unravellaw19.ConwaySums", spec := "conwaySums", inPlace := ["internal/abi.NoEscape", "math/bits.Add64", "math/bits.Sub64"], unfollowed := true, recurses := true, named := ["internal/strconv.uint64pow10", "math/bits.deBruijn32tab", "math/bits.deBruijn64tab"], apart := false, laid := [("math/bits.deBruijn32tab", laid_math_bits_deBruijn32tab), ("math/bits.deBruijn64tab", laid_math_bits_deBruijn64tab), ("internal/strconv.uint64pow10", laid_internal_strconv_uint64pow10)], narrowed := true }
def ConwaySumsUptoSaid : Prop := conwaySumsUptoRow.holds Tryz.pinned (OpenSpec.upto conwaySumsSpec)

/-- 'unravellaw15.BracketMoves', WHERE WHAT IT READS IS OF BULK AT MOST 1048576: true; the input reads as it did. -/
def bracketMovesUptoRow : OpenClaim := { program := "ytjpnnnognoaaiaagreatdoor", sum := "50c21b3cb62547433246eb60916fa2ee3d63e54745f809953534a00b16429e92", func := "unravel/unravellaw15.BracketMoves", spec := "bracketMoves", inPlace := ["math/bits.Add64", "math/bits.Sub64", "internal/abi.NoEscape"], unfollowed := true, recurses := true, named := ["internal/strconv.uint64pow10", "math/bits.deBruijn32tab", "math/bits.deBruijn64tab"], apart := false, laid := [("math/bits.deBruijn32tab", laid_math_bits_deBruijn32tab), ("math/bits.deBruijn64tab", laid_math_bits_deBruijn64tab), ("internal/strconv.uint64pow10", laid_internal_strconv_uint64pow10)], narrowed := true }
def BracketMovesUptoSaid : Prop := bracketMovesUptoRow.holds Tryz.pinned (OpenSpec.upto bracketMovesSpec)

/-- 'unravellaw17.TransferMoves', WHERE WHAT IT READS IS OF BULK AT MOST 1048576: true; the input reads as it did. -/
def transferMovesUptoRow : OpenClaim := { program := "ytjpnnnognoaaiaagreatdoor", sum := "50c21b3cb62547433246eb60916fa2ee3d63e54745f809953534a00b16429e92", func := "unravel/unravellaw17.TransferMoves", spec := "transferMoves", inPlace := ["math/bits.Add64", "math/bits.Sub64", "internal/abi.NoEscape"], unfollowed := true, recurses := true, named := ["internal/strconv.uint64pow10", "math/bits.deBruijn32tab", "math/bits.deBruijn64tab"], apart := false, laid := [("math/bits.deBruijn32tab", laid_math_bits_deBruijn32tab), ("math/bits.deBruijn64tab", laid_math_bits_deBruijn64tab), ("internal/strconv.uint64pow10", laid_internal_strconv_uint64pow10)], narrowed := true }
def TransferMovesUptoSaid : Prop := transferMovesUptoRow.holds Tryz.pinned (OpenSpec.upto transferMovesSpec)

/-- 'unravellaw18.JonesMoves', WHERE WHAT IT READS IS OF BULK AT MOST 1048576: true; the input reads as it did. -/
def jonesMovesUptoRow : OpenClaim := { program := "ytjpnnnognoaaiaagreatdoor", sum := "50c21b3cb62547433246eb60916fa2ee3d63e54745f809953534a00b16429e92", func := "unravel/unravellaw18.JonesMoves", spec := "jonesMoves", inPlace := ["math/bits.Add64", "math/bits.Sub64", "internal/abi.NoEscape"], unfollowed := true, recurses := true, named := ["internal/strconv.uint64pow10", "math/bits.deBruijn32tab", "math/bits.deBruijn64tab"], apart := false, laid := [("math/bits.deBruijn32tab", laid_math_bits_deBruijn32tab), ("math/bits.deBruijn64tab", laid_math_bits_deBruijn64tab), ("internal/strconv.uint64pow10", laid_internal_strconv_uint64pow10)], narrowed := true }
def JonesMovesUptoSaid : Prop := jonesMovesUptoRow.holds Tryz.pinned (OpenSpec.upto jonesMovesSpec)

end Rows
end Go.Proofs.YtjpnnnognoaaiaaGreatDoor
