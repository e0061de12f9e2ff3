/-
  NARROWER THAN 'FOR EVERY INPUT', by the rows' own cells (each row's printed sentence says how): ConwayDescends: laid · ConwayPolys: laid · ConwaySplits: laid · ConwayShape: laid · BracketLoops: laid · BracketAdequate: laid · BracketLoop: laid · TransferOrders: laid.
  DERIVED. THE GIVEN ROWS OF THIS SEAT. 8 by the template 'for every input the law returns true; each argument reads behind the call as it read before'; 0 by the template 'total and deterministic' (their statements: YtmplhbgolhlicaaDoorTotals.lean).
  GIVEN WITH THE SEED: the statements are not yours to turn. If you find one false, say at which input.
  Laid BY PROGRAM, IN A SANDBOX (cutbox-rows.mjs): the forced cells as the released guide's own fill.sh prints them over the translation b2e305af391485f8… (all of the seat's roots in one cut). By AI agents, Wed Nov 11 2026. No macro, syntax, notation, axiom, sorry.
-/
import Derived.Test.YtmplhbgolhlicaaDoorChecked
import GoSem.Claim
import GoSem.ClaimJoined
import GoSem.ClaimMapViews
import Derived.JoinedTies
import Derived.KernelRfl
namespace Go.Proofs.YtmplhbgolhlicaaDoor
/- THE CELL 'sum', in the pinned program and in every row, IS THE sha256 OF THE DUMP (.gsa) THAT YtmplhbgolhlicaaDoorProg.lean LOADS. Nothing in Lean hashes anything: it is a label: what it is worth is what the hold of that sum in a sandbox is worth. -/
noncomputable def Tryd.pinned : Pinned := { name := "ytmplhbgolhlicaadoor", sum := "b2e305af391485f83cc911184cc6a51ccdce72258562945080029bb050a38988", checked := Tryd.checked }
namespace Rows
def none {H : Type} : Left H := { results := [], args := [] }

/- WHAT THE LISTED PACKAGE-LEVEL VARIABLES READ AS WHEN THE CALL BEGINS. Each datum BY PROGRAM (the guide's laid-datum.mjs) off the statement by which the dump's own 'gosem.cut.vars' lays the variable. In a bare row this is a premise. The card (YtmplhbgolhlicaaDoorCards.lean) ties it to the program's text. -/
def laid_math_bits_deBruijn32tab {H : Type} : DataW H := .agg [.lit (.int .u8 0), .lit (.int .u8 1), .lit (.int .u8 28), .lit (.int .u8 2), .lit (.int .u8 29), .lit (.int .u8 14), .lit (.int .u8 24), .lit (.int .u8 3), .lit (.int .u8 30), .lit (.int .u8 22), .lit (.int .u8 20), .lit (.int .u8 15), .lit (.int .u8 25), .lit (.int .u8 17), .lit (.int .u8 4), .lit (.int .u8 8), .lit (.int .u8 31), .lit (.int .u8 27), .lit (.int .u8 13), .lit (.int .u8 23), .lit (.int .u8 21), .lit (.int .u8 19), .lit (.int .u8 16), .lit (.int .u8 7), .lit (.int .u8 26), .lit (.int .u8 12), .lit (.int .u8 18), .lit (.int .u8 6), .lit (.int .u8 11), .lit (.int .u8 5), .lit (.int .u8 10), .lit (.int .u8 9)]
def laid_math_bits_deBruijn64tab {H : Type} : DataW H := .agg [.lit (.int .u8 0), .lit (.int .u8 1), .lit (.int .u8 56), .lit (.int .u8 2), .lit (.int .u8 57), .lit (.int .u8 49), .lit (.int .u8 28), .lit (.int .u8 3), .lit (.int .u8 61), .lit (.int .u8 58), .lit (.int .u8 42), .lit (.int .u8 50), .lit (.int .u8 38), .lit (.int .u8 29), .lit (.int .u8 17), .lit (.int .u8 4), .lit (.int .u8 62), .lit (.int .u8 47), .lit (.int .u8 59), .lit (.int .u8 36), .lit (.int .u8 45), .lit (.int .u8 43), .lit (.int .u8 51), .lit (.int .u8 22), .lit (.int .u8 53), .lit (.int .u8 39), .lit (.int .u8 33), .lit (.int .u8 30), .lit (.int .u8 24), .lit (.int .u8 18), .lit (.int .u8 12), .lit (.int .u8 5), .lit (.int .u8 63), .lit (.int .u8 55), .lit (.int .u8 48), .lit (.int .u8 27), .lit (.int .u8 60), .lit (.int .u8 41), .lit (.int .u8 37), .lit (.int .u8 16), .lit (.int .u8 46), .lit (.int .u8 35), .lit (.int .u8 44), .lit (.int .u8 21), .lit (.int .u8 52), .lit (.int .u8 32), .lit (.int .u8 23), .lit (.int .u8 11), .lit (.int .u8 54), .lit (.int .u8 26), .lit (.int .u8 40), .lit (.int .u8 15), .lit (.int .u8 34), .lit (.int .u8 20), .lit (.int .u8 31), .lit (.int .u8 10), .lit (.int .u8 25), .lit (.int .u8 14), .lit (.int .u8 19), .lit (.int .u8 9), .lit (.int .u8 13), .lit (.int .u8 8), .lit (.int .u8 7), .lit (.int .u8 6)]
def laid_internal_strconv_uint64pow10 {H : Type} : DataW H := .agg [.lit (.int .u64 1), .lit (.int .u64 10), .lit (.int .u64 100), .lit (.int .u64 1000), .lit (.int .u64 10000), .lit (.int .u64 100000), .lit (.int .u64 1000000), .lit (.int .u64 10000000), .lit (.int .u64 100000000), .lit (.int .u64 1000000000), .lit (.int .u64 10000000000), .lit (.int .u64 100000000000), .lit (.int .u64 1000000000000), .lit (.int .u64 10000000000000), .lit (.int .u64 100000000000000), .lit (.int .u64 1000000000000000), .lit (.int .u64 10000000000000000), .lit (.int .u64 100000000000000000), .lit (.int .u64 1000000000000000000), .lit (.int .u64 10000000000000000000)]

/-- 'unravellaw19.ConwayDescends': WHATEVER THE INPUT: true; the input reads as it did. -/
def conwayDescendsSpec : ChangeSpec := { name := "conwayDescends", fn := fun _ => fun
  | [d] => { results := [.lit (.bool true)], args := [d] }
  | _ => none }
def conwayDescendsRow : OpenClaim := { program := "ytmplhbgolhlicaadoor", sum := "b2e305af391485f83cc911184cc6a51ccdce72258562945080029bb050a38988", func := "unravel/unravellaw19.ConwayDescends", spec := "conwayDescends", inPlace := ["internal/abi.NoEscape"], unfollowed := true, recurses := true, named := ["internal/strconv.uint64pow10", "math/bits.deBruijn32tab", "math/bits.deBruijn64tab"], apart := false, laid := [("math/bits.deBruijn32tab", laid_math_bits_deBruijn32tab), ("math/bits.deBruijn64tab", laid_math_bits_deBruijn64tab), ("internal/strconv.uint64pow10", laid_internal_strconv_uint64pow10)] }
def ConwayDescendsSaid : Prop := conwayDescendsRow.holds Tryd.pinned (OpenSpec.ofChange conwayDescendsSpec)

/-- ITS FALSE NEIGHBOUR: 'it returns false'. Refute it at one input. -/
def conwayDescendsWrong : ChangeSpec := { name := "conwayDescends", fn := fun _ => fun
  | [d] => { results := [.lit (.bool false)], args := [d] }
  | _ => none }
def ConwayDescendsWrongFalsely : Prop := conwayDescendsRow.holds Tryd.pinned (OpenSpec.ofChange conwayDescendsWrong)

/-- 'unravellaw19.ConwayPolys': WHATEVER THE INPUT: true; the input reads as it did. -/
def conwayPolysSpec : ChangeSpec := { name := "conwayPolys", fn := fun _ => fun
  | [d] => { results := [.lit (.bool true)], args := [d] }
  | _ => none }
def conwayPolysRow : OpenClaim := { program := "ytmplhbgolhlicaadoor", sum := "b2e305af391485f83cc911184cc6a51ccdce72258562945080029bb050a38988", func := "unravel/unravellaw19.ConwayPolys", spec := "conwayPolys", inPlace := ["internal/abi.NoEscape"], unfollowed := true, recurses := true, named := ["internal/strconv.uint64pow10", "math/bits.deBruijn32tab", "math/bits.deBruijn64tab"], apart := false, laid := [("math/bits.deBruijn32tab", laid_math_bits_deBruijn32tab), ("math/bits.deBruijn64tab", laid_math_bits_deBruijn64tab), ("internal/strconv.uint64pow10", laid_internal_strconv_uint64pow10)] }
def ConwayPolysSaid : Prop := conwayPolysRow.holds Tryd.pinned (OpenSpec.ofChange conwayPolysSpec)

/-- ITS FALSE NEIGHBOUR: 'it returns false'. Refute it at one input. -/
def conwayPolysWrong : ChangeSpec := { name := "conwayPolys", fn := fun _ => fun
  | [d] => { results := [.lit (.bool false)], args := [d] }
  | _ => none }
def ConwayPolysWrongFalsely : Prop := conwayPolysRow.holds Tryd.pinned (OpenSpec.ofChange conwayPolysWrong)

/-- 'unravellaw19.ConwaySplits': WHATEVER THE INPUT: true; the input reads as it did. -/
def conwaySplitsSpec : ChangeSpec := { name := "conwaySplits", fn := fun _ => fun
  | [d1, d2] => { results := [.lit (.bool true)], args := [d1, d2] }
  | _ => none }
def conwaySplitsRow : OpenClaim := { program := "ytmplhbgolhlicaadoor", sum := "b2e305af391485f83cc911184cc6a51ccdce72258562945080029bb050a38988", func := "unravel/unravellaw19.ConwaySplits", spec := "conwaySplits", inPlace := ["internal/abi.NoEscape"], unfollowed := true, recurses := true, named := ["internal/strconv.uint64pow10", "math/bits.deBruijn32tab", "math/bits.deBruijn64tab"], apart := false, laid := [("math/bits.deBruijn32tab", laid_math_bits_deBruijn32tab), ("math/bits.deBruijn64tab", laid_math_bits_deBruijn64tab), ("internal/strconv.uint64pow10", laid_internal_strconv_uint64pow10)] }
def ConwaySplitsSaid : Prop := conwaySplitsRow.holds Tryd.pinned (OpenSpec.ofChange conwaySplitsSpec)

/-- ITS FALSE NEIGHBOUR: 'it returns false'. Refute it at one input. -/
def conwaySplitsWrong : ChangeSpec := { name := "conwaySplits", fn := fun _ => fun
  | [d1, d2] => { results := [.lit (.bool false)], args := [d1, d2] }
  | _ => none }
def ConwaySplitsWrongFalsely : Prop := conwaySplitsRow.holds Tryd.pinned (OpenSpec.ofChange conwaySplitsWrong)

/-- 'unravellaw19.ConwayShape': WHATEVER THE INPUT: true; the input reads as it did. -/
def conwayShapeSpec : ChangeSpec := { name := "conwayShape", fn := fun _ => fun
  | [d] => { results := [.lit (.bool true)], args := [d] }
  | _ => none }
def conwayShapeRow : OpenClaim := { program := "ytmplhbgolhlicaadoor", sum := "b2e305af391485f83cc911184cc6a51ccdce72258562945080029bb050a38988", func := "unravel/unravellaw19.ConwayShape", spec := "conwayShape", inPlace := ["internal/abi.NoEscape"], unfollowed := true, recurses := true, named := ["internal/strconv.uint64pow10", "math/bits.deBruijn32tab", "math/bits.deBruijn64tab"], apart := false, laid := [("math/bits.deBruijn32tab", laid_math_bits_deBruijn32tab), ("math/bits.deBruijn64tab", laid_math_bits_deBruijn64tab), ("internal/strconv.uint64pow10", laid_internal_strconv_uint64pow10)] }
def ConwayShapeSaid : Prop := conwayShapeRow.holds Tryd.pinned (OpenSpec.ofChange conwayShapeSpec)

/-- ITS FALSE NEIGHBOUR: 'it returns false'. Refute it at one input. -/
def conwayShapeWrong : ChangeSpec := { name := "conwayShape", fn := fun _ => fun
  | [d] => { results := [.lit (.bool false)], args := [d] }
  | _ => none }
def ConwayShapeWrongFalsely : Prop := conwayShapeRow.holds Tryd.pinned (OpenSpec.ofChange conwayShapeWrong)

/-- 'unravellaw15.BracketLoops': WHATEVER THE INPUT: true; the input reads as it did. -/
def bracketLoopsSpec : ChangeSpec := { name := "bracketLoops", fn := fun _ => fun
  | [d1, d2] => { results := [.lit (.bool true)], args := [d1, d2] }
  | _ => none }
def bracketLoopsRow : OpenClaim := { program := "ytmplhbgolhlicaadoor", sum := "b2e305af391485f83cc911184cc6a51ccdce72258562945080029bb050a38988", func := "unravel/unravellaw15.BracketLoops", spec := "bracketLoops", inPlace := ["math/bits.Add64", "math/bits.Sub64", "internal/abi.NoEscape"], unfollowed := true, recurses := true, named := ["internal/strconv.uint64pow10", "math/bits.deBruijn32tab", "math/bits.deBruijn64tab"], apart := false, laid := [("math/bits.deBruijn32tab", laid_math_bits_deBruijn32tab), ("math/bits.deBruijn64tab", laid_math_bits_deBruijn64tab), ("internal/strconv.uint64pow10", laid_internal_strconv_uint64pow10)] }
def BracketLoopsSaid : Prop := bracketLoopsRow.holds Tryd.pinned (OpenSpec.ofChange bracketLoopsSpec)

/-- ITS FALSE NEIGHBOUR: 'it returns false'. Refute it at one input. -/
def bracketLoopsWrong : ChangeSpec := { name := "bracketLoops", fn := fun _ => fun
  | [d1, d2] => { results := [.lit (.bool false)], args := [d1, d2] }
  | _ => none }
def BracketLoopsWrongFalsely : Prop := bracketLoopsRow.holds Tryd.pinned (OpenSpec.ofChange bracketLoopsWrong)

/-- 'unravellaw15.BracketAdequate': WHATEVER THE INPUT: true; the input reads as it did. -/
def bracketAdequateSpec : ChangeSpec := { name := "bracketAdequate", fn := fun _ => fun
  | [d1, d2] => { results := [.lit (.bool true)], args := [d1, d2] }
  | _ => none }
def bracketAdequateRow : OpenClaim := { program := "ytmplhbgolhlicaadoor", sum := "b2e305af391485f83cc911184cc6a51ccdce72258562945080029bb050a38988", func := "unravel/unravellaw15.BracketAdequate", spec := "bracketAdequate", inPlace := ["math/bits.Add64", "math/bits.Sub64", "internal/abi.NoEscape"], unfollowed := true, recurses := true, named := ["internal/strconv.uint64pow10", "math/bits.deBruijn32tab", "math/bits.deBruijn64tab"], apart := false, laid := [("math/bits.deBruijn32tab", laid_math_bits_deBruijn32tab), ("math/bits.deBruijn64tab", laid_math_bits_deBruijn64tab), ("internal/strconv.uint64pow10", laid_internal_strconv_uint64pow10)] }
def BracketAdequateSaid : Prop := bracketAdequateRow.holds Tryd.pinned (OpenSpec.ofChange bracketAdequateSpec)

/-- ITS FALSE NEIGHBOUR: 'it returns false'. Refute it at one input. -/
def bracketAdequateWrong : ChangeSpec := { name := "bracketAdequate", fn := fun _ => fun
  | [d1, d2] => { results := [.lit (.bool false)], args := [d1, d2] }
  | _ => none }
def BracketAdequateWrongFalsely : Prop := bracketAdequateRow.holds Tryd.pinned (OpenSpec.ofChange bracketAdequateWrong)

/-- 'unravellaw15.BracketLoop': WHATEVER THE INPUT: true; the input reads as it did. -/
def bracketLoopSpec : ChangeSpec := { name := "bracketLoop", fn := fun _ => fun
  | [d1, d2] => { results := [.lit (.bool true)], args := [d1, d2] }
  | _ => none }
def bracketLoopRow : OpenClaim := { program := "ytmplhbgolhlicaadoor", sum := "b2e305af391485f83cc911184cc6a51ccdce72258562945080029bb050a38988", func := "unravel/unravellaw15.BracketLoop", spec := "bracketLoop", inPlace := ["math/bits.Add64", "math/bits.Sub64", "internal/abi.NoEscape"], unfollowed := true, recurses := true, named := ["internal/strconv.uint64pow10", "math/bits.deBruijn32tab", "math/bits.deBruijn64tab"], apart := false, laid := [("math/bits.deBruijn32tab", laid_math_bits_deBruijn32tab), ("math/bits.deBruijn64tab", laid_math_bits_deBruijn64tab), ("internal/strconv.uint64pow10", laid_internal_strconv_uint64pow10)] }
def BracketLoopSaid : Prop := bracketLoopRow.holds Tryd.pinned (OpenSpec.ofChange bracketLoopSpec)

/-- ITS FALSE NEIGHBOUR: 'it returns false'. Refute it at one input. -/
def bracketLoopWrong : ChangeSpec := { name := "bracketLoop", fn := fun _ => fun
  | [d1, d2] => { results := [.lit (.bool false)], args := [d1, d2] }
  | _ => none }
def BracketLoopWrongFalsely : Prop := bracketLoopRow.holds Tryd.pinned (OpenSpec.ofChange bracketLoopWrong)

/-- 'unravellaw17.TransferOrders': WHATEVER THE INPUT: true; the input reads as it did. -/
def transferOrdersSpec : ChangeSpec := { name := "transferOrders", fn := fun _ => fun
  | [d1, d2] => { results := [.lit (.bool true)], args := [d1, d2] }
  | _ => none }
def transferOrdersRow : OpenClaim := { program := "ytmplhbgolhlicaadoor", sum := "b2e305af391485f83cc911184cc6a51ccdce72258562945080029bb050a38988", func := "unravel/unravellaw17.TransferOrders", spec := "transferOrders", inPlace := ["math/bits.Add64", "math/bits.Sub64", "internal/abi.NoEscape"], unfollowed := true, recurses := true, named := ["internal/strconv.uint64pow10", "math/bits.deBruijn32tab", "math/bits.deBruijn64tab"], apart := false, laid := [("math/bits.deBruijn32tab", laid_math_bits_deBruijn32tab), ("math/bits.deBruijn64tab", laid_math_bits_deBruijn64tab), ("internal/strconv.uint64pow10", laid_internal_strconv_uint64pow10)] }
def TransferOrdersSaid : Prop := transferOrdersRow.holds Tryd.pinned (OpenSpec.ofChange transferOrdersSpec)

/-- ITS FALSE NEIGHBOUR: 'it returns false'. Refute it at one input. -/
def transferOrdersWrong : ChangeSpec := { name := "transferOrders", fn := fun _ => fun
  | [d1, d2] => { results := [.lit (.bool false)], args := [d1, d2] }
  | _ => none }
def TransferOrdersWrongFalsely : Prop := transferOrdersRow.holds Tryd.pinned (OpenSpec.ofChange transferOrdersWrong)

/- THE SECOND FORM. 'bulk': how many values and letters a reading holds, each counted each time it is reached (what is shared counts as often as it is met; a slice's spare places count too). A statement '..UptoSaid' is the law's where the arguments, and the package variables that the reading takes, are together of bulk at most 1048576: NARROWER than '..Said'. Prove '..Said' where nothing that the law and all that it calls make is longer than what came in: it says more and counts as full. Else prove '..UptoSaid'. A law counts once. -/
mutual
def uptoBulk {H : Type} : DataW H → Nat
  | .lit (.string bytes) => bytes.length + 1
  | .lit _ => 1
  | .nil => 1
  | .ptr d => uptoBulk d + 1
  | .slice elems spare => uptoBulkAll elems + uptoBulkAll spare + 1
  | .agg parts => uptoBulkAll parts + 1
  | .iface _ d => uptoBulk d + 1
  | .map entries => uptoBulkEntries entries + 1
  | .held _ => 1
def uptoBulkAll {H : Type} : List (DataW H) → Nat
  | [] => 0
  | d :: r => uptoBulk d + uptoBulkAll r
def uptoBulkEntries {H : Type} : List (Lit × DataW H) → Nat
  | [] => 0
  | x :: r => uptoBulkEntry x + uptoBulkEntries r
def uptoBulkEntry {H : Type} : Lit × DataW H → Nat
  | (.string bytes, d) => bytes.length + uptoBulk d + 1
  | (_, d) => uptoBulk d + 1
 end
def uptoSmall : (H : Type) → List (DataW H) → Bool := fun _ ds => decide (uptoBulkAll ds ≤ 1048576)
def OpenSpec.upto (s : _root_.Go.ChangeSpec) : _root_.Go.OpenSpec := { _root_.Go.OpenSpec.ofChange s with cond := some uptoSmall }

/-- 'unravellaw19.ConwayDescends', WHERE WHAT IT READS IS OF BULK AT MOST 1048576: true; the input reads as it did. -/
def conwayDescendsUptoRow : OpenClaim := { program := "ytmplhbgolhlicaadoor", sum := "b2e305af391485f83cc911184cc6a51ccdce72258562945080029bb050a38988", func := "unravel/unravellaw19.ConwayDescends", spec := "conwayDescends", inPlace := ["internal/abi.NoEscape"], unfollowed := true, recurses := true, named := ["internal/strconv.uint64pow10", "math/bits.deBruijn32tab", "math/bits.deBruijn64tab"], apart := false, laid := [("math/bits.deBruijn32tab", laid_math_bits_deBruijn32tab), ("math/bits.deBruijn64tab", laid_math_bits_deBruijn64tab), ("internal/strconv.uint64pow10", laid_internal_strconv_uint64pow10)], narrowed := true }
def ConwayDescendsUptoSaid : Prop := conwayDescendsUptoRow.holds Tryd.pinned (OpenSpec.upto conwayDescendsSpec)

/-- 'unravellaw19.ConwayPolys', WHERE WHAT IT READS IS OF BULK AT MOST 1048576: true; the input reads as it did. -/
def conwayPolysUptoRow : OpenClaim := { program := "ytmplhbgolhlicaadoor", sum := "b2e305af391485f83cc911184cc6a51ccdce72258562945080029bb050a38988", func := "unravel/unravellaw19.ConwayPolys", spec := "conwayPolys", inPlace := ["internal/abi.NoEscape"], unfollowed := true, recurses := true, named := ["internal/strconv.uint64pow10", "math/bits.deBruijn32tab", "math/bits.deBruijn64tab"], apart := false, laid := [("math/bits.deBruijn32tab", laid_math_bits_deBruijn32tab), ("math/bits.deBruijn64tab", laid_math_bits_deBruijn64tab), ("internal/strconv.uint64pow10", laid_internal_strconv_uint64pow10)], narrowed := true }
def ConwayPolysUptoSaid : Prop := conwayPolysUptoRow.holds Tryd.pinned (OpenSpec.upto conwayPolysSpec)

/-- 'unravellaw19.ConwaySplits', WHERE WHAT IT READS IS OF BULK AT MOST 1048576: true; the input reads as it did. -/
def conwaySplitsUptoRow : OpenClaim := { program := "ytmplhbgolhlicaadoor", sum := "b2e305af391485f83cc911184cc6a51ccdce72258562945080029bb050a38988", func := "unravel/unravellaw19.ConwaySplits", spec := "conwaySplits", inPlace := ["internal/abi.NoEscape"], unfollowed := true, recurses := true, named := ["internal/strconv.uint64pow10", "math/bits.deBruijn32tab", "math/bits.deBruijn64tab"], apart := false, laid := [("math/bits.deBruijn32tab", laid_math_bits_deBruijn32tab), ("math/bits.deBruijn64tab", laid_math_bits_deBruijn64tab), ("internal/strconv.uint64pow10", laid_internal_strconv_uint64pow10)], narrowed := true }
def ConwaySplitsUptoSaid : Prop := conwaySplitsUptoRow.holds Tryd.pinned (OpenSpec.upto conwaySplitsSpec)

/-- 'unravellaw19.ConwayShape', WHERE WHAT IT READS IS OF BULK AT MOST 1048576: true; the input reads as it did. -/
def conwayShapeUptoRow : OpenClaim := { program := "ytmplhbgolhlicaadoor", sum := "b2e305af391485f83cc911184cc6a51ccdce72258562945080029bb050a38988", func := "unravel/unravellaw19.ConwayShape", spec := "conwayShape", inPlace := ["internal/abi.NoEscape"], unfollowed := true, recurses := true, named := ["internal/strconv.uint64pow10", "math/bits.deBruijn32tab", "math/bits.deBruijn64tab"], apart := false, laid := [("math/bits.deBruijn32tab", laid_math_bits_deBruijn32tab), ("math/bits.deBruijn64tab", laid_math_bits_deBruijn64tab), ("internal/strconv.uint64pow10", laid_internal_strconv_uint64pow10)], narrowed := true }
def ConwayShapeUptoSaid : Prop := conwayShapeUptoRow.holds Tryd.pinned (OpenSpec.upto conwayShapeSpec)

/-- 'unravellaw15.BracketLoops', WHERE WHAT IT READS IS OF BULK AT MOST 1048576: true; the input reads as it did. -/
def bracketLoopsUptoRow : OpenClaim := { program := "ytmplhbgolhlicaadoor", sum := "b2e305af391485f83cc911184cc6a51ccdce72258562945080029bb050a38988", func := "unravel/unravellaw15.BracketLoops", spec := "bracketLoops", inPlace := ["math/bits.Add64", "math/bits.Sub64", "internal/abi.NoEscape"], unfollowed := true, recurses := true, named := ["internal/strconv.uint64pow10", "math/bits.deBruijn32tab", "math/bits.deBruijn64tab"], apart := false, laid := [("math/bits.deBruijn32tab", laid_math_bits_deBruijn32tab), ("math/bits.deBruijn64tab", laid_math_bits_deBruijn64tab), ("internal/strconv.uint64pow10", laid_internal_strconv_uint64pow10)], narrowed := true }
def BracketLoopsUptoSaid : Prop := bracketLoopsUptoRow.holds Tryd.pinned (OpenSpec.upto bracketLoopsSpec)

/-- 'unravellaw15.BracketAdequate', WHERE WHAT IT READS IS OF BULK AT MOST 1048576: true; the input reads as it did. -/
def bracketAdequateUptoRow : OpenClaim := { program := "ytmplhbgolhlicaadoor", sum := "b2e305af391485f83cc911184cc6a51ccdce72258562945080029bb050a38988", func := "unravel/unravellaw15.BracketAdequate", spec := "bracketAdequate", inPlace := ["math/bits.Add64", "math/bits.Sub64", "internal/abi.NoEscape"], unfollowed := true, recurses := true, named := ["internal/strconv.uint64pow10", "math/bits.deBruijn32tab", "math/bits.deBruijn64tab"], apart := false, laid := [("math/bits.deBruijn32tab", laid_math_bits_deBruijn32tab), ("math/bits.deBruijn64tab", laid_math_bits_deBruijn64tab), ("internal/strconv.uint64pow10", laid_internal_strconv_uint64pow10)], narrowed := true }
def BracketAdequateUptoSaid : Prop := bracketAdequateUptoRow.holds Tryd.pinned (OpenSpec.upto bracketAdequateSpec)

/-- 'unravellaw15.BracketLoop', WHERE WHAT IT READS IS OF BULK AT MOST 1048576: true; the input reads as it did. -/
def bracketLoopUptoRow : OpenClaim := { program := "ytmplhbgolhlicaadoor", sum := "b2e305af391485f83cc911184cc6a51ccdce72258562945080029bb050a38988", func := "unravel/unravellaw15.BracketLoop", spec := "bracketLoop", inPlace := ["math/bits.Add64", "math/bits.Sub64", "internal/abi.NoEscape"], unfollowed := true, recurses := true, named := ["internal/strconv.uint64pow10", "math/bits.deBruijn32tab", "math/bits.deBruijn64tab"], apart := false, laid := [("math/bits.deBruijn32tab", laid_math_bits_deBruijn32tab), ("math/bits.deBruijn64tab", laid_math_bits_deBruijn64tab), ("internal/strconv.uint64pow10", laid_internal_strconv_uint64pow10)], narrowed := true }
def BracketLoopUptoSaid : Prop := bracketLoopUptoRow.holds Tryd.pinned (OpenSpec.upto bracketLoopSpec)

/-- 'unravellaw17.TransferOrders', WHERE WHAT IT READS IS OF BULK AT MOST 1048576: true; the input reads as it did. -/
def transferOrdersUptoRow : OpenClaim := { program := "ytmplhbgolhlicaadoor", sum := "b2e305af391485f83cc911184cc6a51ccdce72258562945080029bb050a38988", func := "unravel/unravellaw17.TransferOrders", spec := "transferOrders", inPlace := ["math/bits.Add64", "math/bits.Sub64", "internal/abi.NoEscape"], unfollowed := true, recurses := true, named := ["internal/strconv.uint64pow10", "math/bits.deBruijn32tab", "math/bits.deBruijn64tab"], apart := false, laid := [("math/bits.deBruijn32tab", laid_math_bits_deBruijn32tab), ("math/bits.deBruijn64tab", laid_math_bits_deBruijn64tab), ("internal/strconv.uint64pow10", laid_internal_strconv_uint64pow10)], narrowed := true }
def TransferOrdersUptoSaid : Prop := transferOrdersUptoRow.holds Tryd.pinned (OpenSpec.upto transferOrdersSpec)

end Rows
end Go.Proofs.YtmplhbgolhlicaaDoor
