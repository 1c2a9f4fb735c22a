/-
  NARROWER THAN 'FOR EVERY INPUT', by the rows' own cells (each row's printed sentence says how): EscapePrints: laid · EscapeFaults: laid · EscapeUnlike: laid · EscapeReads: laid · EscapeBack: laid · EscapePlain: laid · EscapeQuotes: laid · EscapeOwn: laid.
  DERIVED. THE GIVEN ROWS OF THIS SEAT. 8 by the template 'for every input the law returns true; each argument reads behind the call as it read before'; 0 by the template 'total and deterministic' (their statements: YtflddgoapibleaaDoorTotals.lean).
  GIVEN WITH THE SEED: the statements are not yours to turn. If you find one false, say at which input.
  Laid BY PROGRAM, IN A SANDBOX (cutbox-rows.mjs): the forced cells as the released guide's own fill.sh prints them over the translation 8d724dc2e4234e4d… (all of the seat's roots in one cut). By AI agents, Wed Nov 11 2026. No macro, syntax, notation, axiom, sorry.
-/
import Derived.Test.YtflddgoapibleaaDoorChecked
import GoSem.Claim
import GoSem.ClaimJoined
import GoSem.ClaimMapViews
import Derived.JoinedTies
import Derived.KernelRfl
namespace Go.Proofs.YtflddgoapibleaaDoor
/- THE CELL 'sum', in the pinned program and in every row, IS THE sha256 OF THE DUMP (.gsa) THAT YtflddgoapibleaaDoorProg.lean LOADS. Nothing in Lean hashes anything: it is a label: what it is worth is what the hold of that sum in a sandbox is worth. -/
noncomputable def Tryd.pinned : Pinned := { name := "ytflddgoapibleaadoor", sum := "8d724dc2e4234e4dc15eee22112e1be8b1536530979964fb8436ff26b71e4faf", checked := Tryd.checked }
namespace Rows
def none {H : Type} : Left H := { results := [], args := [] }

/- WHAT THE LISTED PACKAGE-LEVEL VARIABLES READ AS WHEN THE CALL BEGINS. Each datum BY PROGRAM (the guide's laid-datum.mjs) off the statement by which the dump's own 'gosem.cut.vars' lays the variable. In a bare row this is a premise. The card (YtflddgoapibleaaDoorCards.lean) ties it to the program's text. -/
def laid_galley_octet_spans {H : Type} : DataW H := .agg [.agg [.lit (.int .i64 0), .lit (.int .i64 127), .lit (.int .i64 1)], .agg [.lit (.int .i64 128), .lit (.int .i64 191), .lit (.int .i64 2)], .agg [.lit (.int .i64 192), .lit (.int .i64 193), .lit (.int .i64 6)], .agg [.lit (.int .i64 194), .lit (.int .i64 223), .lit (.int .i64 3)], .agg [.lit (.int .i64 224), .lit (.int .i64 239), .lit (.int .i64 4)], .agg [.lit (.int .i64 240), .lit (.int .i64 244), .lit (.int .i64 5)], .agg [.lit (.int .i64 245), .lit (.int .i64 255), .lit (.int .i64 6)]]
def laid_galley_octet_needs {H : Type} : DataW H := .agg [.lit (.int .i64 0), .lit (.int .i64 1), .lit (.int .i64 0), .lit (.int .i64 2), .lit (.int .i64 3), .lit (.int .i64 4), .lit (.int .i64 0)]
def laid_math_bits_deBruijn32tab {H : Type} : DataW H := .agg [.lit (.int .u8 0), .lit (.int .u8 1), .lit (.int .u8 28), .lit (.int .u8 2), .lit (.int .u8 29), .lit (.int .u8 14), .lit (.int .u8 24), .lit (.int .u8 3), .lit (.int .u8 30), .lit (.int .u8 22), .lit (.int .u8 20), .lit (.int .u8 15), .lit (.int .u8 25), .lit (.int .u8 17), .lit (.int .u8 4), .lit (.int .u8 8), .lit (.int .u8 31), .lit (.int .u8 27), .lit (.int .u8 13), .lit (.int .u8 23), .lit (.int .u8 21), .lit (.int .u8 19), .lit (.int .u8 16), .lit (.int .u8 7), .lit (.int .u8 26), .lit (.int .u8 12), .lit (.int .u8 18), .lit (.int .u8 6), .lit (.int .u8 11), .lit (.int .u8 5), .lit (.int .u8 10), .lit (.int .u8 9)]
def laid_math_bits_deBruijn64tab {H : Type} : DataW H := .agg [.lit (.int .u8 0), .lit (.int .u8 1), .lit (.int .u8 56), .lit (.int .u8 2), .lit (.int .u8 57), .lit (.int .u8 49), .lit (.int .u8 28), .lit (.int .u8 3), .lit (.int .u8 61), .lit (.int .u8 58), .lit (.int .u8 42), .lit (.int .u8 50), .lit (.int .u8 38), .lit (.int .u8 29), .lit (.int .u8 17), .lit (.int .u8 4), .lit (.int .u8 62), .lit (.int .u8 47), .lit (.int .u8 59), .lit (.int .u8 36), .lit (.int .u8 45), .lit (.int .u8 43), .lit (.int .u8 51), .lit (.int .u8 22), .lit (.int .u8 53), .lit (.int .u8 39), .lit (.int .u8 33), .lit (.int .u8 30), .lit (.int .u8 24), .lit (.int .u8 18), .lit (.int .u8 12), .lit (.int .u8 5), .lit (.int .u8 63), .lit (.int .u8 55), .lit (.int .u8 48), .lit (.int .u8 27), .lit (.int .u8 60), .lit (.int .u8 41), .lit (.int .u8 37), .lit (.int .u8 16), .lit (.int .u8 46), .lit (.int .u8 35), .lit (.int .u8 44), .lit (.int .u8 21), .lit (.int .u8 52), .lit (.int .u8 32), .lit (.int .u8 23), .lit (.int .u8 11), .lit (.int .u8 54), .lit (.int .u8 26), .lit (.int .u8 40), .lit (.int .u8 15), .lit (.int .u8 34), .lit (.int .u8 20), .lit (.int .u8 31), .lit (.int .u8 10), .lit (.int .u8 25), .lit (.int .u8 14), .lit (.int .u8 19), .lit (.int .u8 9), .lit (.int .u8 13), .lit (.int .u8 8), .lit (.int .u8 7), .lit (.int .u8 6)]
def laid_internal_strconv_uint64pow10 {H : Type} : DataW H := .agg [.lit (.int .u64 1), .lit (.int .u64 10), .lit (.int .u64 100), .lit (.int .u64 1000), .lit (.int .u64 10000), .lit (.int .u64 100000), .lit (.int .u64 1000000), .lit (.int .u64 10000000), .lit (.int .u64 100000000), .lit (.int .u64 1000000000), .lit (.int .u64 10000000000), .lit (.int .u64 100000000000), .lit (.int .u64 1000000000000), .lit (.int .u64 10000000000000), .lit (.int .u64 100000000000000), .lit (.int .u64 1000000000000000), .lit (.int .u64 10000000000000000), .lit (.int .u64 100000000000000000), .lit (.int .u64 1000000000000000000), .lit (.int .u64 10000000000000000000)]
def laid_galley_escape_short {H : Type} : DataW H := .map [(.int .u8 9, .lit (.int .u8 116)), (.int .u8 10, .lit (.int .u8 110)), (.int .u8 13, .lit (.int .u8 114)), (.int .u8 92, .lit (.int .u8 92))]

/-- 'galleylaw23.EscapePrints': WHATEVER THE INPUT: true; the input reads as it did. -/
def escapePrintsSpec : ChangeSpec := { name := "escapePrints", fn := fun _ => fun
  | [d1, d2] => { results := [.lit (.bool true)], args := [d1, d2] }
  | _ => none }
def escapePrintsRow : OpenClaim := { program := "ytflddgoapibleaadoor", sum := "8d724dc2e4234e4dc15eee22112e1be8b1536530979964fb8436ff26b71e4faf", func := "galley/galleylaw23.EscapePrints", spec := "escapePrints", inPlace := ["internal/bytealg.IndexByteString"], recurses := true, named := ["galley/escape.short", "galley/octet.needs", "galley/octet.spans", "internal/strconv.uint64pow10", "math/bits.deBruijn32tab", "math/bits.deBruijn64tab"], apart := false, laid := [("galley/octet.spans", laid_galley_octet_spans), ("galley/octet.needs", laid_galley_octet_needs), ("math/bits.deBruijn32tab", laid_math_bits_deBruijn32tab), ("math/bits.deBruijn64tab", laid_math_bits_deBruijn64tab), ("internal/strconv.uint64pow10", laid_internal_strconv_uint64pow10), ("galley/escape.short", laid_galley_escape_short)] }
def EscapePrintsSaid : Prop := escapePrintsRow.holds Tryd.pinned (OpenSpec.ofChange escapePrintsSpec)

/-- ITS FALSE NEIGHBOUR: 'it returns false'. Refute it at one input. -/
def escapePrintsWrong : ChangeSpec := { name := "escapePrints", fn := fun _ => fun
  | [d1, d2] => { results := [.lit (.bool false)], args := [d1, d2] }
  | _ => none }
def EscapePrintsWrongFalsely : Prop := escapePrintsRow.holds Tryd.pinned (OpenSpec.ofChange escapePrintsWrong)

/-- 'galleylaw23.EscapeFaults': WHATEVER THE INPUT: true; the input reads as it did. -/
def escapeFaultsSpec : ChangeSpec := { name := "escapeFaults", fn := fun _ => fun
  | [d1, d2] => { results := [.lit (.bool true)], args := [d1, d2] }
  | _ => none }
def escapeFaultsRow : OpenClaim := { program := "ytflddgoapibleaadoor", sum := "8d724dc2e4234e4dc15eee22112e1be8b1536530979964fb8436ff26b71e4faf", func := "galley/galleylaw23.EscapeFaults", spec := "escapeFaults", inPlace := ["internal/bytealg.IndexByteString"], recurses := true, named := ["galley/escape.short", "galley/octet.needs", "galley/octet.spans", "internal/strconv.uint64pow10", "math/bits.deBruijn32tab", "math/bits.deBruijn64tab"], apart := false, laid := [("galley/octet.spans", laid_galley_octet_spans), ("galley/octet.needs", laid_galley_octet_needs), ("math/bits.deBruijn32tab", laid_math_bits_deBruijn32tab), ("math/bits.deBruijn64tab", laid_math_bits_deBruijn64tab), ("internal/strconv.uint64pow10", laid_internal_strconv_uint64pow10), ("galley/escape.short", laid_galley_escape_short)] }
def EscapeFaultsSaid : Prop := escapeFaultsRow.holds Tryd.pinned (OpenSpec.ofChange escapeFaultsSpec)

/-- ITS FALSE NEIGHBOUR: 'it returns false'. Refute it at one input. -/
def escapeFaultsWrong : ChangeSpec := { name := "escapeFaults", fn := fun _ => fun
  | [d1, d2] => { results := [.lit (.bool false)], args := [d1, d2] }
  | _ => none }
def EscapeFaultsWrongFalsely : Prop := escapeFaultsRow.holds Tryd.pinned (OpenSpec.ofChange escapeFaultsWrong)

/-- 'galleylaw23.EscapeUnlike': WHATEVER THE INPUT: true; the input reads as it did. -/
def escapeUnlikeSpec : ChangeSpec := { name := "escapeUnlike", fn := fun _ => fun
  | [d1, d2] => { results := [.lit (.bool true)], args := [d1, d2] }
  | _ => none }
def escapeUnlikeRow : OpenClaim := { program := "ytflddgoapibleaadoor", sum := "8d724dc2e4234e4dc15eee22112e1be8b1536530979964fb8436ff26b71e4faf", func := "galley/galleylaw23.EscapeUnlike", spec := "escapeUnlike", inPlace := ["internal/bytealg.IndexByteString"], recurses := true, named := ["galley/escape.short", "galley/octet.needs", "galley/octet.spans", "internal/strconv.uint64pow10", "math/bits.deBruijn32tab", "math/bits.deBruijn64tab"], apart := false, laid := [("galley/octet.spans", laid_galley_octet_spans), ("galley/octet.needs", laid_galley_octet_needs), ("math/bits.deBruijn32tab", laid_math_bits_deBruijn32tab), ("math/bits.deBruijn64tab", laid_math_bits_deBruijn64tab), ("internal/strconv.uint64pow10", laid_internal_strconv_uint64pow10), ("galley/escape.short", laid_galley_escape_short)] }
def EscapeUnlikeSaid : Prop := escapeUnlikeRow.holds Tryd.pinned (OpenSpec.ofChange escapeUnlikeSpec)

/-- ITS FALSE NEIGHBOUR: 'it returns false'. Refute it at one input. -/
def escapeUnlikeWrong : ChangeSpec := { name := "escapeUnlike", fn := fun _ => fun
  | [d1, d2] => { results := [.lit (.bool false)], args := [d1, d2] }
  | _ => none }
def EscapeUnlikeWrongFalsely : Prop := escapeUnlikeRow.holds Tryd.pinned (OpenSpec.ofChange escapeUnlikeWrong)

/-- 'galleylaw23.EscapeReads': WHATEVER THE INPUT: true; the input reads as it did. -/
def escapeReadsSpec : ChangeSpec := { name := "escapeReads", fn := fun _ => fun
  | [d] => { results := [.lit (.bool true)], args := [d] }
  | _ => none }
def escapeReadsRow : OpenClaim := { program := "ytflddgoapibleaadoor", sum := "8d724dc2e4234e4dc15eee22112e1be8b1536530979964fb8436ff26b71e4faf", func := "galley/galleylaw23.EscapeReads", spec := "escapeReads", inPlace := ["internal/bytealg.IndexByteString"], recurses := true, named := ["galley/escape.short", "galley/octet.needs", "galley/octet.spans", "internal/strconv.uint64pow10", "math/bits.deBruijn32tab", "math/bits.deBruijn64tab"], apart := false, laid := [("galley/octet.spans", laid_galley_octet_spans), ("galley/octet.needs", laid_galley_octet_needs), ("math/bits.deBruijn32tab", laid_math_bits_deBruijn32tab), ("math/bits.deBruijn64tab", laid_math_bits_deBruijn64tab), ("internal/strconv.uint64pow10", laid_internal_strconv_uint64pow10), ("galley/escape.short", laid_galley_escape_short)] }
def EscapeReadsSaid : Prop := escapeReadsRow.holds Tryd.pinned (OpenSpec.ofChange escapeReadsSpec)

/-- ITS FALSE NEIGHBOUR: 'it returns false'. Refute it at one input. -/
def escapeReadsWrong : ChangeSpec := { name := "escapeReads", fn := fun _ => fun
  | [d] => { results := [.lit (.bool false)], args := [d] }
  | _ => none }
def EscapeReadsWrongFalsely : Prop := escapeReadsRow.holds Tryd.pinned (OpenSpec.ofChange escapeReadsWrong)

/-- 'galleylaw23.EscapeBack': WHATEVER THE INPUT: true; the input reads as it did. -/
def escapeBackSpec : ChangeSpec := { name := "escapeBack", fn := fun _ => fun
  | [d1, d2] => { results := [.lit (.bool true)], args := [d1, d2] }
  | _ => none }
def escapeBackRow : OpenClaim := { program := "ytflddgoapibleaadoor", sum := "8d724dc2e4234e4dc15eee22112e1be8b1536530979964fb8436ff26b71e4faf", func := "galley/galleylaw23.EscapeBack", spec := "escapeBack", inPlace := ["internal/bytealg.IndexByteString"], recurses := true, named := ["galley/escape.short", "galley/octet.needs", "galley/octet.spans", "internal/strconv.uint64pow10", "math/bits.deBruijn32tab", "math/bits.deBruijn64tab"], apart := false, laid := [("galley/octet.spans", laid_galley_octet_spans), ("galley/octet.needs", laid_galley_octet_needs), ("math/bits.deBruijn32tab", laid_math_bits_deBruijn32tab), ("math/bits.deBruijn64tab", laid_math_bits_deBruijn64tab), ("internal/strconv.uint64pow10", laid_internal_strconv_uint64pow10), ("galley/escape.short", laid_galley_escape_short)] }
def EscapeBackSaid : Prop := escapeBackRow.holds Tryd.pinned (OpenSpec.ofChange escapeBackSpec)

/-- ITS FALSE NEIGHBOUR: 'it returns false'. Refute it at one input. -/
def escapeBackWrong : ChangeSpec := { name := "escapeBack", fn := fun _ => fun
  | [d1, d2] => { results := [.lit (.bool false)], args := [d1, d2] }
  | _ => none }
def EscapeBackWrongFalsely : Prop := escapeBackRow.holds Tryd.pinned (OpenSpec.ofChange escapeBackWrong)

/-- 'galleylaw23.EscapePlain': WHATEVER THE INPUT: true; the input reads as it did. -/
def escapePlainSpec : ChangeSpec := { name := "escapePlain", fn := fun _ => fun
  | [d] => { results := [.lit (.bool true)], args := [d] }
  | _ => none }
def escapePlainRow : OpenClaim := { program := "ytflddgoapibleaadoor", sum := "8d724dc2e4234e4dc15eee22112e1be8b1536530979964fb8436ff26b71e4faf", func := "galley/galleylaw23.EscapePlain", spec := "escapePlain", inPlace := ["internal/bytealg.IndexByteString", "internal/abi.NoEscape"], recurses := true, named := ["galley/escape.short", "galley/octet.needs", "galley/octet.spans", "internal/strconv.uint64pow10", "math/bits.deBruijn32tab", "math/bits.deBruijn64tab"], apart := false, laid := [("galley/octet.spans", laid_galley_octet_spans), ("galley/octet.needs", laid_galley_octet_needs), ("math/bits.deBruijn32tab", laid_math_bits_deBruijn32tab), ("math/bits.deBruijn64tab", laid_math_bits_deBruijn64tab), ("internal/strconv.uint64pow10", laid_internal_strconv_uint64pow10), ("galley/escape.short", laid_galley_escape_short)] }
def EscapePlainSaid : Prop := escapePlainRow.holds Tryd.pinned (OpenSpec.ofChange escapePlainSpec)

/-- ITS FALSE NEIGHBOUR: 'it returns false'. Refute it at one input. -/
def escapePlainWrong : ChangeSpec := { name := "escapePlain", fn := fun _ => fun
  | [d] => { results := [.lit (.bool false)], args := [d] }
  | _ => none }
def EscapePlainWrongFalsely : Prop := escapePlainRow.holds Tryd.pinned (OpenSpec.ofChange escapePlainWrong)

/-- 'galleylaw23.EscapeQuotes': WHATEVER THE INPUT: true; the input reads as it did. -/
def escapeQuotesSpec : ChangeSpec := { name := "escapeQuotes", fn := fun _ => fun
  | [d] => { results := [.lit (.bool true)], args := [d] }
  | _ => none }
def escapeQuotesRow : OpenClaim := { program := "ytflddgoapibleaadoor", sum := "8d724dc2e4234e4dc15eee22112e1be8b1536530979964fb8436ff26b71e4faf", func := "galley/galleylaw23.EscapeQuotes", spec := "escapeQuotes", inPlace := ["internal/bytealg.IndexByteString", "internal/abi.NoEscape"], recurses := true, named := ["galley/escape.short", "galley/octet.needs", "galley/octet.spans", "internal/strconv.uint64pow10", "math/bits.deBruijn32tab", "math/bits.deBruijn64tab"], apart := false, laid := [("galley/octet.spans", laid_galley_octet_spans), ("galley/octet.needs", laid_galley_octet_needs), ("math/bits.deBruijn32tab", laid_math_bits_deBruijn32tab), ("math/bits.deBruijn64tab", laid_math_bits_deBruijn64tab), ("internal/strconv.uint64pow10", laid_internal_strconv_uint64pow10), ("galley/escape.short", laid_galley_escape_short)] }
def EscapeQuotesSaid : Prop := escapeQuotesRow.holds Tryd.pinned (OpenSpec.ofChange escapeQuotesSpec)

/-- ITS FALSE NEIGHBOUR: 'it returns false'. Refute it at one input. -/
def escapeQuotesWrong : ChangeSpec := { name := "escapeQuotes", fn := fun _ => fun
  | [d] => { results := [.lit (.bool false)], args := [d] }
  | _ => none }
def EscapeQuotesWrongFalsely : Prop := escapeQuotesRow.holds Tryd.pinned (OpenSpec.ofChange escapeQuotesWrong)

/-- 'galleylaw23.EscapeOwn': WHATEVER THE INPUT: true; the input reads as it did. -/
def escapeOwnSpec : ChangeSpec := { name := "escapeOwn", fn := fun _ => fun
  | [d1, d2] => { results := [.lit (.bool true)], args := [d1, d2] }
  | _ => none }
def escapeOwnRow : OpenClaim := { program := "ytflddgoapibleaadoor", sum := "8d724dc2e4234e4dc15eee22112e1be8b1536530979964fb8436ff26b71e4faf", func := "galley/galleylaw23.EscapeOwn", spec := "escapeOwn", inPlace := ["internal/bytealg.IndexByteString", "internal/abi.NoEscape"], recurses := true, named := ["galley/escape.short", "galley/octet.needs", "galley/octet.spans", "internal/strconv.uint64pow10", "math/bits.deBruijn32tab", "math/bits.deBruijn64tab"], apart := false, laid := [("galley/octet.spans", laid_galley_octet_spans), ("galley/octet.needs", laid_galley_octet_needs), ("math/bits.deBruijn32tab", laid_math_bits_deBruijn32tab), ("math/bits.deBruijn64tab", laid_math_bits_deBruijn64tab), ("internal/strconv.uint64pow10", laid_internal_strconv_uint64pow10), ("galley/escape.short", laid_galley_escape_short)] }
def EscapeOwnSaid : Prop := escapeOwnRow.holds Tryd.pinned (OpenSpec.ofChange escapeOwnSpec)

/-- ITS FALSE NEIGHBOUR: 'it returns false'. Refute it at one input. -/
def escapeOwnWrong : ChangeSpec := { name := "escapeOwn", fn := fun _ => fun
  | [d1, d2] => { results := [.lit (.bool false)], args := [d1, d2] }
  | _ => none }
def EscapeOwnWrongFalsely : Prop := escapeOwnRow.holds Tryd.pinned (OpenSpec.ofChange escapeOwnWrong)

/- THE SECOND FORM. 'bulk': how many values and letters a reading holds, each counted each time it is reached (what is shared counts as often as it is met; a slice's spare places count too). A statement '..UptoSaid' is the law's where the arguments, and the package variables that the reading takes, are together of bulk at most 1048576: NARROWER than '..Said'. Prove '..Said' where nothing that the law and all that it calls make is longer than what came in: it says more and counts as full. Else prove '..UptoSaid'. A law counts once. -/
mutual
def uptoBulk {H : Type} : DataW H → Nat
  | .lit (.string bytes) => bytes.length + 1
  | .lit _ => 1
  | .nil => 1
  | .ptr d => uptoBulk d + 1
  | .slice elems spare => uptoBulkAll elems + uptoBulkAll spare + 1
  | .agg parts => uptoBulkAll parts + 1
  | .iface _ d => uptoBulk d + 1
  | .map entries => uptoBulkEntries entries + 1
  | .held _ => 1
def uptoBulkAll {H : Type} : List (DataW H) → Nat
  | [] => 0
  | d :: r => uptoBulk d + uptoBulkAll r
def uptoBulkEntries {H : Type} : List (Lit × DataW H) → Nat
  | [] => 0
  | x :: r => uptoBulkEntry x + uptoBulkEntries r
def uptoBulkEntry {H : Type} : Lit × DataW H → Nat
  | (.string bytes, d) => bytes.length + uptoBulk d + 1
  | (_, d) => uptoBulk d + 1
 end
def uptoSmall : (H : Type) → List (DataW H) → Bool := fun _ ds => decide (uptoBulkAll ds ≤ 1048576)
def OpenSpec.upto (s : _root_.Go.ChangeSpec) : _root_.Go.OpenSpec := { _root_.Go.OpenSpec.ofChange s with cond := some uptoSmall }

/-- 'galleylaw23.EscapePrints', WHERE WHAT IT READS IS OF BULK AT MOST 1048576: true; the input reads as it did. -/
def escapePrintsUptoRow : OpenClaim := { program := "ytflddgoapibleaadoor", sum := "8d724dc2e4234e4dc15eee22112e1be8b1536530979964fb8436ff26b71e4faf", func := "galley/galleylaw23.EscapePrints", spec := "escapePrints", inPlace := ["internal/bytealg.IndexByteString"], recurses := true, named := ["galley/escape.short", "galley/octet.needs", "galley/octet.spans", "internal/strconv.uint64pow10", "math/bits.deBruijn32tab", "math/bits.deBruijn64tab"], apart := false, laid := [("galley/octet.spans", laid_galley_octet_spans), ("galley/octet.needs", laid_galley_octet_needs), ("math/bits.deBruijn32tab", laid_math_bits_deBruijn32tab), ("math/bits.deBruijn64tab", laid_math_bits_deBruijn64tab), ("internal/strconv.uint64pow10", laid_internal_strconv_uint64pow10), ("galley/escape.short", laid_galley_escape_short)], narrowed := true }
def EscapePrintsUptoSaid : Prop := escapePrintsUptoRow.holds Tryd.pinned (OpenSpec.upto escapePrintsSpec)

/-- 'galleylaw23.EscapeFaults', WHERE WHAT IT READS IS OF BULK AT MOST 1048576: true; the input reads as it did. -/
def escapeFaultsUptoRow : OpenClaim := { program := "ytflddgoapibleaadoor", sum := "8d724dc2e4234e4dc15eee22112e1be8b1536530979964fb8436ff26b71e4faf", func := "galley/galleylaw23.EscapeFaults", spec := "escapeFaults", inPlace := ["internal/bytealg.IndexByteString"], recurses := true, named := ["galley/escape.short", "galley/octet.needs", "galley/octet.spans", "internal/strconv.uint64pow10", "math/bits.deBruijn32tab", "math/bits.deBruijn64tab"], apart := false, laid := [("galley/octet.spans", laid_galley_octet_spans), ("galley/octet.needs", laid_galley_octet_needs), ("math/bits.deBruijn32tab", laid_math_bits_deBruijn32tab), ("math/bits.deBruijn64tab", laid_math_bits_deBruijn64tab), ("internal/strconv.uint64pow10", laid_internal_strconv_uint64pow10), ("galley/escape.short", laid_galley_escape_short)], narrowed := true }
def EscapeFaultsUptoSaid : Prop := escapeFaultsUptoRow.holds Tryd.pinned (OpenSpec.upto escapeFaultsSpec)

/-- 'galleylaw23.EscapeUnlike', WHERE WHAT IT READS IS OF BULK AT MOST 1048576: true; the input reads as it did. -/
def escapeUnlikeUptoRow : OpenClaim := { program := "ytflddgoapibleaadoor", sum := "8d724dc2e4234e4dc15eee22112e1be8b1536530979964fb8436ff26b71e4faf", func := "galley/galleylaw23.EscapeUnlike", spec := "escapeUnlike", inPlace := ["internal/bytealg.IndexByteString"], recurses := true, named := ["galley/escape.short", "galley/octet.needs", "galley/octet.spans", "internal/strconv.uint64pow10", "math/bits.deBruijn32tab", "math/bits.deBruijn64tab"], apart := false, laid := [("galley/octet.spans", laid_galley_octet_spans), ("galley/octet.needs", laid_galley_octet_needs), ("math/bits.deBruijn32tab", laid_math_bits_deBruijn32tab), ("math/bits.deBruijn64tab", laid_math_bits_deBruijn64tab), ("internal/strconv.uint64pow10", laid_internal_strconv_uint64pow10), ("galley/escape.short", laid_galley_escape_short)], narrowed := true }
def EscapeUnlikeUptoSaid : Prop := escapeUnlikeUptoRow.holds Tryd.pinned (OpenSpec.upto escapeUnlikeSpec)

/-- 'galleylaw23.EscapeReads', WHERE WHAT IT READS IS OF BULK AT MOST 1048576: true; the input reads as it did. -/
def escapeReadsUptoRow : OpenClaim := { program := "ytflddgoapibleaadoor", sum := "8d724dc2e4234e4dc15eee22112e1be8b1536530979964fb8436ff26b71e4faf", func := "galley/galleylaw23.EscapeReads", spec := "escapeReads", inPlace := ["internal/bytealg.IndexByteString"], recurses := true, named := ["galley/escape.short", "galley/octet.needs", "galley/octet.spans", "internal/strconv.uint64pow10", "math/bits.deBruijn32tab", "math/bits.deBruijn64tab"], apart := false, laid := [("galley/octet.spans", laid_galley_octet_spans), ("galley/octet.needs", laid_galley_octet_needs), ("math/bits.deBruijn32tab", laid_math_bits_deBruijn32tab), ("math/bits.deBruijn64tab", laid_math_bits_deBruijn64tab), ("internal/strconv.uint64pow10", laid_internal_strconv_uint64pow10), ("galley/escape.short", laid_galley_escape_short)], narrowed := true }
def EscapeReadsUptoSaid : Prop := escapeReadsUptoRow.holds Tryd.pinned (OpenSpec.upto escapeReadsSpec)

/-- 'galleylaw23.EscapeBack', WHERE WHAT IT READS IS OF BULK AT MOST 1048576: true; the input reads as it did. -/
def escapeBackUptoRow : OpenClaim := { program := "ytflddgoapibleaadoor", sum := "8d724dc2e4234e4dc15eee22112e1be8b1536530979964fb8436ff26b71e4faf", func := "galley/galleylaw23.EscapeBack", spec := "escapeBack", inPlace := ["internal/bytealg.IndexByteString"], recurses := true, named := ["galley/escape.short", "galley/octet.needs", "galley/octet.spans", "internal/strconv.uint64pow10", "math/bits.deBruijn32tab", "math/bits.deBruijn64tab"], apart := false, laid := [("galley/octet.spans", laid_galley_octet_spans), ("galley/octet.needs", laid_galley_octet_needs), ("math/bits.deBruijn32tab", laid_math_bits_deBruijn32tab), ("math/bits.deBruijn64tab", laid_math_bits_deBruijn64tab), ("internal/strconv.uint64pow10", laid_internal_strconv_uint64pow10), ("galley/escape.short", laid_galley_escape_short)], narrowed := true }
def EscapeBackUptoSaid : Prop := escapeBackUptoRow.holds Tryd.pinned (OpenSpec.upto escapeBackSpec)

/-- 'galleylaw23.EscapePlain', WHERE WHAT IT READS IS OF BULK AT MOST 1048576: true; the input reads as it did. -/
def escapePlainUptoRow : OpenClaim := { program := "ytflddgoapibleaadoor", sum := "8d724dc2e4234e4dc15eee22112e1be8b1536530979964fb8436ff26b71e4faf", func := "galley/galleylaw23.EscapePlain", spec := "escapePlain", inPlace := ["internal/bytealg.IndexByteString", "internal/abi.NoEscape"], recurses := true, named := ["galley/escape.short", "galley/octet.needs", "galley/octet.spans", "internal/strconv.uint64pow10", "math/bits.deBruijn32tab", "math/bits.deBruijn64tab"], apart := false, laid := [("galley/octet.spans", laid_galley_octet_spans), ("galley/octet.needs", laid_galley_octet_needs), ("math/bits.deBruijn32tab", laid_math_bits_deBruijn32tab), ("math/bits.deBruijn64tab", laid_math_bits_deBruijn64tab), ("internal/strconv.uint64pow10", laid_internal_strconv_uint64pow10), ("galley/escape.short", laid_galley_escape_short)], narrowed := true }
def EscapePlainUptoSaid : Prop := escapePlainUptoRow.holds Tryd.pinned (OpenSpec.upto escapePlainSpec)

/-- 'galleylaw23.EscapeQuotes', WHERE WHAT IT READS IS OF BULK AT MOST 1048576: true; the input reads as it did. -/
def escapeQuotesUptoRow : OpenClaim := { program := "ytflddgoapibleaadoor", sum := "8d724dc2e4234e4dc15eee22112e1be8b1536530979964fb8436ff26b71e4faf", func := "galley/galleylaw23.EscapeQuotes", spec := "escapeQuotes", inPlace := ["internal/bytealg.IndexByteString", "internal/abi.NoEscape"], recurses := true, named := ["galley/escape.short", "galley/octet.needs", "galley/octet.spans", "internal/strconv.uint64pow10", "math/bits.deBruijn32tab", "math/bits.deBruijn64tab"], apart := false, laid := [("galley/octet.spans", laid_galley_octet_spans), ("galley/octet.needs", laid_galley_octet_needs), ("math/bits.deBruijn32tab", laid_math_bits_deBruijn32tab), ("math/bits.deBruijn64tab", laid_math_bits_deBruijn64tab), ("internal/strconv.uint64pow10", laid_internal_strconv_uint64pow10), ("galley/escape.short", laid_galley_escape_short)], narrowed := true }
def EscapeQuotesUptoSaid : Prop := escapeQuotesUptoRow.holds Tryd.pinned (OpenSpec.upto escapeQuotesSpec)

/-- 'galleylaw23.EscapeOwn', WHERE WHAT IT READS IS OF BULK AT MOST 1048576: true; the input reads as it did. -/
def escapeOwnUptoRow : OpenClaim := { program := "ytflddgoapibleaadoor", sum := "8d724dc2e4234e4dc15eee22112e1be8b1536530979964fb8436ff26b71e4faf", func := "galley/galleylaw23.EscapeOwn", spec := "escapeOwn", inPlace := ["internal/bytealg.IndexByteString", "internal/abi.NoEscape"], recurses := true, named := ["galley/escape.short", "galley/octet.needs", "galley/octet.spans", "internal/strconv.uint64pow10", "math/bits.deBruijn32tab", "math/bits.deBruijn64tab"], apart := false, laid := [("galley/octet.spans", laid_galley_octet_spans), ("galley/octet.needs", laid_galley_octet_needs), ("math/bits.deBruijn32tab", laid_math_bits_deBruijn32tab), ("math/bits.deBruijn64tab", laid_math_bits_deBruijn64tab), ("internal/strconv.uint64pow10", laid_internal_strconv_uint64pow10), ("galley/escape.short", laid_galley_escape_short)], narrowed := true }
def EscapeOwnUptoSaid : Prop := escapeOwnUptoRow.holds Tryd.pinned (OpenSpec.upto escapeOwnSpec)

end Rows
end Go.Proofs.YtflddgoapibleaaDoor
