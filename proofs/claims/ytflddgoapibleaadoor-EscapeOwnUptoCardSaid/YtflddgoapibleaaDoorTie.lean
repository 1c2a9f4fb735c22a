/-
  DERIVED. GIVEN WITH THE SEED: THE PROGRAM's TIES (one call each: nine closed facts by the kernel) AND EACH ROW's TIE, after the 31st guide's Derived/Test/Toyas{Tie, Card}.lean. No idea stands in it: it is a product of the set-up. Laid BY PROGRAM, IN A SANDBOX (cutbox-door.mjs). By AI agents, Wed Nov 11 2026. No macro, syntax, notation, axiom, sorry.
-/
import Derived.Test.YtflddgoapibleaaDoorRows
import Derived.LaidByTextLater
import Derived.SevenTiedAt
import Derived.LaidSub
import Derived.LaidOnce
namespace Go.Proofs.YtflddgoapibleaaDoor
open Go
set_option maxRecDepth 100000
theorem seatTie1 : Tryd.prog.laidByTextLater [("galley/octet.spans", Rows.laid_galley_octet_spans), ("galley/octet.needs", Rows.laid_galley_octet_needs), ("math/bits.deBruijn32tab", Rows.laid_math_bits_deBruijn32tab), ("math/bits.deBruijn64tab", Rows.laid_math_bits_deBruijn64tab), ("internal/strconv.uint64pow10", Rows.laid_internal_strconv_uint64pow10), ("galley/escape.short", Rows.laid_galley_escape_short)] [.data, .data, .data, .data, .data, .mapped] true :=
  Program.laidByTextLater_by_one 66 8 65 (by kernel_rfl) (by kernel_rfl) (by kernel_rfl) (by kernel_rfl) (by kernel_rfl) (by kernel_rfl) (fun _ _ => by kernel_rfl)
theorem noOwnUnsafe : Tryd.pinned.checked.prog.headLifts.contains "ownunsafe" = false := by kernel_rfl
theorem tie : Tryd.prog.laidByTextLater [("galley/octet.spans", Rows.laid_galley_octet_spans), ("galley/octet.needs", Rows.laid_galley_octet_needs), ("math/bits.deBruijn32tab", Rows.laid_math_bits_deBruijn32tab), ("math/bits.deBruijn64tab", Rows.laid_math_bits_deBruijn64tab), ("internal/strconv.uint64pow10", Rows.laid_internal_strconv_uint64pow10), ("galley/escape.short", Rows.laid_galley_escape_short)] [.data, .data, .data, .data, .data, .mapped] true :=
  Program.laidByTextLater.sub seatTie1 ["galley/octet.spans", "galley/octet.needs", "math/bits.deBruijn32tab", "math/bits.deBruijn64tab", "internal/strconv.uint64pow10", "galley/escape.short"] (by kernel_rfl) (by kernel_rfl)
theorem escapePrints_row_tie : Rows.escapePrintsRow.laidByTextAt .later Tryd.pinned [.data, .data, .data, .data, .data, .mapped] true :=
  OpenClaim.laidByTextAt_later rfl rfl tie noOwnUnsafe
theorem escapeFaults_row_tie : Rows.escapeFaultsRow.laidByTextAt .later Tryd.pinned [.data, .data, .data, .data, .data, .mapped] true :=
  OpenClaim.laidByTextAt_later rfl rfl tie noOwnUnsafe
theorem escapeUnlike_row_tie : Rows.escapeUnlikeRow.laidByTextAt .later Tryd.pinned [.data, .data, .data, .data, .data, .mapped] true :=
  OpenClaim.laidByTextAt_later rfl rfl tie noOwnUnsafe
theorem escapeReads_row_tie : Rows.escapeReadsRow.laidByTextAt .later Tryd.pinned [.data, .data, .data, .data, .data, .mapped] true :=
  OpenClaim.laidByTextAt_later rfl rfl tie noOwnUnsafe
theorem escapeBack_row_tie : Rows.escapeBackRow.laidByTextAt .later Tryd.pinned [.data, .data, .data, .data, .data, .mapped] true :=
  OpenClaim.laidByTextAt_later rfl rfl tie noOwnUnsafe
theorem escapePlain_row_tie : Rows.escapePlainRow.laidByTextAt .later Tryd.pinned [.data, .data, .data, .data, .data, .mapped] true :=
  OpenClaim.laidByTextAt_later rfl rfl tie noOwnUnsafe
theorem escapeQuotes_row_tie : Rows.escapeQuotesRow.laidByTextAt .later Tryd.pinned [.data, .data, .data, .data, .data, .mapped] true :=
  OpenClaim.laidByTextAt_later rfl rfl tie noOwnUnsafe
theorem escapeOwn_row_tie : Rows.escapeOwnRow.laidByTextAt .later Tryd.pinned [.data, .data, .data, .data, .data, .mapped] true :=
  OpenClaim.laidByTextAt_later rfl rfl tie noOwnUnsafe
theorem escapePrintsUpto_row_tie : Rows.escapePrintsUptoRow.laidByTextAt .later Tryd.pinned [.data, .data, .data, .data, .data, .mapped] true :=
  OpenClaim.laidByTextAt_later rfl rfl tie noOwnUnsafe
theorem escapeFaultsUpto_row_tie : Rows.escapeFaultsUptoRow.laidByTextAt .later Tryd.pinned [.data, .data, .data, .data, .data, .mapped] true :=
  OpenClaim.laidByTextAt_later rfl rfl tie noOwnUnsafe
theorem escapeUnlikeUpto_row_tie : Rows.escapeUnlikeUptoRow.laidByTextAt .later Tryd.pinned [.data, .data, .data, .data, .data, .mapped] true :=
  OpenClaim.laidByTextAt_later rfl rfl tie noOwnUnsafe
theorem escapeReadsUpto_row_tie : Rows.escapeReadsUptoRow.laidByTextAt .later Tryd.pinned [.data, .data, .data, .data, .data, .mapped] true :=
  OpenClaim.laidByTextAt_later rfl rfl tie noOwnUnsafe
theorem escapeBackUpto_row_tie : Rows.escapeBackUptoRow.laidByTextAt .later Tryd.pinned [.data, .data, .data, .data, .data, .mapped] true :=
  OpenClaim.laidByTextAt_later rfl rfl tie noOwnUnsafe
theorem escapePlainUpto_row_tie : Rows.escapePlainUptoRow.laidByTextAt .later Tryd.pinned [.data, .data, .data, .data, .data, .mapped] true :=
  OpenClaim.laidByTextAt_later rfl rfl tie noOwnUnsafe
theorem escapeQuotesUpto_row_tie : Rows.escapeQuotesUptoRow.laidByTextAt .later Tryd.pinned [.data, .data, .data, .data, .data, .mapped] true :=
  OpenClaim.laidByTextAt_later rfl rfl tie noOwnUnsafe
theorem escapeOwnUpto_row_tie : Rows.escapeOwnUptoRow.laidByTextAt .later Tryd.pinned [.data, .data, .data, .data, .data, .mapped] true :=
  OpenClaim.laidByTextAt_later rfl rfl tie noOwnUnsafe
end Go.Proofs.YtflddgoapibleaaDoor
