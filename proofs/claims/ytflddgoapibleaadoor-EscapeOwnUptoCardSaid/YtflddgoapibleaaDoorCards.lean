/-
  DERIVED. GIVEN WITH THE SEED: THE CARDS: each row of YtflddgoapibleaaDoorRows.lean that lists a variable, with what it lists TIED to the program's text (the seventh form; the later family's looks); each row that meets fmt, with fmt's text TOLD by the authors' own Lean function (tested against real Go, not proved from fmt's source: count such statements apart). THE CARD IS WHAT COUNTS. Prove the row's statement (the work); the ties are given (YtflddgoapibleaaDoorTie.lean); close each card by the builder's one call (the guide's Derived/Test/ToyasCard.lean, 'card_holds'). Laid BY PROGRAM, IN A SANDBOX (cutbox-door.mjs). By AI agents, Wed Nov 11 2026. No macro, syntax, notation, axiom, sorry.
-/
import Derived.Test.YtflddgoapibleaaDoorRows
import GoSem.ClaimSeven
namespace Go.Proofs.YtflddgoapibleaaDoor
namespace Rows

/-- THE TIED CARD OF 'galleylaw23.EscapePrints'. -/
def escapePrintsCard : Claim7 := { stood := { row := escapePrintsRow, standIns := [], harness := (true, "31d84a70bf2892354d0dab555970ab2e732093eba5d38c47ff979e9c7a9b0c9a"), looks := false }, kinds := [], alts := [], laidByText := true, laidKinds := [.data, .data, .data, .data, .data, .mapped], laidTests := true, laidLooks := .later }
def EscapePrintsCardSaid : Prop := Claim7.holds Tryd.pinned (.plain (OpenSpec.ofChange escapePrintsSpec)) escapePrintsCard

/-- THE TIED CARD OF 'galleylaw23.EscapeFaults'. -/
def escapeFaultsCard : Claim7 := { stood := { row := escapeFaultsRow, standIns := [], harness := (true, "31d84a70bf2892354d0dab555970ab2e732093eba5d38c47ff979e9c7a9b0c9a"), looks := false }, kinds := [], alts := [], laidByText := true, laidKinds := [.data, .data, .data, .data, .data, .mapped], laidTests := true, laidLooks := .later }
def EscapeFaultsCardSaid : Prop := Claim7.holds Tryd.pinned (.plain (OpenSpec.ofChange escapeFaultsSpec)) escapeFaultsCard

/-- THE TIED CARD OF 'galleylaw23.EscapeUnlike'. -/
def escapeUnlikeCard : Claim7 := { stood := { row := escapeUnlikeRow, standIns := [], harness := (true, "31d84a70bf2892354d0dab555970ab2e732093eba5d38c47ff979e9c7a9b0c9a"), looks := false }, kinds := [], alts := [], laidByText := true, laidKinds := [.data, .data, .data, .data, .data, .mapped], laidTests := true, laidLooks := .later }
def EscapeUnlikeCardSaid : Prop := Claim7.holds Tryd.pinned (.plain (OpenSpec.ofChange escapeUnlikeSpec)) escapeUnlikeCard

/-- THE TIED CARD OF 'galleylaw23.EscapeReads'. -/
def escapeReadsCard : Claim7 := { stood := { row := escapeReadsRow, standIns := [], harness := (true, "31d84a70bf2892354d0dab555970ab2e732093eba5d38c47ff979e9c7a9b0c9a"), looks := false }, kinds := [], alts := [], laidByText := true, laidKinds := [.data, .data, .data, .data, .data, .mapped], laidTests := true, laidLooks := .later }
def EscapeReadsCardSaid : Prop := Claim7.holds Tryd.pinned (.plain (OpenSpec.ofChange escapeReadsSpec)) escapeReadsCard

/-- THE TIED CARD OF 'galleylaw23.EscapeBack'. -/
def escapeBackCard : Claim7 := { stood := { row := escapeBackRow, standIns := [], harness := (true, "31d84a70bf2892354d0dab555970ab2e732093eba5d38c47ff979e9c7a9b0c9a"), looks := false }, kinds := [], alts := [], laidByText := true, laidKinds := [.data, .data, .data, .data, .data, .mapped], laidTests := true, laidLooks := .later }
def EscapeBackCardSaid : Prop := Claim7.holds Tryd.pinned (.plain (OpenSpec.ofChange escapeBackSpec)) escapeBackCard

/-- THE TIED CARD OF 'galleylaw23.EscapePlain'. -/
def escapePlainCard : Claim7 := { stood := { row := escapePlainRow, standIns := [], harness := (true, "31d84a70bf2892354d0dab555970ab2e732093eba5d38c47ff979e9c7a9b0c9a"), looks := false }, kinds := [], alts := [], laidByText := true, laidKinds := [.data, .data, .data, .data, .data, .mapped], laidTests := true, laidLooks := .later }
def EscapePlainCardSaid : Prop := Claim7.holds Tryd.pinned (.plain (OpenSpec.ofChange escapePlainSpec)) escapePlainCard

/-- THE TIED CARD OF 'galleylaw23.EscapeQuotes'. -/
def escapeQuotesCard : Claim7 := { stood := { row := escapeQuotesRow, standIns := [], harness := (true, "31d84a70bf2892354d0dab555970ab2e732093eba5d38c47ff979e9c7a9b0c9a"), looks := false }, kinds := [], alts := [], laidByText := true, laidKinds := [.data, .data, .data, .data, .data, .mapped], laidTests := true, laidLooks := .later }
def EscapeQuotesCardSaid : Prop := Claim7.holds Tryd.pinned (.plain (OpenSpec.ofChange escapeQuotesSpec)) escapeQuotesCard

/-- THE TIED CARD OF 'galleylaw23.EscapeOwn'. -/
def escapeOwnCard : Claim7 := { stood := { row := escapeOwnRow, standIns := [], harness := (true, "31d84a70bf2892354d0dab555970ab2e732093eba5d38c47ff979e9c7a9b0c9a"), looks := false }, kinds := [], alts := [], laidByText := true, laidKinds := [.data, .data, .data, .data, .data, .mapped], laidTests := true, laidLooks := .later }
def EscapeOwnCardSaid : Prop := Claim7.holds Tryd.pinned (.plain (OpenSpec.ofChange escapeOwnSpec)) escapeOwnCard

/-- THE SECOND FORM's CARD OF 'galleylaw23.EscapePrints'. -/
def escapePrintsUptoCard : Claim7 := { stood := { row := escapePrintsUptoRow, standIns := [], harness := (true, "31d84a70bf2892354d0dab555970ab2e732093eba5d38c47ff979e9c7a9b0c9a"), looks := false }, kinds := [], alts := [], laidByText := true, laidKinds := [.data, .data, .data, .data, .data, .mapped], laidTests := true, laidLooks := .later }
def EscapePrintsUptoCardSaid : Prop := Claim7.holds Tryd.pinned (.plain (OpenSpec.upto escapePrintsSpec)) escapePrintsUptoCard

/-- THE SECOND FORM's CARD OF 'galleylaw23.EscapeFaults'. -/
def escapeFaultsUptoCard : Claim7 := { stood := { row := escapeFaultsUptoRow, standIns := [], harness := (true, "31d84a70bf2892354d0dab555970ab2e732093eba5d38c47ff979e9c7a9b0c9a"), looks := false }, kinds := [], alts := [], laidByText := true, laidKinds := [.data, .data, .data, .data, .data, .mapped], laidTests := true, laidLooks := .later }
def EscapeFaultsUptoCardSaid : Prop := Claim7.holds Tryd.pinned (.plain (OpenSpec.upto escapeFaultsSpec)) escapeFaultsUptoCard

/-- THE SECOND FORM's CARD OF 'galleylaw23.EscapeUnlike'. -/
def escapeUnlikeUptoCard : Claim7 := { stood := { row := escapeUnlikeUptoRow, standIns := [], harness := (true, "31d84a70bf2892354d0dab555970ab2e732093eba5d38c47ff979e9c7a9b0c9a"), looks := false }, kinds := [], alts := [], laidByText := true, laidKinds := [.data, .data, .data, .data, .data, .mapped], laidTests := true, laidLooks := .later }
def EscapeUnlikeUptoCardSaid : Prop := Claim7.holds Tryd.pinned (.plain (OpenSpec.upto escapeUnlikeSpec)) escapeUnlikeUptoCard

/-- THE SECOND FORM's CARD OF 'galleylaw23.EscapeReads'. -/
def escapeReadsUptoCard : Claim7 := { stood := { row := escapeReadsUptoRow, standIns := [], harness := (true, "31d84a70bf2892354d0dab555970ab2e732093eba5d38c47ff979e9c7a9b0c9a"), looks := false }, kinds := [], alts := [], laidByText := true, laidKinds := [.data, .data, .data, .data, .data, .mapped], laidTests := true, laidLooks := .later }
def EscapeReadsUptoCardSaid : Prop := Claim7.holds Tryd.pinned (.plain (OpenSpec.upto escapeReadsSpec)) escapeReadsUptoCard

/-- THE SECOND FORM's CARD OF 'galleylaw23.EscapeBack'. -/
def escapeBackUptoCard : Claim7 := { stood := { row := escapeBackUptoRow, standIns := [], harness := (true, "31d84a70bf2892354d0dab555970ab2e732093eba5d38c47ff979e9c7a9b0c9a"), looks := false }, kinds := [], alts := [], laidByText := true, laidKinds := [.data, .data, .data, .data, .data, .mapped], laidTests := true, laidLooks := .later }
def EscapeBackUptoCardSaid : Prop := Claim7.holds Tryd.pinned (.plain (OpenSpec.upto escapeBackSpec)) escapeBackUptoCard

/-- THE SECOND FORM's CARD OF 'galleylaw23.EscapePlain'. -/
def escapePlainUptoCard : Claim7 := { stood := { row := escapePlainUptoRow, standIns := [], harness := (true, "31d84a70bf2892354d0dab555970ab2e732093eba5d38c47ff979e9c7a9b0c9a"), looks := false }, kinds := [], alts := [], laidByText := true, laidKinds := [.data, .data, .data, .data, .data, .mapped], laidTests := true, laidLooks := .later }
def EscapePlainUptoCardSaid : Prop := Claim7.holds Tryd.pinned (.plain (OpenSpec.upto escapePlainSpec)) escapePlainUptoCard

/-- THE SECOND FORM's CARD OF 'galleylaw23.EscapeQuotes'. -/
def escapeQuotesUptoCard : Claim7 := { stood := { row := escapeQuotesUptoRow, standIns := [], harness := (true, "31d84a70bf2892354d0dab555970ab2e732093eba5d38c47ff979e9c7a9b0c9a"), looks := false }, kinds := [], alts := [], laidByText := true, laidKinds := [.data, .data, .data, .data, .data, .mapped], laidTests := true, laidLooks := .later }
def EscapeQuotesUptoCardSaid : Prop := Claim7.holds Tryd.pinned (.plain (OpenSpec.upto escapeQuotesSpec)) escapeQuotesUptoCard

/-- THE SECOND FORM's CARD OF 'galleylaw23.EscapeOwn'. -/
def escapeOwnUptoCard : Claim7 := { stood := { row := escapeOwnUptoRow, standIns := [], harness := (true, "31d84a70bf2892354d0dab555970ab2e732093eba5d38c47ff979e9c7a9b0c9a"), looks := false }, kinds := [], alts := [], laidByText := true, laidKinds := [.data, .data, .data, .data, .data, .mapped], laidTests := true, laidLooks := .later }
def EscapeOwnUptoCardSaid : Prop := Claim7.holds Tryd.pinned (.plain (OpenSpec.upto escapeOwnSpec)) escapeOwnUptoCard
end Rows
end Go.Proofs.YtflddgoapibleaaDoor
