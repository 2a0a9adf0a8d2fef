/-
  DERIVED. GIVEN WITH THE SEED: THE CARDS: each row of YtfhlilpkgodilaaDoorRows.lean that lists a variable, with what it lists TIED to the program's text (the seventh form; the later family's looks); each row that meets fmt, with fmt's text TOLD by the authors' own Lean function (tested against real Go, not proved from fmt's source: count such statements apart). THE CARD IS WHAT COUNTS. Prove the row's statement (the work); the ties are given (YtfhlilpkgodilaaDoorTie.lean); close each card by the builder's one call (the guide's Derived/Test/ToyasCard.lean, 'card_holds'). Laid BY PROGRAM, IN A SANDBOX (cutbox-door.mjs). By AI agents, Wed Nov 11 2026. No macro, syntax, notation, axiom, sorry.
-/
import Derived.Test.YtfhlilpkgodilaaDoorRows
import GoSem.ClaimSeven
namespace Go.Proofs.YtfhlilpkgodilaaDoor
namespace Rows

/-- THE TIED CARD OF 'archipelagolaw24.WordsBack'. -/
def wordsBackCard : Claim7 := { stood := { row := wordsBackRow, standIns := [], harness := (true, "16575aebf4884ed0f7e63bce07d8e4a82fb4905a334da4b3966d7ed16f9ad94b"), looks := false }, kinds := [], alts := [], laidByText := true, laidKinds := [.data, .pinned], laidTests := true, laidLooks := .later }
def WordsBackCardSaid : Prop := Claim7.holds Tryd.pinned (.plain (OpenSpec.ofChange wordsBackSpec)) wordsBackCard

/-- THE TIED CARD OF 'archipelagolaw24.WordsQuote'. -/
def wordsQuoteCard : Claim7 := { stood := { row := wordsQuoteRow, standIns := [], harness := (true, "16575aebf4884ed0f7e63bce07d8e4a82fb4905a334da4b3966d7ed16f9ad94b"), looks := false }, kinds := [], alts := [], laidByText := true, laidKinds := [.data, .pinned], laidTests := true, laidLooks := .later }
def WordsQuoteCardSaid : Prop := Claim7.holds Tryd.pinned (.plain (OpenSpec.ofChange wordsQuoteSpec)) wordsQuoteCard

/-- THE TIED CARD OF 'archipelagolaw24.WordsLine'. -/
def wordsLineCard : Claim7 := { stood := { row := wordsLineRow, standIns := [], harness := (true, "16575aebf4884ed0f7e63bce07d8e4a82fb4905a334da4b3966d7ed16f9ad94b"), looks := false }, kinds := [], alts := [], laidByText := true, laidKinds := [.data, .pinned], laidTests := true, laidLooks := .later }
def WordsLineCardSaid : Prop := Claim7.holds Tryd.pinned (.plain (OpenSpec.ofChange wordsLineSpec)) wordsLineCard

/-- THE TIED CARD OF 'archipelagolaw24.WordsRows'. -/
def wordsRowsCard : Claim7 := { stood := { row := wordsRowsRow, standIns := [], harness := (true, "16575aebf4884ed0f7e63bce07d8e4a82fb4905a334da4b3966d7ed16f9ad94b"), looks := false }, kinds := [], alts := [], laidByText := true, laidKinds := [.data, .pinned], laidTests := true, laidLooks := .later }
def WordsRowsCardSaid : Prop := Claim7.holds Tryd.pinned (.plain (OpenSpec.ofChange wordsRowsSpec)) wordsRowsCard

/-- THE SECOND FORM's CARD OF 'archipelagolaw24.WordsBack'. -/
def wordsBackUptoCard : Claim7 := { stood := { row := wordsBackUptoRow, standIns := [], harness := (true, "16575aebf4884ed0f7e63bce07d8e4a82fb4905a334da4b3966d7ed16f9ad94b"), looks := false }, kinds := [], alts := [], laidByText := true, laidKinds := [.data, .pinned], laidTests := true, laidLooks := .later }
def WordsBackUptoCardSaid : Prop := Claim7.holds Tryd.pinned (.plain (OpenSpec.upto wordsBackSpec)) wordsBackUptoCard

/-- THE SECOND FORM's CARD OF 'archipelagolaw24.WordsQuote'. -/
def wordsQuoteUptoCard : Claim7 := { stood := { row := wordsQuoteUptoRow, standIns := [], harness := (true, "16575aebf4884ed0f7e63bce07d8e4a82fb4905a334da4b3966d7ed16f9ad94b"), looks := false }, kinds := [], alts := [], laidByText := true, laidKinds := [.data, .pinned], laidTests := true, laidLooks := .later }
def WordsQuoteUptoCardSaid : Prop := Claim7.holds Tryd.pinned (.plain (OpenSpec.upto wordsQuoteSpec)) wordsQuoteUptoCard

/-- THE SECOND FORM's CARD OF 'archipelagolaw24.WordsLine'. -/
def wordsLineUptoCard : Claim7 := { stood := { row := wordsLineUptoRow, standIns := [], harness := (true, "16575aebf4884ed0f7e63bce07d8e4a82fb4905a334da4b3966d7ed16f9ad94b"), looks := false }, kinds := [], alts := [], laidByText := true, laidKinds := [.data, .pinned], laidTests := true, laidLooks := .later }
def WordsLineUptoCardSaid : Prop := Claim7.holds Tryd.pinned (.plain (OpenSpec.upto wordsLineSpec)) wordsLineUptoCard

/-- THE SECOND FORM's CARD OF 'archipelagolaw24.WordsRows'. -/
def wordsRowsUptoCard : Claim7 := { stood := { row := wordsRowsUptoRow, standIns := [], harness := (true, "16575aebf4884ed0f7e63bce07d8e4a82fb4905a334da4b3966d7ed16f9ad94b"), looks := false }, kinds := [], alts := [], laidByText := true, laidKinds := [.data, .pinned], laidTests := true, laidLooks := .later }
def WordsRowsUptoCardSaid : Prop := Claim7.holds Tryd.pinned (.plain (OpenSpec.upto wordsRowsSpec)) wordsRowsUptoCard
end Rows
end Go.Proofs.YtfhlilpkgodilaaDoor
