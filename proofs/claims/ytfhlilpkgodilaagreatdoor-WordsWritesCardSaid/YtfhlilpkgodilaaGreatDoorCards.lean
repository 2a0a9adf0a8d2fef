/-
  DERIVED. GIVEN WITH THE SEED: THE CARDS: each row of YtfhlilpkgodilaaGreatDoorRows.lean that lists a variable, with what it lists TIED to the program's text (the seventh form; the later family's looks); each row that meets fmt, with fmt's text TOLD by the authors' own Lean function (tested against real Go, not proved from fmt's source: count such statements apart). THE CARD IS WHAT COUNTS. Prove the row's statement (the work); the ties are given (YtfhlilpkgodilaaGreatDoorTie.lean); close each card by the builder's one call (the guide's Derived/Test/ToyasCard.lean, 'card_holds'). Laid BY PROGRAM, IN A SANDBOX (cutbox-door.mjs). By AI agents, Wed Nov 11 2026. No macro, syntax, notation, axiom, sorry.
-/
import Derived.Test.YtfhlilpkgodilaaGreatDoorRows
import GoSem.ClaimSeven
namespace Go.Proofs.YtfhlilpkgodilaaGreatDoor
namespace Rows

/-- THE TIED CARD OF 'archipelagolaw24.WordsWrites'. -/
def wordsWritesCard : Claim7 := { stood := { row := wordsWritesRow, standIns := [], harness := (true, "db6e2f229910b06fcb432624469e83657a8733c723e0a161416a603d9f800617"), looks := false }, kinds := [], alts := [], laidByText := true, laidKinds := [.data, .pinned], laidTests := true, laidLooks := .later }
def WordsWritesCardSaid : Prop := Claim7.holds Tryz.pinned (.plain (OpenSpec.ofChange wordsWritesSpec)) wordsWritesCard

/-- THE SECOND FORM's CARD OF 'archipelagolaw24.WordsWrites'. -/
def wordsWritesUptoCard : Claim7 := { stood := { row := wordsWritesUptoRow, standIns := [], harness := (true, "db6e2f229910b06fcb432624469e83657a8733c723e0a161416a603d9f800617"), looks := false }, kinds := [], alts := [], laidByText := true, laidKinds := [.data, .pinned], laidTests := true, laidLooks := .later }
def WordsWritesUptoCardSaid : Prop := Claim7.holds Tryz.pinned (.plain (OpenSpec.upto wordsWritesSpec)) wordsWritesUptoCard
end Rows
end Go.Proofs.YtfhlilpkgodilaaGreatDoor
