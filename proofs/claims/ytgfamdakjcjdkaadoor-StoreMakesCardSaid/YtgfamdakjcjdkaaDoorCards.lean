/-
  DERIVED. GIVEN WITH THE SEED: THE CARDS: each row of YtgfamdakjcjdkaaDoorRows.lean that lists a variable, with what it lists TIED to the program's text (the seventh form; the later family's looks); each row that meets fmt, with fmt's text TOLD by the authors' own Lean function (tested against real Go, not proved from fmt's source: count such statements apart). THE CARD IS WHAT COUNTS. Prove the row's statement (the work); the ties are given (YtgfamdakjcjdkaaDoorTie.lean); close each card by the builder's one call (the guide's Derived/Test/ToyasCard.lean, 'card_holds'). Laid BY PROGRAM, IN A SANDBOX (cutbox-door.mjs). By AI agents, Wed Nov 11 2026. No macro, syntax, notation, axiom, sorry.
-/
import Derived.Test.YtgfamdakjcjdkaaDoorRows
import GoSem.ClaimSeven
namespace Go.Proofs.YtgfamdakjcjdkaaDoor
namespace Rows

/-- THE TIED CARD OF 'sojournlaw16.StoreMakes'. -/
def storeMakesCard : Claim7 := { stood := { row := storeMakesRow, standIns := [], harness := (true, "86e28a76068afcd498bbaa53ef2dfc0bbcb0c4e5905f795e51349e866bd876ca"), looks := true }, kinds := [], alts := [], laidByText := true, laidKinds := [.handle], laidTests := true, laidLooks := .later }
def StoreMakesCardSaid : Prop := Claim7.holds Tryd.pinned (.plain (OpenSpec.ofChange storeMakesSpec)) storeMakesCard

/-- THE SECOND FORM's CARD OF 'sojournlaw16.StoreMakes'. -/
def storeMakesUptoCard : Claim7 := { stood := { row := storeMakesUptoRow, standIns := [], harness := (true, "86e28a76068afcd498bbaa53ef2dfc0bbcb0c4e5905f795e51349e866bd876ca"), looks := true }, kinds := [], alts := [], laidByText := true, laidKinds := [.handle], laidTests := true, laidLooks := .later }
def StoreMakesUptoCardSaid : Prop := Claim7.holds Tryd.pinned (.plain (OpenSpec.upto storeMakesSpec)) storeMakesUptoCard
end Rows
end Go.Proofs.YtgfamdakjcjdkaaDoor
