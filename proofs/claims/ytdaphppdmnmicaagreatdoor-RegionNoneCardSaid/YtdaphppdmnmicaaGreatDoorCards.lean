/-
  DERIVED. GIVEN WITH THE SEED: THE CARDS: each row of YtdaphppdmnmicaaGreatDoorRows.lean that lists a variable, with what it lists TIED to the program's text (the seventh form; the later family's looks); each row that meets fmt, with fmt's text TOLD by the authors' own Lean function (tested against real Go, not proved from fmt's source: count such statements apart). THE CARD IS WHAT COUNTS. Prove the row's statement (the work); the ties are given (YtdaphppdmnmicaaGreatDoorTie.lean); close each card by the builder's one call (the guide's Derived/Test/ToyasCard.lean, 'card_holds'). Laid BY PROGRAM, IN A SANDBOX (cutbox-door.mjs). By AI agents, Wed Nov 11 2026. No macro, syntax, notation, axiom, sorry.
-/
import Derived.Test.YtdaphppdmnmicaaGreatDoorRows
import GoSem.ClaimSeven
namespace Go.Proofs.YtdaphppdmnmicaaGreatDoor
namespace Rows

/-- THE TIED CARD OF 'sojournlaw24.RegionNone'. -/
def regionNoneCard : Claim7 := { stood := { row := regionNoneRow, standIns := [], harness := (true, "99c6eac1b8d0a6c7df4e63c4068fbd054474eb9827fb75822fbdbee4fa3071a9"), looks := true }, kinds := [], alts := [], laidByText := true, laidKinds := [.data, .data, .data, .handle], laidTests := true, laidLooks := .later }
def RegionNoneCardSaid : Prop := Claim7.holds Tryz.pinned (.plain (OpenSpec.ofChange regionNoneSpec)) regionNoneCard

/-- THE SECOND FORM's CARD OF 'sojournlaw24.RegionNone'. -/
def regionNoneUptoCard : Claim7 := { stood := { row := regionNoneUptoRow, standIns := [], harness := (true, "99c6eac1b8d0a6c7df4e63c4068fbd054474eb9827fb75822fbdbee4fa3071a9"), looks := true }, kinds := [], alts := [], laidByText := true, laidKinds := [.data, .data, .data, .handle], laidTests := true, laidLooks := .later }
def RegionNoneUptoCardSaid : Prop := Claim7.holds Tryz.pinned (.plain (OpenSpec.upto regionNoneSpec)) regionNoneUptoCard
end Rows
end Go.Proofs.YtdaphppdmnmicaaGreatDoor
