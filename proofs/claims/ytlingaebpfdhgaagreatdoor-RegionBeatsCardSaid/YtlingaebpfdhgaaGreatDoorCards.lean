/-
  DERIVED. GIVEN WITH THE SEED: THE CARDS: each row of YtlingaebpfdhgaaGreatDoorRows.lean that lists a variable, with what it lists TIED to the program's text (the seventh form; the later family's looks); each row that meets fmt, with fmt's text TOLD by the authors' own Lean function (tested against real Go, not proved from fmt's source: count such statements apart). THE CARD IS WHAT COUNTS. Prove the row's statement (the work); the ties are given (YtlingaebpfdhgaaGreatDoorTie.lean); close each card by the builder's one call (the guide's Derived/Test/ToyasCard.lean, 'card_holds'). Laid BY PROGRAM, IN A SANDBOX (cutbox-door.mjs). By AI agents, Wed Nov 11 2026. No macro, syntax, notation, axiom, sorry.
-/
import Derived.Test.YtlingaebpfdhgaaGreatDoorRows
import GoSem.ClaimSeven
namespace Go.Proofs.YtlingaebpfdhgaaGreatDoor
namespace Rows

/-- THE TIED CARD OF 'sojournlaw24.RegionBeats'. -/
def regionBeatsCard : Claim7 := { stood := { row := regionBeatsRow, standIns := [], harness := (true, "c6cfe34364ed25e643b6a249429e750f64f97198f348a5ff1c044b66001bf8c9"), looks := true }, kinds := [], alts := [], laidByText := true, laidKinds := [.data, .data, .data], laidTests := true, laidLooks := .later }
def RegionBeatsCardSaid : Prop := Claim7.holds Tryz.pinned (.plain (OpenSpec.ofChange regionBeatsSpec)) regionBeatsCard

/-- THE SECOND FORM's CARD OF 'sojournlaw24.RegionBeats'. -/
def regionBeatsUptoCard : Claim7 := { stood := { row := regionBeatsUptoRow, standIns := [], harness := (true, "c6cfe34364ed25e643b6a249429e750f64f97198f348a5ff1c044b66001bf8c9"), looks := true }, kinds := [], alts := [], laidByText := true, laidKinds := [.data, .data, .data], laidTests := true, laidLooks := .later }
def RegionBeatsUptoCardSaid : Prop := Claim7.holds Tryz.pinned (.plain (OpenSpec.upto regionBeatsSpec)) regionBeatsUptoCard
end Rows
end Go.Proofs.YtlingaebpfdhgaaGreatDoor
