/-
  DERIVED. GIVEN WITH THE SEED: THE CARDS: each row of YthlahcnglacekaaGreatDoorRows.lean that lists a variable, with what it lists TIED to the program's text (the seventh form; the later family's looks); each row that meets fmt, with fmt's text TOLD by the authors' own Lean function (tested against real Go, not proved from fmt's source: count such statements apart). THE CARD IS WHAT COUNTS. Prove the row's statement (the work); the ties are given (YthlahcnglacekaaGreatDoorTie.lean); close each card by the builder's one call (the guide's Derived/Test/ToyasCard.lean, 'card_holds'). Laid BY PROGRAM, IN A SANDBOX (cutbox-door.mjs). By AI agents, Wed Nov 11 2026. No macro, syntax, notation, axiom, sorry.
-/
import Derived.Test.YthlahcnglacekaaGreatDoorRows
import GoSem.ClaimSeven
namespace Go.Proofs.YthlahcnglacekaaGreatDoor
namespace Rows

/-- THE TIED CARD OF 'sojournlaw25.GateLapsed'. -/
def gateLapsedCard : Claim7 := { stood := { row := gateLapsedRow, standIns := [], harness := (true, "c1b3571d042ebd8b63c8d72d96d43cebfe746b8d1b8c11d801db6c0daf36bf08"), looks := true }, kinds := [], alts := [], laidByText := true, laidKinds := [.data, .data, .data, .data, .handle, .pinned], laidTests := true, laidLooks := .later }
def GateLapsedCardSaid : Prop := Claim7.holds Tryz.pinned (.plain (OpenSpec.ofChange gateLapsedSpec)) gateLapsedCard

/-- THE TIED CARD OF 'sojournlaw25.GateRetires'. -/
def gateRetiresCard : Claim7 := { stood := { row := gateRetiresRow, standIns := [], harness := (true, "c1b3571d042ebd8b63c8d72d96d43cebfe746b8d1b8c11d801db6c0daf36bf08"), looks := true }, kinds := [], alts := [], laidByText := true, laidKinds := [.data, .data, .data, .data, .handle, .pinned], laidTests := true, laidLooks := .later }
def GateRetiresCardSaid : Prop := Claim7.holds Tryz.pinned (.plain (OpenSpec.ofChange gateRetiresSpec)) gateRetiresCard

/-- THE SECOND FORM's CARD OF 'sojournlaw25.GateLapsed'. -/
def gateLapsedUptoCard : Claim7 := { stood := { row := gateLapsedUptoRow, standIns := [], harness := (true, "c1b3571d042ebd8b63c8d72d96d43cebfe746b8d1b8c11d801db6c0daf36bf08"), looks := true }, kinds := [], alts := [], laidByText := true, laidKinds := [.data, .data, .data, .data, .handle, .pinned], laidTests := true, laidLooks := .later }
def GateLapsedUptoCardSaid : Prop := Claim7.holds Tryz.pinned (.plain (OpenSpec.upto gateLapsedSpec)) gateLapsedUptoCard

/-- THE SECOND FORM's CARD OF 'sojournlaw25.GateRetires'. -/
def gateRetiresUptoCard : Claim7 := { stood := { row := gateRetiresUptoRow, standIns := [], harness := (true, "c1b3571d042ebd8b63c8d72d96d43cebfe746b8d1b8c11d801db6c0daf36bf08"), looks := true }, kinds := [], alts := [], laidByText := true, laidKinds := [.data, .data, .data, .data, .handle, .pinned], laidTests := true, laidLooks := .later }
def GateRetiresUptoCardSaid : Prop := Claim7.holds Tryz.pinned (.plain (OpenSpec.upto gateRetiresSpec)) gateRetiresUptoCard
end Rows
end Go.Proofs.YthlahcnglacekaaGreatDoor
