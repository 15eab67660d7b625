/-
  DERIVED. GIVEN WITH THE SEED: THE CARDS: each row of YtfcgffemdcfiiaaGreatDoorRows.lean that lists a variable, with what it lists TIED to the program's text (the seventh form; the later family's looks); each row that meets fmt, with fmt's text TOLD by the authors' own Lean function (tested against real Go, not proved from fmt's source: count such statements apart). THE CARD IS WHAT COUNTS. Prove the row's statement (the work); the ties are given (YtfcgffemdcfiiaaGreatDoorTie.lean); close each card by the builder's one call (the guide's Derived/Test/ToyasCard.lean, 'card_holds'). Laid BY PROGRAM, IN A SANDBOX (cutbox-door.mjs). By AI agents, Wed Nov 11 2026. No macro, syntax, notation, axiom, sorry.
-/
import Derived.Test.YtfcgffemdcfiiaaGreatDoorRows
import GoSem.ClaimSeven
namespace Go.Proofs.YtfcgffemdcfiiaaGreatDoor
namespace Rows

/-- THE TIED CARD OF 'sojournlaw17.QuotaCounts'. -/
def quotaCountsCard : Claim7 := { stood := { row := quotaCountsRow, standIns := [], harness := (true, "ca876be944b04d8ae0bd14bea4fc1c943ad712808558b9a4315b00d51719fb53"), looks := true }, kinds := [], alts := [], laidByText := true, laidKinds := [.data, .data, .data], laidTests := true, laidLooks := .later }
def QuotaCountsCardSaid : Prop := Claim7.holds Tryz.pinned (.plain (OpenSpec.ofChange quotaCountsSpec)) quotaCountsCard

/-- THE SECOND FORM's CARD OF 'sojournlaw17.QuotaCounts'. -/
def quotaCountsUptoCard : Claim7 := { stood := { row := quotaCountsUptoRow, standIns := [], harness := (true, "ca876be944b04d8ae0bd14bea4fc1c943ad712808558b9a4315b00d51719fb53"), looks := true }, kinds := [], alts := [], laidByText := true, laidKinds := [.data, .data, .data], laidTests := true, laidLooks := .later }
def QuotaCountsUptoCardSaid : Prop := Claim7.holds Tryz.pinned (.plain (OpenSpec.upto quotaCountsSpec)) quotaCountsUptoCard
end Rows
end Go.Proofs.YtfcgffemdcfiiaaGreatDoor
