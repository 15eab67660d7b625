/-
  DERIVED. GIVEN WITH THE SEED: THE CARDS: each row of YtfcgffemdcfiiaaDoorRows.lean that lists a variable, with what it lists TIED to the program's text (the seventh form; the later family's looks); each row that meets fmt, with fmt's text TOLD by the authors' own Lean function (tested against real Go, not proved from fmt's source: count such statements apart). THE CARD IS WHAT COUNTS. Prove the row's statement (the work); the ties are given (YtfcgffemdcfiiaaDoorTie.lean); close each card by the builder's one call (the guide's Derived/Test/ToyasCard.lean, 'card_holds'). Laid BY PROGRAM, IN A SANDBOX (cutbox-door.mjs). By AI agents, Wed Nov 11 2026. No macro, syntax, notation, axiom, sorry.
-/
import Derived.Test.YtfcgffemdcfiiaaDoorRows
import GoSem.ClaimSeven
namespace Go.Proofs.YtfcgffemdcfiiaaDoor
namespace Rows

/-- THE TIED CARD OF 'sojournlaw17.QuotaNames'. -/
def quotaNamesCard : Claim7 := { stood := { row := quotaNamesRow, standIns := [], harness := (true, "b8a23eff5d939252b40f8191b50d60ab9f87a22fbba16f821d74e78d182f3fb5"), looks := true }, kinds := [], alts := [], laidByText := true, laidKinds := [.data, .data, .data], laidTests := true, laidLooks := .later }
def QuotaNamesCardSaid : Prop := Claim7.holds Tryd.pinned (.plain (OpenSpec.ofChange quotaNamesSpec)) quotaNamesCard

/-- THE TIED CARD OF 'sojournlaw17.QuotaParses'. -/
def quotaParsesCard : Claim7 := { stood := { row := quotaParsesRow, standIns := [], harness := (true, "b8a23eff5d939252b40f8191b50d60ab9f87a22fbba16f821d74e78d182f3fb5"), looks := true }, kinds := [], alts := [], laidByText := true, laidKinds := [.data, .data, .data], laidTests := true, laidLooks := .later }
def QuotaParsesCardSaid : Prop := Claim7.holds Tryd.pinned (.plain (OpenSpec.ofChange quotaParsesSpec)) quotaParsesCard

/-- THE TIED CARD OF 'sojournlaw17.QuotaRoom'. -/
def quotaRoomCard : Claim7 := { stood := { row := quotaRoomRow, standIns := [], harness := (true, "b8a23eff5d939252b40f8191b50d60ab9f87a22fbba16f821d74e78d182f3fb5"), looks := true }, kinds := [], alts := [], laidByText := true, laidKinds := [.data, .data, .data], laidTests := true, laidLooks := .later }
def QuotaRoomCardSaid : Prop := Claim7.holds Tryd.pinned (.plain (OpenSpec.ofChange quotaRoomSpec)) quotaRoomCard

/-- THE TIED CARD OF 'sojournlaw17.QuotaKeeps'. -/
def quotaKeepsCard : Claim7 := { stood := { row := quotaKeepsRow, standIns := [], harness := (true, "b8a23eff5d939252b40f8191b50d60ab9f87a22fbba16f821d74e78d182f3fb5"), looks := true }, kinds := [], alts := [], laidByText := true, laidKinds := [.data, .data, .data], laidTests := true, laidLooks := .later }
def QuotaKeepsCardSaid : Prop := Claim7.holds Tryd.pinned (.plain (OpenSpec.ofChange quotaKeepsSpec)) quotaKeepsCard

/-- THE SECOND FORM's CARD OF 'sojournlaw17.QuotaNames'. -/
def quotaNamesUptoCard : Claim7 := { stood := { row := quotaNamesUptoRow, standIns := [], harness := (true, "b8a23eff5d939252b40f8191b50d60ab9f87a22fbba16f821d74e78d182f3fb5"), looks := true }, kinds := [], alts := [], laidByText := true, laidKinds := [.data, .data, .data], laidTests := true, laidLooks := .later }
def QuotaNamesUptoCardSaid : Prop := Claim7.holds Tryd.pinned (.plain (OpenSpec.upto quotaNamesSpec)) quotaNamesUptoCard

/-- THE SECOND FORM's CARD OF 'sojournlaw17.QuotaParses'. -/
def quotaParsesUptoCard : Claim7 := { stood := { row := quotaParsesUptoRow, standIns := [], harness := (true, "b8a23eff5d939252b40f8191b50d60ab9f87a22fbba16f821d74e78d182f3fb5"), looks := true }, kinds := [], alts := [], laidByText := true, laidKinds := [.data, .data, .data], laidTests := true, laidLooks := .later }
def QuotaParsesUptoCardSaid : Prop := Claim7.holds Tryd.pinned (.plain (OpenSpec.upto quotaParsesSpec)) quotaParsesUptoCard

/-- THE SECOND FORM's CARD OF 'sojournlaw17.QuotaRoom'. -/
def quotaRoomUptoCard : Claim7 := { stood := { row := quotaRoomUptoRow, standIns := [], harness := (true, "b8a23eff5d939252b40f8191b50d60ab9f87a22fbba16f821d74e78d182f3fb5"), looks := true }, kinds := [], alts := [], laidByText := true, laidKinds := [.data, .data, .data], laidTests := true, laidLooks := .later }
def QuotaRoomUptoCardSaid : Prop := Claim7.holds Tryd.pinned (.plain (OpenSpec.upto quotaRoomSpec)) quotaRoomUptoCard

/-- THE SECOND FORM's CARD OF 'sojournlaw17.QuotaKeeps'. -/
def quotaKeepsUptoCard : Claim7 := { stood := { row := quotaKeepsUptoRow, standIns := [], harness := (true, "b8a23eff5d939252b40f8191b50d60ab9f87a22fbba16f821d74e78d182f3fb5"), looks := true }, kinds := [], alts := [], laidByText := true, laidKinds := [.data, .data, .data], laidTests := true, laidLooks := .later }
def QuotaKeepsUptoCardSaid : Prop := Claim7.holds Tryd.pinned (.plain (OpenSpec.upto quotaKeepsSpec)) quotaKeepsUptoCard
end Rows
end Go.Proofs.YtfcgffemdcfiiaaDoor
