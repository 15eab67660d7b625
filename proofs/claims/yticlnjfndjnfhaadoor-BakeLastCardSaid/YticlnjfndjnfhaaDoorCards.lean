/-
  DERIVED. GIVEN WITH THE SEED: THE CARDS: each row of YticlnjfndjnfhaaDoorRows.lean that lists a variable, with what it lists TIED to the program's text (the seventh form; the later family's looks); each row that meets fmt, with fmt's text TOLD by the authors' own Lean function (tested against real Go, not proved from fmt's source: count such statements apart). THE CARD IS WHAT COUNTS. Prove the row's statement (the work); the ties are given (YticlnjfndjnfhaaDoorTie.lean); close each card by the builder's one call (the guide's Derived/Test/ToyasCard.lean, 'card_holds'). Laid BY PROGRAM, IN A SANDBOX (cutbox-door.mjs). By AI agents, Wed Nov 11 2026. No macro, syntax, notation, axiom, sorry.
-/
import Derived.Test.YticlnjfndjnfhaaDoorRows
import GoSem.ClaimSeven
namespace Go.Proofs.YticlnjfndjnfhaaDoor
namespace Rows

/-- THE TIED CARD OF 'sojournlaw14.BakeLast'. -/
def bakeLastCard : Claim7 := { stood := { row := bakeLastRow, standIns := [], harness := (true, "0eeb6be7f19eeb2f96ce5c098db440c7ad72d198c1bd71b6f491fedb0c7064dc"), looks := true }, kinds := [], alts := [], laidByText := true, laidKinds := [.data, .data, .data, .data, .pinned], laidTests := true, laidLooks := .later }
def BakeLastCardSaid : Prop := Claim7.holds Tryd.pinned (.plain (OpenSpec.ofChange bakeLastSpec)) bakeLastCard

/-- THE TIED CARD OF 'sojournlaw14.BakeWrites'. -/
def bakeWritesCard : Claim7 := { stood := { row := bakeWritesRow, standIns := [], harness := (true, "0eeb6be7f19eeb2f96ce5c098db440c7ad72d198c1bd71b6f491fedb0c7064dc"), looks := true }, kinds := [], alts := [], laidByText := true, laidKinds := [.data, .data, .data, .data, .pinned], laidTests := true, laidLooks := .later }
def BakeWritesCardSaid : Prop := Claim7.holds Tryd.pinned (.plain (OpenSpec.ofChange bakeWritesSpec)) bakeWritesCard

/-- THE TIED CARD OF 'sojournlaw14.BakeParses'. -/
def bakeParsesCard : Claim7 := { stood := { row := bakeParsesRow, standIns := [], harness := (true, "0eeb6be7f19eeb2f96ce5c098db440c7ad72d198c1bd71b6f491fedb0c7064dc"), looks := true }, kinds := [], alts := [], laidByText := true, laidKinds := [.data, .data, .data, .data, .pinned], laidTests := true, laidLooks := .later }
def BakeParsesCardSaid : Prop := Claim7.holds Tryd.pinned (.plain (OpenSpec.ofChange bakeParsesSpec)) bakeParsesCard

/-- THE SECOND FORM's CARD OF 'sojournlaw14.BakeLast'. -/
def bakeLastUptoCard : Claim7 := { stood := { row := bakeLastUptoRow, standIns := [], harness := (true, "0eeb6be7f19eeb2f96ce5c098db440c7ad72d198c1bd71b6f491fedb0c7064dc"), looks := true }, kinds := [], alts := [], laidByText := true, laidKinds := [.data, .data, .data, .data, .pinned], laidTests := true, laidLooks := .later }
def BakeLastUptoCardSaid : Prop := Claim7.holds Tryd.pinned (.plain (OpenSpec.upto bakeLastSpec)) bakeLastUptoCard

/-- THE SECOND FORM's CARD OF 'sojournlaw14.BakeWrites'. -/
def bakeWritesUptoCard : Claim7 := { stood := { row := bakeWritesUptoRow, standIns := [], harness := (true, "0eeb6be7f19eeb2f96ce5c098db440c7ad72d198c1bd71b6f491fedb0c7064dc"), looks := true }, kinds := [], alts := [], laidByText := true, laidKinds := [.data, .data, .data, .data, .pinned], laidTests := true, laidLooks := .later }
def BakeWritesUptoCardSaid : Prop := Claim7.holds Tryd.pinned (.plain (OpenSpec.upto bakeWritesSpec)) bakeWritesUptoCard

/-- THE SECOND FORM's CARD OF 'sojournlaw14.BakeParses'. -/
def bakeParsesUptoCard : Claim7 := { stood := { row := bakeParsesUptoRow, standIns := [], harness := (true, "0eeb6be7f19eeb2f96ce5c098db440c7ad72d198c1bd71b6f491fedb0c7064dc"), looks := true }, kinds := [], alts := [], laidByText := true, laidKinds := [.data, .data, .data, .data, .pinned], laidTests := true, laidLooks := .later }
def BakeParsesUptoCardSaid : Prop := Claim7.holds Tryd.pinned (.plain (OpenSpec.upto bakeParsesSpec)) bakeParsesUptoCard
end Rows
end Go.Proofs.YticlnjfndjnfhaaDoor
