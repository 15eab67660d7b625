/- Store.Shows: the rows that show. -/
import Derived.Test.YtfcgffemdcfiiaaGreatDoorDelS
namespace Go.Proofs.YtfcgffemdcfiiaaGreatDoor.store
open Go Go.RowKit Go.Proofs.YtfcgffemdcfiiaaGreatDoor.base Go.Proofs.YtfcgffemdcfiiaaGreatDoor.err Go.Proofs.YtfcgffemdcfiiaaGreatDoor.above Go.Proofs.YtfcgffemdcfiiaaGreatDoor.law Go.Proofs.YtfcgffemdcfiiaaGreatDoor.merge Go.Proofs.YtfcgffemdcfiiaaGreatDoor.rows Go.Proofs.YtfcgffemdcfiiaaGreatDoor.rowe

/-- does a row show nothing? -/
def hide (L : List R) (x : R) : Bool := !visC x.2 || !visC (atL L (x.1.1, ⟨#[]⟩))
def showL (L : List R) : List R := L.filter fun x => !hide L x
abbrev ptrT : TypeId := 25
/-- rows, in memory of the call's own -/
def ListR (L : List R) (w : World) (e : Ending) (w' : World) : Prop :=
  ∃ v, e = .returned v ∧ w'.ownsRow w.heap.size rowT 7 v L.length (L.flatMap rcells) ∧ Below w.heap.size w w'
end Go.Proofs.YtfcgffemdcfiiaaGreatDoor.store
