/- Store.Shows: the rows that show. -/
import Derived.Test.YtfcgffemdcfiiaaDoorDelS
namespace Go.Proofs.YtfcgffemdcfiiaaDoor.store
open Go Go.RowKit Go.Proofs.YtfcgffemdcfiiaaDoor.base Go.Proofs.YtfcgffemdcfiiaaDoor.err Go.Proofs.YtfcgffemdcfiiaaDoor.above Go.Proofs.YtfcgffemdcfiiaaDoor.law Go.Proofs.YtfcgffemdcfiiaaDoor.merge Go.Proofs.YtfcgffemdcfiiaaDoor.rows Go.Proofs.YtfcgffemdcfiiaaDoor.rowe

/-- does a row show nothing? -/
def hide (L : List R) (x : R) : Bool := !visC x.2 || !visC (atL L (x.1.1, ⟨#[]⟩))
def showL (L : List R) : List R := L.filter fun x => !hide L x
abbrev ptrT : TypeId := 36
/-- rows, in memory of the call's own -/
def ListR (L : List R) (w : World) (e : Ending) (w' : World) : Prop :=
  ∃ v, e = .returned v ∧ w'.ownsRow w.heap.size rowT 7 v L.length (L.flatMap rcells) ∧ Below w.heap.size w w'
end Go.Proofs.YtfcgffemdcfiiaaDoor.store
