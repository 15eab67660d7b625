/- A part of the proof of RegionBeats. -/
import Derived.Test.YtlingaebpfdhgaaGreatDoorA37
namespace Go.Proofs.YtlingaebpfdhgaaGreatDoor.store
open Go above law merge rows
end Go.Proofs.YtlingaebpfdhgaaGreatDoor.store
namespace Go.Proofs.YtlingaebpfdhgaaGreatDoor.store
open Go Go.RowKit base above law merge rows
section
variable {w0 w w':World} {g b g' b':Nat} {L L' M:List R}
end
theorem own_reads {w:World} {base:Nat} {e:TypeId} {v:Value} {n:Nat} {L:List R} (h:w.ownsRow base e 7 v n (L.flatMap rcells)):∃ A c,v=.slice A n c∧Reads w w.heap.size 7 A n (L.flatMap rcells):=by
 obtain ⟨A,c,rfl⟩:=ownsRow_slice h
 exact ⟨A,c,rfl,Reads.of_own h⟩
end Go.Proofs.YtlingaebpfdhgaaGreatDoor.store
namespace Go.Proofs.YtlingaebpfdhgaaGreatDoor.store
open Go Go.RowKit base err cmp above law merge rows rowe monoj
theorem row_at' {w:World} {m B b off:Nat} {L:List R} (h:Reads w B 7 (some ⟨b,off,none⟩) m (L.flatMap rcells)) (hl:L.length=m) {k:Nat} (hk:k < m):∀ q v,(rcells (L.getD k rZ))[q]?=some v→w.cell? ⟨b,off + k * 7 + q,none⟩=some v:=by
 obtain ⟨b',off',e,_,hc⟩:=row_at h hl hk
 injection e with e;injection e with e1 e2 _
 subst e1 e2
 exact hc
end Go.Proofs.YtlingaebpfdhgaaGreatDoor.store
namespace Go.Proofs.YtlingaebpfdhgaaGreatDoor.store
open Go Go.RowKit base err above law merge rows
end Go.Proofs.YtlingaebpfdhgaaGreatDoor.store
