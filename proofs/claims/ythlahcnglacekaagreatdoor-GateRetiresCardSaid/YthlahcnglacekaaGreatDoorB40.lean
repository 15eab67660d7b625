/- Part of GateRetires. -/
import Derived.Test.YthlahcnglacekaaGreatDoorB32
set_option maxRecDepth 100000
set_option maxHeartbeats 16000000
namespace Go.Proofs.YthlahcnglacekaaGreatDoor
namespace store
open Go Go.RowKit base err cmp above law merge rows rowe monoj
def rZ:R:=((⟨#[]⟩,⟨#[]⟩),zeroC)
theorem row_at {w:World} {A:Option Addr} {m B:Nat} {L:List R} (h:Reads w B 7 A m (L.flatMap rcells)) (hl:L.length=m) {k:Nat} (hk:k<m):∃ b off,A=some ⟨b,off,none⟩∧b<B∧∀ q v,(rcells (L.getD k rZ))[q]?=some v→w.cell? ⟨b,off+k*7+q,none⟩=some v:=by
 obtain ⟨b,off,rfl,hb⟩:=h.at_some (by omega);refine ⟨b,off,rfl,hb,fun q v hq=>?_⟩
 have hq2:q<7:=by
  have:=(List.getElem?_eq_some_iff.1 hq).1
  rwa [rlen] at this
 have h5:=Reads.thing rcells rlen h (k:=k) (x:=L.getD k rZ) (by omega) (by rw [List.getD_eq_getElem?_getD,List.getElem?_eq_getElem (by omega)];rfl) q hq2;rw [h5,hq]
theorem seven_of {w:World} {b off:Nat} {x:R} (h:∀ q v,(rcells x)[q]?=some v→w.cell? ⟨b,off+q,none⟩=some v) :
  w.cell? ⟨b,off,none⟩=some (.string x.1.1)∧w.cell? ⟨b,off+1,none⟩=some (.string x.1.2)∧w.cell? ⟨b,off+2,none⟩=some (.int .i64 x.2.t)∧w.cell? ⟨b,off+3,none⟩=some (.int .i64 x.2.r)∧w.cell? ⟨b,off+4,none⟩=some (.string x.2.v) ∧
   w.cell? ⟨b,off+5,none⟩=some (.bool x.2.g)∧w.cell? ⟨b,off+6,none⟩=some (.int .i64 x.2.l) :=
 ⟨h 0 _ rfl,h 1 _ rfl,h 2 _ rfl,h 3 _ rfl,h 4 _ rfl,h 5 _ rfl,h 6 _ rfl⟩
end store
namespace store
open Go above law merge rows
end store
namespace store
open Go Go.RowKit base above law merge rows
section
variable {w0 w w':World} {g b g' b':Nat} {L L' M:List R}
end
theorem own_reads {w:World} {base:Nat} {e:TypeId} {v:Value} {n:Nat} {L:List R} (h:w.ownsRow base e 7 v n (L.flatMap rcells)):∃ A c,v=.slice A n c∧Reads w w.heap.size 7 A n (L.flatMap rcells):=by
 obtain ⟨A,c,rfl⟩:=ownsRow_slice h;exact ⟨A,c,rfl,Reads.of_own h⟩
end store
namespace store
open Go Go.RowKit base err cmp above law merge rows rowe monoj
theorem row_at' {w:World} {m B b off:Nat} {L:List R} (h:Reads w B 7 (some ⟨b,off,none⟩) m (L.flatMap rcells)) (hl:L.length=m) {k:Nat} (hk:k<m):∀ q v,(rcells (L.getD k rZ))[q]?=some v→w.cell? ⟨b,off+k*7+q,none⟩=some v:=by
 obtain ⟨b',off',e,_,hc⟩:=row_at h hl hk;injection e with e;injection e with e1 e2 _;subst e1 e2;exact hc
end store
namespace store
open Go Go.RowKit base err above law merge rows
end store
end Go.Proofs.YthlahcnglacekaaGreatDoor
