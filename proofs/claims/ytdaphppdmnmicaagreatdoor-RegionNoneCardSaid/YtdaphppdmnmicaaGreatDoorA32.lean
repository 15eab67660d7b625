/- A part of the proof of RegionNone: RegB. -/
import Derived.Test.YtdaphppdmnmicaaGreatDoorA24
import Derived.Test.YtdaphppdmnmicaaGreatDoorA05
namespace Go.Proofs.YtdaphppdmnmicaaGreatDoor.regn
open Go Go.RowKit base err lease fold
structure Rg where
 id:Int
 n:Int
 m:ByteArray
 jn:Value
 ck:Value
 ib:Value
 st:Value
 fd:Value
 ep:Value
 rn:Value
 ls:Value
 made:Int
 se:Nat→Int
 ends:Value
 down:Bool
def Rg.cells (x:Rg):Array Value:=(.int .i64 x.id :: .int .i64 x.n :: .string x.m :: x.jn :: x.ck :: x.ib :: x.st :: x.fd :: x.ep :: x.rn :: x.ls :: .int .i64 x.made :: (larr x.se ++ [x.ends,.bool x.down])).toArray
def RegB (w:World) (r:Nat) (x:Rg):Prop:=Blk w r 103 x.cells
section
variable {w w':World} {r:Nat} {x:Rg}
theorem RegB.c0 (h:RegB w r x):w.cell? ⟨r,0,none⟩=some (.int .i64 x.id):=h.cell 0
theorem RegB.c1 (h:RegB w r x):w.cell? ⟨r,1,none⟩=some (.int .i64 x.n):=h.cell 1
theorem RegB.c2 (h:RegB w r x):w.cell? ⟨r,2,none⟩=some (.string x.m):=h.cell 2
theorem RegB.c3 (h:RegB w r x):w.cell? ⟨r,3,none⟩=some x.jn:=h.cell 3
theorem RegB.c4 (h:RegB w r x):w.cell? ⟨r,4,none⟩=some x.ck:=h.cell 4
theorem RegB.c5 (h:RegB w r x):w.cell? ⟨r,5,none⟩=some x.ib:=h.cell 5
theorem RegB.c6 (h:RegB w r x):w.cell? ⟨r,6,none⟩=some x.st:=h.cell 6
theorem RegB.c7 (h:RegB w r x):w.cell? ⟨r,7,none⟩=some x.fd:=h.cell 7
theorem RegB.c8 (h:RegB w r x):w.cell? ⟨r,8,none⟩=some x.ep:=h.cell 8
theorem RegB.c9 (h:RegB w r x):w.cell? ⟨r,9,none⟩=some x.rn:=h.cell 9
theorem RegB.c10 (h:RegB w r x):w.cell? ⟨r,10,none⟩=some x.ls:=h.cell 10
theorem RegB.c11 (h:RegB w r x):w.cell? ⟨r,11,none⟩=some (.int .i64 x.made):=h.cell 11
theorem RegB.c30 (h:RegB w r x):w.cell? ⟨r,30,none⟩=some (.bool x.down):=h.cell 30
theorem RegB.s4 (h:RegB w r x) (v:Value):RegB (w.setCell ⟨r,4,none⟩ v) r { x with ck:=v }:=h.set_ 4 v
theorem RegB.s5 (h:RegB w r x) (v:Value):RegB (w.setCell ⟨r,5,none⟩ v) r { x with ib:=v }:=h.set_ 5 v
theorem RegB.s6 (h:RegB w r x) (v:Value):RegB (w.setCell ⟨r,6,none⟩ v) r { x with st:=v }:=h.set_ 6 v
theorem RegB.s7 (h:RegB w r x) (v:Value):RegB (w.setCell ⟨r,7,none⟩ v) r { x with fd:=v }:=h.set_ 7 v
theorem RegB.s8 (h:RegB w r x) (v:Value):RegB (w.setCell ⟨r,8,none⟩ v) r { x with ep:=v }:=h.set_ 8 v
theorem RegB.s9 (h:RegB w r x) (v:Value):RegB (w.setCell ⟨r,9,none⟩ v) r { x with rn:=v }:=h.set_ 9 v
theorem RegB.s3 (h:RegB w r x) (v:Value):RegB (w.setCell ⟨r,3,none⟩ v) r { x with jn:=v }:=h.set_ 3 v
theorem RegB.s10 (h:RegB w r x) (v:Value):RegB (w.setCell ⟨r,10,none⟩ v) r { x with ls:=v }:=h.set_ 10 v
theorem RegB.s11 (h:RegB w r x) (n:Int):RegB (w.setCell ⟨r,11,none⟩ (.int .i64 n)) r { x with made:=n }:=h.set_ 11 _
theorem down_any (h:RegB w r x):Calls Tryz.prog 17 #[.pointer (some ⟨r,0,none⟩)] w fun e w'=>e=.returned (.bool x.down)∧w'=w:=by
 have c30:=h.c30
 have hlt:=h.lt
 clear h
 go_enter Tryz.func17,Tryz.ntmps17
 go_wp2
 go_ret
 exact ⟨rfl,rfl⟩
end
end Go.Proofs.YtdaphppdmnmicaaGreatDoor.regn
