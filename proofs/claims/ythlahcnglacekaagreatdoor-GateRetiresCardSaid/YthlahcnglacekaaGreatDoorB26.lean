/- Part of GateRetires. -/
import Derived.Test.YthlahcnglacekaaGreatDoorB19
import Derived.Test.YthlahcnglacekaaGreatDoorB11
set_option maxRecDepth 100000
set_option maxHeartbeats 16000000
namespace Go.Proofs.YthlahcnglacekaaGreatDoor
namespace fold
open Go Go.RowKit base err store
structure Fo where
 id:Int
 clock:Int
 app:Value
 made:Int
 key:Int
 base:Int
 feed:Value
 rows:Value
 eps:Value
 st:Value
 tab:Value
 started:Bool
 first:Bool
def Fo.cells (x:Fo):Array Value:=#[.int .i64 x.id,.int .i64 x.clock,x.app,.int .i64 x.made,.int .i64 x.key,.int .i64 x.base,x.feed,x.rows,x.eps,x.st,x.tab,.bool x.started,.bool x.first]
def FoldB (w:World) (f:Nat) (x:Fo):Prop:=Blk w f 104 x.cells
section
variable {w:World}
theorem of_nil (w:World):Calls Tryz.prog 88 #[.slice none 0 0] w fun e w'=>∃ g bm,e=.returned (.tuple #[.pointer (some ⟨g,0,none⟩),.nilIface])∧StI w' g bm []∧w.heap.size≤g∧w.heap.size≤bm∧Below w.heap.size w w':=by
 go_enter Tryz.func88,Tryz.ntmps88;go_wp2_with fail;refine (new_any w).mono ?_;rintro e w1 ⟨rfl,h1,hb1⟩;have H1:=qH h1;have HB1:=qH hb1;clear h1 hb1;go_wp2_with fail
 go_loopw [10] (fun i wr=>i=.int .i64 0∧wr=w1) (fun _ _=>0)
 case atStart=>exact ⟨rfl,rfl⟩
 case round =>
  obtain ⟨rfl,rfl⟩:=hrel;go_wp2_with fail;go_ret2
  exact ⟨_,_,rfl,H1.out,by omega,Nat.le_refl _,HB1.out⟩
def BeginR (f:Nat) (x:Fo) (w:World) (e:Ending) (w':World):Prop :=
 ∃ g bm,e=.returned .nilIface∧FoldB w' f { x with st:=.pointer (some ⟨g,0,none⟩),started:=true }∧StI w' g bm []∧w.heap.size≤g∧w.heap.size≤bm∧Keeps (· = f) w w'
theorem begin_new (f:Nat) (x:Fo) (w:World) (h:FoldB w f x) (hs:x.started=false) (hr:x.rows=.slice none 0 0):Calls Tryz.prog 35 #[.pointer (some ⟨f,0,none⟩)] w (BeginR f x w):=by
 have H:=qH h;have c11:w.cell? ⟨f,11,none⟩=some (.bool x.started):=h.cell 11;have c7:w.cell? ⟨f,7,none⟩=some x.rows:=h.cell 7;have f11:=h.frozen 11;have hlt:=h.lt;rw [hs] at c11;rw [hr] at c7;have HSR:=qH (And.intro hs hr);clear h hs hr;have hk1:Keeps (· = f) w (w.setCell ⟨f,11,none⟩ (.bool true)):=Keeps.set1 w f 11 _;have h1:=H.out.set_ 11 (.bool true);have HK1:=qH hk1;have H1:=qH h1;clear hk1 h1;go_enter Tryz.func35,Tryz.ntmps35;go_wp2_with fail;refine (of_nil _).mono ?_;rintro e w2 ⟨g,bm,rfl,hst,hg,hbm,hb2⟩;have HS:=qH hst;have hsz:=HK1.out.size;have hlt1:=H1.out.lt;have h2:=Blk.below H1.out hb2 hlt1;have f9:=h2.frozen 9;have c9:w2.cell? ⟨f,9,none⟩=some x.st:=h2.cell 9;have hlt2:=h2.lt;have H2:=qH h2;have HB2:=qH hb2;clear hst hb2 h2;go_wp2_with fail;go_ret
 have hg1:w.heap.size≤g:=Nat.le_trans hsz hg;have hb1:w.heap.size≤bm:=Nat.le_trans hsz hbm;refine ⟨g,bm,rfl,?_,HS.out.keeps (Keeps.set1 w2 f 9 _) (fun e=>?_) (fun e=>?_),hg1,hb1,?_⟩
 ·exact H2.out.set_ 9 (.pointer (some ⟨g,0,none⟩))
 ·have e:g=f:=e
  omega
 ·have e:bm=f:=e
  omega
 ·exact (HK1.out.trans ((Keeps.of_below (X:=nobody) HB2.out).more fun _ _ h=>h.elim)).trans (Keeps.set1 w2 f 9 _)
end
end fold
namespace regn
open Go Go.RowKit base err lease fold
structure Rg where
 id:Int
 n:Int
 m:ByteArray
 jn:Value
 ck:Value
 ib:Value
 st:Value
 fd:Value
 ep:Value
 rn:Value
 ls:Value
 made:Int
 se:Nat→Int
 ends:Value
 down:Bool
def Rg.cells (x:Rg):Array Value:=(.int .i64 x.id :: .int .i64 x.n :: .string x.m :: x.jn :: x.ck :: x.ib :: x.st :: x.fd :: x.ep :: x.rn :: x.ls :: .int .i64 x.made :: (larr x.se++[x.ends,.bool x.down])).toArray
def RegB (w:World) (r:Nat) (x:Rg):Prop:=Blk w r 71 x.cells
section
variable {w w':World} {r:Nat} {x:Rg}
theorem RegB.c0 (h:RegB w r x):w.cell? ⟨r,0,none⟩=some (.int .i64 x.id):=h.cell 0
theorem RegB.c1 (h:RegB w r x):w.cell? ⟨r,1,none⟩=some (.int .i64 x.n):=h.cell 1
theorem RegB.c2 (h:RegB w r x):w.cell? ⟨r,2,none⟩=some (.string x.m):=h.cell 2
theorem RegB.c3 (h:RegB w r x):w.cell? ⟨r,3,none⟩=some x.jn:=h.cell 3
theorem RegB.c4 (h:RegB w r x):w.cell? ⟨r,4,none⟩=some x.ck:=h.cell 4
theorem RegB.c5 (h:RegB w r x):w.cell? ⟨r,5,none⟩=some x.ib:=h.cell 5
theorem RegB.c6 (h:RegB w r x):w.cell? ⟨r,6,none⟩=some x.st:=h.cell 6
theorem RegB.c7 (h:RegB w r x):w.cell? ⟨r,7,none⟩=some x.fd:=h.cell 7
theorem RegB.c8 (h:RegB w r x):w.cell? ⟨r,8,none⟩=some x.ep:=h.cell 8
theorem RegB.c9 (h:RegB w r x):w.cell? ⟨r,9,none⟩=some x.rn:=h.cell 9
theorem RegB.c10 (h:RegB w r x):w.cell? ⟨r,10,none⟩=some x.ls:=h.cell 10
theorem RegB.c11 (h:RegB w r x):w.cell? ⟨r,11,none⟩=some (.int .i64 x.made):=h.cell 11
theorem RegB.c30 (h:RegB w r x):w.cell? ⟨r,30,none⟩=some (.bool x.down):=h.cell 30
theorem RegB.s4 (h:RegB w r x) (v:Value):RegB (w.setCell ⟨r,4,none⟩ v) r { x with ck:=v }:=h.set_ 4 v
theorem RegB.s5 (h:RegB w r x) (v:Value):RegB (w.setCell ⟨r,5,none⟩ v) r { x with ib:=v }:=h.set_ 5 v
theorem RegB.s6 (h:RegB w r x) (v:Value):RegB (w.setCell ⟨r,6,none⟩ v) r { x with st:=v }:=h.set_ 6 v
theorem RegB.s7 (h:RegB w r x) (v:Value):RegB (w.setCell ⟨r,7,none⟩ v) r { x with fd:=v }:=h.set_ 7 v
theorem RegB.s8 (h:RegB w r x) (v:Value):RegB (w.setCell ⟨r,8,none⟩ v) r { x with ep:=v }:=h.set_ 8 v
theorem RegB.s9 (h:RegB w r x) (v:Value):RegB (w.setCell ⟨r,9,none⟩ v) r { x with rn:=v }:=h.set_ 9 v
theorem RegB.s3 (h:RegB w r x) (v:Value):RegB (w.setCell ⟨r,3,none⟩ v) r { x with jn:=v }:=h.set_ 3 v
theorem RegB.s10 (h:RegB w r x) (v:Value):RegB (w.setCell ⟨r,10,none⟩ v) r { x with ls:=v }:=h.set_ 10 v
theorem RegB.s11 (h:RegB w r x) (n:Int):RegB (w.setCell ⟨r,11,none⟩ (.int .i64 n)) r { x with made:=n }:=h.set_ 11 _
theorem down_any (h:RegB w r x):Calls Tryz.prog 19 #[.pointer (some ⟨r,0,none⟩)] w fun e w'=>e=.returned (.bool x.down)∧w'=w:=by
 have c30:=h.c30;have hlt:=h.lt;clear h;go_enter Tryz.func19,Tryz.ntmps19;go_wp2;go_ret
 exact ⟨rfl,rfl⟩
end
end regn
end Go.Proofs.YthlahcnglacekaaGreatDoor
