/- A part of the proof of RegionNone: FoldB. -/
import Derived.Test.YtdaphppdmnmicaaGreatDoorA19
import Derived.Deep.QuietTactic
import Derived.BigQuiet
namespace Go.Proofs.YtdaphppdmnmicaaGreatDoor.fold
open Go Go.RowKit base err store
structure Fo where
 id:Int
 clock:Int
 app:Value
 made:Int
 key:Int
 base:Int
 feed:Value
 rows:Value
 eps:Value
 st:Value
 tab:Value
 started:Bool
 first:Bool
def Fo.cells (x:Fo):Array Value:=#[.int .i64 x.id,.int .i64 x.clock,x.app,.int .i64 x.made,.int .i64 x.key,.int .i64 x.base,x.feed,x.rows,x.eps,x.st,x.tab,.bool x.started,.bool x.first]
def FoldB (w:World) (f:Nat) (x:Fo):Prop:=Blk w f 114 x.cells
section
variable {w:World}
theorem of_nil (w:World):Calls Tryz.prog 90 #[.slice none 0 0] w fun e w'=>∃ g bm,e=.returned (.tuple #[.pointer (some ⟨g,0,none⟩),.nilIface])∧StI w' g bm []∧w.heap.size≤g∧w.heap.size≤bm∧Below w.heap.size w w':=by
 go_enter Tryz.func90,Tryz.ntmps90
 go_wp2_with fail
 refine (new_any w).mono ?_
 rintro e w1 ⟨rfl,h1,hb1⟩
 have H1:=Lib.hid h1
 have HB1:=Lib.hid hb1
 clear h1 hb1
 go_wp2_with fail
 go_loopw [10] (fun i wr=>i=.int .i64 0∧wr=w1) (fun _ _=>0)
 case atStart=>exact ⟨rfl,rfl⟩
 case round =>
  obtain ⟨rfl,rfl⟩:=hrel
  go_wp2_with fail
  go_ret2
  exact ⟨_,_,rfl,H1.out,by omega,Nat.le_refl _,HB1.out⟩
theorem begin_old (f:Nat) (x:Fo) (w:World) (h:FoldB w f x) (hs:x.started=true):Calls Tryz.prog 33 #[.pointer (some ⟨f,0,none⟩)] w fun e w'=>e=.returned .nilIface∧w'=w:=by
 have c11:w.cell? ⟨f,11,none⟩=some (.bool x.started):=h.cell 11
 have hlt:=h.lt
 rw [hs] at c11
 clear h hs
 go_enter Tryz.func33,Tryz.ntmps33
 go_wp2
 go_ret
 exact ⟨rfl,rfl⟩
def BeginR (f:Nat) (x:Fo) (w:World) (e:Ending) (w':World):Prop :=
 ∃ g bm,e=.returned .nilIface∧FoldB w' f { x with st:=.pointer (some ⟨g,0,none⟩),started:=true }∧StI w' g bm []∧w.heap.size≤g∧w.heap.size≤bm∧Keeps (· = f) w w'
theorem begin_new (f:Nat) (x:Fo) (w:World) (h:FoldB w f x) (hs:x.started=false) (hr:x.rows=.slice none 0 0):Calls Tryz.prog 33 #[.pointer (some ⟨f,0,none⟩)] w (BeginR f x w):=by
 have H:=Lib.hid h
 have c11:w.cell? ⟨f,11,none⟩=some (.bool x.started):=h.cell 11
 have c7:w.cell? ⟨f,7,none⟩=some x.rows:=h.cell 7
 have f11:=h.frozen 11
 have hlt:=h.lt
 rw [hs] at c11
 rw [hr] at c7
 have HSR:=Lib.hid (And.intro hs hr)
 clear h hs hr
 have hk1:Keeps (· = f) w (w.setCell ⟨f,11,none⟩ (.bool true)):=Keeps.set1 w f 11 _
 have h1:=H.out.set_ 11 (.bool true)
 have HK1:=Lib.hid hk1
 have H1:=Lib.hid h1
 clear hk1 h1
 go_enter Tryz.func33,Tryz.ntmps33
 go_wp2_with fail
 refine (of_nil _).mono ?_
 rintro e w2 ⟨g,bm,rfl,hst,hg,hbm,hb2⟩
 have HS:=Lib.hid hst
 have hsz:=HK1.out.size
 have hlt1:=H1.out.lt
 have h2:=Blk.below H1.out hb2 hlt1
 have f9:=h2.frozen 9
 have c9:w2.cell? ⟨f,9,none⟩=some x.st:=h2.cell 9
 have hlt2:=h2.lt
 have H2:=Lib.hid h2
 have HB2:=Lib.hid hb2
 clear hst hb2 h2
 go_wp2_with fail
 go_ret
 have hg1:w.heap.size≤g:=Nat.le_trans hsz hg
 have hb1:w.heap.size≤bm:=Nat.le_trans hsz hbm
 refine ⟨g,bm,rfl,?_,HS.out.keeps (Keeps.set1 w2 f 9 _) (fun e=>?_) (fun e=>?_),hg1,hb1,?_⟩
 ·exact H2.out.set_ 9 (.pointer (some ⟨g,0,none⟩))
 ·have e:g=f:=e
  omega
 ·have e:bm=f:=e
  omega
 ·exact (HK1.out.trans ((Keeps.of_below (X:=nobody) HB2.out).more fun _ _ h=>h.elim)).trans (Keeps.set1 w2 f 9 _)
end
end Go.Proofs.YtdaphppdmnmicaaGreatDoor.fold
