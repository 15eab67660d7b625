/- A part of the proof of RegionNone: RowsS, NilS, ArgsS, SameS. -/
import Derived.Test.YtdaphppdmnmicaaGreatDoorA31
import Derived.Test.YtdaphppdmnmicaaGreatDoorA01
import Derived.LoopTactic
import Derived.LoopN
namespace Go.Proofs.YtdaphppdmnmicaaGreatDoor.store
open Go Go.RowKit base map_ range_ cmp above law merge rows rowe Go.Maps
theorem row_info:(Tryz.prog.info? 274).map (fun i=>(i.zero,i.size,i.bytes))=some (some (.agg #[.string ⟨#[]⟩,.string ⟨#[]⟩,.int .i64 0,.int .i64 0,.string ⟨#[]⟩,.bool false,.int .i64 0]),7,80):=by kernel_rfl
theorem info_parts {o:Option TypeInfo} {z:Value} {s b:Nat} (h:o.map (fun i=>(i.zero,i.size,i.bytes))=some (some z,s,b)):∃ i,o=some i∧i.zero=some z∧i.size=s∧i.bytes=b:=by
 obtain ⟨i,hi,h2⟩:=Option.map_eq_some_iff.1 h
 simp only [Prod.mk.injEq] at h2
 exact ⟨i,hi,h2.1,h2.2.1,h2.2.2⟩
def enR (p:R):Nm × Value:=(p.1,cval p.2)
theorem cval_inj {a b:C} (h:cval a=cval b):a=b:=by
 obtain ⟨t,r,v,g,l⟩:=a
 obtain ⟨t',r',v',g',l'⟩:=b
 simp [cval] at h
 obtain ⟨rfl,rfl,rfl,rfl,rfl⟩:=h
 rfl
theorem enR_inj {a b:R} (h:enR a=enR b):a=b:=by
 obtain ⟨a1,a2⟩:=a
 obtain ⟨b1,b2⟩:=b
 simp only [enR,Prod.mk.injEq] at h
 rw [h.1,cval_inj h.2]
theorem get_mem' {κ:Type} [DecidableEq κ] {m:List (κ × Value)} (ha:Apart m) {x:κ} {v:Value} (h:(x,v) ∈ m):getM m x=some v:=by
 obtain ⟨j,hj,e⟩:=List.getElem_of_mem h
 exact Go.Proofs.YtdaphppdmnmicaaGreatDoor.map_.get_at ha (j:=j) (by rw [List.getElem?_eq_getElem hj,e])
theorem map_rows {m:List (Nm × Value)} {L:List R} (ha:Apart m) (he:∀ x,getM m x=(getL L x).map cval):∀ p ∈ m,∃ x,p=enR x∧x ∈ L:=by
 rintro ⟨x,v⟩ hp
 have h1:=get_mem' ha hp
 rw [he] at h1
 cases hg:getL L x with
 | none=>rw [hg] at h1;cases h1
 | some c =>
  rw [hg] at h1
  injection h1 with h1
  exact ⟨(x,c),by rw [← h1];rfl,getL_mem hg⟩
theorem rows_perm {m:List (Nm × Value)} {L out:List R} (hr:Rising L) (ha:Apart m) (he:∀ x,getM m x=(getL L x).map cval) (hp:m.Perm (out.map enR)):out.Perm L:=by
 have hn:(out.map (·.1)).Nodup:=by
  have h1:(m.map (·.1)).Nodup:=ha
  have h2:=(hp.map (·.1)).nodup_iff.1 h1
  rw [List.map_map] at h2
  exact h2
 have hn2:out.Nodup:=List.Pairwise.of_map (·.1) (fun a b h e=>h (by rw [e])) hn
 rw [List.perm_ext_iff_of_nodup hn2 hr.nodup']
 intro x
 constructor
 ·intro hx
  have h1:enR x ∈ m:=hp.mem_iff.2 (List.mem_map.2 ⟨x,hx,rfl⟩)
  obtain ⟨y,e,hy⟩:=map_rows ha he _ h1
  rw [enR_inj e];exact hy
 ·intro hx
  have h1:getM m x.1=some (cval x.2):=by rw [he,getL_of hr (x:=x.1) (c:=x.2) hx];rfl
  have h2:=hp.mem_iff.1 (get_mem h1)
  obtain ⟨y,hy,e⟩:=List.mem_map.1 h2
  have:y=x:=enR_inj e
  rw [← this];exact hy
theorem own_keepR {X:Nat→Prop} {w w':World} {B:Nat} {e:TypeId} {size n:Nat} {v:Value} {xs:List Value} (h:w.ownsRow B e size v n xs) (hk:Keeps X w w') (hx:∀ g,v.ownBlock=some g→¬ X g):w'.ownsRow B e size v n xs:=by
 refine ⟨h.1,?_⟩
 rcases h.2 with hn|⟨g,cap,cur,hv,hb,hg,rest⟩
 ·exact .inl hn
 ·exact .inr ⟨g,cap,cur,hv,hb,(hk.block g (Blk.lt (t:=e) (cs:=cur) hg) (hx g (by rw [hv];rfl))).trans hg,rest⟩
theorem own_upR {w:World} {B B':Nat} {e:TypeId} {size n:Nat} {v:Value} {xs:List Value} (h:w.ownsRow B' e size v n xs) (hb:B≤B'):w.ownsRow B e size v n xs :=
 ⟨h.1,h.2.imp id fun ⟨g,cap,cur,h1,h2,r⟩=>⟨g,cap,cur,h1,by omega,r⟩⟩
theorem keeps_up {B:Nat} {w w':World} (h:Below B w w') (hs:w.heap.size≤w'.heap.size):Keeps (fun i=>B≤i) w w' :=
 ⟨h.os,h.tape,h.output,hs,fun i _ hx=>h.block i (by omega)⟩
theorem perm_shift {α:Type} {m o l1 l2:List α} {x:α} (h:m.Perm (o ++ (l1 ++ x :: l2))):m.Perm ((o ++ [x]) ++ (l1 ++ l2)):=by
 refine h.trans ?_
 rw [List.append_assoc]
 exact List.Perm.append_left o List.perm_middle
def RowsR (L:List R) (w:World) (e:Ending) (w':World):Prop :=
 ∃ v,e=.returned v∧w'.ownsRow w.heap.size rowT 7 v L.length (L.flatMap rcells)∧Below w.heap.size w w'
set_option maxRecDepth 100000 in
set_option maxHeartbeats 1000000 in
theorem rows_any (g bm:Nat) (L:List R) (w:World) (h:StI w g bm L) (hl:L.length≤1000000) :
  Calls Tryz.prog 67 #[.pointer (some ⟨g,0,none⟩)] w (RowsR L w):=by
 obtain ⟨m,h1,h2⟩:=h.map
 obtain ⟨o,hrg,hit⟩:=h1.range (T:=mapT) Tryz.underlying286
 have q0:w.cell? ⟨g,0,none⟩=_:=h.blk.cell 0
 simp at q0
 have ql:=h.lt
 have hml:m.length=L.length:=by
  have ha:=h1.apart
  have hall:=map_rows ha h2
  have:∃ out:List R,m=out.map enR:=by
   clear h1 h2 hit
   induction m with
   | nil=>exact ⟨[],rfl⟩
   | cons p m ih =>
    obtain ⟨x,e,_⟩:=hall p (by simp)
    obtain ⟨out,e2⟩:=ih (List.nodup_cons.1 (by exact ha)).2 (fun q hq=>hall q (by simp [hq]))
    exact ⟨x :: out,by rw [e,e2];rfl⟩
  obtain ⟨out,e⟩:=this
  have hp:=rows_perm h.up ha h2 (out:=out) (by rw [e])
  rw [e,List.length_map]
  exact hp.length_eq
 have hbw:Below w.heap.size w (w.alloc o):=below_new _ _
 have hsz:(w.alloc o).heap.size=w.heap.size + 1:=by simp
 have Hh2:=Lib.hid h2
 have Hap:=Lib.hid h1.apart
 have Hup:=Lib.hid h.up
 have Hit:=Lib.hid hit
 have Hbw:=Lib.hid hbw
 have Hml:=Lib.hid hml
 have Hsz:=Lib.hid hsz
 have hbml:=h1.lt
 generalize hr:w.heap.size=r at *
 generalize w.alloc o=w1 at *
 obtain ⟨i0,hi0,hz0,hz1,hz2⟩:=info_parts row_info
 have Hi0:=Lib.hid hi0
 have Hz0:=Lib.hid hz0
 have Hz1:=Lib.hid hz1
 have Hz2:=Lib.hid hz2
 clear h h1 h2 hit hbw hml hi0 hz0 hz1 hz2 hsz
 go_enter Tryz.func67,Tryz.ntmps67
 go_wp2
 go_loopw [3] (fun s wr=>∃ left,∃ out:List R,IterM nameE wr r bm m left∧m.Perm (out.map enR ++ left)∧wr.ownsRow (r + 1) rowT 7 s out.length (out.flatMap rcells)∧Below r w wr∧r < wr.heap.size) (fun _ wr=>leftN wr r bm)
 case atStart=>exact ⟨m,[],Hit.out,.refl _,⟨rfl,.inl ⟨rfl,rfl⟩⟩,Hbw.out,by rw [Hsz.out];omega⟩
 case round =>
  obtain ⟨left,out,i1,i2,i3,i4,i5⟩:=hrel
  have hout:out.length + left.length=m.length:=by have:=i2.length_eq;simp at this;omega
  obtain ⟨A,c,rfl⟩:=ownsRow_slice i3
  rcases i1.next 0 with ⟨rfl,hrun⟩|⟨l1,p,l2,w3,rfl,hrun,i6,hen,hk3⟩
  ·have hperm:out.Perm L:=rows_perm Hup.out Hap.out Hh2.out (by simpa using i2)
   have hlen:=hperm.length_eq
   have I3:=Lib.hid i3
   have I4:=Lib.hid i4
   have Hperm:=Lib.hid hperm
   have Hlen:=Lib.hid hlen
   have hol:out.length≤1000000:=by omega
   clear i1 i2 i3 i4 hperm hlen
   go_wp2_with fail
   refine (sort_any (r + 1) (.slice A out.length c) out.length out L wr Hup.out Hperm.out rfl hol I3.out).mono ?_
   rintro e w9 ⟨rfl,hown9,hk9⟩
   have HR:Hid (RowsR L w (.returned (.slice A out.length c)) w9):=Lib.hid (by
    refine ⟨_,rfl,?_,?_⟩
    ·rw [hr,← Hlen.out];exact own_upR hown9 (by omega)
    ·rw [hr];exact below_keeps I4.out (by rw [← hr];exact (by omega)) hk9 (fun i hi hx=>by have:=I3.out.lt i hx;omega))
   clear hown9 hk9
   go_wp2
   go_ret
   exact HR.out
  ·obtain ⟨x,rfl,hx⟩:=map_rows Hap.out Hh2.out p (by obtain ⟨_,_,_,_,_,_,_,_,_,_,_,_,_,hs⟩:=i1;exact hs p (by simp))
   obtain ⟨⟨x1,x2⟩,⟨t,rr,v,gn,l⟩⟩:=x
   have I1:=Lib.hid i1
   have I2:=Lib.hid i2
   have I6:=Lib.hid i6
   have I4:=Lib.hid (below_keeps i4 (by omega) hk3 (fun i hi hx=>by omega))
   have i3':=own_keepR i3 hk3 (fun i hi hx=>by have:=i3.lt i hi;omega)
   have hsz3:=hk3.size
   have I3:=Lib.hid ((i3'.alloc (.cells #[.string x1,.string x2] 290)).alloc (.cells #[.int .i64 t,.int .i64 rr,.string v,.bool gn,.int .i64 l] 267))
   have hol:out.length + 1≤1000000:=by have:=Hml.out;simp at hout;omega
   unfold enR cval nameE nameV at hrun hen
   dsimp only at hrun hen
   have Hk3:=Lib.hid hk3
   have Hout:=Lib.hid hout
   clear i1 i2 i3 i4 i6 hx hk3 i3' hout
   go_wp2_with (at_builtin;refine wpList_append_newAt rfl (.tmp 18) (.tmp 25) _ rfl (r + 1) rowT i0 _ 7 80 Tryz.underlying81 Hi0.out Hz0.out Hz1.out Hz2.out rfl (by decide) _ _ _ rfl I3.out 1 1 (w3.heap.size + 1 + 1) (by simp) [.string x1,.string x2,.int .i64 t,.int .i64 rr,.string v,.bool gn,.int .i64 l] rfl rfl (by simp [Value.oneCell']) (by unfold maxLen;omega) (by omega) (by simp;omega) ?_;intro v1 w5 hown1 hbw1 hgr1 hwh1;obtain ⟨A',c',rfl⟩:=ownsRow_slice hown1;have Hown1:=Lib.hid hown1;have Hbw1:=Lib.hid hbw1;clear hown1 hbw1 hgr1 hwh1)
   have hk35:Keeps (fun i=>r + 1≤i) w3 w5:=((Keeps.alloc (.cells #[.string x1,.string x2] 290)).trans (Keeps.alloc (.cells #[.int .i64 t,.int .i64 rr,.string v,.bool gn,.int .i64 l] 267))).trans (keeps_up Hbw1.out Hbw1.out.size)
   have HK35:=Lib.hid hk35
   have I7:=Lib.hid (I6.out.keeps hk35 (by omega) (by omega))
   have hz5:=hk35.size
   clear hk35
   go_roundw
   case rel =>
    refine ⟨l1 ++ l2,out ++ [((x1,x2),⟨t,rr,v,gn,l⟩)],I7.out,?_,?_,below_keeps I4.out (by have:=I4.out.size;omega) HK35.out (fun i hi hx=>by omega),by omega⟩
    ·rw [List.map_append];exact perm_shift I2.out
    ·have:=Hown1.out
     simpa [rcells,List.flatMap_append] using this
   case measure =>
    rw [I7.out.size,I1.out.size,List.length_append,List.length_append,List.length_cons]
    omega
end Go.Proofs.YtdaphppdmnmicaaGreatDoor.store
namespace Go.Proofs.YtdaphppdmnmicaaGreatDoor.store
open Go Go.RowKit base err cmp above law merge rows rowe
theorem head_nil (s:ByteArray) (w:World):Calls Tryz.prog 134 #[.pointer none,.string s] w fun e w'=>e=.returned (cval zeroC)∧Below w.heap.size w w':=by
 go_enter Tryz.func134,Tryz.ntmps134
 go_wp2
 exact bodyPost_ret (v:=cval zeroC) (by simp [results,Tryz.results134,go_sem,cval,zeroC]) rfl ⟨rfl,below_new _ _⟩
end Go.Proofs.YtdaphppdmnmicaaGreatDoor.store
namespace Go.Proofs.YtdaphppdmnmicaaGreatDoor.store
open Go Go.RowKit base err cmp above law merge rows rowe
structure Wt where
 rg:Int
 nm:Int
 t:Int
 r:Int
 A:Option Addr
 n:Nat
 c:Nat
 ss:ByteArray
 ky:ByteArray
 v:ByteArray
 gn:Bool
 l:Int
def Wt.cells (x:Wt):List Value:=[.int .i64 x.rg,.int .i64 x.nm,.int .i64 x.t,.int .i64 x.r,.slice x.A x.n x.c,.string x.ss,.string x.ky,.string x.v,.bool x.gn,.int .i64 x.l]
theorem Wt.len (x:Wt):x.cells.length=10:=rfl
def Wt.cell (x:Wt):C:=⟨x.t,x.r,x.v,x.gn,x.l⟩
def Wt.name (x:Wt):Nm:=(x.ss,x.ky)
theorem Wt.one (x:Wt):x.cells.all (·.oneCell')=true:=rfl
def WtsR (w:World) (v:Value) (L:List Wt):Prop:=∃ A c,v=.slice A L.length c∧L.length≤maxLen∧Reads w w.heap.size 10 A L.length (L.flatMap Wt.cells)∧∀ x ∈ L,x.ss.size≤maxLen∧x.ky.size≤maxLen
theorem WtsR.below {w w':World} {v:Value} {L:List Wt} (h:WtsR w v L) (hb:Below w.heap.size w w'):WtsR w' v L:=by
 obtain ⟨A,c,h1,h2,h3,h4⟩:=h
 exact ⟨A,c,h1,h2,(h3.below hb).more hb.size,h4⟩
def wtZ:Wt:=⟨0,0,0,0,none,0,0,⟨#[]⟩,⟨#[]⟩,⟨#[]⟩,false,0⟩
theorem wt_at {w:World} {A:Option Addr} {m B:Nat} {L:List Wt} (h:Reads w B 10 A m (L.flatMap Wt.cells)) (hl:L.length=m) {k:Nat} (hk:k < m):∃ b off,A=some ⟨b,off,none⟩∧b < B∧∀ q v,(L.getD k wtZ).cells[q]?=some v→w.cell? ⟨b,off + k * 10 + q,none⟩=some v:=by
 obtain ⟨b,off,rfl,hb⟩:=h.at_some (by omega)
 refine ⟨b,off,rfl,hb,fun q v hq=>?_⟩
 have hq2:q < 10:=by
  have:=(List.getElem?_eq_some_iff.1 hq).1
  rwa [Wt.len] at this
 have h5:=Reads.thing Wt.cells Wt.len h (k:=k) (x:=L.getD k wtZ) (by omega) (by rw [List.getD_eq_getElem?_getD,List.getElem?_eq_getElem (by omega)];rfl) q hq2
 rw [h5,hq]
end Go.Proofs.YtdaphppdmnmicaaGreatDoor.store
namespace Go.Proofs.YtdaphppdmnmicaaGreatDoor.store
open Go Go.RowKit base err cmp above law merge rows rowe monoj
def rZ:R:=((⟨#[]⟩,⟨#[]⟩),zeroC)
theorem row_at {w:World} {A:Option Addr} {m B:Nat} {L:List R} (h:Reads w B 7 A m (L.flatMap rcells)) (hl:L.length=m) {k:Nat} (hk:k < m):∃ b off,A=some ⟨b,off,none⟩∧b < B∧∀ q v,(rcells (L.getD k rZ))[q]?=some v→w.cell? ⟨b,off + k * 7 + q,none⟩=some v:=by
 obtain ⟨b,off,rfl,hb⟩:=h.at_some (by omega)
 refine ⟨b,off,rfl,hb,fun q v hq=>?_⟩
 have hq2:q < 7:=by
  have:=(List.getElem?_eq_some_iff.1 hq).1
  rwa [rlen] at this
 have h5:=Reads.thing rcells rlen h (k:=k) (x:=L.getD k rZ) (by omega) (by rw [List.getD_eq_getElem?_getD,List.getElem?_eq_getElem (by omega)];rfl) q hq2
 rw [h5,hq]
theorem seven_of {w:World} {b off:Nat} {x:R} (h:∀ q v,(rcells x)[q]?=some v→w.cell? ⟨b,off + q,none⟩=some v) :
  w.cell? ⟨b,off,none⟩=some (.string x.1.1)∧w.cell? ⟨b,off + 1,none⟩=some (.string x.1.2)∧w.cell? ⟨b,off + 2,none⟩=some (.int .i64 x.2.t)∧w.cell? ⟨b,off + 3,none⟩=some (.int .i64 x.2.r)∧w.cell? ⟨b,off + 4,none⟩=some (.string x.2.v) ∧
   w.cell? ⟨b,off + 5,none⟩=some (.bool x.2.g)∧w.cell? ⟨b,off + 6,none⟩=some (.int .i64 x.2.l) :=
 ⟨h 0 _ rfl,h 1 _ rfl,h 2 _ rfl,h 3 _ rfl,h 4 _ rfl,h 5 _ rfl,h 6 _ rfl⟩
end Go.Proofs.YtdaphppdmnmicaaGreatDoor.store
