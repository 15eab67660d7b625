/- A part of the proof of RegionNone: CmpW, SearchW, Ready, IndexR, ApplyS, AwakeS. -/
import Derived.Test.YtdaphppdmnmicaaGreatDoorA14
import Derived.Test.YtdaphppdmnmicaaGreatDoorA03
import Derived.WalkLawsBesides
import Derived.Test.YtdaphppdmnmicaaGreatDoorA06
import Derived.Test.YtdaphppdmnmicaaGreatDoorA19
import Derived.Laws.StructEq
namespace Go.Proofs.YtdaphppdmnmicaaGreatDoor.cmp
open Go.RowKit base wire
def cmpW (x y:Wr):Int:=or2 (cmpI x.r y.r) (cmpI x.n y.n)
end Go.Proofs.YtdaphppdmnmicaaGreatDoor.cmp
namespace Go.Proofs.YtdaphppdmnmicaaGreatDoor.cmp
open Go Go.RowKit base rowe wire
def wrZ:Wr:=⟨0,0,0,0,.slice none 0 0,[],⟨#[]⟩,⟨#[]⟩,⟨#[]⟩,false,0⟩
def Part (L:List Wr) (x:Wr):Prop:=∀ j k,j≤k→k < L.length→cmpW (L.getD k (wrZ)) x < 0→cmpW (L.getD j wrZ) x < 0
end Go.Proofs.YtdaphppdmnmicaaGreatDoor.cmp
namespace Go.Proofs.YtdaphppdmnmicaaGreatDoor.dep
open Go Go.RowKit base rowe wire vec
def readyB (ap:List Int) (x:Wr):Bool:=decide (atV ap x.r=x.n - 1) && coversB ap x.z
set_option maxRecDepth 100000 in
set_option maxHeartbeats 1600000 in
theorem ready_any (g:Nat) (rg:Int) (A:Option Addr) (n c:Nat) (ap:List Int) (vw:Value) (x:Wr) (A2:Option Addr) (n2 c2:Nat) (w:World) (hb:Blk w g 281 #[.int .i64 rg,.slice A n c,vw])
  (ha:Vec w w.heap.size A n c ap) (hd:x.d=.slice A2 n2 c2) (hx:Vec w w.heap.size A2 n2 c2 x.z) (h1:n≤1000000) (h2:n2≤1000000) (hr:1≤x.r∧x.r≤16) (hn:1≤x.n∧x.n≤1099511627776) :
  Calls Tryz.prog 222 #[.pointer (some ⟨g,0,none⟩),.agg ⟨x.cells⟩] w fun e w'=>e=.returned (.bool (readyB ap x))∧Below w.heap.size w w':=by
 obtain ⟨r,nn,t,s,d,zs,se,k,v,gn,l⟩:=x
 dsimp only at hd hx hr hn
 subst hd
 unfold readyB Wr.cells
 dsimp only
 have hb0:=below_new w (.cells #[.int .i64 r,.int .i64 nn,.int .i64 t,.int .i64 s,.slice A2 n2 c2,.string se,.string k,.string v,.bool gn,.int .i64 l] 34)
 have HB:=Lib.hid (hb.below hb0 hb.lt)
 have HXX:=Lib.hid (Blk.new w 34 #[.int .i64 r,.int .i64 nn,.int .i64 t,.int .i64 s,.slice A2 n2 c2,.string se,.string k,.string v,.bool gn,.int .i64 l])
 have HA:=Lib.hid ((ha.below hb0).more hb0.size)
 have HX:=Lib.hid ((hx.below hb0).more hb0.size)
 have HB0:=Lib.hid hb0
 clear hb ha hx hb0
 go_enter Tryz.func222,Tryz.ntmps222
 go_wp2_with fail
 generalize w.alloc (.cells #[.int .i64 r,.int .i64 nn,.int .i64 t,.int .i64 s,.slice A2 n2 c2,.string se,.string k,.string v,.bool gn,.int .i64 l] 34)=V at *
 have hw1:IntKind.i64.wrap (nn - 1)=nn - 1:=by rw [IntKind.wrap_i64];omega
 by_cases hq:atV ap r=nn - 1
 ·have dq:(atV ap r == nn - 1)=true:=by simpa using hq
  refine wp_region_mono nobody (by kernel_rfl) ?_
  iterate 9
   first|refine qT 0 (v:=?_) ?_ ?_|refine qT 1 (v:=?_) ?_ ?_|refine qT 2 (v:=?_) ?_ ?_|refine qT 3 (v:=?_) ?_ ?_|refine qT 4 (v:=?_) ?_ ?_|refine qT 5 (v:=?_) ?_ ?_|refine qT 7 (v:=?_) ?_ ?_|refine qT 8 (v:=?_) ?_ ?_|refine qT 9 (v:=?_) ?_ ?_
   rotate_left
   ·(intro W hSw;(try (have hg:=HB.out.drew.keeps hSw (fun h=>h);have hx:=HXX.out.drew.keeps hSw (fun h=>h);have k1:=hg.cell 1;have x0:=hx.cell 0;have x1:=hx.cell 1;have x4:=hx.cell 4;have hl:=hg.lt;have hl2:=hx.lt;simp at k1 x0 x1 x4));go_simp <;> rfl)
   try simp only [qPA]
   (try rw [hw1]);(try rw [dq])
  refine wpMono_one' 6 (by kernel_rfl) rfl (by rfl) (fun K hK=>?_)
  go_simp
  refine (at_any A n c ap r _ _ (HA.out.below (Below.refl _ _).drew) (by omega)).mono ?_
  rintro e w1 ⟨rfl,rfl⟩
  refine hK.out _ _ ?_ ?_
  ·exact Keeps.refl _ _
  clear hK K
  try simp only [qPA]
  (try rw [hw1]);(try rw [dq])
  iterate 8
   first|refine qT 10 (v:=?_) ?_ ?_|refine qT 11 (v:=?_) ?_ ?_|refine qT 12 (v:=?_) ?_ ?_|refine qT 13 (v:=?_) ?_ ?_|refine qT 14 (v:=?_) ?_ ?_|refine qT 15 (v:=?_) ?_ ?_|refine qT 16 (v:=?_) ?_ ?_|refine qT 17 (v:=?_) ?_ ?_
   rotate_left
   ·(intro W hSw;(try (have hg:=HB.out.drew.keeps hSw (fun h=>h);have hx:=HXX.out.drew.keeps hSw (fun h=>h);have k1:=hg.cell 1;have x0:=hx.cell 0;have x1:=hx.cell 1;have x4:=hx.cell 4;have hl:=hg.lt;have hl2:=hx.lt;simp at k1 x0 x1 x4));go_simp <;> rfl)
   try simp only [qPA]
   (try rw [hw1]);(try rw [dq])
  refine wpMono_one' 18 (by kernel_rfl) rfl (by rfl) (fun K hK=>?_)
  go_simp
  refine (covers_any A n c ap A2 n2 c2 zs _ _ (HA.out.below (Below.refl _ _).drew) (HX.out.below (Below.refl _ _).drew) h1 h2).mono ?_
  rintro e w1 ⟨rfl,rfl⟩
  refine hK.out _ _ ?_ ?_
  ·exact Keeps.refl _ _
  clear hK K
  try simp only [qPA]
  (try rw [hw1]);(try rw [dq])
  iterate 2
   first|refine qT 19 (v:=?_) ?_ ?_|refine qT 20 (v:=?_) ?_ ?_
   rotate_left
   ·(intro W hSw;(try (have hg:=HB.out.drew.keeps hSw (fun h=>h);have hx:=HXX.out.drew.keeps hSw (fun h=>h);have k1:=hg.cell 1;have x0:=hx.cell 0;have x1:=hx.cell 1;have x4:=hx.cell 4;have hl:=hg.lt;have hl2:=hx.lt;simp at k1 x0 x1 x4));go_simp <;> rfl)
   try simp only [qPA]
   (try rw [hw1]);(try rw [dq])
  refine wpMono_done (by kernel_rfl) ?_ _
  go_wp2_with fail
  go_ret
  exact ⟨by rw [decide_eq_true hq,Bool.true_and];rfl,HB0.out.trans (((Below.refl _ V).drew).mono HB0.out.size)⟩
 ·have dq:(atV ap r == nn - 1)=false:=by simpa using hq
  refine wp_region_mono nobody (by kernel_rfl) ?_
  iterate 9
   first|refine qT 0 (v:=?_) ?_ ?_|refine qT 1 (v:=?_) ?_ ?_|refine qT 2 (v:=?_) ?_ ?_|refine qT 3 (v:=?_) ?_ ?_|refine qT 4 (v:=?_) ?_ ?_|refine qT 5 (v:=?_) ?_ ?_|refine qT 7 (v:=?_) ?_ ?_|refine qT 8 (v:=?_) ?_ ?_|refine qT 9 (v:=?_) ?_ ?_
   rotate_left
   ·(intro W hSw;(try (have hg:=HB.out.drew.keeps hSw (fun h=>h);have hx:=HXX.out.drew.keeps hSw (fun h=>h);have k1:=hg.cell 1;have x0:=hx.cell 0;have x1:=hx.cell 1;have x4:=hx.cell 4;have hl:=hg.lt;have hl2:=hx.lt;simp at k1 x0 x1 x4));go_simp <;> rfl)
   try simp only [qPA]
   (try rw [hw1]);(try rw [dq])
  refine wpMono_one' 6 (by kernel_rfl) rfl (by rfl) (fun K hK=>?_)
  go_simp
  refine (at_any A n c ap r _ _ (HA.out.below (Below.refl _ _).drew) (by omega)).mono ?_
  rintro e w1 ⟨rfl,rfl⟩
  refine hK.out _ _ ?_ ?_
  ·exact Keeps.refl _ _
  clear hK K
  try simp only [qPA]
  (try rw [hw1]);(try rw [dq])
  iterate 2
   first|refine qT 10 (v:=?_) ?_ ?_|refine qT 11 (v:=?_) ?_ ?_
   rotate_left
   ·(intro W hSw;(try (have hg:=HB.out.drew.keeps hSw (fun h=>h);have hx:=HXX.out.drew.keeps hSw (fun h=>h);have k1:=hg.cell 1;have x0:=hx.cell 0;have x1:=hx.cell 1;have x4:=hx.cell 4;have hl:=hg.lt;have hl2:=hx.lt;simp at k1 x0 x1 x4));go_simp <;> rfl)
   try simp only [qPA]
   (try rw [hw1]);(try rw [dq])
  refine wpMono_skip' 12 rfl (by kernel_rfl) (by kernel_rfl) (by kernel_rfl) (fun _ _ _ h=>h) (by rfl) ?_
  try simp only [qPA]
  (try rw [hw1]);(try rw [dq])
  refine wpMono_skip' 13 rfl (by kernel_rfl) (by kernel_rfl) (by kernel_rfl) (fun _ _ _ h=>h) (by rfl) ?_
  try simp only [qPA]
  (try rw [hw1]);(try rw [dq])
  refine wpMono_skip' 14 rfl (by kernel_rfl) (by kernel_rfl) (by kernel_rfl) (fun _ _ _ h=>h) (by rfl) ?_
  try simp only [qPA]
  (try rw [hw1]);(try rw [dq])
  refine wpMono_skip' 15 rfl (by kernel_rfl) (by kernel_rfl) (by kernel_rfl) (fun _ _ _ h=>h) (by rfl) ?_
  try simp only [qPA]
  (try rw [hw1]);(try rw [dq])
  refine wpMono_skip' 16 rfl (by kernel_rfl) (by kernel_rfl) (by kernel_rfl) (fun _ _ _ h=>h) (by rfl) ?_
  try simp only [qPA]
  (try rw [hw1]);(try rw [dq])
  refine wpMono_skip' 17 rfl (by kernel_rfl) (by kernel_rfl) (by kernel_rfl) (fun _ _ _ h=>h) (by rfl) ?_
  try simp only [qPA]
  (try rw [hw1]);(try rw [dq])
  refine wpMono_skip' 18 rfl (by kernel_rfl) (by kernel_rfl) (by kernel_rfl) (fun _ _ _ h=>h) (by rfl) ?_
  try simp only [qPA]
  (try rw [hw1]);(try rw [dq])
  iterate 2
   first|refine qT 19 (v:=?_) ?_ ?_|refine qT 20 (v:=?_) ?_ ?_
   rotate_left
   ·(intro W hSw;(try (have hg:=HB.out.drew.keeps hSw (fun h=>h);have hx:=HXX.out.drew.keeps hSw (fun h=>h);have k1:=hg.cell 1;have x0:=hx.cell 0;have x1:=hx.cell 1;have x4:=hx.cell 4;have hl:=hg.lt;have hl2:=hx.lt;simp at k1 x0 x1 x4));go_simp <;> rfl)
   try simp only [qPA]
   (try rw [hw1]);(try rw [dq])
  refine wpMono_done (by kernel_rfl) ?_ _
  go_wp2_with fail
  go_ret
  exact ⟨by rw [decide_eq_false hq,Bool.false_and];rfl,HB0.out.trans (((Below.refl _ V).drew).mono HB0.out.size)⟩
end Go.Proofs.YtdaphppdmnmicaaGreatDoor.dep
namespace Go.Proofs.YtdaphppdmnmicaaGreatDoor.dep
open Go Go.RowKit base rowe wire vec cmp
def WaitOk (w:World) (x:Wr):Prop:=∃ A n c,x.d=.slice A n c∧Vec w w.heap.size A n c x.z∧n≤1000000∧(1≤x.r∧x.r≤16)∧(1≤x.n∧x.n≤1099511627776)
theorem WaitOk.below {w w':World} {x:Wr} (h:WaitOk w x) (hb:Below w.heap.size w w'):WaitOk w' x:=by
 obtain ⟨A,n,c,h1,h2,h3⟩:=h
 exact ⟨A,n,c,h1,(h2.below hb).more hb.size,h3⟩
def IndexR (ap:List Int) (ws:List Wr) (e:Ending):Prop :=
 (∃ k:Nat,k < ws.length∧readyB ap (ws.getD k wrZ)=true∧(∀ j,j < k→readyB ap (ws.getD j wrZ)=false)∧e=.returned (.int .i64 k)) ∨
 ((∀ j,j < ws.length→readyB ap (ws.getD j wrZ)=false)∧e=.returned (.int .i64 (-1)))
set_option maxRecDepth 100000 in
set_option maxHeartbeats 1600000 in
theorem index_ready (g:Nat) (rg:Int) (A:Option Addr) (n c:Nat) (ap:List Int) (vw:Value) (A3:Option Addr) (m c3:Nat) (ws:List Wr) (w:World) (hb:Blk w g 281 #[.int .i64 rg,.slice A n c,vw])
  (ha:Vec w w.heap.size A n c ap) (h1:n≤1000000) (hr:Reads w w.heap.size 10 A3 m (ws.flatMap Wr.cells)) (hl:ws.length=m) (hm:m≤1000000) (hw:∀ x ∈ ws,WaitOk w x) :
  Calls Tryz.prog 276 #[.slice A3 m c3,.func (.func 222) #[.pointer (some ⟨g,0,none⟩)] #[]] w fun e w'=>IndexR ap ws e∧Below w.heap.size w w':=by
 have HB:=Lib.hid hb
 have HA:=Lib.hid ha
 have HR:=Lib.hid hr
 have HW:=Lib.hid hw
 have hgl:=hb.lt
 clear hb ha hr hw
 go_enter Tryz.func276,Tryz.ntmps276
 go_wp2_with fail
 go_loopw [5,8] (fun _ k wr=>∃ i:Nat,i≤m∧k=.int .i64 i∧(∀ j,j < i→readyB ap (ws.getD j wrZ)=false)∧Below w.heap.size w wr) (fun _ k _=>m - (intOf k).toNat)
 case atStart=>exact ⟨0,by omega,rfl,fun j h=>by omega,Below.refl _ _⟩
 case round =>
  obtain ⟨i,him,rfl,hno,hbr⟩:=hrel
  have HNO:=Lib.hid hno
  have HBr:=Lib.hid hbr
  clear hno hbr
  by_cases hlt:i < m
  ·obtain ⟨b,off,rfl,hbl⟩:=HR.out.at_some (by omega)
   have hmn:i < ws.length:=by omega
   have hmem:ws.getD i wrZ ∈ ws:=by rw [List.getD_eq_getElem?_getD,List.getElem?_eq_getElem hmn];exact List.getElem_mem hmn
   have HE:=Lib.hid (show ∀ q v,(ws.getD i wrZ).cells[q]?=some v→wr.cell? ⟨b,off + i * 10 + q,none⟩=some v from fun q v hq=>by
    have hq2:q < 10:=by
     have:=(List.getElem?_eq_some_iff.1 hq).1
     rwa [Wr.len] at this
    have h5:=Reads.thing Wr.cells Wr.len HR.out (k:=i) (x:=ws.getD i wrZ) (by omega) (by rw [List.getD_eq_getElem?_getD,List.getElem?_eq_getElem hmn];rfl) q hq2
    rw [HBr.out.cell (p:=⟨b,off + i * 10 + q,none⟩) hbl,h5,hq])
   obtain ⟨A2,n2,c2,hd,hv,hn2,hrr,hnn⟩:=(HW.out _ hmem).below HBr.out
   obtain ⟨y,hy⟩:∃ y,ws.getD i wrZ=y:=⟨_,rfl⟩
   rw [hy] at HE hd hv hrr hnn
   have HY:=Lib.hid hy
   have HV:=Lib.hid hv
   have HD:=Lib.hid hd
   clear hy hv hd hmem
   go_wp2_with (refine wpList_load_at rfl 34 (.tmp 14) rfl b (off + i * 10) y.cells rfl Tryz.underlying34 rfl (by rw [Wr.len];kernel_rfl) HE.out ?_)
   refine (ready_any g rg A n c ap vw y A2 n2 c2 wr (HB.out.below HBr.out hgl) ((HA.out.below HBr.out).more HBr.out.size) HD.out HV.out h1 hn2 hrr hnn).mono ?_
   rintro e w1 ⟨rfl,hb1⟩
   have HB1:=Lib.hid (below_step HBr.out hb1)
   clear hb1
   cases hq:readyB ap y with
   | true =>
    go_wp2_with fail
    go_ret
    exact ⟨.inl ⟨i,hmn,by rw [HY.out];exact hq,HNO.out,rfl⟩,HB1.out⟩
   | false =>
    go_wp2_with fail
    go_roundw
    case rel=>exact ⟨i + 1,by omega,by go_num,fun j hj=>(Nat.lt_succ_iff_lt_or_eq.1 hj).elim (HNO.out j) (fun e=>by rw [e,HY.out];exact hq),HB1.out⟩
    case measure=>(simp [intOf];try omega)
  ·obtain rfl:i=m:=by omega
   go_wp2_with fail
   go_ret
   exact ⟨.inr ⟨fun j hj=>HNO.out j (by omega),rfl⟩,HBr.out⟩
end Go.Proofs.YtdaphppdmnmicaaGreatDoor.dep
namespace Go.Proofs.YtdaphppdmnmicaaGreatDoor.store
open Go Go.RowKit base map_ err cmp above law merge rows rowe Go.Maps monoj
def cellEq (a b:C):Bool:=(a.t == b.t && a.r == b.r) && (a.v.toList == b.v.toList && (a.g == b.g && a.l == b.l))
set_option maxHeartbeats 1000000 in
theorem eql_cell (a b:C) (w:World):(binOp .eql 267 (cval a) (cval b)).run Tryz.prog w=.ok (.bool (cellEq a b)) w:=by
 have u1:=Tryz.underlying267
 have u2:=Tryz.underlying32
 obtain ⟨t,r,v,g,l⟩:=a
 obtain ⟨t',r',v',g',l'⟩:=b
 unfold cval cellEq
 dsimp only
 cases h1:(t == t') <;> cases h2:(r == r') <;> cases h3:(v.toList == v'.toList) <;> cases h4:(g == g') <;> cases h5:(l == l') <;> go_simp
theorem cellEq_iff (a b:C):cellEq a b=true ↔ a=b:=by
 unfold cellEq
 simp only [Bool.and_eq_true,beq_iff_eq]
 constructor
 ·rintro ⟨⟨h1,h2⟩,h3,h4,h5⟩;exact C.ext' h1 h2 h3 h4 h5
 ·rintro rfl;exact ⟨⟨rfl,rfl⟩,rfl,rfl,rfl⟩
instance:DecidableEq C:=fun a b=>if h:cellEq a b=true then isTrue ((cellEq_iff a b).1 h) else isFalse (fun e=>h ((cellEq_iff a b).2 e))
theorem cellEq_self (a:C):cellEq a a=true:=(cellEq_iff a a).2 rfl
theorem cellEq_above {a b:C} (h:above a b=true):cellEq a b=false:=by
 rw [Bool.eq_false_iff,ne_eq,cellEq_iff]
 rintro rfl
 rw [above_irrefl] at h;cases h
theorem exec_eql {P:Program} {o:Oper} {ev:Operand→Value} {w:World} (t u:TypeId) (x y:Operand) (ho:o.op=.binOp .eql t x y u) (xs ys:Array Value) (hx:ev x=.agg xs) (hy:ev y=.agg ys)
  (hm:P.eqGuardType P.depth t=false) (b:Bool) (h:(binOp .eql t (.agg xs) (.agg ys)).run P w=.ok (.bool b) w):(execOp ev o).run P w=.ok (.value (.bool b)) w:=by
 have hg:=run_eqGuard_agg (P:=P) w .eql t x y xs ys hm
 unfold execOp
 simp only [ho,hx,hy,Sem.run_bind,hg,Result.andThen_ok,h,Sem.run_pure]
theorem wpList_val {P:Program} {ops:Array Oper} {rest:List Oper} {o:Oper} {a:Act} {Q:Exit→Act→World→Prop} {w:World} (hgd:Region.wanted o (yielded ops a.tmps)=true) (v:Value)
  (h:(execOp a.eval o).run P w=.ok (.value v) w) (hn:wpList P ops Q rest (a.put o.dst v) w):wpList P ops Q (o :: rest) a w :=
 wpList_step fun _ hK=>by
  rw [if_pos hgd]
  unfold Oper.wp
  rw [h]
  exact hK _ _ hn
def ApplyR (g bm:Nat) (L:List R) (x:Nm) (c:C) (w:World) (e:Ending) (w':World):Prop :=
 e=.returned (.bool (newC (getL L x) c))∧StI w' g bm (takeL L x c)∧Keeps (· = bm) w w'
theorem cells10 {w:World} {g:Nat} {T:TypeId} {a0 a1 a2 a3 a4 a5 a6 a7 a8 a9:Value} (h:Blk w g T #[a0,a1,a2,a3,a4,a5,a6,a7,a8,a9]) :
  w.cell? ⟨g,0,none⟩=some a0∧w.cell? ⟨g,1,none⟩=some a1∧w.cell? ⟨g,2,none⟩=some a2∧w.cell? ⟨g,3,none⟩=some a3∧w.cell? ⟨g,4,none⟩=some a4∧w.cell? ⟨g,5,none⟩=some a5∧w.cell? ⟨g,6,none⟩=some a6 ∧
   w.cell? ⟨g,7,none⟩=some a7∧w.cell? ⟨g,8,none⟩=some a8∧w.cell? ⟨g,9,none⟩=some a9 :=
 ⟨h.cell 0,h.cell 1,h.cell 2,h.cell 3,h.cell 4,h.cell 5,h.cell 6,h.cell 7,h.cell 8,h.cell 9⟩
set_option maxRecDepth 100000 in
set_option maxHeartbeats 4000000 in
theorem apply_any (g bm:Nat) (L:List R) (rg nm t r:Int) (A:Option Addr) (n c:Nat) (ss ky v:ByteArray) (gn:Bool) (l:Int) (w:World) (h:StI w g bm L) (hs:ss.size≤maxLen) (hk:ky.size≤maxLen) :
  Calls Tryz.prog 172 #[.pointer (some ⟨g,0,none⟩),.agg (wcells rg nm t r A n c ss ky v gn l)] w (ApplyR g bm L (ss,ky) ⟨t,r,v,gn,l⟩ w):=by
 have hok:okName (ss,ky):=⟨hs,hk⟩
 have hb2:=below_alloc (below_new w (.cells (wcells rg nm t r A n c ss ky v gn l) 34)) (.cells #[.string ss,.string ky] 290)
 have h2:=(h.below hb2).below (Below.refl _ _).drew
 have hN2:=(Blk.newAt (w.alloc (.cells (wcells rg nm t r A n c ss ky v gn l) 34)) 290 #[.string ss,.string ky] (g:=w.heap.size + 1) (by simp)).drew
 have hW2:=((Blk.new w 34 (wcells rg nm t r A n c ss ky v gn l)).alloc (.cells #[.string ss,.string ky] 290)).drew
 have hX1:¬ g=w.heap.size + 1 + 1:=by have:=h.lt;omega
 have hX2:¬ bm=w.heap.size + 1 + 1:=by have:=h.ltm;omega
 have hlt1:=h.lt
 have hlt2:=h.ltm
 have Hb2:=Lib.hid hb2
 have H2:=Lib.hid h2
 have HN2:=Lib.hid hN2
 have HW2:=Lib.hid hW2
 have HX1:=Lib.hid hX1
 have HX2:=Lib.hid hX2
 have Hok:=Lib.hid hok
 clear h hb2 h2 hN2 hW2 hX1 hX2 hok
 cases hgo:getL L (ss,ky) with
 | none =>
  have hat:atL L (ss,ky)=zeroC:=by unfold atL;rw [hgo];rfl
  have hat:atL L (ss,ky)=⟨0,0,⟨#[]⟩,false,0⟩:=hat
  have Hgo:=Lib.hid hgo
  have Hat:=Lib.hid hat
  clear hgo hat
  go_enter Tryz.func172,Tryz.ntmps172
  go_wp2_with fail
  refine wp_region_mono (fun i=>i=w.heap.size + 1 + 1) (by kernel_rfl) ?_
  iterate 9
   first|refine qT 0 (v:=?_) ?_ ?_|refine qT 1 (v:=?_) ?_ ?_|refine qT 2 (v:=?_) ?_ ?_|refine qT 3 (v:=?_) ?_ ?_|refine qT 4 (v:=?_) ?_ ?_|refine qT 5 (v:=?_) ?_ ?_|refine qT 6 (v:=?_) ?_ ?_|refine qT 7 (v:=?_) ?_ ?_|refine qT 8 (v:=?_) ?_ ?_
   rotate_left
   ·(intro W hSw;((try have hgW:=H2.out.keeps hSw HX1.out HX2.out;try have y0:W.cell? ⟨g,0,none⟩=some (.map (some bm)):=hgW.blk.cell 0;try have gl:=hgW.lt;try have hlk:=hgW.look_ok (x:=(ss,ky)) Hok.out;try (rw [Hgo.out,Hat.out] at hlk;unfold cval nameV at hlk;dsimp only at hlk);try have hn:=HN2.out.keeps hSw (by omega);try have n0:W.cell? ⟨w.heap.size + 1,0,none⟩=some (.string ss):=hn.cell 0;try have n1:W.cell? ⟨w.heap.size + 1,1,none⟩=some (.string ky):=hn.cell 1;try have nl:=hn.lt));go_simp <;> rfl)
   try simp only [qPA]
  refine wpMono_one' 9 (by kernel_rfl) rfl (by rfl) (fun K hK=>?_)
  go_simp
  have HC0:=Lib.hid (Blk.newAt ((w.alloc (.cells (wcells rg nm t r A n c ss ky v gn l) 34)).alloc (.cells #[.string ss,.string ky] 290)).drew 267 #[.int .i64 0,.int .i64 0,.string ⟨#[]⟩,.bool false,.int .i64 0] (g:=w.heap.size + 1 + 1) (by simp))
  refine hK.out _ _ ?_ ?_
  ·exact .alloc _
  clear hK K
  try simp only [qPA]
  refine wpMono_one' 10 (by kernel_rfl) rfl (by rfl) (fun K hK=>?_)
  refine wp_store_at 267 (.tmp 6) (.tmp 23) rfl (w.heap.size + 1 + 1) 0 [.int .i64 0,.int .i64 0,.string ⟨#[]⟩,.bool false,.int .i64 0] rfl rfl HC0.out rfl (by simp) rfl (fun w3 hq1 hq2 hq3=>?_)
  have hbc:=below_new ((w.alloc (.cells (wcells rg nm t r A n c ss ky v gn l) 34)).alloc (.cells #[.string ss,.string ky] 290)).drew (.cells #[.int .i64 0,.int .i64 0,.string ⟨#[]⟩,.bool false,.int .i64 0] 267)
  have HB3:=Lib.hid (((Hb2.out.drew).trans (hbc.mono (by simp;omega))).trans (hq2.below (B:=w.heap.size) (fun i hi e=>by omega) (by simp;omega)))
  have HC3:=Lib.hid (show Blk w3 (w.heap.size + 1 + 1) 267 #[.int .i64 0,.int .i64 0,.string ⟨#[]⟩,.bool false,.int .i64 0] from hq1)
  have HN3:=Lib.hid ((HN2.out.below hbc (by simp)).keeps hq2 (by omega))
  have HW3:=Lib.hid ((HW2.out.below hbc (by simp;omega)).keeps hq2 (by omega))
  have H3:=Lib.hid ((H2.out.below hbc).keeps hq2 HX1.out HX2.out)
  have hz3:w.heap.size + 1 + 1 < w3.heap.size:=HC3.out.lt
  clear hbc hq1 hq3 HC0
  refine hK.out _ _ ?_ ?_
  ·exact hq2
  clear hK K
  try simp only [Act.put]
  refine qT 11 (v:=?_) ?_ ?_;rotate_left
  ·(intro W hSw;((try have hgW:=H2.out.keeps hSw HX1.out HX2.out;try have y0:W.cell? ⟨g,0,none⟩=some (.map (some bm)):=hgW.blk.cell 0;try have gl:=hgW.lt;try have hlk:=hgW.look_ok (x:=(ss,ky)) Hok.out;try (rw [Hgo.out,Hat.out] at hlk;unfold cval nameV at hlk;dsimp only at hlk);try have hn:=HN2.out.keeps hSw (by omega);try have n0:W.cell? ⟨w.heap.size + 1,0,none⟩=some (.string ss):=hn.cell 0;try have n1:W.cell? ⟨w.heap.size + 1,1,none⟩=some (.string ky):=hn.cell 1;try have nl:=hn.lt));go_simp <;> rfl)
  try simp only [qPA]
  refine wpMono_done (by kernel_rfl) ?_ _
  clear hq2 H2 HN2 HW2 Hb2
  obtain ⟨k0,k1,k2,k3,k4,k5,k6,k7,k8,k9⟩:=cells10 HW3.out
  go_wp2_with fail
  refine (of_any rg nm t r A n c ss ky v gn l w3).mono ?_
  rintro e w4 ⟨rfl,hb4⟩
  clear k0 k1 k2 k3 k4 k5 k6 k7 k8 k9
  have hb5:=below_alloc hb4 (.cells #[.int .i64 t,.int .i64 r,.string v,.bool gn,.int .i64 l] 267)
  have HB5:=Lib.hid (HB3.out.trans (hb5.mono (by omega)))
  have HC5:=Lib.hid (HC3.out.below hb5 hz3)
  have HN5:=Lib.hid (HN3.out.below hb5 (by omega))
  have H5:=Lib.hid (H3.out.below hb5)
  have HD5:=Lib.hid (Blk.new w4 267 #[.int .i64 t,.int .i64 r,.string v,.bool gn,.int .i64 l])
  have hz5:w3.heap.size≤w4.heap.size:=hb4.size
  have Hh5:=Lib.hid hb4
  clear hb4 hb5 H3 HN3 HW3 HC3 HB3
  have hzz:bm < w4.heap.size:=by omega
  have HX3:=Lib.hid (H5.out.ne)
  have HX4:=Lib.hid (show ¬ w.heap.size + 1=bm by omega)
  have HX5:=Lib.hid (show ¬ w4.heap.size=bm by omega)
  go_wp2_with fail
  have hnew:newC (getL L (ss,ky)) ⟨t,r,v,gn,l⟩=true:=by rw [Hgo.out];rfl
  have htak:takeC (getL L (ss,ky)) ⟨t,r,v,gn,l⟩=⟨t,r,v,gn,l⟩:=by rw [Hgo.out];rfl
  have Hnew:=Lib.hid hnew
  have Htak:=Lib.hid htak
  clear hnew htak
  obtain ⟨w7,hu,hS7,hK7⟩:=(H5.out.below (Below.refl _ _).drew).put Hok.out ⟨t,r,v,gn,l⟩
  have HS7:=Lib.hid hS7
  have HK7:=Lib.hid hK7
  clear hS7 hK7
  unfold cval nameV at hu
  dsimp only at hu
  have HU:=Lib.hid hu
  clear hu
  have HR:=Lib.hid (show ApplyR g bm L (ss,ky) ⟨t,r,v,gn,l⟩ w (.returned (.bool true)) w7 from ⟨by rw [Hnew.out],by unfold takeL;rw [Htak.out];exact HS7.out,(Keeps.of_below HB5.out).trans ((Keeps.drew).trans HK7.out)⟩)
  refine wp_region_mono (fun i=>i=bm) (by kernel_rfl) ?_
  iterate 6
   first|refine qT 0 (v:=?_) ?_ ?_|refine qT 1 (v:=?_) ?_ ?_|refine qT 2 (v:=?_) ?_ ?_|refine qT 3 (v:=?_) ?_ ?_|refine qT 4 (v:=?_) ?_ ?_|refine qT 5 (v:=?_) ?_ ?_
   rotate_left
   ·(intro W hSw;((try have hgW:=(H5.out.below (Below.refl _ _).drew).blk.keeps hSw HX3.out;try have y0:W.cell? ⟨g,0,none⟩=some (.map (some bm)):=hgW.cell 0;try have gl:=hgW.lt;try have hn:=HN5.out.drew.keeps hSw HX4.out;try have n0:W.cell? ⟨w.heap.size + 1,0,none⟩=some (.string ss):=hn.cell 0;try have n1:W.cell? ⟨w.heap.size + 1,1,none⟩=some (.string ky):=hn.cell 1;try have nl:=hn.lt;try have hd:=HD5.out.drew.keeps hSw HX5.out;try (obtain ⟨d0,d1,d2,d3,d4⟩:=Blk.cells5 hd);try have dl:=hd.lt));go_simp <;> rfl)
   try simp only [qPA]
  refine wpMono_one' 6 (by kernel_rfl) rfl (by rfl) (fun K hK=>?_)
  have hu:(Instr.mapUpdate _ (.map (some bm)) (.agg #[.string ss,.string ky]) _).run _ _=_:=HU.out
  go_simp
  refine hK.out _ _ ?_ ?_
  ·exact HK7.out
  clear hK K
  try simp only [Act.put]
  refine wpMono_done (by kernel_rfl) ?_ _
  go_wp2
  go_ret
  exact HR.out
 | some d =>
  obtain ⟨dt,dr,dv,dg,dl⟩:=d
  have hat:atL L (ss,ky)=⟨dt,dr,dv,dg,dl⟩:=by unfold atL;rw [hgo];rfl
  have Hgo:=Lib.hid hgo
  have Hat:=Lib.hid hat
  clear hgo hat
  go_enter Tryz.func172,Tryz.ntmps172
  go_wp2_with fail
  refine wp_region_mono (fun i=>i=w.heap.size + 1 + 1) (by kernel_rfl) ?_
  iterate 9
   first|refine qT 0 (v:=?_) ?_ ?_|refine qT 1 (v:=?_) ?_ ?_|refine qT 2 (v:=?_) ?_ ?_|refine qT 3 (v:=?_) ?_ ?_|refine qT 4 (v:=?_) ?_ ?_|refine qT 5 (v:=?_) ?_ ?_|refine qT 6 (v:=?_) ?_ ?_|refine qT 7 (v:=?_) ?_ ?_|refine qT 8 (v:=?_) ?_ ?_
   rotate_left
   ·(intro W hSw;((try have hgW:=H2.out.keeps hSw HX1.out HX2.out;try have y0:W.cell? ⟨g,0,none⟩=some (.map (some bm)):=hgW.blk.cell 0;try have gl:=hgW.lt;try have hlk:=hgW.look_ok (x:=(ss,ky)) Hok.out;try (rw [Hgo.out,Hat.out] at hlk;unfold cval nameV at hlk;dsimp only at hlk);try have hn:=HN2.out.keeps hSw (by omega);try have n0:W.cell? ⟨w.heap.size + 1,0,none⟩=some (.string ss):=hn.cell 0;try have n1:W.cell? ⟨w.heap.size + 1,1,none⟩=some (.string ky):=hn.cell 1;try have nl:=hn.lt));go_simp <;> rfl)
   try simp only [qPA]
  refine wpMono_one' 9 (by kernel_rfl) rfl (by rfl) (fun K hK=>?_)
  go_simp
  have HC0:=Lib.hid (Blk.newAt ((w.alloc (.cells (wcells rg nm t r A n c ss ky v gn l) 34)).alloc (.cells #[.string ss,.string ky] 290)).drew 267 #[.int .i64 0,.int .i64 0,.string ⟨#[]⟩,.bool false,.int .i64 0] (g:=w.heap.size + 1 + 1) (by simp))
  refine hK.out _ _ ?_ ?_
  ·exact .alloc _
  clear hK K
  try simp only [qPA]
  refine wpMono_one' 10 (by kernel_rfl) rfl (by rfl) (fun K hK=>?_)
  refine wp_store_at 267 (.tmp 6) (.tmp 23) rfl (w.heap.size + 1 + 1) 0 [.int .i64 dt,.int .i64 dr,.string dv,.bool dg,.int .i64 dl] rfl rfl HC0.out rfl (by simp) rfl (fun w3 hq1 hq2 hq3=>?_)
  have hbc:=below_new ((w.alloc (.cells (wcells rg nm t r A n c ss ky v gn l) 34)).alloc (.cells #[.string ss,.string ky] 290)).drew (.cells #[.int .i64 0,.int .i64 0,.string ⟨#[]⟩,.bool false,.int .i64 0] 267)
  have HB3:=Lib.hid (((Hb2.out.drew).trans (hbc.mono (by simp;omega))).trans (hq2.below (B:=w.heap.size) (fun i hi e=>by omega) (by simp;omega)))
  have HC3:=Lib.hid (show Blk w3 (w.heap.size + 1 + 1) 267 #[.int .i64 dt,.int .i64 dr,.string dv,.bool dg,.int .i64 dl] from hq1)
  have HN3:=Lib.hid ((HN2.out.below hbc (by simp)).keeps hq2 (by omega))
  have HW3:=Lib.hid ((HW2.out.below hbc (by simp;omega)).keeps hq2 (by omega))
  have H3:=Lib.hid ((H2.out.below hbc).keeps hq2 HX1.out HX2.out)
  have hz3:w.heap.size + 1 + 1 < w3.heap.size:=HC3.out.lt
  clear hbc hq1 hq3 HC0
  refine hK.out _ _ ?_ ?_
  ·exact hq2
  clear hK K
  try simp only [Act.put]
  refine qT 11 (v:=?_) ?_ ?_;rotate_left
  ·(intro W hSw;((try have hgW:=H2.out.keeps hSw HX1.out HX2.out;try have y0:W.cell? ⟨g,0,none⟩=some (.map (some bm)):=hgW.blk.cell 0;try have gl:=hgW.lt;try have hlk:=hgW.look_ok (x:=(ss,ky)) Hok.out;try (rw [Hgo.out,Hat.out] at hlk;unfold cval nameV at hlk;dsimp only at hlk);try have hn:=HN2.out.keeps hSw (by omega);try have n0:W.cell? ⟨w.heap.size + 1,0,none⟩=some (.string ss):=hn.cell 0;try have n1:W.cell? ⟨w.heap.size + 1,1,none⟩=some (.string ky):=hn.cell 1;try have nl:=hn.lt));go_simp <;> rfl)
  try simp only [qPA]
  refine wpMono_done (by kernel_rfl) ?_ _
  clear hq2 H2 HN2 HW2 Hb2
  obtain ⟨k0,k1,k2,k3,k4,k5,k6,k7,k8,k9⟩:=cells10 HW3.out
  go_wp2_with fail
  refine (of_any rg nm t r A n c ss ky v gn l w3).mono ?_
  rintro e w4 ⟨rfl,hb4⟩
  clear k0 k1 k2 k3 k4 k5 k6 k7 k8 k9
  have hb5:=below_alloc hb4 (.cells #[.int .i64 t,.int .i64 r,.string v,.bool gn,.int .i64 l] 267)
  have HB5:=Lib.hid (HB3.out.trans (hb5.mono (by omega)))
  have HC5:=Lib.hid (HC3.out.below hb5 hz3)
  have HN5:=Lib.hid (HN3.out.below hb5 (by omega))
  have H5:=Lib.hid (H3.out.below hb5)
  have HD5:=Lib.hid (Blk.new w4 267 #[.int .i64 t,.int .i64 r,.string v,.bool gn,.int .i64 l])
  have hz5:w3.heap.size≤w4.heap.size:=hb4.size
  have Hh5:=Lib.hid hb4
  clear hb4 hb5 H3 HN3 HW3 HC3 HB3
  have hzz:bm < w4.heap.size:=by omega
  have HX3:=Lib.hid (H5.out.ne)
  have HX4:=Lib.hid (show ¬ w.heap.size + 1=bm by omega)
  have HX5:=Lib.hid (show ¬ w4.heap.size=bm by omega)
  obtain ⟨p0,p1,p2,p3,p4⟩:=Blk.cells5 HC5.out
  obtain ⟨q0,q1,q2,q3,q4⟩:=Blk.cells5 HD5.out
  have pl:=HC5.out.lt
  go_wp2_with fail
  refine (merge_any _ 2 2 [⟨dt,dr,dv,dg,dl⟩,⟨t,r,v,gn,l⟩] _ rfl (by decide) (by exact Reads.newAt _ _ _ _ (by simp) rfl)).mono ?_
  rintro e w6 ⟨rfl,hb6⟩
  rw [mg_two]
  have hba:=below_new (w4.alloc (.cells #[.int .i64 t,.int .i64 r,.string v,.bool gn,.int .i64 l] 267)) (.cells #[.int .i64 dt,.int .i64 dr,.string dv,.bool dg,.int .i64 dl,.int .i64 t,.int .i64 r,.string v,.bool gn,.int .i64 l] 267)
  have hb6':=below_step hba hb6
  clear p0 p1 p2 p3 p4 q0 q1 q2 q3 q4
  have HB6:=Lib.hid (HB5.out.trans (hb6'.mono (by simp;omega)))
  have HC6:=Lib.hid (HC5.out.below hb6' pl)
  have HN6:=Lib.hid (HN5.out.below hb6' (by simp;omega))
  have H6:=Lib.hid (H5.out.below hb6')
  have HD6:=Lib.hid (HD5.out.below hb6' (by simp))
  have hz6:w4.heap.size < w6.heap.size:=HD6.out.lt
  clear hba hb6 hb6' HB5 HC5 HN5 H5 HD5 pl
  cases hab:above ⟨t,r,v,gn,l⟩ ⟨dt,dr,dv,dg,dl⟩ with
  | true =>
   rw [if_pos rfl]
   have hce:=cellEq_above hab
   have hnew:newC (getL L (ss,ky)) ⟨t,r,v,gn,l⟩=true:=by rw [Hgo.out];exact hab
   have htak:takeC (getL L (ss,ky)) ⟨t,r,v,gn,l⟩=⟨t,r,v,gn,l⟩:=by rw [Hgo.out];exact if_pos hab
   unfold cval
   dsimp only
   have Hnew:=Lib.hid hnew
   have Htak:=Lib.hid htak
   have Hce:=Lib.hid hce
   clear hnew htak hce
   clear hab
   go_wp2_with (first|(refine wpList_store_blk rfl 267 (.tmp 8) (.tmp 31) rfl w4.heap.size [.int .i64 t,.int .i64 r,.string v,.bool gn,.int .i64 l] rfl rfl HD6.out rfl rfl rfl ?_;intro w8 hd8 hk8 hs8;have heq:=eql_cell ⟨t,r,v,gn,l⟩ ⟨dt,dr,dv,dg,dl⟩ w8;rw [Hce.out] at heq;unfold cval at heq;dsimp only at heq;have hc8:=HC6.out.keeps hk8 (by omega);obtain ⟨p0,p1,p2,p3,p4⟩:=Blk.cells5 hc8;obtain ⟨q0,q1,q2,q3,q4⟩:=Blk.cells5 hd8;have HC8:=Lib.hid hc8;have HD8:=Lib.hid hd8;have HK8:=Lib.hid hk8;clear hc8 hd8 hk8 hs8;have HEQ:=Lib.hid heq;clear heq)|(refine wpList_val (o:=⟨some 36,_,_,_,_,_⟩) rfl (.bool false) (exec_eql 267 267 (.tmp 34) (.tmp 35) rfl _ _ rfl rfl (by kernel_rfl) false HEQ.out) ?_))
   clear p0 p1 p2 p3 p4 q0 q1 q2 q3 q4
   have HB8:=Lib.hid (HB6.out.trans (HK8.out.below (B:=w.heap.size) (fun i hi e=>by omega) (by omega)))
   have H8:=Lib.hid (H6.out.keeps HK8.out (by omega) (by omega))
   have HN8:=Lib.hid (HN6.out.keeps HK8.out (by omega))
   obtain ⟨w7,hu,hS7,hK7⟩:=(H8.out.below (Below.refl _ _).drew).put Hok.out ⟨t,r,v,gn,l⟩
   have HS7:=Lib.hid hS7
   have HK7:=Lib.hid hK7
   clear hS7 hK7
   unfold cval nameV at hu
   dsimp only at hu
   have HU:=Lib.hid hu
   clear hu
   have HR:=Lib.hid (show ApplyR g bm L (ss,ky) ⟨t,r,v,gn,l⟩ w (.returned (.bool true)) w7 from ⟨by rw [Hnew.out],by unfold takeL;rw [Htak.out];exact HS7.out,(Keeps.of_below HB8.out).trans ((Keeps.drew).trans HK7.out)⟩)
   refine wp_region_mono (fun i=>i=bm) (by kernel_rfl) ?_
   iterate 6
    first|refine qT 0 (v:=?_) ?_ ?_|refine qT 1 (v:=?_) ?_ ?_|refine qT 2 (v:=?_) ?_ ?_|refine qT 3 (v:=?_) ?_ ?_|refine qT 4 (v:=?_) ?_ ?_|refine qT 5 (v:=?_) ?_ ?_
    rotate_left
    ·(intro W hSw;((try have hgW:=(H8.out.below (Below.refl _ _).drew).blk.keeps hSw HX3.out;try have y0:W.cell? ⟨g,0,none⟩=some (.map (some bm)):=hgW.cell 0;try have gl:=hgW.lt;try have hn:=HN8.out.drew.keeps hSw HX4.out;try have n0:W.cell? ⟨w.heap.size + 1,0,none⟩=some (.string ss):=hn.cell 0;try have n1:W.cell? ⟨w.heap.size + 1,1,none⟩=some (.string ky):=hn.cell 1;try have nl:=hn.lt;try have hd:=HD8.out.drew.keeps hSw HX5.out;try (obtain ⟨d0,d1,d2,d3,d4⟩:=Blk.cells5 hd);try have dl:=hd.lt));go_simp <;> rfl)
    try simp only [qPA]
   refine wpMono_one' 6 (by kernel_rfl) rfl (by rfl) (fun K hK=>?_)
   have hu:(Instr.mapUpdate _ (.map (some bm)) (.agg #[.string ss,.string ky]) _).run _ _=_:=HU.out
   go_simp
   refine hK.out _ _ ?_ ?_
   ·exact HK7.out
   clear hK K
   try simp only [Act.put]
   refine wpMono_done (by kernel_rfl) ?_ _
   go_wp2
   go_ret
   exact HR.out
  | false =>
   rw [if_neg (by decide)]
   have hnew:newC (getL L (ss,ky)) ⟨t,r,v,gn,l⟩=false:=by rw [Hgo.out];exact hab
   have hta:takeL L (ss,ky) ⟨t,r,v,gn,l⟩=L:=takeL_old H6.out.up hnew
   unfold cval
   dsimp only
   have Hnew:=Lib.hid hnew
   have Hta:=Lib.hid hta
   clear hnew hta
   clear hab
   go_wp2_with (first|(refine wpList_store_blk rfl 267 (.tmp 8) (.tmp 31) rfl w4.heap.size [.int .i64 dt,.int .i64 dr,.string dv,.bool dg,.int .i64 dl] rfl rfl HD6.out rfl rfl rfl ?_;intro w8 hd8 hk8 hs8;have heq:=eql_cell ⟨dt,dr,dv,dg,dl⟩ ⟨dt,dr,dv,dg,dl⟩ w8;rw [cellEq_self] at heq;unfold cval at heq;dsimp only at heq;have hc8:=HC6.out.keeps hk8 (by omega);obtain ⟨p0,p1,p2,p3,p4⟩:=Blk.cells5 hc8;obtain ⟨q0,q1,q2,q3,q4⟩:=Blk.cells5 hd8;have HC8:=Lib.hid hc8;have HD8:=Lib.hid hd8;have HK8:=Lib.hid hk8;have HR:=Lib.hid (show ApplyR g bm L (ss,ky) ⟨t,r,v,gn,l⟩ w (.returned (.bool false)) w8 from ⟨by rw [Hnew.out],by rw [Hta.out];exact H6.out.keeps HK8.out (by omega) (by omega),Keeps.of_below (HB6.out.trans (HK8.out.below (B:=w.heap.size) (fun i hi e=>by omega) (by omega)))⟩);clear hc8 hd8 hk8 hs8))
   go_ret
   exact HR.out
end Go.Proofs.YtdaphppdmnmicaaGreatDoor.store
namespace Go.Proofs.YtdaphppdmnmicaaGreatDoor.store
open Go Go.RowKit base map_ err cmp above law merge rows rowe Go.Maps monoj
def s11:ByteArray:=⟨#[49,45,49]⟩
def kA:ByteArray:=⟨#[97]⟩
def k0:ByteArray:=⟨#[]⟩
def c1:C:=⟨1,1,⟨#[97,110,110]⟩,false,0⟩
def c2:C:=⟨2,1,⟨#[120]⟩,false,0⟩
def c3:C:=⟨3,1,⟨#[]⟩,true,0⟩
def L1:List R:=takeL [] (s11,k0) c1
def L2:List R:=takeL L1 (s11,kA) c2
def L3:List R:=takeL L2 (s11,k0) c3
theorem up1:Rising L1:=rising_take rising_nil _ _
theorem up2:Rising L2:=rising_take up1 _ _
theorem k_ne:(s11,kA) ≠ (s11,k0):=by decide
theorem g1 (y:Nm):getL L1 y=if y=(s11,k0) then some c1 else none:=by
 unfold L1;rw [getL_take rising_nil];rfl
theorem g2 (y:Nm):getL L2 y=if y=(s11,kA) then some c2 else if y=(s11,k0) then some c1 else none:=by
 unfold L2
 rw [getL_take up1,g1,g1,if_neg k_ne];rfl
theorem g3 (y:Nm):getL L3 y=if y=(s11,k0) then some c3 else if y=(s11,kA) then some c2 else none:=by
 unfold L3
 rw [getL_take up2,g2,g2,if_neg (Ne.symm k_ne),if_pos rfl]
 have:takeC (some c1) c3=c3:=by show (if above c3 c1=true then c3 else c1)=c3;exact if_pos (by decide)
 rw [this]
 by_cases h:y=(s11,k0)
 ·rw [if_pos h,if_pos h]
 ·rw [if_neg h,if_neg h,if_neg h]
end Go.Proofs.YtdaphppdmnmicaaGreatDoor.store
