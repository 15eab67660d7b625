/- Part of GateRetires. -/
import Derived.Test.YthlahcnglacekaaGreatDoorB19
import Derived.Test.YthlahcnglacekaaGreatDoorB06
set_option maxRecDepth 100000
set_option maxHeartbeats 16000000
namespace Go.Proofs.YthlahcnglacekaaGreatDoor
namespace dep
open Go Go.RowKit base rowe wire vec
def readyB (ap:List Int) (x:Wr):Bool:=decide (atV ap x.r=x.n-1)&&coversB ap x.z
theorem ready_any (g:Nat) (rg:Int) (A:Option Addr) (n c:Nat) (ap:List Int) (vw:Value) (x:Wr) (A2:Option Addr) (n2 c2:Nat) (w:World) (hb:Blk w g 261 #[.int .i64 rg,.slice A n c,vw])
  (ha:Vec w w.heap.size A n c ap) (hd:x.d=.slice A2 n2 c2) (hx:Vec w w.heap.size A2 n2 c2 x.z) (h1:n≤1000000) (h2:n2≤1000000) (hr:1≤x.r∧x.r≤16) (hn:1≤x.n∧x.n≤1099511627776) :
  Calls Tryz.prog 261 #[.pointer (some ⟨g,0,none⟩),.agg ⟨x.cells⟩] w fun e w'=>e=.returned (.bool (readyB ap x))∧Below w.heap.size w w':=by
 obtain ⟨r,nn,t,s,d,zs,se,k,v,gn,l⟩:=x;dsimp only at hd hx hr hn;subst hd;unfold readyB Wr.cells;dsimp only;have hb0:=below_new w (.cells #[.int .i64 r,.int .i64 nn,.int .i64 t,.int .i64 s,.slice A2 n2 c2,.string se,.string k,.string v,.bool gn,.int .i64 l] 188);have HB:=qH (hb.below hb0 hb.lt);have HXX:=qH (Blk.new w 188 #[.int .i64 r,.int .i64 nn,.int .i64 t,.int .i64 s,.slice A2 n2 c2,.string se,.string k,.string v,.bool gn,.int .i64 l]);have HA:=qH ((ha.below hb0).more hb0.size);have HX:=qH ((hx.below hb0).more hb0.size);have HB0:=qH hb0;clear hb ha hx hb0;go_enter Tryz.func261,Tryz.ntmps261;go_wp2_with fail;generalize w.alloc (.cells #[.int .i64 r,.int .i64 nn,.int .i64 t,.int .i64 s,.slice A2 n2 c2,.string se,.string k,.string v,.bool gn,.int .i64 l] 188)=V at *;have hw1:IntKind.i64.wrap (nn-1)=nn-1:=by rw [IntKind.wrap_i64];omega
 by_cases hq:atV ap r=nn-1
 ·have dq:(atV ap r==nn-1)=true:=by simpa using hq
  refine wp_region_mono nobody (by kernel_rfl) ?_
  iterate 9
   first|refine qT 0 (v:=?_) ?_ ?_|refine qT 1 (v:=?_) ?_ ?_|refine qT 2 (v:=?_) ?_ ?_|refine qT 3 (v:=?_) ?_ ?_|refine qT 4 (v:=?_) ?_ ?_|refine qT 5 (v:=?_) ?_ ?_|refine qT 7 (v:=?_) ?_ ?_|refine qT 8 (v:=?_) ?_ ?_|refine qT 9 (v:=?_) ?_ ?_
   rotate_left
   ·(intro W hSw;(try (have hg:=HB.out.drew.keeps hSw (fun h=>h);have hx:=HXX.out.drew.keeps hSw (fun h=>h);have k1:=hg.cell 1;have x0:=hx.cell 0;have x1:=hx.cell 1;have x4:=hx.cell 4;have hl:=hg.lt;have hl2:=hx.lt;simp at k1 x0 x1 x4));go_simp <;> rfl)
   try simp only [qPA]
   (try rw [hw1]);(try rw [dq])
  refine wpMono_one' 6 (by kernel_rfl) rfl (by rfl) (fun K hK=>?_)
  go_simp
  refine (at_any A n c ap r _ _ (HA.out.below (Below.refl _ _).drew) (by omega)).mono ?_;rintro e w1 ⟨rfl,rfl⟩;refine hK.out _ _ ?_ ?_
  ·exact Keeps.refl _ _
  clear hK K
  try simp only [qPA]
  (try rw [hw1]);(try rw [dq])
  iterate 8
   first|refine qT 10 (v:=?_) ?_ ?_|refine qT 11 (v:=?_) ?_ ?_|refine qT 12 (v:=?_) ?_ ?_|refine qT 13 (v:=?_) ?_ ?_|refine qT 14 (v:=?_) ?_ ?_|refine qT 15 (v:=?_) ?_ ?_|refine qT 16 (v:=?_) ?_ ?_|refine qT 17 (v:=?_) ?_ ?_
   rotate_left
   ·(intro W hSw;(try (have hg:=HB.out.drew.keeps hSw (fun h=>h);have hx:=HXX.out.drew.keeps hSw (fun h=>h);have k1:=hg.cell 1;have x0:=hx.cell 0;have x1:=hx.cell 1;have x4:=hx.cell 4;have hl:=hg.lt;have hl2:=hx.lt;simp at k1 x0 x1 x4));go_simp <;> rfl)
   try simp only [qPA]
   (try rw [hw1]);(try rw [dq])
  refine wpMono_one' 18 (by kernel_rfl) rfl (by rfl) (fun K hK=>?_)
  go_simp
  refine (covers_any A n c ap A2 n2 c2 zs _ _ (HA.out.below (Below.refl _ _).drew) (HX.out.below (Below.refl _ _).drew) h1 h2).mono ?_;rintro e w1 ⟨rfl,rfl⟩;refine hK.out _ _ ?_ ?_
  ·exact Keeps.refl _ _
  clear hK K
  try simp only [qPA]
  (try rw [hw1]);(try rw [dq])
  iterate 2
   first|refine qT 19 (v:=?_) ?_ ?_|refine qT 20 (v:=?_) ?_ ?_
   rotate_left
   ·(intro W hSw;(try (have hg:=HB.out.drew.keeps hSw (fun h=>h);have hx:=HXX.out.drew.keeps hSw (fun h=>h);have k1:=hg.cell 1;have x0:=hx.cell 0;have x1:=hx.cell 1;have x4:=hx.cell 4;have hl:=hg.lt;have hl2:=hx.lt;simp at k1 x0 x1 x4));go_simp <;> rfl)
   try simp only [qPA]
   (try rw [hw1]);(try rw [dq])
  refine wpMono_done (by kernel_rfl) ?_ _;go_wp2_with fail;go_ret
  exact ⟨by rw [decide_eq_true hq,Bool.true_and];rfl,HB0.out.trans (((Below.refl _ V).drew).mono HB0.out.size)⟩
 ·have dq:(atV ap r==nn-1)=false:=by simpa using hq
  refine wp_region_mono nobody (by kernel_rfl) ?_
  iterate 9
   first|refine qT 0 (v:=?_) ?_ ?_|refine qT 1 (v:=?_) ?_ ?_|refine qT 2 (v:=?_) ?_ ?_|refine qT 3 (v:=?_) ?_ ?_|refine qT 4 (v:=?_) ?_ ?_|refine qT 5 (v:=?_) ?_ ?_|refine qT 7 (v:=?_) ?_ ?_|refine qT 8 (v:=?_) ?_ ?_|refine qT 9 (v:=?_) ?_ ?_
   rotate_left
   ·(intro W hSw;(try (have hg:=HB.out.drew.keeps hSw (fun h=>h);have hx:=HXX.out.drew.keeps hSw (fun h=>h);have k1:=hg.cell 1;have x0:=hx.cell 0;have x1:=hx.cell 1;have x4:=hx.cell 4;have hl:=hg.lt;have hl2:=hx.lt;simp at k1 x0 x1 x4));go_simp <;> rfl)
   try simp only [qPA]
   (try rw [hw1]);(try rw [dq])
  refine wpMono_one' 6 (by kernel_rfl) rfl (by rfl) (fun K hK=>?_)
  go_simp
  refine (at_any A n c ap r _ _ (HA.out.below (Below.refl _ _).drew) (by omega)).mono ?_;rintro e w1 ⟨rfl,rfl⟩;refine hK.out _ _ ?_ ?_
  ·exact Keeps.refl _ _
  clear hK K
  try simp only [qPA]
  (try rw [hw1]);(try rw [dq])
  iterate 2
   first|refine qT 10 (v:=?_) ?_ ?_|refine qT 11 (v:=?_) ?_ ?_
   rotate_left
   ·(intro W hSw;(try (have hg:=HB.out.drew.keeps hSw (fun h=>h);have hx:=HXX.out.drew.keeps hSw (fun h=>h);have k1:=hg.cell 1;have x0:=hx.cell 0;have x1:=hx.cell 1;have x4:=hx.cell 4;have hl:=hg.lt;have hl2:=hx.lt;simp at k1 x0 x1 x4));go_simp <;> rfl)
   try simp only [qPA]
   (try rw [hw1]);(try rw [dq])
  refine wpMono_skip' 12 rfl (by kernel_rfl) (by kernel_rfl) (by kernel_rfl) (fun _ _ _ h=>h) (by rfl) ?_
  try simp only [qPA]
  (try rw [hw1]);(try rw [dq])
  refine wpMono_skip' 13 rfl (by kernel_rfl) (by kernel_rfl) (by kernel_rfl) (fun _ _ _ h=>h) (by rfl) ?_
  try simp only [qPA]
  (try rw [hw1]);(try rw [dq])
  refine wpMono_skip' 14 rfl (by kernel_rfl) (by kernel_rfl) (by kernel_rfl) (fun _ _ _ h=>h) (by rfl) ?_
  try simp only [qPA]
  (try rw [hw1]);(try rw [dq])
  refine wpMono_skip' 15 rfl (by kernel_rfl) (by kernel_rfl) (by kernel_rfl) (fun _ _ _ h=>h) (by rfl) ?_
  try simp only [qPA]
  (try rw [hw1]);(try rw [dq])
  refine wpMono_skip' 16 rfl (by kernel_rfl) (by kernel_rfl) (by kernel_rfl) (fun _ _ _ h=>h) (by rfl) ?_
  try simp only [qPA]
  (try rw [hw1]);(try rw [dq])
  refine wpMono_skip' 17 rfl (by kernel_rfl) (by kernel_rfl) (by kernel_rfl) (fun _ _ _ h=>h) (by rfl) ?_
  try simp only [qPA]
  (try rw [hw1]);(try rw [dq])
  refine wpMono_skip' 18 rfl (by kernel_rfl) (by kernel_rfl) (by kernel_rfl) (fun _ _ _ h=>h) (by rfl) ?_
  try simp only [qPA]
  (try rw [hw1]);(try rw [dq])
  iterate 2
   first|refine qT 19 (v:=?_) ?_ ?_|refine qT 20 (v:=?_) ?_ ?_
   rotate_left
   ·(intro W hSw;(try (have hg:=HB.out.drew.keeps hSw (fun h=>h);have hx:=HXX.out.drew.keeps hSw (fun h=>h);have k1:=hg.cell 1;have x0:=hx.cell 0;have x1:=hx.cell 1;have x4:=hx.cell 4;have hl:=hg.lt;have hl2:=hx.lt;simp at k1 x0 x1 x4));go_simp <;> rfl)
   try simp only [qPA]
   (try rw [hw1]);(try rw [dq])
  refine wpMono_done (by kernel_rfl) ?_ _;go_wp2_with fail;go_ret
  exact ⟨by rw [decide_eq_false hq,Bool.false_and];rfl,HB0.out.trans (((Below.refl _ V).drew).mono HB0.out.size)⟩
end dep
namespace dep
open Go Go.RowKit base rowe wire vec cmp
def WaitOk (w:World) (x:Wr):Prop:=∃ A n c,x.d=.slice A n c∧Vec w w.heap.size A n c x.z∧n≤1000000∧(1≤x.r∧x.r≤16)∧(1≤x.n∧x.n≤1099511627776)
theorem WaitOk.below {w w':World} {x:Wr} (h:WaitOk w x) (hb:Below w.heap.size w w'):WaitOk w' x:=by
 obtain ⟨A,n,c,h1,h2,h3⟩:=h;exact ⟨A,n,c,h1,(h2.below hb).more hb.size,h3⟩
def IndexR (ap:List Int) (ws:List Wr) (e:Ending):Prop :=
 (∃ k:Nat,k<ws.length∧readyB ap (ws.getD k wrZ)=true∧(∀ j,j<k→readyB ap (ws.getD j wrZ)=false)∧e=.returned (.int .i64 k)) ∨
 ((∀ j,j<ws.length→readyB ap (ws.getD j wrZ)=false)∧e=.returned (.int .i64 (-1)))
theorem index_ready (g:Nat) (rg:Int) (A:Option Addr) (n c:Nat) (ap:List Int) (vw:Value) (A3:Option Addr) (m c3:Nat) (ws:List Wr) (w:World) (hb:Blk w g 261 #[.int .i64 rg,.slice A n c,vw])
  (ha:Vec w w.heap.size A n c ap) (h1:n≤1000000) (hr:Reads w w.heap.size 10 A3 m (ws.flatMap Wr.cells)) (hl:ws.length=m) (hm:m≤1000000) (hw:∀ x ∈ ws,WaitOk w x) :
  Calls Tryz.prog 260 #[.slice A3 m c3,.func (.func 261) #[.pointer (some ⟨g,0,none⟩)] #[]] w fun e w'=>IndexR ap ws e∧Below w.heap.size w w':=by
 have HB:=qH hb;have HA:=qH ha;have HR:=qH hr;have HW:=qH hw;have hgl:=hb.lt;clear hb ha hr hw;go_enter Tryz.func260,Tryz.ntmps260;go_wp2_with fail
 go_loopw [5,8] (fun _ k wr=>∃ i:Nat,i≤m∧k=.int .i64 i∧(∀ j,j<i→readyB ap (ws.getD j wrZ)=false)∧Below w.heap.size w wr) (fun _ k _=>m-(intOf k).toNat)
 case atStart=>exact ⟨0,by omega,rfl,fun j h=>by omega,Below.refl _ _⟩
 case round =>
  obtain ⟨i,him,rfl,hno,hbr⟩:=hrel;have HNO:=qH hno;have HBr:=qH hbr;clear hno hbr
  by_cases hlt:i<m
  ·obtain ⟨b,off,rfl,hbl⟩:=HR.out.at_some (by omega)
   have hmn:i<ws.length:=by omega
   have hmem:ws.getD i wrZ ∈ ws:=by rw [List.getD_eq_getElem?_getD,List.getElem?_eq_getElem hmn];exact List.getElem_mem hmn
   have HE:=qH (show ∀ q v,(ws.getD i wrZ).cells[q]?=some v→wr.cell? ⟨b,off+i*10+q,none⟩=some v from fun q v hq=>by
    have hq2:q<10:=by
     have:=(List.getElem?_eq_some_iff.1 hq).1
     rwa [Wr.len] at this
    have h5:=Reads.thing Wr.cells Wr.len HR.out (k:=i) (x:=ws.getD i wrZ) (by omega) (by rw [List.getD_eq_getElem?_getD,List.getElem?_eq_getElem hmn];rfl) q hq2;rw [HBr.out.cell (p:=⟨b,off+i*10+q,none⟩) hbl,h5,hq])
   obtain ⟨A2,n2,c2,hd,hv,hn2,hrr,hnn⟩:=(HW.out _ hmem).below HBr.out;obtain ⟨y,hy⟩:∃ y,ws.getD i wrZ=y:=⟨_,rfl⟩;rw [hy] at HE hd hv hrr hnn;have HY:=qH hy;have HV:=qH hv;have HD:=qH hd;clear hy hv hd hmem
   go_wp2_with (refine wpList_load_at rfl 188 (.tmp 14) rfl b (off+i*10) y.cells rfl Tryz.underlying188 rfl (by rw [Wr.len];kernel_rfl) HE.out ?_)
   refine (ready_any g rg A n c ap vw y A2 n2 c2 wr (HB.out.below HBr.out hgl) ((HA.out.below HBr.out).more HBr.out.size) HD.out HV.out h1 hn2 hrr hnn).mono ?_;rintro e w1 ⟨rfl,hb1⟩;have HB1:=qH (below_step HBr.out hb1);clear hb1
   cases hq:readyB ap y with
   | true =>
    go_wp2_with fail;go_ret
    exact ⟨.inl ⟨i,hmn,by rw [HY.out];exact hq,HNO.out,rfl⟩,HB1.out⟩
   | false =>
    go_wp2_with fail;go_roundw
    case rel=>exact ⟨i+1,by omega,by go_num,fun j hj=>(Nat.lt_succ_iff_lt_or_eq.1 hj).elim (HNO.out j) (fun e=>by rw [e,HY.out];exact hq),HB1.out⟩
    case measure=>(simp [intOf];try omega)
  ·obtain rfl:i=m:=by omega
   go_wp2_with fail;go_ret
   exact ⟨.inr ⟨fun j hj=>HNO.out j (by omega),rfl⟩,HBr.out⟩
end dep
end Go.Proofs.YthlahcnglacekaaGreatDoor
