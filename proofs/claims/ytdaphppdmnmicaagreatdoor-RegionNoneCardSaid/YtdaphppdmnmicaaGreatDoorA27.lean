/- A part of the proof of RegionNone: GreatO. -/
import Derived.Test.YtdaphppdmnmicaaGreatDoorA14
import Derived.Test.YtdaphppdmnmicaaGreatDoorA01
import Derived.Deep.DeepCutAuto
import Derived.Deep.Cut
import Derived.Deep.CutBlock
namespace Go.Proofs.YtdaphppdmnmicaaGreatDoor.regn
open Go Go.RowKit base rowe list new wire monoj
def opZR:Array Value:=#[.int .i64 0,.slice none 0 0,.string ⟨#[]⟩,.int .i64 0,.int .i64 0,.int .i64 0,.slice none 0 0,.slice none 0 0,.int .i64 0,.int .i64 0,.slice none 0 0,.int .i64 0,.string ⟨#[]⟩,.bool false,.int .i64 0,
  .int .i64 0,.int .i64 0,.int .i64 0,.int .i64 0,.slice none 0 0,.string ⟨#[]⟩,.string ⟨#[]⟩,.string ⟨#[]⟩,.bool false,.int .i64 0,.string ⟨#[]⟩,.int .i64 0,.int .i64 0,.int .i64 0,.int .i64 0,.int .i64 0,.int .i64 0,.slice none 0 0,
  .string ⟨#[]⟩,.string ⟨#[]⟩,.int .i64 0,.int .i64 0,.string ⟨#[]⟩,.bool false,.int .i64 0]
theorem write_infoG:(Tryz.prog.info? 34).map (fun i=>(i.zero,i.size,i.bytes))=some (some (.agg #[.int .i64 0,.int .i64 0,.int .i64 0,.int .i64 0,.slice none 0 0,.string ⟨#[]⟩,.string ⟨#[]⟩,.string ⟨#[]⟩,.bool false,.int .i64 0]),10,120):=by kernel_rfl
def GreatR (w:World) (e:Ending) (w':World):Prop:=∃ b,e=.returned (.bool b)∧Below w.heap.size w w'
set_option maxRecDepth 20000 in
set_option maxHeartbeats 4000000 in
theorem great_o (g:Nat) (x:OpD) (Lc:List Ch5) (Lw:List Wr) (L:List Ep) (w:World)
  (hc:∀ j v,x.cells[j]?=some v→w.cell? ⟨g,0 + j,none⟩=some v) (hg:g < w.heap.size) (hO:OpArgR w x Lc Lw L) :
  Calls Tryz.prog 5 #[.slice (some ⟨g,0,none⟩) 1 1,.int .i64 1] w (GreatR w):=by
 obtain ⟨⟨hc1,hc2⟩,⟨hw1,hw2,hw3⟩,hE⟩:=hO
 have HC:=Lib.hid hc
 have HCL:=Lib.hid hc1
 have HRC:=Lib.hid hc2
 have HL:=Lib.hid hw1
 have HRW:=Lib.hid hw2
 have HDP:=Lib.hid hw3
 have HE:=Lib.hid hE
 clear hc hc1 hc2 hw1 hw2 hw3 hE
 obtain ⟨k,A0,nl,c0,u,n,a,mk,A1,nw,c1,A2,nh,c2,ck,tm,A,len,cap,key,tx,dv,rk,rr,rn,rt,rg,A4,n4,c4,rs,rq,rv,ro,rl,eu,ee,fn,fc,fm,fk,fb,A5,n5,c5,ws,wk,wt,wg,wv,wo,wl⟩:=x
 dsimp only at HC HCL HRC HL HRW HDP HE
 obtain ⟨X,hX⟩:∃ X:OpD,X=⟨k,A0,nl,c0,u,n,a,mk,A1,nw,c1,A2,nh,c2,ck,tm,A,len,cap,key,tx,dv,rk,rr,rn,rt,rg,A4,n4,c4,rs,rq,rv,ro,rl,eu,ee,fn,fc,fm,fk,fb,A5,n5,c5,ws,wk,wt,wg,wv,wo,wl⟩:=⟨_,rfl⟩
 rw [← hX] at HC
 have HX:=Lib.hid hX
 clear hX
 go_enter Tryz.func5,Tryz.ntmps5
 go_wp2_with fail
 go_loopw [19,6,8,10,12] (fun i _ _ _ _ wr=>(i=.int .i64 0∧wr=w) ∨ (i=.int .i64 1∧Below w.heap.size w wr)) (fun i _ _ _ _ _=>1 - (intOf i).toNat)
 case atStart=>exact .inl ⟨rfl,rfl⟩
 case round =>
  rcases hrel with ⟨rfl,rfl⟩|⟨rfl,hb⟩
  rotate_left
  ·go_wp2_with fail
   go_ret
   exact ⟨false,rfl,hb⟩
  have hone:=X.one
  have hsz:=X.len
  obtain ⟨cs,hcs⟩:∃ cs,X.cells=cs:=⟨_,rfl⟩
  have HCS:=Lib.hid hcs
  rw [hcs] at HC hone hsz
  clear hcs
  have hz:=Blk.new wr 44 opZR
  have hbz:=below_new wr (.cells opZR 44)
  unfold opZR at hz hbz
  have HZ:=Lib.hid hz
  have HBZ:=Lib.hid hbz
  clear hz hbz
  have hi44:(Tryz.prog.info? 44).map (·.size)=some cs.length:=by rw [hsz];kernel_rfl
  have hey:∀ w1:World,Blk w1 wr.heap.size 44 cs.toArray→w1.cell? ⟨wr.heap.size,1,none⟩=some (.slice A0 nl c0)∧w1.cell? ⟨wr.heap.size,2,none⟩=some (.string u)∧w1.cell? ⟨wr.heap.size,6,none⟩=some (.slice A1 nw c1)∧w1.cell? ⟨wr.heap.size,7,none⟩=some (.slice A2 nh c2) ∧
    w1.cell? ⟨wr.heap.size,10,none⟩=some (.slice A len cap)∧w1.cell? ⟨wr.heap.size,12,none⟩=some (.string tx)∧wr.heap.size < w1.heap.size:=fun w1 h=>by
   rw [← HCS.out,HX.out] at h
   exact ⟨h.cell 1,h.cell 2,h.cell 6,h.cell 7,h.cell 10,h.cell 12,h.lt⟩
  have HEY:=Lib.hid hey
  clear hey
  by_cases a0:12 < nl
  ·have d0:decide ((12:Int) < (nl:Int))=true:=decide_eq_true (by omega)
   go_wp2_with (first|(refine wpList_load_at rfl 44 (.tmp 21) rfl g 0 cs rfl Tryz.underlying44 rfl hi44 HC.out ?_)|(refine wpList_store_blk rfl 44 (.tmp 6) (.tmp 22) rfl wr.heap.size cs rfl rfl HZ.out hi44 hsz.symm hone ?_;intro w1 ho1 hk1 hs1;obtain ⟨q1,q2,q6,q7,q10,q12,hol⟩:=HEY.out w1 ho1))
   go_ret
   have hb1:Below wr.heap.size wr w1:=HBZ.out.trans (hk1.below (B:=wr.heap.size) (fun i hi e=>by have e:i=wr.heap.size:=e;omega) HBZ.out.size)
   exact ⟨true,rfl,hb1⟩
  have d0:decide ((12:Int) < (nl:Int))=false:=decide_eq_false (by omega)
  by_cases a1:1000 < u.size
  ·have d1:decide ((1000:Int) < (u.size:Int))=true:=decide_eq_true (by omega)
   go_wp2_with (first|(refine wpList_load_at rfl 44 (.tmp 21) rfl g 0 cs rfl Tryz.underlying44 rfl hi44 HC.out ?_)|(refine wpList_store_blk rfl 44 (.tmp 6) (.tmp 22) rfl wr.heap.size cs rfl rfl HZ.out hi44 hsz.symm hone ?_;intro w1 ho1 hk1 hs1;obtain ⟨q1,q2,q6,q7,q10,q12,hol⟩:=HEY.out w1 ho1))
   go_ret
   have hb1:Below wr.heap.size wr w1:=HBZ.out.trans (hk1.below (B:=wr.heap.size) (fun i hi e=>by have e:i=wr.heap.size:=e;omega) HBZ.out.size)
   exact ⟨true,rfl,hb1⟩
  have d1:decide ((1000:Int) < (u.size:Int))=false:=decide_eq_false (by omega)
  by_cases a2:3000 < tx.size
  ·have d2:decide ((3000:Int) < (tx.size:Int))=true:=decide_eq_true (by omega)
   go_wp2_with (first|(refine wpList_load_at rfl 44 (.tmp 21) rfl g 0 cs rfl Tryz.underlying44 rfl hi44 HC.out ?_)|(refine wpList_store_blk rfl 44 (.tmp 6) (.tmp 22) rfl wr.heap.size cs rfl rfl HZ.out hi44 hsz.symm hone ?_;intro w1 ho1 hk1 hs1;obtain ⟨q1,q2,q6,q7,q10,q12,hol⟩:=HEY.out w1 ho1))
   go_ret
   have hb1:Below wr.heap.size wr w1:=HBZ.out.trans (hk1.below (B:=wr.heap.size) (fun i hi e=>by have e:i=wr.heap.size:=e;omega) HBZ.out.size)
   exact ⟨true,rfl,hb1⟩
  have d2:decide ((3000:Int) < (tx.size:Int))=false:=decide_eq_false (by omega)
  by_cases a3:10 < nw
  ·have d3:decide ((10:Int) < (nw:Int))=true:=decide_eq_true (by omega)
   go_wp2_with (first|(refine wpList_load_at rfl 44 (.tmp 21) rfl g 0 cs rfl Tryz.underlying44 rfl hi44 HC.out ?_)|(refine wpList_store_blk rfl 44 (.tmp 6) (.tmp 22) rfl wr.heap.size cs rfl rfl HZ.out hi44 hsz.symm hone ?_;intro w1 ho1 hk1 hs1;obtain ⟨q1,q2,q6,q7,q10,q12,hol⟩:=HEY.out w1 ho1))
   go_ret
   have hb1:Below wr.heap.size wr w1:=HBZ.out.trans (hk1.below (B:=wr.heap.size) (fun i hi e=>by have e:i=wr.heap.size:=e;omega) HBZ.out.size)
   exact ⟨true,rfl,hb1⟩
  have d3:decide ((10:Int) < (nw:Int))=false:=decide_eq_false (by omega)
  by_cases a4:30 < nh
  ·have d4:decide ((30:Int) < (nh:Int))=true:=decide_eq_true (by omega)
   go_wp2_with (first|(refine wpList_load_at rfl 44 (.tmp 21) rfl g 0 cs rfl Tryz.underlying44 rfl hi44 HC.out ?_)|(refine wpList_store_blk rfl 44 (.tmp 6) (.tmp 22) rfl wr.heap.size cs rfl rfl HZ.out hi44 hsz.symm hone ?_;intro w1 ho1 hk1 hs1;obtain ⟨q1,q2,q6,q7,q10,q12,hol⟩:=HEY.out w1 ho1))
   go_ret
   have hb1:Below wr.heap.size wr w1:=HBZ.out.trans (hk1.below (B:=wr.heap.size) (fun i hi e=>by have e:i=wr.heap.size:=e;omega) HBZ.out.size)
   exact ⟨true,rfl,hb1⟩
  have d4:decide ((30:Int) < (nh:Int))=false:=decide_eq_false (by omega)
  by_cases a5:70 < len
  ·have d5:decide ((70:Int) < (len:Int))=true:=decide_eq_true (by omega)
   go_wp2_with (first|(refine wpList_load_at rfl 44 (.tmp 21) rfl g 0 cs rfl Tryz.underlying44 rfl hi44 HC.out ?_)|(refine wpList_store_blk rfl 44 (.tmp 6) (.tmp 22) rfl wr.heap.size cs rfl rfl HZ.out hi44 hsz.symm hone ?_;intro w1 ho1 hk1 hs1;obtain ⟨q1,q2,q6,q7,q10,q12,hol⟩:=HEY.out w1 ho1))
   go_ret
   have hb1:Below wr.heap.size wr w1:=HBZ.out.trans (hk1.below (B:=wr.heap.size) (fun i hi e=>by have e:i=wr.heap.size:=e;omega) HBZ.out.size)
   exact ⟨true,rfl,hb1⟩
  have d5:decide ((70:Int) < (len:Int))=false:=decide_eq_false (by omega)
  go_wp2_with (first|(refine wpList_load_at rfl 44 (.tmp 21) rfl g 0 cs rfl Tryz.underlying44 rfl hi44 HC.out ?_)|(refine wpList_store_blk rfl 44 (.tmp 6) (.tmp 22) rfl wr.heap.size cs rfl rfl HZ.out hi44 hsz.symm hone ?_;intro w1 ho1 hk1 hs1;obtain ⟨q1,q2,q6,q7,q10,q12,hol⟩:=HEY.out w1 ho1))
  have hb1:Below wr.heap.size wr w1:=HBZ.out.trans (hk1.below (B:=wr.heap.size) (fun i hi e=>by have e:i=wr.heap.size:=e;omega) HBZ.out.size)
  have HB1:=Lib.hid hb1
  rw [← HCS.out,HX.out] at ho1
  have HO1:=Lib.hid ho1
  have HRC1:=Lib.hid ((HRC.out.below hb1).more hb1.size)
  have HRW1:=Lib.hid ((HRW.out.below hb1).more hb1.size)
  have HE1:=Lib.hid (HE.out.below hb1)
  clear ho1 hk1 hs1 hb1 HZ HBZ HCS HX HC HRC HRW HE hone hsz HEY hi44
  obtain ⟨o,ho⟩:∃ o,wr.heap.size=o:=⟨_,rfl⟩
  have HOW:=Lib.hid ho
  rw [ho] at q1 q2 q6 q7 q10 q12 hol HO1 ⊢
  clear ho
  go_loopw [63,8] (fun i _ wq=>∃ j:Nat,i=.int .i64 j∧j≤nl∧Below w1.heap.size w1 wq) (fun i _ _=>nl - (intOf i).toNat)
  case atStart=>exact ⟨0,rfl,by omega,Below.refl _ _⟩
  case round =>
   obtain ⟨j,rfl,hj,hb⟩:=hrel
   have hsq:=hb.size
   by_cases hjn:j < nl
   ·have dj:decide ((j:Int) < (nl:Int))=true:=decide_eq_true (by omega)
    obtain ⟨b,off,rfl,hbb⟩:=HRC1.out.at_some (by omega)
    have hjl:j < Lc.length:=by rw [HCL.out];exact hjn
    obtain ⟨y,hy⟩:∃ y,Lc[j]?=some y:=⟨_,List.getElem?_eq_getElem hjl⟩
    have hth:=fun q hq=>Reads.thing Ch5.cells Ch5.len (HRC1.out.below hb) (k:=j) (x:=y) hjn hy q hq
    obtain ⟨ys,yk,yv,yg,yl⟩:=y
    have x0:=hth 0 (by omega)
    have x1:=hth 1 (by omega)
    have x2:=hth 2 (by omega)
    have x3:=hth 3 (by omega)
    have x4:=hth 4 (by omega)
    simp [Ch5.cells] at x0 x1 x2 x3 x4
    have HBj:=Lib.hid hb
    clear hth hb hy
    by_cases e1:200 < ys.size
    ·have d1:decide ((200:Int) < (ys.size:Int))=true:=decide_eq_true (by omega)
     go_wp2_with fail
     go_ret
     exact ⟨true,rfl,(HB1.out.trans (HBj.out.mono HB1.out.size)).trans ((below_new _ _).mono (Nat.le_trans HB1.out.size hsq))⟩
    have d1:decide ((200:Int) < (ys.size:Int))=false:=decide_eq_false (by omega)
    by_cases e2:200 < yk.size
    ·have d2:decide ((200:Int) < (yk.size:Int))=true:=decide_eq_true (by omega)
     go_wp2_with fail
     go_ret
     exact ⟨true,rfl,(HB1.out.trans (HBj.out.mono HB1.out.size)).trans ((below_new _ _).mono (Nat.le_trans HB1.out.size hsq))⟩
    have d2:decide ((200:Int) < (yk.size:Int))=false:=decide_eq_false (by omega)
    by_cases e3:300 < yv.size
    ·have d3:decide ((300:Int) < (yv.size:Int))=true:=decide_eq_true (by omega)
     go_wp2_with fail
     go_ret
     exact ⟨true,rfl,(HB1.out.trans (HBj.out.mono HB1.out.size)).trans ((below_new _ _).mono (Nat.le_trans HB1.out.size hsq))⟩
    have d3:decide ((300:Int) < (yv.size:Int))=false:=decide_eq_false (by omega)
    go_wp2_with fail
    go_roundw
    case rel=>exact ⟨j + 1,by go_num,by omega,HBj.out.trans ((below_new _ _).mono hsq)⟩
    case measure=>simp [intOf];omega
   obtain rfl:j=nl:=by omega
   have dj:decide ((j:Int) < (j:Int))=false:=by simp
   have HO1:=Lib.hid (HO1.out.below hb hol)
   have HRW1:=Lib.hid ((HRW1.out.below hb).more hsq)
   have HE1:=Lib.hid (HE1.out.below (hb.mono HB1.out.size))
   have HB1:=Lib.hid (HB1.out.trans (hb.mono HB1.out.size))
   have q6:wr.cell? ⟨o,6,none⟩=some (.slice A1 nw c1):=HO1.out.cell 6
   have hol:=Nat.lt_of_lt_of_le hol hsq
   clear hb hjn
   obtain ⟨W0,hW0⟩:∃ W0:Wr,⟨rr,rn,rt,rg,.slice A4 n4 c4,[],rs,rq,rv,ro,rl⟩=W0:=⟨_,rfl⟩
   have HW0:=Lib.hid hW0
   clear hW0
   obtain ⟨n0,hn0⟩:∃ n,wr.heap.size=n:=⟨_,rfl⟩
   have HRc:=Lib.hid HRW1.out
   rw [hn0] at HRc
   have hon:¬ n0≤o:=by omega
   have HN0:=Lib.hid hn0
   obtain ⟨i0,hi0,hz⟩:=Option.map_eq_some_iff.1 write_infoG
   simp only [Prod.mk.injEq] at hz
   have HI0:=Lib.hid (And.intro hi0 hz)
   have HON:=Lib.hid (show ∀ u ∈ Lw.flatMap Wr.cells,u.oneCell'=true from fun u hu=>by
    obtain ⟨x,hx,hu⟩:=List.mem_flatMap.1 hu
    obtain ⟨a,m,c,hd⟩:=HDP.out x hx
    simp only [Wr.cells,List.mem_cons,List.not_mem_nil,or_false,hd] at hu
    rcases hu with rfl|rfl|rfl|rfl|rfl|rfl|rfl|rfl|rfl|rfl <;> rfl)
   have HOZ:=Lib.hid (show ∀ u ∈ ([.int .i64 rr,.int .i64 rn,.int .i64 rt,.int .i64 rg,.slice A4 n4 c4,.string rs,.string rq,.string rv,.bool ro,.int .i64 rl]:List Value),u.oneCell'=true from fun u hu=>by
    simp only [List.mem_cons,List.not_mem_nil,or_false] at hu
    rcases hu with rfl|rfl|rfl|rfl|rfl|rfl|rfl|rfl|rfl|rfl <;> rfl)
   clear hi0 hz hn0
   obtain ⟨n1,hn1⟩:∃ n,nw + 1=n:=⟨_,rfl⟩
   go_upto_region 14 with fail
   go_cut [93,94,95] (fun v n i wx=>∃ A9 c9,v=.slice A9 n1 c9∧n=.int .i64 n1∧i=.int .i64 0∧Reads wx wx.heap.size 10 A9 n1 ((Lw ++ [W0]).flatMap Wr.cells)∧Below n0 wr wx)
   case first =>
    go_wp2_with fail
    refine wp_region_monoJ (fun i=>n0≤i) [4,9] (by kernel_rfl) ?_
    have HOc:=Lib.hid (Blk.drew HO1.out)
    have HRc:=Lib.hid (show Reads wr.drew n0 10 A1 nw (Lw.flatMap Wr.cells) from HRc.out)
    have HBc:=Lib.hid (show Below n0 wr wr.drew from (Below.refl _ _).drew)
    have HSz:=Lib.hid (show n0≤wr.drew.heap.size from by rw [← HN0.out];exact Nat.le_refl _)
    generalize wr.drew=Wc at *
    iterate 2
     first|refine qJ 1 (v:=?_) ?_ ?_|refine qJ 2 (v:=?_) ?_ ?_
     rotate_left
     ·(intro W hSw;((first|(have hxW:=Blk.keeps HOc.out hSw hon;have y6:W.cell? ⟨o,6,none⟩=some (.slice A1 nw c1):=hxW.cell 6;have exl:=hxW.lt)|skip));go_simp <;> rfl)
     try simp only [qPA]
    refine qJ 3 (v:=?_) ?_ ?_;rotate_left
    ·(intro W hSw;first|((refine exec_loadR 34 (.tmp 90) ?_ o 15 [.int .i64 rr,.int .i64 rn,.int .i64 rt,.int .i64 rg,.slice A4 n4 c4,.string rs,.string rq,.string rv,.bool ro,.int .i64 rl] ?_ Tryz.underlying34 rfl (by kernel_rfl) (fun q v hq=>((Blk.keeps HOc.out hSw hon).cell (15 + q)).trans ((List.getElem?_toArray).trans (OpD.at_w _ hq))) <;> rfl))|((first|(have hxW:=Blk.keeps HOc.out hSw hon;have y6:W.cell? ⟨o,6,none⟩=some (.slice A1 nw c1):=hxW.cell 6;have exl:=hxW.lt)|skip);go_simp;done)|((first|(have hxW:=Blk.keeps HOc.out hSw hon;have y6:W.cell? ⟨o,6,none⟩=some (.slice A1 nw c1):=hxW.cell 6;have exl:=hxW.lt)|skip);go_simp;rfl))
    try simp only [qPA]
    iterate 2
     first|refine qJ 5 (v:=?_) ?_ ?_|refine qJ 6 (v:=?_) ?_ ?_
     rotate_left
     ·(intro W hSw;((first|(have hxW:=Blk.keeps HOc.out hSw hon;have y6:W.cell? ⟨o,6,none⟩=some (.slice A1 nw c1):=hxW.cell 6;have exl:=hxW.lt)|skip));go_simp <;> rfl)
     try simp only [qPA]
    refine qJ 7 (v:=?_) ?_ ?_;rotate_left
    ·(intro W hSw;first|((refine exec_loadR 34 (.tmp 90) ?_ o 15 [.int .i64 rr,.int .i64 rn,.int .i64 rt,.int .i64 rg,.slice A4 n4 c4,.string rs,.string rq,.string rv,.bool ro,.int .i64 rl] ?_ Tryz.underlying34 rfl (by kernel_rfl) (fun q v hq=>((Blk.keeps HOc.out hSw hon).cell (15 + q)).trans ((List.getElem?_toArray).trans (OpD.at_w _ hq))) <;> rfl))|((first|(have hxW:=Blk.keeps HOc.out hSw hon;have y6:W.cell? ⟨o,6,none⟩=some (.slice A1 nw c1):=hxW.cell 6;have exl:=hxW.lt)|skip);go_simp;done)|((first|(have hxW:=Blk.keeps HOc.out hSw hon;have y6:W.cell? ⟨o,6,none⟩=some (.slice A1 nw c1):=hxW.cell 6;have exl:=hxW.lt)|skip);go_simp;rfl))
    try simp only [qPA]
    refine qJ 11 (v:=?_) ?_ ?_;rotate_left
    ·(intro W hSw;((first|(have hxW:=Blk.keeps HOc.out hSw hon;have y6:W.cell? ⟨o,6,none⟩=some (.slice A1 nw c1):=hxW.cell 6;have exl:=hxW.lt)|skip));go_simp <;> rfl)
    try simp only [qPA]
    refine wpMonoJ_two' 0 8 (by kernel_rfl) rfl (by rfl) rfl (by rfl) (fun K hK=>?_) (fun K hK=>?_)
    ·skip
     go_simp
     have hq:=below_new Wc (.cells #[] 34)
     have HDc:=Lib.hid (ownsRow_new0 Wc 34 10 #[] (n:=0))
     have HK:=Lib.hid hq
     have hqn:Below n0 Wc _:=hq.mono HSz.out
     try (have hE:=HEc.out.lt)
     try (have HRc:=Lib.hid (HRc.out.below hqn))
     have HBc:=Lib.hid (HBc.out.trans hqn)
     try (have HEc:=Lib.hid (HEc.out.below hq HEc.out.lt))
     obtain ⟨gz,hgz⟩:∃ g,Wc.heap.size=g:=⟨_,rfl⟩
     have HGZ:=Lib.hid (show n0≤gz from by rw [← hgz];exact HSz.out)
     try (have HGN:=Lib.hid (show gn ≠ gz from by omega))
     have HSz:=Lib.hid (Nat.le_trans HSz.out hq.size)
     have hzs:gz≤(Wc.alloc (.cells #[] 34)).heap.size:=by rw [← hgz];exact hq.size
     rw [hgz] at HDc ⊢
     clear hq hqn hgz
     generalize Wc.alloc (.cells #[] 34)=Wn at *
     rename World=>Wc
     refine hK.out _ _ ?_ ?_
     ·exact .of_below HK.out
     clear hK K
     try simp only [qPA]
     refine wpMonoJ_two' 4 8 (by kernel_rfl) rfl (by rfl) rfl (by rfl) (fun K hK=>?_) (fun K hK=>?_)
     ·skip
      refine wp_append_any _ (.tmp 84) (.tmp 87) _ (by rfl) gz 34 i0 _ 10 120 Tryz.underlying25 HI0.out.1 HI0.out.2.1 HI0.out.2.2.1 HI0.out.2.2.2 rfl (by decide) (.slice (some ⟨gz,0,none⟩) 0 0) _ _ (by rfl) HDc.out _ _ nw _ _ (by rfl) HRc.out HON.out (by unfold maxLen;omega) (by omega) hzs fun v8 Wn ho8 hg8 hv8=>?_
      have hk8:Keeps (fun i=>i=gz) Wc Wn:=.grown hg8 fun i hi=>.inl (Option.some.inj hi).symm
      have HK:=Lib.hid (hk8.more (Y:=fun i=>n0≤i) fun i _ e=>by rw [show i=gz from e];exact HGZ.out)
      have HD4:=Lib.hid ho8
      have hqn:Below n0 Wc Wn:=hk8.below (B:=n0) (fun i hi e=>by have e:i=gz:=e;have:=HGZ.out;omega) HSz.out
      have HBc:=Lib.hid (HBc.out.trans hqn)
      have HSz:=Lib.hid (Nat.le_trans HSz.out hk8.size)
      have hzs:=Nat.le_trans hzs hk8.size
      try (have HEc:=Lib.hid (Blk.keeps HEc.out hk8 HGN.out))
      clear ho8 hg8 hv8 hk8 hqn HDc HRc
      rename World=>Wc
      refine hK.out _ _ ?_ ?_
      ·exact moved HK.out (by decide)
      clear hK K
      try simp only [qPA]
      refine wpMonoJ_one' 8 (by kernel_rfl) rfl (by rfl) (fun K hK=>?_)
      go_simp
      have hq:=below_new Wc (.cells #[.int .i64 rr,.int .i64 rn,.int .i64 rt,.int .i64 rg,.slice A4 n4 c4,.string rs,.string rq,.string rv,.bool ro,.int .i64 rl] 34)
      have HEc:=Lib.hid (Blk.new Wc 34 #[.int .i64 rr,.int .i64 rn,.int .i64 rt,.int .i64 rg,.slice A4 n4 c4,.string rs,.string rq,.string rv,.bool ro,.int .i64 rl])
      have HK:=Lib.hid hq
      have hqn:Below n0 Wc _:=hq.mono HSz.out
      try (have hE:=(HDc.out.lt gz rfl).2)
      try (have HRc:=Lib.hid (HRc.out.below hqn))
      have HBc:=Lib.hid (HBc.out.trans hqn)
      try (have HDc:=Lib.hid (own_below HDc.out hq))
      try (have HD4:=Lib.hid (own_below HD4.out hq))
      try (have hzs:=Nat.le_trans hzs hq.size)
      obtain ⟨gn,hgn⟩:∃ g,Wc.heap.size=g:=⟨_,rfl⟩
      try (have HGN:=Lib.hid (show gn ≠ gz from by omega))
      have HSz:=Lib.hid (Nat.le_trans HSz.out hq.size)
      rw [hgn] at HEc ⊢
      clear hq hqn hgn
      generalize Wc.alloc (.cells #[.int .i64 rr,.int .i64 rn,.int .i64 rt,.int .i64 rg,.slice A4 n4 c4,.string rs,.string rq,.string rv,.bool ro,.int .i64 rl] 34)=Wn at *
      rename World=>Wc
      refine hK.out _ _ ?_ ?_
      ·exact .of_below HK.out
      clear hK K
      try simp only [qPA]
      refine wpMonoJ_one' 9 (by kernel_rfl) rfl (by rfl) (fun K hK=>?_)
      refine wp_append_any _ (.tmp 88) (.tmp 92) _ (by rfl) gz 34 i0 _ 10 120 Tryz.underlying25 HI0.out.1 HI0.out.2.1 HI0.out.2.2.1 HI0.out.2.2.2 rfl (by decide) v8 _ _ (by rfl) HD4.out _ _ 1 _ _ (by rfl) (blk_reads HEc.out rfl) HOZ.out (by unfold maxLen;omega) (by omega) hzs fun v9 Wn ho9 hg9 hv9=>?_
      have hk9:Keeps (fun i=>n0≤i) Wc Wn:=.grown hg9 fun i hi=>.inl (by have:=(HD4.out.lt i hi).1;have:=HGZ.out;omega)
      have HK:=Lib.hid hk9
      have ho10:Wn.ownsRow gz 34 10 v9 n1 ((Lw ++ [W0]).flatMap Wr.cells):=by
       rw [← hn1]
       rw [Nat.zero_add,List.nil_append] at ho9
       rw [List.flatMap_append,show ([W0]:List Wr).flatMap Wr.cells=[.int .i64 rr,.int .i64 rn,.int .i64 rt,.int .i64 rg,.slice A4 n4 c4,.string rs,.string rq,.string rv,.bool ro,.int .i64 rl] from by rw [← HW0.out];rfl]
       exact ho9
      obtain ⟨A9,c9,rfl⟩:=ownsRow_slice ho10
      have HD9:=Lib.hid (Reads.of_own ho10)
      have HBc:=Lib.hid (HBc.out.trans (hk9.below (B:=n0) (fun i hi e=>by omega) HSz.out))
      clear ho9 ho10 hg9 hv9 hk9 HD4 HEc hzs
      rename World=>Wc
      refine hK.out _ _ ?_ ?_
      ·exact moved HK.out (by decide)
      clear hK K
      try simp only [qPA]
      refine qJ 10 (v:=?_) ?_ ?_;rotate_left
      ·(intro W hSw;((first|(have hxW:=Blk.keeps HOc.out hSw hon;have y6:W.cell? ⟨o,6,none⟩=some (.slice A1 nw c1):=hxW.cell 6;have exl:=hxW.lt)|skip));go_simp <;> rfl)
      try simp only [qPA]
      refine wpMonoJ_done (by kernel_rfl) ?_ _
      go_wp2_with fail
      go_meet
      case rel=>exact ⟨_,_,rfl,rfl,rfl,HD9.out,HBc.out⟩
     ·skip
      go_simp
      have hq:=below_new Wc (.cells #[.int .i64 rr,.int .i64 rn,.int .i64 rt,.int .i64 rg,.slice A4 n4 c4,.string rs,.string rq,.string rv,.bool ro,.int .i64 rl] 34)
      have HEc:=Lib.hid (Blk.new Wc 34 #[.int .i64 rr,.int .i64 rn,.int .i64 rt,.int .i64 rg,.slice A4 n4 c4,.string rs,.string rq,.string rv,.bool ro,.int .i64 rl])
      have HK:=Lib.hid hq
      have hqn:Below n0 Wc _:=hq.mono HSz.out
      try (have hE:=(HDc.out.lt gz rfl).2)
      try (have HRc:=Lib.hid (HRc.out.below hqn))
      have HBc:=Lib.hid (HBc.out.trans hqn)
      try (have HDc:=Lib.hid (own_below HDc.out hq))
      try (have HD4:=Lib.hid (own_below HD4.out hq))
      try (have hzs:=Nat.le_trans hzs hq.size)
      obtain ⟨gn,hgn⟩:∃ g,Wc.heap.size=g:=⟨_,rfl⟩
      try (have HGN:=Lib.hid (show gn ≠ gz from by omega))
      have HSz:=Lib.hid (Nat.le_trans HSz.out hq.size)
      rw [hgn] at HEc ⊢
      clear hq hqn hgn
      generalize Wc.alloc (.cells #[.int .i64 rr,.int .i64 rn,.int .i64 rt,.int .i64 rg,.slice A4 n4 c4,.string rs,.string rq,.string rv,.bool ro,.int .i64 rl] 34)=Wn at *
      rename World=>Wc
      refine hK.out _ _ ?_ ?_
      ·exact .of_below HK.out
      clear hK K
      try simp only [qPA]
      refine wpMonoJ_one' 4 (by kernel_rfl) rfl (by rfl) (fun K hK=>?_)
      refine wp_append_any _ (.tmp 84) (.tmp 87) _ (by rfl) gz 34 i0 _ 10 120 Tryz.underlying25 HI0.out.1 HI0.out.2.1 HI0.out.2.2.1 HI0.out.2.2.2 rfl (by decide) (.slice (some ⟨gz,0,none⟩) 0 0) _ _ (by rfl) HDc.out _ _ nw _ _ (by rfl) HRc.out HON.out (by unfold maxLen;omega) (by omega) hzs fun v8 Wn ho8 hg8 hv8=>?_
      have hk8:Keeps (fun i=>i=gz) Wc Wn:=.grown hg8 fun i hi=>.inl (Option.some.inj hi).symm
      have HK:=Lib.hid (hk8.more (Y:=fun i=>n0≤i) fun i _ e=>by rw [show i=gz from e];exact HGZ.out)
      have HD4:=Lib.hid ho8
      have hqn:Below n0 Wc Wn:=hk8.below (B:=n0) (fun i hi e=>by have e:i=gz:=e;have:=HGZ.out;omega) HSz.out
      have HBc:=Lib.hid (HBc.out.trans hqn)
      have HSz:=Lib.hid (Nat.le_trans HSz.out hk8.size)
      have hzs:=Nat.le_trans hzs hk8.size
      try (have HEc:=Lib.hid (Blk.keeps HEc.out hk8 HGN.out))
      clear ho8 hg8 hv8 hk8 hqn HDc HRc
      rename World=>Wc
      refine hK.out _ _ ?_ ?_
      ·exact moved HK.out (by decide)
      clear hK K
      try simp only [qPA]
      refine wpMonoJ_one' 9 (by kernel_rfl) rfl (by rfl) (fun K hK=>?_)
      refine wp_append_any _ (.tmp 88) (.tmp 92) _ (by rfl) gz 34 i0 _ 10 120 Tryz.underlying25 HI0.out.1 HI0.out.2.1 HI0.out.2.2.1 HI0.out.2.2.2 rfl (by decide) v8 _ _ (by rfl) HD4.out _ _ 1 _ _ (by rfl) (blk_reads HEc.out rfl) HOZ.out (by unfold maxLen;omega) (by omega) hzs fun v9 Wn ho9 hg9 hv9=>?_
      have hk9:Keeps (fun i=>n0≤i) Wc Wn:=.grown hg9 fun i hi=>.inl (by have:=(HD4.out.lt i hi).1;have:=HGZ.out;omega)
      have HK:=Lib.hid hk9
      have ho10:Wn.ownsRow gz 34 10 v9 n1 ((Lw ++ [W0]).flatMap Wr.cells):=by
       rw [← hn1]
       rw [Nat.zero_add,List.nil_append] at ho9
       rw [List.flatMap_append,show ([W0]:List Wr).flatMap Wr.cells=[.int .i64 rr,.int .i64 rn,.int .i64 rt,.int .i64 rg,.slice A4 n4 c4,.string rs,.string rq,.string rv,.bool ro,.int .i64 rl] from by rw [← HW0.out];rfl]
       exact ho9
      obtain ⟨A9,c9,rfl⟩:=ownsRow_slice ho10
      have HD9:=Lib.hid (Reads.of_own ho10)
      have HBc:=Lib.hid (HBc.out.trans (hk9.below (B:=n0) (fun i hi e=>by omega) HSz.out))
      clear ho9 ho10 hg9 hv9 hk9 HD4 HEc hzs
      rename World=>Wc
      refine hK.out _ _ ?_ ?_
      ·exact moved HK.out (by decide)
      clear hK K
      try simp only [qPA]
      refine qJ 10 (v:=?_) ?_ ?_;rotate_left
      ·(intro W hSw;((first|(have hxW:=Blk.keeps HOc.out hSw hon;have y6:W.cell? ⟨o,6,none⟩=some (.slice A1 nw c1):=hxW.cell 6;have exl:=hxW.lt)|skip));go_simp <;> rfl)
      try simp only [qPA]
      refine wpMonoJ_done (by kernel_rfl) ?_ _
      go_wp2_with fail
      go_meet
      case rel=>exact ⟨_,_,rfl,rfl,rfl,HD9.out,HBc.out⟩
    ·skip
     go_simp
     have hq:=below_new Wc (.cells #[.int .i64 rr,.int .i64 rn,.int .i64 rt,.int .i64 rg,.slice A4 n4 c4,.string rs,.string rq,.string rv,.bool ro,.int .i64 rl] 34)
     have HEc:=Lib.hid (Blk.new Wc 34 #[.int .i64 rr,.int .i64 rn,.int .i64 rt,.int .i64 rg,.slice A4 n4 c4,.string rs,.string rq,.string rv,.bool ro,.int .i64 rl])
     have HK:=Lib.hid hq
     have hqn:Below n0 Wc _:=hq.mono HSz.out
     try (have hE:=(HDc.out.lt gz rfl).2)
     try (have HRc:=Lib.hid (HRc.out.below hqn))
     have HBc:=Lib.hid (HBc.out.trans hqn)
     try (have HDc:=Lib.hid (own_below HDc.out hq))
     try (have HD4:=Lib.hid (own_below HD4.out hq))
     try (have hzs:=Nat.le_trans hzs hq.size)
     obtain ⟨gn,hgn⟩:∃ g,Wc.heap.size=g:=⟨_,rfl⟩
     try (have HGN:=Lib.hid (show gn ≠ gz from by omega))
     have HSz:=Lib.hid (Nat.le_trans HSz.out hq.size)
     rw [hgn] at HEc ⊢
     clear hq hqn hgn
     generalize Wc.alloc (.cells #[.int .i64 rr,.int .i64 rn,.int .i64 rt,.int .i64 rg,.slice A4 n4 c4,.string rs,.string rq,.string rv,.bool ro,.int .i64 rl] 34)=Wn at *
     rename World=>Wc
     refine hK.out _ _ ?_ ?_
     ·exact .of_below HK.out
     clear hK K
     try simp only [qPA]
     refine wpMonoJ_one' 0 (by kernel_rfl) rfl (by rfl) (fun K hK=>?_)
     go_simp
     have hq:=below_new Wc (.cells #[] 34)
     have HDc:=Lib.hid (ownsRow_new0 Wc 34 10 #[] (n:=0))
     have HK:=Lib.hid hq
     have hqn:Below n0 Wc _:=hq.mono HSz.out
     try (have hE:=HEc.out.lt)
     try (have HRc:=Lib.hid (HRc.out.below hqn))
     have HBc:=Lib.hid (HBc.out.trans hqn)
     try (have HEc:=Lib.hid (HEc.out.below hq HEc.out.lt))
     obtain ⟨gz,hgz⟩:∃ g,Wc.heap.size=g:=⟨_,rfl⟩
     have HGZ:=Lib.hid (show n0≤gz from by rw [← hgz];exact HSz.out)
     try (have HGN:=Lib.hid (show gn ≠ gz from by omega))
     have HSz:=Lib.hid (Nat.le_trans HSz.out hq.size)
     have hzs:gz≤(Wc.alloc (.cells #[] 34)).heap.size:=by rw [← hgz];exact hq.size
     rw [hgz] at HDc ⊢
     clear hq hqn hgz
     generalize Wc.alloc (.cells #[] 34)=Wn at *
     rename World=>Wc
     refine hK.out _ _ ?_ ?_
     ·exact .of_below HK.out
     clear hK K
     try simp only [qPA]
     refine wpMonoJ_one' 4 (by kernel_rfl) rfl (by rfl) (fun K hK=>?_)
     refine wp_append_any _ (.tmp 84) (.tmp 87) _ (by rfl) gz 34 i0 _ 10 120 Tryz.underlying25 HI0.out.1 HI0.out.2.1 HI0.out.2.2.1 HI0.out.2.2.2 rfl (by decide) (.slice (some ⟨gz,0,none⟩) 0 0) _ _ (by rfl) HDc.out _ _ nw _ _ (by rfl) HRc.out HON.out (by unfold maxLen;omega) (by omega) hzs fun v8 Wn ho8 hg8 hv8=>?_
     have hk8:Keeps (fun i=>i=gz) Wc Wn:=.grown hg8 fun i hi=>.inl (Option.some.inj hi).symm
     have HK:=Lib.hid (hk8.more (Y:=fun i=>n0≤i) fun i _ e=>by rw [show i=gz from e];exact HGZ.out)
     have HD4:=Lib.hid ho8
     have hqn:Below n0 Wc Wn:=hk8.below (B:=n0) (fun i hi e=>by have e:i=gz:=e;have:=HGZ.out;omega) HSz.out
     have HBc:=Lib.hid (HBc.out.trans hqn)
     have HSz:=Lib.hid (Nat.le_trans HSz.out hk8.size)
     have hzs:=Nat.le_trans hzs hk8.size
     try (have HEc:=Lib.hid (Blk.keeps HEc.out hk8 HGN.out))
     clear ho8 hg8 hv8 hk8 hqn HDc HRc
     rename World=>Wc
     refine hK.out _ _ ?_ ?_
     ·exact moved HK.out (by decide)
     clear hK K
     try simp only [qPA]
     refine wpMonoJ_one' 9 (by kernel_rfl) rfl (by rfl) (fun K hK=>?_)
     refine wp_append_any _ (.tmp 88) (.tmp 92) _ (by rfl) gz 34 i0 _ 10 120 Tryz.underlying25 HI0.out.1 HI0.out.2.1 HI0.out.2.2.1 HI0.out.2.2.2 rfl (by decide) v8 _ _ (by rfl) HD4.out _ _ 1 _ _ (by rfl) (blk_reads HEc.out rfl) HOZ.out (by unfold maxLen;omega) (by omega) hzs fun v9 Wn ho9 hg9 hv9=>?_
     have hk9:Keeps (fun i=>n0≤i) Wc Wn:=.grown hg9 fun i hi=>.inl (by have:=(HD4.out.lt i hi).1;have:=HGZ.out;omega)
     have HK:=Lib.hid hk9
     have ho10:Wn.ownsRow gz 34 10 v9 n1 ((Lw ++ [W0]).flatMap Wr.cells):=by
      rw [← hn1]
      rw [Nat.zero_add,List.nil_append] at ho9
      rw [List.flatMap_append,show ([W0]:List Wr).flatMap Wr.cells=[.int .i64 rr,.int .i64 rn,.int .i64 rt,.int .i64 rg,.slice A4 n4 c4,.string rs,.string rq,.string rv,.bool ro,.int .i64 rl] from by rw [← HW0.out];rfl]
      exact ho9
     obtain ⟨A9,c9,rfl⟩:=ownsRow_slice ho10
     have HD9:=Lib.hid (Reads.of_own ho10)
     have HBc:=Lib.hid (HBc.out.trans (hk9.below (B:=n0) (fun i hi e=>by omega) HSz.out))
     clear ho9 ho10 hg9 hv9 hk9 HD4 HEc hzs
     rename World=>Wc
     refine hK.out _ _ ?_ ?_
     ·exact moved HK.out (by decide)
     clear hK K
     try simp only [qPA]
     refine qJ 10 (v:=?_) ?_ ?_;rotate_left
     ·(intro W hSw;((first|(have hxW:=Blk.keeps HOc.out hSw hon;have y6:W.cell? ⟨o,6,none⟩=some (.slice A1 nw c1):=hxW.cell 6;have exl:=hxW.lt)|skip));go_simp <;> rfl)
     try simp only [qPA]
     refine wpMonoJ_done (by kernel_rfl) ?_ _
     go_wp2_with fail
     go_meet
     case rel=>exact ⟨_,_,rfl,rfl,rfl,HD9.out,HBc.out⟩
   case rest =>
    obtain ⟨A9,c9,rfl,rfl,rfl,hrd,hb⟩:=hcut
    have HBW:=Lib.hid (show Below _ _ wc from HB1.out.trans (hb.mono (by rw [← HN0.out];exact HB1.out.size)))
    have HOw:=Lib.hid (HO1.out.below hb (by rw [← HN0.out];exact hol))
    have HEw:=Lib.hid (HE1.out.below (hb.mono (by rw [← HN0.out];exact HB1.out.size)))
    have HRD:=Lib.hid hrd
    have hwo:=HOw.out.lt
    clear hrd hb HO1 HE1 HB1 HRW1 HRc HN0 HI0 HON HOZ hol hon q1 q2 q6 q7 q10 q12
    go_wp2_with fail
    go_loopw [95,10] (fun i _ wx=>∃ k:Nat,i=.int .i64 k∧k≤n1∧Below wc.heap.size wc wx) (fun i _ _=>n1 - (intOf i).toNat)
    case atStart=>exact ⟨0,rfl,by omega,Below.refl _ _⟩
    case round =>
     obtain ⟨k,rfl,hk,hb⟩:=hrel
     have HBx:=Lib.hid (HBW.out.trans (hb.mono HBW.out.size))
     have hsz:=hb.size
     by_cases hkn:k < n1
     ·have dk:decide ((k:Int) < (n1:Int))=true:=decide_eq_true (by omega)
      obtain ⟨b,off,rfl,hbb⟩:=HRD.out.at_some (by omega)
      have hkl:k < (Lw ++ [W0]).length:=by rw [List.length_append,HL.out];simp;omega
      obtain ⟨z,hz⟩:∃ z,(Lw ++ [W0])[k]?=some z:=⟨_,List.getElem?_eq_getElem hkl⟩
      obtain ⟨da,dm,dc,hd⟩:∃ a m c,z.d=.slice a m c:=by
       rcases List.mem_append.1 (List.mem_of_getElem? hz) with h|h
       ·exact HDP.out z h
       ·exact ⟨A4,n4,c4,by rw [List.mem_singleton.1 h,← HW0.out]⟩
      have HCE:=Lib.hid (show ∀ j v,z.cells[j]?=some v→wr.cell? ⟨b,off + k * 10 + j,none⟩=some v from fun j v hj=>by
       have hj2:j < 10:=(List.getElem?_eq_some_iff.1 hj).1
       exact (Reads.thing Wr.cells Wr.len (HRD.out.below hb) (k:=k) (x:=z) hkn hz j hj2).trans hj)
      obtain ⟨zr,zn,zt,zs,zd,zz,zse,zk,zv,zg,zl⟩:=z
      dsimp only at hd
      subst hd
      have hz1:((⟨zr,zn,zt,zs,.slice da dm dc,zz,zse,zk,zv,zg,zl⟩:Wr).cells).all (·.oneCell')=true:=rfl
      have hz10:((⟨zr,zn,zt,zs,.slice da dm dc,zz,zse,zk,zv,zg,zl⟩:Wr).cells).length=10:=rfl
      have HEY3:=Lib.hid (show ∀ w9:World,Blk w9 wr.heap.size 34 ((⟨zr,zn,zt,zs,.slice da dm dc,zz,zse,zk,zv,zg,zl⟩:Wr).cells).toArray→w9.cell? ⟨wr.heap.size,4,none⟩=some (.slice da dm dc)∧w9.cell? ⟨wr.heap.size,5,none⟩=some (.string zse)∧w9.cell? ⟨wr.heap.size,6,none⟩=some (.string zk)∧w9.cell? ⟨wr.heap.size,7,none⟩=some (.string zv)∧wr.heap.size < w9.heap.size from
       fun w9 h=>⟨h.cell 4,h.cell 5,h.cell 6,h.cell 7,h.lt⟩)
      obtain ⟨zc,hzc⟩:∃ c,(⟨zr,zn,zt,zs,.slice da dm dc,zz,zse,zk,zv,zg,zl⟩:Wr).cells=c:=⟨_,rfl⟩
      rw [hzc] at HCE hz1 hz10 HEY3
      have hi34:(Tryz.prog.info? 34).map (·.size)=some zc.length:=by rw [hz10];kernel_rfl
      have hZ:=Blk.new wr 34 #[.int .i64 0,.int .i64 0,.int .i64 0,.int .i64 0,.slice none 0 0,.string ⟨#[]⟩,.string ⟨#[]⟩,.string ⟨#[]⟩,.bool false,.int .i64 0]
      have hBZ:=below_new wr (.cells #[.int .i64 0,.int .i64 0,.int .i64 0,.int .i64 0,.slice none 0 0,.string ⟨#[]⟩,.string ⟨#[]⟩,.string ⟨#[]⟩,.bool false,.int .i64 0] 34)
      have HZ3:=Lib.hid hZ
      have HBZ3:=Lib.hid hBZ
      have HBy:=Lib.hid hb
      clear hZ hBZ hzc hz hb
      by_cases e1:30 < dm
      ·have d1:decide ((30:Int) < (dm:Int))=true:=decide_eq_true (by omega)
       go_wp2_with (first|(refine wpList_load_at rfl 34 (.tmp 97) rfl b (off + k * 10) zc rfl Tryz.underlying34 rfl hi34 HCE.out ?_)|(refine wpList_store_blk rfl 34 (.tmp 10) (.tmp 98) rfl wr.heap.size zc rfl rfl HZ3.out hi34 hz10.symm hz1 ?_;intro w9 ho9 hk9 hs9;obtain ⟨x4,x5,x6,x7,xl⟩:=HEY3.out w9 ho9))
       have hb9:Below wr.heap.size wr w9:=HBZ3.out.trans (hk9.below (B:=wr.heap.size) (fun i hi e=>by have e:i=wr.heap.size:=e;omega) HBZ3.out.size)
       go_ret
       exact ⟨true,rfl,HBx.out.trans (hb9.mono HBx.out.size)⟩
      have d1:decide ((30:Int) < (dm:Int))=false:=decide_eq_false (by omega)
      by_cases e2:200 < zse.size
      ·have d2:decide ((200:Int) < (zse.size:Int))=true:=decide_eq_true (by omega)
       go_wp2_with (first|(refine wpList_load_at rfl 34 (.tmp 97) rfl b (off + k * 10) zc rfl Tryz.underlying34 rfl hi34 HCE.out ?_)|(refine wpList_store_blk rfl 34 (.tmp 10) (.tmp 98) rfl wr.heap.size zc rfl rfl HZ3.out hi34 hz10.symm hz1 ?_;intro w9 ho9 hk9 hs9;obtain ⟨x4,x5,x6,x7,xl⟩:=HEY3.out w9 ho9))
       have hb9:Below wr.heap.size wr w9:=HBZ3.out.trans (hk9.below (B:=wr.heap.size) (fun i hi e=>by have e:i=wr.heap.size:=e;omega) HBZ3.out.size)
       go_ret
       exact ⟨true,rfl,HBx.out.trans (hb9.mono HBx.out.size)⟩
      have d2:decide ((200:Int) < (zse.size:Int))=false:=decide_eq_false (by omega)
      by_cases e3:200 < zk.size
      ·have d3:decide ((200:Int) < (zk.size:Int))=true:=decide_eq_true (by omega)
       go_wp2_with (first|(refine wpList_load_at rfl 34 (.tmp 97) rfl b (off + k * 10) zc rfl Tryz.underlying34 rfl hi34 HCE.out ?_)|(refine wpList_store_blk rfl 34 (.tmp 10) (.tmp 98) rfl wr.heap.size zc rfl rfl HZ3.out hi34 hz10.symm hz1 ?_;intro w9 ho9 hk9 hs9;obtain ⟨x4,x5,x6,x7,xl⟩:=HEY3.out w9 ho9))
       have hb9:Below wr.heap.size wr w9:=HBZ3.out.trans (hk9.below (B:=wr.heap.size) (fun i hi e=>by have e:i=wr.heap.size:=e;omega) HBZ3.out.size)
       go_ret
       exact ⟨true,rfl,HBx.out.trans (hb9.mono HBx.out.size)⟩
      have d3:decide ((200:Int) < (zk.size:Int))=false:=decide_eq_false (by omega)
      by_cases e4:300 < zv.size
      ·have d4:decide ((300:Int) < (zv.size:Int))=true:=decide_eq_true (by omega)
       go_wp2_with (first|(refine wpList_load_at rfl 34 (.tmp 97) rfl b (off + k * 10) zc rfl Tryz.underlying34 rfl hi34 HCE.out ?_)|(refine wpList_store_blk rfl 34 (.tmp 10) (.tmp 98) rfl wr.heap.size zc rfl rfl HZ3.out hi34 hz10.symm hz1 ?_;intro w9 ho9 hk9 hs9;obtain ⟨x4,x5,x6,x7,xl⟩:=HEY3.out w9 ho9))
       have hb9:Below wr.heap.size wr w9:=HBZ3.out.trans (hk9.below (B:=wr.heap.size) (fun i hi e=>by have e:i=wr.heap.size:=e;omega) HBZ3.out.size)
       go_ret
       exact ⟨true,rfl,HBx.out.trans (hb9.mono HBx.out.size)⟩
      have d4:decide ((300:Int) < (zv.size:Int))=false:=decide_eq_false (by omega)
      go_wp2_with (first|(refine wpList_load_at rfl 34 (.tmp 97) rfl b (off + k * 10) zc rfl Tryz.underlying34 rfl hi34 HCE.out ?_)|(refine wpList_store_blk rfl 34 (.tmp 10) (.tmp 98) rfl wr.heap.size zc rfl rfl HZ3.out hi34 hz10.symm hz1 ?_;intro w9 ho9 hk9 hs9;obtain ⟨x4,x5,x6,x7,xl⟩:=HEY3.out w9 ho9))
      have hb9:Below wr.heap.size wr w9:=HBZ3.out.trans (hk9.below (B:=wr.heap.size) (fun i hi e=>by have e:i=wr.heap.size:=e;omega) HBZ3.out.size)
      go_roundw
      case rel=>exact ⟨k + 1,by go_num,by omega,HBy.out.trans (hb9.mono hsz)⟩
      case measure=>simp [intOf];omega
     ·obtain rfl:k=n1:=by omega
      have dk:decide ((k:Int) < (k:Int))=false:=by simp
      have HO3:=Lib.hid (HOw.out.below hb HOw.out.lt)
      have HE3:=Lib.hid (HEw.out.below (hb.mono HBW.out.size))
      have q10:wr.cell? ⟨o,10,none⟩=some (.slice A len cap):=HO3.out.cell 10
      have hol:=HO3.out.lt
      clear HOw HEw HRD HDP hb hkn
      go_wp2_with fail
      go_loopw [126,12] (fun i _ wx=>∃ j:Nat,i=.int .i64 j∧j≤len∧Below wr.heap.size wr wx) (fun i _ _=>len - (intOf i).toNat)
      case atStart=>exact ⟨0,rfl,by omega,Below.refl _ _⟩
      case round =>
       obtain ⟨j,rfl,hj,hb⟩:=hrel
       have HBy:=Lib.hid (HBx.out.trans (hb.mono HBx.out.size))
       have hsy:=hb.size
       by_cases hjn:j < len
       ·have dj:decide ((j:Int) < (len:Int))=true:=decide_eq_true (by omega)
        obtain ⟨b,off,rfl,hbb⟩:=HE3.out.at_some (by omega)
        have hjl:j < L.length:=by rw [HE3.out.1];exact hjn
        obtain ⟨hx0,hx1⟩:=(HE3.out.below (hb.mono HBx.out.size)).cell hjn (List.getElem?_eq_getElem hjl)
        generalize L[j]=y at *
        obtain ⟨u,m⟩:=y
        dsimp only at hx0 hx1
        have HBz:=Lib.hid hb
        clear hb
        by_cases e1:200 < u.size
        ·have d1:decide ((200:Int) < (u.size:Int))=true:=decide_eq_true (by omega)
         go_wp2_with fail
         go_ret
         exact ⟨true,rfl,HBy.out.trans ((below_new _ _).mono HBy.out.size)⟩
        ·have d1:decide ((200:Int) < (u.size:Int))=false:=decide_eq_false (by omega)
         go_wp2_with fail
         go_roundw
         case rel=>exact ⟨j + 1,by go_num,by omega,HBz.out.trans ((below_new _ _).mono hsy)⟩
         case measure=>simp [intOf];omega
       ·obtain rfl:j=len:=by omega
        have dj:decide ((j:Int) < (j:Int))=false:=by simp
        have HO4:=Lib.hid (HO3.out.below hb hol)
        have q25:wr.cell? ⟨o,25,none⟩=some (.string eu):=HO4.out.cell 25
        have q32:wr.cell? ⟨o,32,none⟩=some (.slice A5 n5 c5):=HO4.out.cell 32
        have q33:wr.cell? ⟨o,33,none⟩=some (.string ws):=HO4.out.cell 33
        have q34:wr.cell? ⟨o,34,none⟩=some (.string wk):=HO4.out.cell 34
        have q37:wr.cell? ⟨o,37,none⟩=some (.string wv):=HO4.out.cell 37
        have hol4:=HO4.out.lt
        clear hb HO3 HE3 q10
        by_cases f0:200 < eu.size
        ·have g0:decide ((200:Int) < (eu.size:Int))=true:=decide_eq_true (by omega)
         go_wp2_with fail
         go_ret
         exact ⟨true,rfl,HBy.out⟩
        have g0:decide ((200:Int) < (eu.size:Int))=false:=decide_eq_false (by omega)
        by_cases f1:30 < n5
        ·have g1:decide ((30:Int) < (n5:Int))=true:=decide_eq_true (by omega)
         go_wp2_with fail
         go_ret
         exact ⟨true,rfl,HBy.out⟩
        have g1:decide ((30:Int) < (n5:Int))=false:=decide_eq_false (by omega)
        by_cases f2:200 < ws.size
        ·have g2:decide ((200:Int) < (ws.size:Int))=true:=decide_eq_true (by omega)
         go_wp2_with fail
         go_ret
         exact ⟨true,rfl,HBy.out⟩
        have g2:decide ((200:Int) < (ws.size:Int))=false:=decide_eq_false (by omega)
        by_cases f3:200 < wk.size
        ·have g3:decide ((200:Int) < (wk.size:Int))=true:=decide_eq_true (by omega)
         go_wp2_with fail
         go_ret
         exact ⟨true,rfl,HBy.out⟩
        have g3:decide ((200:Int) < (wk.size:Int))=false:=decide_eq_false (by omega)
        by_cases f4:300 < wv.size
        ·have g4:decide ((300:Int) < (wv.size:Int))=true:=decide_eq_true (by omega)
         go_wp2_with fail
         go_ret
         exact ⟨true,rfl,HBy.out⟩
        have g4:decide ((300:Int) < (wv.size:Int))=false:=decide_eq_false (by omega)
        go_wp2_with fail
        go_roundw
        case rel=>exact .inr ⟨by go_num,HBy.out⟩
        case measure=>simp [intOf]
end Go.Proofs.YtdaphppdmnmicaaGreatDoor.regn
