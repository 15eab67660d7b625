/- Part of GateRetires. -/
import Derived.Test.YthlahcnglacekaaGreatDoorB41
import Derived.Test.YthlahcnglacekaaGreatDoorB44
set_option maxRecDepth 100000
set_option maxHeartbeats 16000000
namespace Go.Proofs.YthlahcnglacekaaGreatDoor
namespace regn
open Go Go.RowKit base err cmp wire dep vec with_ writep wireb monoj rowe
structure ListP (w:World) (lo g:Nat) (S:Nat→Prop) (v:Value) (L:List Wr):Prop where
 ow:OW w (fun i=>lo≤i) lo v L
 nS:∀ i,v.ownBlock=some i→¬ S i
 nd:∀ x ∈ L,x.d.ownBlock≠some g
section
variable {w w':World} {lo g:Nat} {S:Nat→Prop} {v:Value} {L:List Wr}
theorem _root_.Go.Proofs.YthlahcnglacekaaGreatDoor.wire.OW.keepsR {X S:Nat→Prop} {w w':World} {lo:Nat} {v:Value} {L:List Wr} (h:OW w S lo v L) (hk:Keeps X w w') (hr:∀ i,v.ownBlock=some i→¬ X i) (hd:∀ x ∈ L,∀ i,x.d.ownBlock=some i→¬ X i):OW w' S lo v L:=by
 refine ⟨⟨h.row.1,h.row.2.imp id ?_⟩,h.few,fun x hx'=>(h.nums x hx').keeps hk (fun g hg=>hd x hx' g hg),h.inS,h.numS⟩;rintro ⟨g,cap,cur,rfl,h1,h2,h3⟩;exact ⟨g,cap,cur,rfl,h1,(hk.block g (heap_lt h2) (hr g rfl)).trans h2,h3⟩
theorem numsO_hi {w:World} {lo:Nat} {d:Value} {zs:List Int} (h:NumsO w 0 d zs) (hd:∀ i,d.ownBlock=some i→lo≤i):NumsO w lo d zs:=by
 refine ⟨⟨h.1.1,h.1.2.imp id ?_⟩,h.2⟩;rintro ⟨g,cap,cur,rfl,h1,h2⟩;exact ⟨g,cap,cur,rfl,hd g rfl,h2⟩
theorem ListP.none (w:World) (lo g:Nat) (S:Nat→Prop):ListP w lo g S (.slice none 0 0) []:=⟨OW.none _ _ _,(fun i hi=>by cases hi),by simp⟩
theorem ListP.below (h:ListP w lo g S v L) (hb:Below w.heap.size w w'):ListP w' lo g S v L:=⟨h.ow.keepsR (X:=nobody) (.of_below hb) (fun _ _ h=>h) (fun _ _ _ _ h=>h),h.nS,h.nd⟩
theorem ListP.blk {t:TypeId} {b:Nat} {cs:Array Value} (h:ListP w lo g S v L) (hb:Blk w b t cs) (hk:Keeps (· = b) w w') (h1:188≠t) (h2:3≠t):ListP w' lo g S v L :=
 ⟨h.ow.keepsR hk (fun _ hi e=>own_blk_ne h.ow.row hb h1 (e ▸ hi)) (fun x hx _ hi e=>own_blk_ne (h.ow.nums x hx).1 hb h2 (e ▸ hi)),h.nS,h.nd⟩
theorem ListP.shown {S':Nat→Prop} {rg:Int} {ap:List Int} {ws:List Wr} {va vw:Value} (h:ListP w lo g S v L) (hf:InF w S g rg ap ws va vw) (hk:Keeps (fun i=>i=g∨vw.ownBlock=some i) w w') (hs:∀ i,S' i→S i∨w.heap.size≤i):ListP w' lo g S' v L :=
 ⟨h.ow.keepsR hk (fun i hi e=>e.elim (fun e=>h.nS i hi (e ▸ hf.inG)) (fun e=>h.nS i hi (hf.inW i e)))
  (fun x hx i hi e=>e.elim (fun e=>h.nd x hx (e ▸ hi)) (fun e=>own_apart (h.ow.nums x hx).1 hf.row (by decide) i hi e)),
  fun i hi h2=>(hs i h2).elim (h.nS i hi) (fun h3=>by have:=(h.ow.row.lt i hi).2;omega),h.nd⟩
theorem ListP.push {w5:World} {v5:Value} {x:Wr} (h:ListP w lo g S v L) (hs:∀ i,S i→i<w.heap.size) (hd:NumsO w lo x.d x.z) (hg:x.d.ownBlock≠some g) (hrow:w5.ownsRow lo 188 10 v5 (L.length+1) (L.flatMap Wr.cells++x.cells)) (hgr:w.grownBy w5 v.ownBlock)
  (hv:v5.ownBlock=v.ownBlock∨∃ g,v5.ownBlock=some g∧w.heap.size≤g) (hl:L.length<1000000):ListP w5 lo g S v5 (L++[x]) :=
 ⟨h.ow.push hd (fun i hi=>(hd.1.lt i hi).1) hrow hgr (hv.imp id fun ⟨b,h1,_⟩=>⟨b,h1,(hrow.lt b h1).1⟩) hl,
  fun i hi h2=>by
   rcases hv with e|⟨b,e,hb⟩
   ·exact h.nS i (e ▸ hi) h2
   ·rw [e] at hi;injection hi with hi;have:=hs i h2;omega,
  fun y hy=>by
   rcases List.mem_append.1 hy with hy|hy
   ·exact h.nd y hy
   ·rw [List.mem_singleton.1 hy];exact hg⟩
theorem _root_.Go.Proofs.YthlahcnglacekaaGreatDoor.wire.OW.join {S:Nat→Prop} {w w5:World} {lo:Nat} {v v5:Value} {L M:List Wr} (h:OW w S lo v L) (hd:∀ x ∈ M,NumsO w lo x.d x.z∧∀ i,x.d.ownBlock=some i→S i) (hrow:w5.ownsRow lo 188 10 v5 (L.length+M.length) (L.flatMap Wr.cells++M.flatMap Wr.cells)) (hg:w.grownBy w5 v.ownBlock)
  (hv:v5.ownBlock=v.ownBlock∨∃ g,v5.ownBlock=some g∧S g) (hl:L.length+M.length≤1000000):OW w5 S lo v5 (L++M):=by
 have hk:Keeps (fun i=>v.ownBlock=some i) w w5:=.grown hg fun g hg=>.inl hg;have hne:∀ y:Wr,NumsO w lo y.d y.z→NumsO w5 lo y.d y.z:=fun y hy=>hy.keeps hk fun g hg1 hg2=>own_apart hy.1 h.row (by decide) g hg1 hg2;refine ⟨?_,by simpa using hl,?_,?_,?_⟩
 ·rw [List.length_append,List.flatMap_append];exact hrow
 ·intro y hy
  rcases List.mem_append.1 hy with hy|hy
  ·exact hne y (h.nums y hy)
  ·exact hne y (hd y hy).1
 ·intro i hi
  rcases hv with hv|⟨g,hv,hs⟩
  ·exact h.inS i (hv ▸ hi)
  ·rw [hv] at hi;injection hi with hi;rw [←hi];exact hs
 ·intro y hy i hi
  rcases List.mem_append.1 hy with hy|hy
  ·exact h.numS y hy i hi
  ·exact (hd y hy).2 i hi
theorem ListP.join {w5:World} {v5:Value} {M:List Wr} (h:ListP w lo g S v L) (hs:∀ i,S i→i<w.heap.size) (hd:∀ x ∈ M,NumsO w lo x.d x.z∧x.d.ownBlock≠some g) (hrow:w5.ownsRow lo 188 10 v5 (L.length+M.length) (L.flatMap Wr.cells++M.flatMap Wr.cells)) (hgr:w.grownBy w5 v.ownBlock)
  (hv:v5.ownBlock=v.ownBlock∨∃ g,v5.ownBlock=some g∧w.heap.size≤g) (hl:L.length+M.length≤1000000):ListP w5 lo g S v5 (L++M) :=
 ⟨h.ow.join (fun x hx=>⟨(hd x hx).1,fun i hi=>((hd x hx).1.1.lt i hi).1⟩) hrow hgr (hv.imp id fun ⟨b,h1,_⟩=>⟨b,h1,(hrow.lt b h1).1⟩) hl,
  fun i hi h2=>by
   rcases hv with e|⟨b,e,hb⟩
   ·exact h.nS i (e ▸ hi) h2
   ·rw [e] at hi;injection hi with hi;have:=hs i h2;omega,
  fun y hy=>by
   rcases List.mem_append.1 hy with hy|hy
   ·exact h.nd y hy
   ·exact (hd y hy).2⟩
end
theorem two_ways {T G:Prop} (h:Hid T→G) (t:T):G:=h (qH t)
theorem _root_.Go.Proofs.YthlahcnglacekaaGreatDoor.monoj.wpMonoJ_cast {P:Program} {md:Region.Mode} {ops:Array Oper} {Q:Exit→Act→World→Prop} {X:Nat→Prop} {mv:List Nat} {fuel:Nat} {l l':Array Bool} {a:Act} {w:World} (h:l=l') (hx:monoj.wpMonoJ P md ops Q X mv fuel l' a w):monoj.wpMonoJ P md ops Q X mv fuel l a w:=h ▸ hx
theorem encode_bad (x:Wr) (w:World) (hd:Nums w w.heap.size x.d x.z) (hr:rightB x=false) :
  Calls Tryz.prog 193 #[.agg ⟨x.cells⟩] w fun e w'=>∃ v,e=.returned (.tuple #[.string ⟨#[]⟩,v])∧Err w' v 1∧Below w.heap.size w w':=by
 have hd2:=qH (show Nums (w.alloc (.cells x.cells.toArray 188)) (w.alloc (.cells x.cells.toArray 188)).heap.size x.d x.z from (hd.below (below_new _ _)).more (by simp));have hb0:=qH (below_new w (.cells x.cells.toArray 188));obtain ⟨r,n,t,s,d,zs,se,k,v,g,l⟩:=x;have Hr:=qH hr;clear hd hr;unfold Wr.cells at *;dsimp only at *;go_enter Tryz.func193,Tryz.ntmps193;go_wp2_with fail;refine (right_any ⟨r,n,t,s,d,zs,se,k,v,g,l⟩ _ hd2.out).mono ?_;rintro e w1 ⟨rfl,hb1⟩;rw [Hr.out];have HB:=qH (hb0.out.trans (hb1.mono (by simp)));clear hb1;go_wp2_with fail;refine (Go.Proofs.YthlahcnglacekaaGreatDoor.err.at_any _ _ _ _).mono ?_;rintro e w2 ⟨ve,rfl,he,_,hb2,_⟩;have HE:=qH he;have HB2:=qH (HB.out.trans (hb2.mono HB.out.size));obtain ⟨ge,rfl⟩:=he.form;clear he hb2;go_wp2_with fail;go_ret2
 exact ⟨_,rfl,HE.out,HB2.out⟩
end regn
namespace regn
open Go Go.RowKit base err map_ above merge rows store fold monoj
structure FX where
 id:Nat
 ck:Int
 ap:List Int
 made:Int
 key:Int
 base:Int
 Lf:List wire.Wr
 L:List rows.R
 ep:List list.Ep
 st:Bool
 fi:Bool
end regn
namespace regn
open Go Go.RowKit base err map_ above merge rows Go.Maps store fold monoj rowe
def writeX (x:FX) (y:wire.Wr):FX :=
 { x with ap:=with_.withL x.ap y.r y.n,ck:=max x.ck y.t,L:=takeL x.L (y.se,y.k) ⟨y.t,y.s,y.v,y.g,y.l⟩,Lf:=if y.r=x.id then x.Lf++[y] else x.Lf }
end regn
namespace regn
open Go Go.RowKit base err cmp wire dep vec with_ writep wireb monoj rowe
def PlanStop (id ck0:Int) (ap0:List Int) (ws0:List Wr) (cs:List Ch) (c:Int):Prop :=
 ∃ ws1 cs1 c0 cs2 own all ck a ws,ws1.map Wr.abs=ws0.map Wr.abs∧cs=cs1++c0 :: cs2∧Plan id ck0 ap0 ws1 cs1 own all ck a ws∧((c=3∧1099511627776≤ck)∨(c=1∧ck<1099511627776∧rightB (mkW id c0 ck a (.slice none 0 0))=false))
theorem PlanStop.of {id ck0:Int} {ap0:List Int} {ws0 ws1:List Wr} {cs:List Ch} {c:Int} {k:Nat} {c0:Ch} {own all:List Wr} {ck:Int} {a:List Int} {ws:List Wr} (hab:ws1.map Wr.abs=ws0.map Wr.abs) (htk:cs.take (k+1)=cs.take k++[c0]) (hp:Plan id ck0 ap0 ws1 (cs.take k) own all ck a ws)
  (h:(c=3∧1099511627776≤ck)∨(c=1∧ck<1099511627776∧rightB (mkW id c0 ck a (.slice none 0 0))=false)):PlanStop id ck0 ap0 ws0 cs c :=
 ⟨ws1,cs.take k,c0,cs.drop (k+1),own,all,ck,a,ws,hab,by
  have e:cs.take (k+1)++cs.drop (k+1)=cs:=List.take_append_drop _ _;rw [htk,List.append_assoc] at e;exact e.symm,hp,h⟩
def PlanR (id ck0:Int) (ap0:List Int) (ws0:List Wr) (cs:List Ch) (w:World) (e:Ending) (w':World):Prop :=
 Below w.heap.size w w'∧((∃ v c,PlanStop id ck0 ap0 ws0 cs c∧e=.returned (.tuple #[.slice none 0 0,.slice none 0 0,.pointer none,v])∧ErrD w' 1 v c) ∨
  ∃ vo va g Sn ws1 own all ck a ws v7 v8 Lo La,e=.returned (.tuple #[vo,va,.pointer (some ⟨g,0,none⟩),.nilIface])∧ws1.map Wr.abs=ws0.map Wr.abs∧Plan id ck0 ap0 ws1 cs own all ck a ws ∧
   ListP w' w.heap.size g Sn vo Lo∧Lo.map Wr.abs=own∧ListP w' w.heap.size g Sn va La∧La.map Wr.abs=all∧InF w' Sn g id a ws v7 v8∧∀ i,Sn i→w.heap.size≤i)
structure MemP (w wr:World) (id:Int) (g:Nat) (vo va:Value) (Sn:Nat→Prop) (a:List Int) (ws:List Wr) (v7 v8:Value) (Lo La:List Wr):Prop where
 lo:ListP wr w.heap.size g Sn vo Lo
 la:ListP wr w.heap.size g Sn va La
 inb:InF wr Sn g id a ws v7 v8
 new:∀ i,Sn i→w.heap.size≤i
 bel:Below w.heap.size w wr
 ap:∀ i,vo.ownBlock=some i→va.ownBlock≠some i
section
variable {w wr w1:World} {id:Int} {g:Nat} {vo va:Value} {Sn:Nat→Prop} {a:List Int} {ws:List Wr} {v7 v8:Value} {Lo La:List Wr}
theorem own_keeps' {X:Nat→Prop} {w w':World} {base:Nat} {e:TypeId} {size n:Nat} {v:Value} {xs:List Value} (h:w.ownsRow base e size v n xs) (hk:Keeps X w w') (hx:∀ g,v.ownBlock=some g→¬ X g):w'.ownsRow base e size v n xs:=dep.own_keeps h hk hx
theorem row_place {v v':Value} {lo hi:Nat} (h:∀ i,v.ownBlock=some i→i<lo) (hv:v'.ownBlock=v.ownBlock∨∃ g,v'.ownBlock=some g∧hi≤g):∀ i,v'.ownBlock=some i→i<lo∨hi≤i:=fun i hi'=>by
 rcases hv with e|⟨b,e,hb⟩
 ·exact .inl (h i (e ▸ hi'))
 ·rw [e] at hi'
  injection hi' with hi';exact .inr (by omega)
theorem ownI_low {w:World} {base base':Nat} {e:TypeId} {size n:Nat} {v:Value} {xs:List Value} (h:w.ownsRow base' e size v n xs) (hb:base≤base'):w.ownsRow base e size v n xs :=
 ⟨h.1,h.2.imp id fun ⟨g,cap,cur,e,h1,r⟩=>⟨g,cap,cur,e,Nat.le_trans hb h1,r⟩⟩
theorem MemP.below (h:MemP w wr id g vo va Sn a ws v7 v8 Lo La) (hb:Below wr.heap.size wr w1):MemP w w1 id g vo va Sn a ws v7 v8 Lo La:=⟨h.lo.below hb,h.la.below hb,h.inb.below hb,h.new,h.bel.trans (hb.mono h.bel.size),h.ap⟩
theorem MemP.blk {t:TypeId} {b:Nat} {cs:Array Value} (h:MemP w wr id g vo va Sn a ws v7 v8 Lo La) (hb:Blk wr b t cs) (hk:Keeps (· = b) wr w1) (hn:w.heap.size≤b) (h1:188≠t) (h2:3≠t) (h3:261≠t):MemP w w1 id g vo va Sn a ws v7 v8 Lo La :=
 ⟨h.lo.blk hb hk h1 h2,h.la.blk hb hk h1 h2,
  h.inb.keepsO hk (fun e=>Blk.ne_ h.inb.blk hb h3 e) (fun _ hi e=>own_blk_ne h.inb.app hb h2 (e ▸ hi)) (fun _ hi e=>own_blk_ne h.inb.row hb h1 (e ▸ hi)) (fun x hx _ hi e=>own_blk_ne (h.inb.num x hx).1 hb h2 (e ▸ hi)),
  h.new,below_kept h.bel hk (fun i e=>by have e:i=b:=e;omega),h.ap⟩
theorem MemP.swap (h:MemP w wr id g vo va Sn a ws v7 v8 Lo La):MemP w wr id g va vo Sn a ws v7 v8 La Lo:=⟨h.la,h.lo,h.inb,h.new,h.bel,fun i h1 h2=>h.ap i h2 h1⟩
theorem MemP.grow {v5:Value} {Lx:List Wr} (h:MemP w wr id g vo va Sn a ws v7 v8 Lo La) (hl:ListP w1 w.heap.size g Sn v5 Lx) (hg:wr.grownBy w1 vo.ownBlock) (hv:v5.ownBlock=vo.ownBlock∨∃ g,v5.ownBlock=some g∧wr.heap.size≤g):MemP w w1 id g v5 va Sn a ws v7 v8 Lx La:=by
 have hk:Keeps (fun i=>vo.ownBlock=some i) wr w1:=.grown hg fun g hg=>.inl hg
 refine ⟨hl,⟨h.la.ow.keepsR hk (fun i hi e=>h.ap i e hi) (fun x hx i hi e=>own_apart (h.la.ow.nums x hx).1 h.lo.ow.row (by decide) i hi e),h.la.nS,h.la.nd⟩,
  h.inb.keepsO hk (fun e=>own_blk_ne h.lo.ow.row h.inb.blk (by decide) e) (fun i hi e=>own_apart h.inb.app h.lo.ow.row (by decide) i hi e) (fun i hi e=>h.lo.nS i e (h.inb.inW i hi)) (fun x hx i hi e=>own_apart (h.inb.num x hx).1 h.lo.ow.row (by decide) i hi e),
  h.new,below_kept h.bel hk (fun i e=>(h.lo.ow.row.lt i e).1),fun i h1 h2=>?_⟩
 rcases hv with e|⟨b,e,hb⟩
 ·exact h.ap i (e ▸ h1) h2
 ·rw [e] at h1
  injection h1 with h1;have:=(h.la.ow.row.lt i h2).2;omega
theorem MemP.push {y:Wr} {v5:Value} (h:MemP w wr id g vo va Sn a ws v7 v8 Lo La) (hd:NumsO wr w.heap.size y.d y.z) (hg:y.d.ownBlock≠some g) (hrow:w1.ownsRow w.heap.size 188 10 v5 (Lo.length+1) (Lo.flatMap Wr.cells++y.cells)) (hgr:wr.grownBy w1 vo.ownBlock)
  (hv:v5.ownBlock=vo.ownBlock∨∃ g,v5.ownBlock=some g∧wr.heap.size≤g) (hl:Lo.length<1000000):MemP w w1 id g v5 va Sn a ws v7 v8 (Lo++[y]) La :=
 h.grow (h.lo.push h.inb.small hd hg hrow hgr hv hl) hgr hv
theorem MemP.join {M:List Wr} {v5:Value} (h:MemP w wr id g vo va Sn a ws v7 v8 Lo La) (hd:∀ x ∈ M,NumsO wr w.heap.size x.d x.z∧x.d.ownBlock≠some g) (hrow:w1.ownsRow w.heap.size 188 10 v5 (Lo.length+M.length) (Lo.flatMap Wr.cells++M.flatMap Wr.cells)) (hgr:wr.grownBy w1 vo.ownBlock)
  (hv:v5.ownBlock=vo.ownBlock∨∃ g,v5.ownBlock=some g∧wr.heap.size≤g) (hl:Lo.length+M.length≤1000000):MemP w w1 id g v5 va Sn a ws v7 v8 (Lo++M) La :=
 h.grow (h.lo.join h.inb.small hd hrow hgr hv hl) hgr hv
end
section
variable {w:World} {own:Nat→Nat} {p:RP} {x:RX}
theorem plan_i (cs:List Ch) (A:Option Addr) (n c:Nat) (h:RegI w own p x) (hid:1≤x.id∧x.id≤16) (hck:0≤x.ck∧x.ck≤1099511627776) (hb:BndV x.ap) (hw:RngW x.ws) (hl:cs.length=n) (hn:n≤1000) (hr:Reads w w.heap.size 5 A n (cs.flatMap Ch.cells)) :
  Calls Tryz.prog 157 #[.pointer (some ⟨p.r,0,none⟩),.slice A n c] w (PlanR x.id x.ck x.ap x.ws cs w):=by
 obtain ⟨i0,hi,hz⟩:=Option.map_eq_some_iff.1 write_info;simp only [Prod.mk.injEq] at hz;obtain ⟨hz0,hz1,hz2⟩:=hz;have c5:w.cell? ⟨p.r,5,none⟩=some (.pointer (some ⟨p.gi,0,none⟩)):=h.reg.c5;have hlt:=h.reg.lt;have HR:=qH h;have HRD:=qH hr;have HCP:=qH (copy_any p.gi x.id _ x.ap x.ws p.va p.vw w h.inb);have HBV:=qH hb;have HRW:=qH hw;have hwf:=h.inb.wfew;clear h hr hb hw;go_enter Tryz.func157,Tryz.ntmps157;go_wp2_with fail;refine HCP.out.mono ?_;rintro e w1 ⟨gi,Sn,ws1,v7,v8,rfl,hin,hab,hsn,hb1⟩;have HR1:=qH (HR.out.below hb1);rw [HBV.out.2] at hin;have HI1:=qH hin;have HB1:=qH hb1;have HSN:=qH hsn;have HAB:=qH hab;have hs1:=hb1.size;clear hin hb1 hsn hab HCP c5;have c0:w1.cell? ⟨p.r,0,none⟩=some (.int .i64 x.id):=HR1.out.reg.c0;have c4:w1.cell? ⟨p.r,4,none⟩=some (.pointer (some ⟨p.gc,0,none⟩)):=HR1.out.reg.c4;have hlt1:p.r<w1.heap.size:=by omega
 go_wp2_with fail;refine wp_region_mono nobody (by kernel_rfl) ?_
 iterate 9
  first|refine qT 0 (v:=?_) ?_ ?_|refine qT 1 (v:=?_) ?_ ?_|refine qT 2 (v:=?_) ?_ ?_|refine qT 3 (v:=?_) ?_ ?_|refine qT 4 (v:=?_) ?_ ?_|refine qT 5 (v:=?_) ?_ ?_|refine qT 6 (v:=?_) ?_ ?_|refine qT 7 (v:=?_) ?_ ?_|refine qT 8 (v:=?_) ?_ ?_
  rotate_left
  ·(intro W hSw;(have hcW:=hSw.cells;try simp only [qSd] at hcW);go_simp <;> rfl)
  try simp only [qPA]
 refine wpMono_one' 9 (by kernel_rfl) rfl (by rfl) (fun K hK=>?_)
 go_simp
 refine (clock.time_any p.gc x.ck x.id _ HR1.out.drew.clk).mono ?_;rintro e w2 ⟨rfl,rfl⟩;refine hK.out _ _ ?_ ?_
 ·exact .refl _ _
 clear hK K
 try simp only [qPA]
 refine wpMono_one' 10 (by kernel_rfl) rfl (by rfl) (fun K hK=>?_)
 go_simp
 refine (clock.new_yes x.id x.ck _ (by omega) (by omega) hck.1 hck.2).mono ?_;rintro e w3 ⟨rfl,hc3,hb3⟩;have HC3:=qH hc3;have HB3:=qH hb3;clear hc3 hb3;refine hK.out _ _ ?_ ?_
 ·exact .of_below HB3.out
 clear hK K
 try simp only [qPA]
 iterate 5
  first|refine qT 11 (v:=?_) ?_ ?_|refine qT 12 (v:=?_) ?_ ?_|refine qT 13 (v:=?_) ?_ ?_|refine qT 14 (v:=?_) ?_ ?_|refine qT 15 (v:=?_) ?_ ?_
  rotate_left
  ·(intro W hSw;(have hcW:=hSw.cells;try simp only [qSd] at hcW);go_simp <;> rfl)
  try simp only [qPA]
 refine wpMono_done (by kernel_rfl) ?_ _;have HB13:=qH (show Below w1.heap.size w1 w3 from ((Below.refl _ _).drew).trans HB3.out);have HI3:=qH (HI1.out.below HB13.out);have HBw:=qH (HB1.out.trans (HB13.out.mono hs1));have HRD3:=qH HRD.out;have HR3:=HR;obtain ⟨gc,hgc⟩:∃ gc,w1.heap.size=gc:=⟨_,rfl⟩;have hgc2:w1.drew.heap.size=gc:=hgc;have hgcw0:w.heap.size≤gc:=by omega
 rw [hgc2] at HC3 ⊢;rw [hgc];clear HI1 HB1 HB3 HB13 c0 c4 HR1 hgc hgc2 hs1;have HM0:=qH (show MemP w w3 x.id gi (.slice none 0 0) (.slice none 0 0) Sn x.ap ws1 v7 v8 [] [] from ⟨.none _ _ _ _,.none _ _ _ _,HI3.out,HSN.out,HBw.out,fun i hi=>(by cases hi)⟩);have hgcw:w.heap.size≤gc:=hgcw0
 have HF:=qH (show RngW ws1∧ws1.length≤1000 from by
  have hab:=HAB.out;refine ⟨fun y hy=>?_,?_⟩
  ·obtain ⟨z,hz,he⟩:=abs_mem hab hy
   have h1:=HRW.out z hz;rw [←right_abs,←he,right_abs] at h1;exact h1
  ·have:=congrArg List.length hab
   simp at this
   omega)
 clear HI3 HSN HBw HRW hwf hgcw0;go_wp2_with fail
 go_loopw [4,5,6,7,42] (fun vo va g6 e7 i wr=>∃ (k:Nat) (Sn:Nat→Prop) (o1 a1:List Wr) (ck:Int) (a:List Int) (ws:List Wr) (v7 v8:Value) (Lo La:List Wr),i=.int .i64 k∧k≤n∧g6=.pointer (some ⟨gi,0,none⟩)∧e7=.nilIface∧Plan x.id x.ck x.ap ws1 (cs.take k) o1 a1 ck a ws∧Lo.map Wr.abs=o1∧La.map Wr.abs=a1∧MemP w wr x.id gi vo va Sn a ws v7 v8 Lo La∧clock.Clk wr gc ck x.id) (fun _ _ _ _ i _=>n-(intOf i).toNat)
 case atStart=>exact ⟨0,_,_,_,_,_,_,_,_,_,_,rfl,by omega,rfl,rfl,.zero,rfl,rfl,HM0.out,HC3.out⟩
 case round =>
  clear HM0 HC3;obtain ⟨k,Sn,o1,a1,ck,a,ws,v7,v8,Lo,La,rfl,hk,rfl,rfl,hplan,hloa,hlaa,hmem,hclk⟩:=hrel;obtain ⟨Ao,co,rfl⟩:=ownsRow_slice hmem.lo.ow.row;obtain ⟨Aa,ca,rfl⟩:=ownsRow_slice hmem.la.ow.row;obtain ⟨hck1,hba,hrw,_,_,hlo,hla⟩:=hplan.facts (by omega) hck HBV.out HF.out.1;have HM:=qH hmem;have HC:=qH hclk;have HP:=qH hplan
  have hll:Lo.length=k∧La.length≤k+1000:=by
   have h1:=congrArg List.length hloa;have h2:=congrArg List.length hlaa;have h3:=HF.out.2;simp only [List.length_map] at h1 h2;rw [List.length_take] at hlo hla;omega
  have HLL:=qH hll;have HLO:=qH hloa;have HLA:=qH hlaa;have hsz:=hmem.bel.size;clear hmem hclk hplan hloa hlaa hlo hla hll
  by_cases hkn:k<n
  ·have dk:decide ((k:Int)<(n:Int))=true:=decide_eq_true (by omega)
   have hkl:k<cs.length:=by omega
   obtain ⟨b,off,rfl,hbb⟩:=HRD3.out.at_some (by omega)
   have hcell:∀ j v,(cs[k]).cells[j]?=some v→wr.cell? ⟨b,off+k*5+j,none⟩=some v:=fun j v hj=>by
    have hj2:j<5:=by
     rcases Nat.lt_or_ge j 5 with h|h
     ·exact h
     ·rw [List.getElem?_eq_none (by rw [Ch.len];exact h)] at hj;cases hj
    have:=Reads.thing Ch.cells Ch.len (HRD3.out.below HM.out.bel) (k:=k) (x:=cs[k]) hkn (List.getElem?_eq_getElem hkl) j hj2;exact this.trans hj
   have htk:cs.take (k+1)=cs.take k++[cs[k]]:=List.take_succ_eq_append_getElem hkl;generalize cs[k]=ch at *;obtain ⟨cse,ck_,cv,cg,cl⟩:=ch;have Hcell:=qH (show ∀ j v,[Value.string cse,.string ck_,.string cv,.bool cg,.int .i64 cl][j]?=some v→wr.cell? ⟨b,off+k*5+j,none⟩=some v from hcell);have Htk:=qH htk;have Hba:=qH hba;have Hrw:=qH hrw;clear hcell htk hba hrw
   go_wp2_with (first|(refine wpList_load_at rfl 210 (.tmp 44) rfl b (off+k*5) [.string cse,.string ck_,.string cv,.bool cg,.int .i64 cl] rfl Tryz.underlying210 rfl (by kernel_rfl) Hcell.out ?_)|(refine wpList_store_blk rfl 210 (.tmp 11) (.tmp 45) rfl wr.heap.size [.string cse,.string ck_,.string cv,.bool cg,.int .i64 cl] rfl rfl (Blk.new wr 210 #[.string ⟨#[]⟩,.string ⟨#[]⟩,.string ⟨#[]⟩,.bool false,.int .i64 0]) (by kernel_rfl) rfl rfl ?_;intro w9 ho9 hk9 hs9))
   have hb9:Below wr.heap.size wr w9:=(below_new wr (.cells #[.string ⟨#[]⟩,.string ⟨#[]⟩,.string ⟨#[]⟩,.bool false,.int .i64 0] 210)).trans (hk9.below (fun i hi e=>by omega) (by simp));have HO9:=qH ho9;have HB9:=qH hb9;clear ho9 hb9 hk9 Hcell;have HM9:=qH (HM.out.below HB9.out);have hgl:=HC.out.lt;have HC9:=qH (show clock.Clk w9 gc ck x.id from Blk.below HC.out HB9.out hgl);have HR9:=qH (HR3.out.below HM9.out.bel);clear HM HC
   by_cases hckl:ck<1099511627776
   ·refine (clock.next_yes gc ck x.id w9 HC9.out hck1.1 hckl).mono ?_
    rintro e w10 ⟨rfl,hc10,hk10⟩;have HM10:=qH (HM9.out.blk HC9.out hk10 hgcw (by decide) (by decide) (by decide));have HO10:=qH (Blk.keeps HO9.out hk10 (by omega));have HC10:=qH hc10;clear hc10 hk10 HM9 HO9 HC9;go_wp2_with fail;have hb11:=below_new w10 (.cells #[.int .i64 (ck+1),.int .i64 x.id] 128);have HS11:=qH (Blk.new w10 128 #[.int .i64 (ck+1),.int .i64 x.id]);have HM11:=qH (HM10.out.below hb11);have HO11:=qH (Blk.below HO10.out hb11 HO10.out.lt);have hgl10:=HC10.out.lt;have HC11:=qH (show clock.Clk _ gc (ck+1) x.id from Blk.below HC10.out hb11 hgl10);have hs11:=hb11.size;have hs10:=HM10.out.bel.size;have hw10:=HO10.out.lt;clear hb11 HM10 HO10 HC10;obtain ⟨gs,hgs⟩:∃ gs,w10.heap.size=gs:=⟨_,rfl⟩;rw [hgs] at HS11 hs11 hs10 hgl10 hw10 ⊢;generalize w10.alloc (.cells #[.int .i64 (ck+1),.int .i64 x.id] 128)=w11 at *;refine (applied_any gi x.id Sn a ws v7 v8 w11 HM11.out.inb).mono ?_;rintro e w12 ⟨vd,rfl,hod,hb12⟩;rw [Hba.out.2] at hod;obtain ⟨Ad,cd,rfl,hvd⟩:=Vec.of_own hod;have HD12:=qH hod;have HV12:=qH hvd;have HM12:=qH (HM11.out.below hb12);have HO12:=qH (Blk.below HO11.out hb12 HO11.out.lt);have HS12:=qH (Blk.below HS11.out hb12 HS11.out.lt);have hgl11:=HC11.out.lt;have HC12:=qH (show clock.Clk w12 gc (ck+1) x.id from Blk.below HC11.out hb12 hgl11);have hs12:=hb12.size;clear hb12 hod hvd HM11 HO11 HS11 HC11;go_wp2_with fail;have HR12:=qH (HR.out.below HM12.out.bel);have c0:w12.cell? ⟨p.r,0,none⟩=some (.int .i64 x.id):=HR12.out.reg.c0;have s0:w12.cell? ⟨gs,0,none⟩=some (.int .i64 (ck+1)):=HS12.out.cell 0;have s1:w12.cell? ⟨gs,1,none⟩=some (.int .i64 x.id):=HS12.out.cell 1;have d0:w12.cell? ⟨wr.heap.size,0,none⟩=some (.string cse):=HO12.out.cell 0;have d1:w12.cell? ⟨wr.heap.size,1,none⟩=some (.string ck_):=HO12.out.cell 1;have d2:w12.cell? ⟨wr.heap.size,2,none⟩=some (.string cv):=HO12.out.cell 2;have d3:w12.cell? ⟨wr.heap.size,3,none⟩=some (.bool cg):=HO12.out.cell 3;have d4:w12.cell? ⟨wr.heap.size,4,none⟩=some (.int .i64 cl):=HO12.out.cell 4;have hr12:=HR12.out.reg.lt;have hsl12:=HS12.out.lt;have hol12:=HO12.out.lt;obtain ⟨fc,hfc⟩:∃ x,wr.heap.size=x:=⟨_,rfl⟩;rw [hfc] at d0 d1 d2 d3 d4 hol12 ⊢;have hnb:=Hba.out.1 x.id;have hw1:IntKind.i64.wrap (atV a (x.id:Int)+1)=atV a (x.id:Int)+1:=by rw [IntKind.wrap_i64];omega
    have HA16:=qH (show a.length≤16 from HM12.out.inb.afew);obtain ⟨nb,hnbe⟩:∃ z,atV a (x.id:Int)=z:=⟨_,rfl⟩;rw [hnbe] at hw1 hnb;refine wp_region_monoJ (fun i=>w12.heap.size≤i) [27] (by kernel_rfl) ?_
    iterate 4
     first|refine qJ 0 (v:=?_) ?_ ?_|refine qJ 1 (v:=?_) ?_ ?_|refine qJ 2 (v:=?_) ?_ ?_|refine qJ 3 (v:=?_) ?_ ?_
     rotate_left
     ·(intro W hSw;(first|(have hcW:=hSw.cells;try simp only [qSd] at hcW)|skip);go_simp <;> rfl)
     try simp only [qPA]
     (try rw [hw1])
    refine wpMonoJ_read' 4 [25,27] (v:=?_) rfl (by kernel_rfl) (by kernel_rfl) (by kernel_rfl) (by rfl) (by kernel_rfl) (by rfl) (fun _ _ _ h=>h) (by rfl) ?_ ?_;rotate_left
    ·(intro W hSw;(first|(have hcW:=hSw.cells;try simp only [qSd] at hcW)|skip);go_simp <;> rfl)
    try simp only [qPA]
    (try rw [hw1])
    iterate 5
     first|refine qJ 5 (v:=?_) ?_ ?_|refine qJ 6 (v:=?_) ?_ ?_|refine qJ 7 (v:=?_) ?_ ?_|refine qJ 8 (v:=?_) ?_ ?_|refine qJ 9 (v:=?_) ?_ ?_
     rotate_left
     ·(intro W hSw;(first|(have hcW:=hSw.cells;try simp only [qSd] at hcW)|skip);go_simp <;> rfl)
     try simp only [qPA]
     (try rw [hw1])
    refine wpMonoJ_read' 10 [11,12,25,27] (v:=?_) rfl (by kernel_rfl) (by kernel_rfl) (by kernel_rfl) (by rfl) (by kernel_rfl) (by rfl) (fun _ _ _ h=>h) (by rfl) ?_ ?_;rotate_left
    ·(intro W hSw;(first|(have hcW:=hSw.cells;try simp only [qSd] at hcW)|skip);go_simp <;> rfl)
    try simp only [qPA]
    (try rw [hw1])
    refine wpMonoJ_read' 13 [25,27] (v:=?_) rfl (by kernel_rfl) (by kernel_rfl) (by kernel_rfl) (by rfl) (by kernel_rfl) (by rfl) (fun _ _ _ h=>h) (by rfl) ?_ ?_;rotate_left
    ·(intro W hSw;(first|(have hcW:=hSw.cells;try simp only [qSd] at hcW)|skip);go_simp <;> rfl)
    try simp only [qPA]
    (try rw [hw1])
    iterate 2
     first|refine qJ 14 (v:=?_) ?_ ?_|refine qJ 15 (v:=?_) ?_ ?_
     rotate_left
     ·(intro W hSw;(first|(have hcW:=hSw.cells;try simp only [qSd] at hcW)|skip);go_simp <;> rfl)
     try simp only [qPA]
     (try rw [hw1])
    refine wpMonoJ_read' 16 [25,27] (v:=?_) rfl (by kernel_rfl) (by kernel_rfl) (by kernel_rfl) (by rfl) (by kernel_rfl) (by rfl) (fun _ _ _ h=>h) (by rfl) ?_ ?_;rotate_left
    ·(intro W hSw;(first|(have hcW:=hSw.cells;try simp only [qSd] at hcW)|skip);go_simp <;> rfl)
    try simp only [qPA]
    (try rw [hw1])
    refine qJ 17 (v:=?_) ?_ ?_;rotate_left
    ·(intro W hSw;(first|(have hcW:=hSw.cells;try simp only [qSd] at hcW)|skip);go_simp <;> rfl)
    try simp only [qPA]
    (try rw [hw1])
    refine wpMonoJ_read' 18 [25,27] (v:=?_) rfl (by kernel_rfl) (by kernel_rfl) (by kernel_rfl) (by rfl) (by kernel_rfl) (by rfl) (fun _ _ _ h=>h) (by rfl) ?_ ?_;rotate_left
    ·(intro W hSw;(first|(have hcW:=hSw.cells;try simp only [qSd] at hcW)|skip);go_simp <;> rfl)
    try simp only [qPA]
    (try rw [hw1])
    refine qJ 19 (v:=?_) ?_ ?_;rotate_left
    ·(intro W hSw;(first|(have hcW:=hSw.cells;try simp only [qSd] at hcW)|skip);go_simp <;> rfl)
    try simp only [qPA]
    (try rw [hw1])
    refine wpMonoJ_read' 20 [25,27] (v:=?_) rfl (by kernel_rfl) (by kernel_rfl) (by kernel_rfl) (by rfl) (by kernel_rfl) (by rfl) (fun _ _ _ h=>h) (by rfl) ?_ ?_;rotate_left
    ·(intro W hSw;(first|(have hcW:=hSw.cells;try simp only [qSd] at hcW)|skip);go_simp <;> rfl)
    try simp only [qPA]
    (try rw [hw1])
    refine qJ 21 (v:=?_) ?_ ?_;rotate_left
    ·(intro W hSw;(first|(have hcW:=hSw.cells;try simp only [qSd] at hcW)|skip);go_simp <;> rfl)
    try simp only [qPA]
    (try rw [hw1])
    refine wpMonoJ_read' 22 [25,27] (v:=?_) rfl (by kernel_rfl) (by kernel_rfl) (by kernel_rfl) (by rfl) (by kernel_rfl) (by rfl) (fun _ _ _ h=>h) (by rfl) ?_ ?_;rotate_left
    ·(intro W hSw;(first|(have hcW:=hSw.cells;try simp only [qSd] at hcW)|skip);go_simp <;> rfl)
    try simp only [qPA]
    (try rw [hw1])
    refine qJ 23 (v:=?_) ?_ ?_;rotate_left
    ·(intro W hSw;(first|(have hcW:=hSw.cells;try simp only [qSd] at hcW)|skip);go_simp <;> rfl)
    try simp only [qPA]
    (try rw [hw1])
    refine wpMonoJ_read' 24 [25,27] (v:=?_) rfl (by kernel_rfl) (by kernel_rfl) (by kernel_rfl) (by rfl) (by kernel_rfl) (by rfl) (fun _ _ _ h=>h) (by rfl) ?_ ?_;rotate_left
    ·(intro W hSw;(first|(have hcW:=hSw.cells;try simp only [qSd] at hcW)|skip);go_simp <;> rfl)
    try simp only [qPA]
    (try rw [hw1])
    apply two_ways
    ·intro tail
     refine wpMonoJ_two' 11 26 (by kernel_rfl) rfl (by rfl) rfl (by rfl) (fun K hK=>?_) (fun K hK=>?_)
     ·skip
      go_simp
      refine (vec.at_any Ad a.length cd a x.id _ _ (show vec.Vec w12.drew w12.drew.heap.size Ad a.length cd a from HV12.out) (by omega)).mono ?_;rintro e w13 ⟨rfl,rfl⟩;rw [hnbe];refine hK.out _ _ ?_ ?_
      ·exact .refl _ _
      clear hK K
      try simp only [qPA]
      (try rw [hw1])
      iterate 2
       first|refine qJ 12 (v:=?_) ?_ ?_|refine qJ 25 (v:=?_) ?_ ?_
       rotate_left
       ·(intro W hSw;(first|(have hcW:=hSw.cells;try simp only [qSd] at hcW)|skip);go_simp <;> rfl)
       try simp only [qPA]
       (try rw [hw1])
      refine wpMonoJ_one' 26 (by kernel_rfl) rfl (by rfl) (fun K hK=>?_)
      go_simp
      refine hK.out _ _ ?_ ?_
      ·exact (show Keeps _ w12.drew (w12.drew.alloc _) from .alloc _)
      clear hK K
      try simp only [qPA]
      (try rw [hw1])
      exact tail.out
     ·skip
      go_simp
      refine hK.out _ _ ?_ ?_
      ·exact (show Keeps _ w12.drew (w12.drew.alloc _) from .alloc _)
      clear hK K
      try simp only [qPA]
      (try rw [hw1])
      refine wpMonoJ_one' 11 (by kernel_rfl) rfl (by rfl) (fun K hK=>?_)
      go_simp
      refine (vec.at_any Ad a.length cd a x.id _ _ (show vec.Vec (w12.alloc _).drew w12.heap.size Ad a.length cd a from HV12.out.below ((below_new w12 _).drew)) (by omega)).mono ?_;rintro e w13 ⟨rfl,rfl⟩;rw [hnbe];refine hK.out _ _ ?_ ?_
      ·exact .refl _ _
      clear hK K
      try simp only [qPA]
      (try rw [hw1])
      iterate 2
       first|refine qJ 12 (v:=?_) ?_ ?_|refine qJ 25 (v:=?_) ?_ ?_
       rotate_left
       ·(intro W hSw;(first|(have hcW:=hSw.cells;try simp only [qSd] at hcW)|skip);go_simp <;> rfl)
       try simp only [qPA]
       (try rw [hw1])
      refine wpMonoJ_cast ?_ tail.out
      kernel_rfl
    refine wpMonoJ_one' 27 (by kernel_rfl) rfl (by rfl) (fun K hK=>?_);refine wp_store_at 188 (.tmp 15) (.tmp 81) rfl w12.heap.size 0 [.int .i64 x.id,.int .i64 (nb+1),.int .i64 (ck+1),.int .i64 x.id,.slice Ad a.length cd,.string cse,.string ck_,.string cv,.bool cg,.int .i64 cl] rfl rfl (Blk.drew (Blk.new w12 188 #[.int .i64 0,.int .i64 0,.int .i64 0,.int .i64 0,.slice none 0 0,.string ⟨#[]⟩,.string ⟨#[]⟩,.string ⟨#[]⟩,.bool false,.int .i64 0])) (by kernel_rfl) (by simp) rfl (fun w14 ho14 hk14 hs14=>?_);refine hK.out _ _ ?_ ?_
    ·exact moved (hk14.more fun i _ e=>by have e:i=w12.heap.size:=e;omega) (by decide)
    clear hK K
    try simp only [Act.put]
    refine wpMonoJ_done (by kernel_rfl) ?_ _;have ho14':Blk w14 w12.heap.size 188 #[.int .i64 x.id,.int .i64 (nb+1),.int .i64 (ck+1),.int .i64 x.id,.slice Ad a.length cd,.string cse,.string ck_,.string cv,.bool cg,.int .i64 cl]:=by simpa [putAt] using ho14
    have hb14:Below w12.heap.size w12 w14:=((below_new w12 (.cells #[.int .i64 0,.int .i64 0,.int .i64 0,.int .i64 0,.slice none 0 0,.string ⟨#[]⟩,.string ⟨#[]⟩,.string ⟨#[]⟩,.bool false,.int .i64 0] 188)).drew).trans (hk14.below (fun i hi e=>by omega) (by simp));have HW14:=qH ho14';have HM14:=qH (HM12.out.below hb14);have hgl12:=HC12.out.lt;have HC14:=qH (show clock.Clk w14 gc (ck+1) x.id from Blk.below HC12.out hb14 hgl12);have HN14:=qH (show NumsO w14 w.heap.size (.slice Ad a.length cd) a from (show NumsO w12 w.heap.size (.slice Ad a.length cd) a from ⟨ownI_low HD12.out (by omega),by have:=HA16.out;omega⟩).below hb14);have HGS:=qH HM12.out.inb.small;have HGIN:=qH HM12.out.inb.inG;have HLF:=qH (show (∀ i,(Value.slice Ao Lo.length co).ownBlock=some i→i<w12.heap.size)∧(∀ i,(Value.slice Aa La.length ca).ownBlock=some i→i<w12.heap.size) from ⟨fun i hi=>(HM12.out.lo.ow.row.lt i hi).2,fun i hi=>(HM12.out.la.ow.row.lt i hi).2⟩);have HGW:=qH (show ∀ i,v8.ownBlock=some i→i<w12.heap.size from fun i hi=>HM12.out.inb.small i (HM12.out.inb.inW i hi));have hs14:w12.heap.size<w14.heap.size:=ho14'.lt;clear ho14 ho14' hk14 hb14 HM12 HO12 HS12 HC12 HD12 HV12 HR12 c0 s0 s1 d0 d1 d2 d3 d4 hgl11;obtain ⟨fw,hfw⟩:∃ z,w12.heap.size=z:=⟨_,rfl⟩;rw [hfw] at HW14 hs14 HGS HGW HLF hs12 ⊢;obtain ⟨y,hy⟩:∃ y:Wr,(⟨x.id,nb+1,ck+1,x.id,.slice Ad a.length cd,a,cse,ck_,cv,cg,cl⟩:Wr)=y:=⟨_,rfl⟩;have HYC:=qH (show [Value.int .i64 x.id,.int .i64 (nb+1),.int .i64 (ck+1),.int .i64 x.id,.slice Ad a.length cd,.string cse,.string ck_,.string cv,.bool cg,.int .i64 cl]=y.cells by rw [←hy];rfl);have HYA:=qH (show y.abs=mkW x.id ⟨cse,ck_,cv,cg,cl⟩ ck a (.slice none 0 0) by rw [←hy,←hnbe];rfl);have HYD:=qH (show y.d=.slice Ad a.length cd∧y.z=a∧y.n=nb+1 by rw [←hy];exact ⟨rfl,rfl,rfl⟩);clear hy hw1
    go_wp2_with (refine wpList_load_at rfl 188 (.tmp 15) rfl fw 0 [.int .i64 x.id,.int .i64 (nb+1),.int .i64 (ck+1),.int .i64 x.id,.slice Ad a.length cd,.string cse,.string ck_,.string cv,.bool cg,.int .i64 cl] rfl Tryz.underlying188 rfl (by kernel_rfl) (fun j v hj=>by rw [Nat.zero_add,HW14.out.cell j];simpa using hj) ?_)
    rw [HYC.out];have HNY:=qH (show Nums w14 w14.heap.size y.d y.z by rw [HYD.out.1,HYD.out.2.1];exact HN14.out.nums)
    cases hrt:rightB y with
    | false =>
     refine (encode_bad y w14 HNY.out hrt).mono ?_;rintro e w15 ⟨v,rfl,he,hb15⟩;have HE:=qH he;obtain ⟨ge,rfl⟩:=he.form;have HQ:=qH (show PlanR x.id x.ck x.ap x.ws cs w (.returned (.tuple #[.slice none 0 0,.slice none 0 0,.pointer none,.iface 121 (.pointer (some ⟨ge,0,none⟩))])) w15 from ⟨HM14.out.bel.trans (hb15.mono HM14.out.bel.size),.inl ⟨_,1,.of HAB.out Htk.out HP.out (.inr ⟨rfl,hckl,by rw [←HYA.out];exact hrt⟩),rfl,HE.out.one⟩⟩);clear he hb15;go_wp2_with fail;exact bodyPost_ret (v:=.tuple #[.slice none 0 0,.slice none 0 0,.pointer none,.iface 121 (.pointer (some ⟨ge,0,none⟩))]) (by simp [results,Tryz.results157,go_sem]) rfl HQ.out
    | true =>
     have hrp:=right_parts hrt;have hn1:=hrp.n1;rw [HYD.out.2.2] at hn1;clear hrp;refine (encode_any y w14 HNY.out).mono ?_;rintro e w15 ⟨⟨s1,v1,rfl,hv1⟩,hb15⟩
     rcases hv1 with ⟨_,rfl⟩|⟨hv1,_⟩
     rotate_left
     ·rw [hrt] at hv1;cases hv1
     have HRT:=qH hrt;clear hrt;have hs15:=hb15.size;have HM15:=qH (HM14.out.below hb15);have HW15:=qH (Blk.below HW14.out hb15 HW14.out.lt);have hgl14:=HC14.out.lt;have HC15:=qH (show clock.Clk w15 gc (ck+1) x.id from Blk.below HC14.out hb15 hgl14);have HN15:=qH (HN14.out.below hb15);clear hb15 HM14 HW14 HC14 HN14 HNY;go_wp2_with fail;obtain ⟨_,_,hve,hvd⟩:=Vec.of_own (show w15.ownsRow w.heap.size 3 1 (.slice Ad a.length cd) a.length (enc a) from HN15.out.1);injection hve with hve1 _ hve2;subst hve1 hve2;refine (own_any gi x.id Sn a ws v7 v8 Ad a.length cd a w15 HM15.out.inb hvd (by have:=HA16.out;omega) (by omega) (by rw [hnbe];exact hnb.1)).mono ?_;rintro e w16 h16
     rcases h16 with ⟨hbad,_⟩|⟨_,hbad,_⟩|⟨_,_,vo2,a',ws',out,S3,rfl,hdr,hno,hdm⟩
     ·rw [covers_self] at hbad;cases hbad
     ·rw [hnbe] at hbad;omega
     obtain ⟨hst,⟨va2,vw2,hf16,hap16⟩,hrow16,hnum16,hvo16,hk16,hs16⟩:=hdr;have hkM:=hdm.2.1;have hvoN:=hdm.1;have hin15:=HM15.out.inb;have hgiS:w.heap.size≤gi:=HM15.out.new gi hin15.inG;have hv8S:∀ i,v8.ownBlock=some i→w.heap.size≤i:=fun i hi=>HM15.out.new i (hin15.inW i hi);have hnew16:∀ i,S3 i→w.heap.size≤i:=fun i hi=>(hs16 i hi).elim (HM15.out.new i) (fun h=>by have:=HM15.out.bel.size;omega);have hbel16:Below w.heap.size w w16:=below_kept HM15.out.bel hkM (fun i e=>e.elim (fun e=>by rw [e];exact hgiS) (hv8S i));have HM16:=qH (show MemP w w16 x.id gi (.slice Ao Lo.length co) (.slice Aa La.length ca) S3 a' ws' va2 vw2 Lo La from ⟨HM15.out.lo.shown hin15 hkM hs16,HM15.out.la.shown hin15 hkM hs16,hf16,hnew16,hbel16,HM15.out.ap⟩);have HC16:=qH (show clock.Clk w16 gc (ck+1) x.id from Blk.keeps HC15.out hkM (fun e=>e.elim (fun e=>Blk.ne_ hin15.blk HC15.out (by decide) e.symm) (fun e=>own_blk_ne hin15.row HC15.out (by decide) e)));have hgifw:gi<fw:=HGS.out gi (by exact HGIN.out);have HW16:=qH (Blk.keeps HW15.out hkM (fun e=>e.elim (fun e=>by omega) (fun e=>by have:=HGW.out _ e;omega)));have HN16:=qH (HN15.out.keeps hkM (fun i hi e=>e.elim (fun e=>own_blk_ne HN15.out.1 hin15.blk (by decide) (e ▸ hi)) (fun e=>own_apart HN15.out.1 hin15.row (by decide) i hi e)));have hdg:(Value.slice Ad a.length cd).ownBlock≠some gi:=own_blk_ne HN15.out.1 hin15.blk (by decide);obtain ⟨hb16,hrw16,hro16⟩:=steps_bnd hst (Hba.out.with_ (r:=x.id) (n:=nb+1) (by omega) (by omega) |> fun h=>by rw [hnbe];exact h) Hrw.out;have HST:=qH hst;have HNO:=qH hno;have HRO:=qH hro16;have HVW:=qH hrow16;have HVN:=qH (show ∀ i,vo2.ownBlock=some i→fw<i∧i<w16.heap.size from fun i hi=>by have:=hvoN i hi;have:=(hrow16.lt i hi).2;omega);have HNUM:=qH (show ∀ z ∈ out,NumsO w16 w.heap.size z.d z.z∧z.d.ownBlock≠some gi from fun z hz=>⟨numsO_hi (hnum16 z hz).1 (fun i hi=>hnew16 i ((hnum16 z hz).2 i hi).1),fun e=>((hnum16 z hz).2 gi e).2.2 rfl⟩);have hol:=hst.ws_len;obtain ⟨Av,cv2,rfl⟩:=ownsRow_slice hrow16;have hwl:ws.length≤1000:=hin15.wfew;clear hst hf16 hap16 hrow16 hnum16 hvo16 hk16 hs16 hkM hvoN hin15 hnew16 hbel16 hdm hno hb16 hrw16 hro16 HM15 HC15 HW15 HN15 hvd;have hs16:w.heap.size≤w16.heap.size:=HM16.out.bel.size;have hllo:Lo.length≤1000:=by have:=HLL.out.1;omega
     have hlla:La.length≤2000:=by have:=HLL.out.2;omega
     go_upto_region 18 with (first|(refine wpList_load_at rfl 188 (.tmp 15) rfl fw 0 [.int .i64 x.id,.int .i64 (nb+1),.int .i64 (ck+1),.int .i64 x.id,.slice Ad a.length cd,.string cse,.string ck_,.string cv,.bool cg,.int .i64 cl] rfl Tryz.underlying188 rfl (by kernel_rfl) (fun j v hj=>by rw [Nat.zero_add,HW16.out.cell j];simpa using hj) ?_)|(at_builtin;refine wpList_append_newAt rfl (.tmp 99) (.tmp 101) _ rfl w.heap.size 188 i0 _ 10 120 Tryz.underlying98 hi hz0 hz1 hz2 rfl (by decide) (.slice Ao Lo.length co) Lo.length _ rfl HM16.out.lo.ow.row 1 1 w16.heap.size rfl [.int .i64 x.id,.int .i64 (nb+1),.int .i64 (ck+1),.int .i64 x.id,.slice Ad a.length cd,.string cse,.string ck_,.string cv,.bool cg,.int .i64 cl] rfl rfl (by simp [Value.oneCell']) (by unfold maxLen;omega) (by omega) (by omega) ?_;intro v17 w17 ho17 hb17 hg17 hv17))
     rw [HYC.out] at ho17;have hk17:Keeps (fun i=>(Value.slice Ao Lo.length co).ownBlock=some i) w16 w17:=.grown hg17 fun g hg=>.inl hg;have hny16:NumsO w16 w.heap.size y.d y.z:=by rw [HYD.out.1,HYD.out.2.1];exact HN16.out
     have hyg:y.d.ownBlock≠some gi:=by rw [HYD.out.1];exact hdg
     have HM17:=qH (HM16.out.push hny16 hyg ho17 hg17 hv17 (by omega));have HC17:=qH (show clock.Clk w17 gc (ck+1) x.id from Blk.keeps HC16.out hk17 (fun e=>own_blk_ne HM16.out.lo.ow.row HC16.out (by decide) e));have HW17:=qH (Blk.keeps HW16.out hk17 (fun e=>by have:=HLF.out.1 _ e;omega));have HN17:=qH (hny16.keeps hk17 (fun i hi e=>own_apart hny16.1 HM16.out.lo.ow.row (by decide) i hi e));have HNUM17:=qH (show ∀ z ∈ out,NumsO w17 w.heap.size z.d z.z∧z.d.ownBlock≠some gi from fun z hz=>⟨(HNUM.out z hz).1.keeps hk17 (fun i hi e=>own_apart (HNUM.out z hz).1.1 HM16.out.lo.ow.row (by decide) i hi e),(HNUM.out z hz).2⟩);have HVW17:=qH (own_keeps' HVW.out hk17 (fun i hi e=>by have:=HLF.out.1 _ e;have:=(HVN.out _ hi).1;omega));obtain ⟨A17,c17,rfl⟩:=ownsRow_slice ho17;have hs17:=HM17.out.bel.size;have hs1716:=hk17.size;have hfl16:=HW16.out.lt;clear ho17 hb17 hg17 hv17 hk17 HM16 HC16 HW16 HN16 HNUM HVW hny16
     go_upto_region 19 with (first|(refine wpList_load_at rfl 188 (.tmp 15) rfl fw 0 [.int .i64 x.id,.int .i64 (nb+1),.int .i64 (ck+1),.int .i64 x.id,.slice Ad a.length cd,.string cse,.string ck_,.string cv,.bool cg,.int .i64 cl] rfl Tryz.underlying188 rfl (by kernel_rfl) (fun j v hj=>by rw [Nat.zero_add,HW17.out.cell j];simpa using hj) ?_)|(at_builtin;refine wpList_append_newAt rfl (.tmp 103) (.tmp 105) _ rfl w.heap.size 188 i0 _ 10 120 Tryz.underlying98 hi hz0 hz1 hz2 rfl (by decide) (.slice Aa La.length ca) La.length _ rfl HM17.out.la.ow.row 1 1 w17.heap.size rfl [.int .i64 x.id,.int .i64 (nb+1),.int .i64 (ck+1),.int .i64 x.id,.slice Ad a.length cd,.string cse,.string ck_,.string cv,.bool cg,.int .i64 cl] rfl rfl (by simp [Value.oneCell']) (by unfold maxLen;omega) (by omega) (by omega) ?_;intro v18 w18 ho18 hb18 hg18 hv18;rw [HYC.out] at ho18;have hk18:Keeps (fun i=>(Value.slice Aa La.length ca).ownBlock=some i) w17 w18:=.grown hg18 fun g hg=>.inl hg;have HM18:=qH (HM17.out.swap.push HN17.out hyg ho18 hg18 hv18 (by omega)).swap;have HNUM18:=qH (show ∀ z ∈ out,NumsO w18 w.heap.size z.d z.z∧z.d.ownBlock≠some gi from fun z hz=>⟨(HNUM17.out z hz).1.keeps hk18 (fun i hi e=>own_apart (HNUM17.out z hz).1.1 HM17.out.la.ow.row (by decide) i hi e),(HNUM17.out z hz).2⟩);have HC18:=qH (show clock.Clk w18 gc (ck+1) x.id from Blk.keeps HC17.out hk18 (fun e=>own_blk_ne HM17.out.la.ow.row HC17.out (by decide) e));have HVW18:=qH (own_keeps' HVW17.out hk18 (fun i hi e=>by have:=HLF.out.2 _ e;have:=(HVN.out _ hi).1;omega));obtain ⟨A18,c18,rfl⟩:=ownsRow_slice ho18;have hs18:=hk18.size;have HVL:=qH (row_place HLF.out.2 hv18);clear ho18 hb18 hg18 hv18 hk18)|(at_builtin;refine wpList_append_any _ rfl (.tmp 106) (.tmp 107) _ rfl w.heap.size 188 i0 _ 10 120 Tryz.underlying98 hi hz0 hz1 hz2 rfl (by decide) (.slice A18 (La.length+1) c18) (La.length+1) _ rfl (show w18.ownsRow w.heap.size 188 10 (.slice A18 (La.length+1) c18) (La.length+1) ((La++[y]).flatMap Wr.cells) from by have h:=HM18.out.la.ow.row;rw [List.length_append] at h;exact h) w18.heap.size Av out.length cv2 (out.flatMap Wr.cells) rfl (Reads.of_own HVW18.out) (fun u hu=>by obtain ⟨z,hz,hu⟩:=List.mem_flatMap.1 hu;exact oneW z (nums_one (HNUM18.out z hz).1.nums) u hu) (by unfold maxLen;omega) (by omega) (by omega) ?_;intro v19 w19 ho19 hg19 hv19))
     have hk19:Keeps (fun i=>(Value.slice A18 (La.length+1) c18).ownBlock=some i) w18 w19:=.grown hg19 fun g hg=>.inl hg;have HM19:=qH (HM18.out.swap.join HNUM18.out (by rw [List.length_append];exact ho19) hg19 (hv19.imp id (fun h=>⟨_,h,Nat.le_refl _⟩)) (by rw [List.length_append];show La.length+1+out.length≤1000000;omega)).swap;have HC19:=qH (show clock.Clk w19 gc (ck+1) x.id from Blk.keeps HC18.out hk19 (fun e=>own_blk_ne HM18.out.la.ow.row HC18.out (by decide) e));have HVW19:=qH (own_keeps' HVW18.out hk19 (fun i hi e=>by have h1:=HVN.out _ hi;have h2:=HVL.out _ e;omega));have HZD:=qH (show ∀ z ∈ out,∃ A3 n3 c3,z.d=.slice A3 n3 c3 from fun z hz=>by obtain ⟨A3,n3,c3,h,_⟩:=(HNUM18.out z hz).1.nums;exact ⟨A3,n3,c3,h⟩);obtain ⟨A19,c19,rfl⟩:=ownsRow_slice ho19;have hlen19:La.length+1+out.length=((La++[y])++out).length:=by simp;omega
     rw [hlen19] at HM19 ⊢;clear ho19 hg19 hv19 hk19 HM18 HC18 HVW18 HNUM18 HM17 HC17 HW17 HN17 HNUM17 HVW17 HVL;generalize hLA:(La++[y])++out=LA at *;have HLA2:=qH hLA;clear hLA hlen19;go_wp2_with fail
     go_loopw [111] (fun i wr=>∃ j:Nat,i=.int .i64 j∧j≤out.length∧MemP w wr x.id gi (.slice A17 (Lo.length+1) c17) (.slice A19 LA.length c19) S3 a' ws' va2 vw2 (Lo++[y]) LA∧clock.Clk wr gc (seen (ck+1) (out.take j)) x.id∧wr.ownsRow 0 188 10 (.slice Av out.length cv2) out.length (out.flatMap Wr.cells)) (fun i _=>out.length-(intOf i).toNat)
     case atStart=>exact ⟨0,rfl,by omega,HM19.out,HC19.out,HVW19.out⟩
     case round =>
      obtain ⟨j,rfl,hj,hm,hc,hv⟩:=hrel;have hsr:=hm.bel.size
      by_cases hjo:j<out.length
      ·have dj:decide ((j:Int)<(out.length:Int))=true:=decide_eq_true (by omega)
       obtain ⟨b2,off2,rfl,hb2⟩:=(Reads.of_own hv).at_some (by omega)
       have hcell:∀ q v,(out[j]).cells[q]?=some v→wr.cell? ⟨b2,off2+j*10+q,none⟩=some v:=fun q v hq=>by
        have hq2:q<10:=by
         rcases Nat.lt_or_ge q 10 with h|h
         ·exact h
         ·rw [List.getElem?_eq_none (by rw [Wr.len];exact h)] at hq;cases hq
        exact (Reads.thing Wr.cells Wr.len (Reads.of_own hv) (k:=j) (x:=out[j]) hjo (List.getElem?_eq_getElem hjo) q hq2).trans hq
       have hzr:=right_parts (HRO.out _ (List.getElem_mem hjo));obtain ⟨A3,n3,c3,hzd⟩:=HZD.out _ (List.getElem_mem hjo)
       have hsn:seen (ck+1) (out.take (j+1))=max (seen (ck+1) (out.take j)) (out[j]).t:=by
        rw [List.take_succ_eq_append_getElem hjo];unfold seen;rw [List.foldl_append];rfl
       generalize out[j]=z at *;have hzt0:=hzr.t0;have hzt1:=hzr.t1;obtain ⟨zr,zn,zt,zs,zd,zz,zse,zk,zv,zg,zl⟩:=z;dsimp only at hzd hzt0 hzt1 hsn;subst hzd;have Hcell:=qH (show ∀ q v,[Value.int .i64 zr,.int .i64 zn,.int .i64 zt,.int .i64 zs,.slice A3 n3 c3,.string zse,.string zk,.string zv,.bool zg,.int .i64 zl][q]?=some v→wr.cell? ⟨b2,off2+j*10+q,none⟩=some v from hcell);have Hm:=qH hm;have Hc:=qH hc;have Hv:=qH hv;have Hsn:=qH hsn;have hgcl:=hc.lt;clear hm hc hv hcell hsn hzr
       go_wp2_with (first|(refine wpList_load_at rfl 188 (.tmp 113) rfl b2 (off2+j*10) [.int .i64 zr,.int .i64 zn,.int .i64 zt,.int .i64 zs,.slice A3 n3 c3,.string zse,.string zk,.string zv,.bool zg,.int .i64 zl] rfl Tryz.underlying188 rfl (by kernel_rfl) Hcell.out ?_)|(refine wpList_store_blk rfl 188 (.tmp 20) (.tmp 114) rfl wr.heap.size [.int .i64 zr,.int .i64 zn,.int .i64 zt,.int .i64 zs,.slice A3 n3 c3,.string zse,.string zk,.string zv,.bool zg,.int .i64 zl] rfl rfl (Blk.new wr 188 #[.int .i64 0,.int .i64 0,.int .i64 0,.int .i64 0,.slice none 0 0,.string ⟨#[]⟩,.string ⟨#[]⟩,.string ⟨#[]⟩,.bool false,.int .i64 0]) (by kernel_rfl) rfl rfl ?_;intro w21 ho21 hk21 hs21;have t21:w21.cell? ⟨wr.heap.size,2,none⟩=some (.int .i64 zt):=ho21.cell 2;have tl21:=ho21.lt))
       have hb21:Below wr.heap.size wr w21:=(below_new wr (.cells #[.int .i64 0,.int .i64 0,.int .i64 0,.int .i64 0,.slice none 0 0,.string ⟨#[]⟩,.string ⟨#[]⟩,.string ⟨#[]⟩,.bool false,.int .i64 0] 188)).trans (hk21.below (fun i hi e=>by omega) (by simp));have Hm21:=qH (Hm.out.below hb21);have Hc21:=qH (show clock.Clk w21 gc (seen (ck+1) (out.take j)) x.id from Blk.below Hc.out hb21 hgcl);have Hv21:=qH (dep.own_keeps Hv.out (X:=nobody) (.of_below hb21) (fun _ _ h=>h));clear ho21 hk21 hb21 Hm Hc Hv Hcell;refine (clock.see_yes gc (seen (ck+1) (out.take j)) x.id zt w21 Hc21.out (by omega) hzt1).mono ?_;rintro e w22 ⟨rfl,hc22,hk22⟩;have Hm22:=qH (Hm21.out.blk Hc21.out hk22 hgcw (by decide) (by decide) (by decide));have Hv22:=qH (dep.own_keeps Hv21.out hk22 (fun i hi e=>own_blk_ne Hv21.out Hc21.out (by decide) (e ▸ hi)));have Hc22:=qH hc22;clear hc22 hk22 Hm21 Hc21 Hv21 t21 tl21;go_wp2_with fail;go_roundw
       case rel=>exact ⟨j+1,by go_num,by omega,Hm22.out,by rw [Hsn.out];exact Hc22.out,Hv22.out⟩
       case measure=>simp [intOf];omega
      ·obtain rfl:j=out.length:=by omega
       have dj:decide ((out.length:Int)<(out.length:Int))=false:=by simp
       rw [List.take_length] at hc;have Hm:=qH hm;have Hc:=qH hc;clear hm hc hv;go_wp2_with fail;go_roundw
       case rel =>
        have hpl:Plan x.id x.ck x.ap ws1 (cs.take (k+1)) (o1++[mkW x.id ⟨cse,ck_,cv,cg,cl⟩ ck a (.slice none 0 0)]) (a1++mkW x.id ⟨cse,ck_,cv,cg,cl⟩ ck a (.slice none 0 0) :: out.map Wr.abs) (seen (ck+1) out) a' ws':=by
         rw [Htk.out];exact .one HP.out ⟨cse,ck_,cv,cg,cl⟩ hckl (by rw [←HYA.out];exact HRT.out) HST.out HNO.out
        refine ⟨k+1,S3,_,_,_,a',ws',va2,vw2,Lo++[y],LA,by go_num,by omega,rfl,rfl,hpl,?_,?_,?_,Hc.out⟩
        ·rw [List.map_append,HLO.out];simp [HYA.out]
        ·rw [←HLA2.out,List.map_append,List.map_append,HLA.out];simp [HYA.out]
        ·simpa using Hm.out
       case measure=>simp [intOf];omega
   ·refine (clock.next_long gc ck x.id w9 HC9.out (by omega)).mono ?_
    rintro e w10 ⟨v,rfl,he,_,hb10⟩;have HE:=qH (show Go.Proofs.YthlahcnglacekaaGreatDoor.err.Err w10 v 3 from he);have hb10w:=HM9.out.bel.trans (hb10.mono HM9.out.bel.size);have HB10:=qH (below_alloc hb10w (.cells #[.int .i64 0,.int .i64 0] 128));have HE10:=qH (HE.out.one.below (below_new w10 (.cells #[.int .i64 0,.int .i64 0] 128)));obtain ⟨ge,rfl,_⟩:=he;clear hb10 hb10w;unfold clock.zst;have HQ:=qH (show PlanR x.id x.ck x.ap x.ws cs w (.returned (.tuple #[.slice none 0 0,.slice none 0 0,.pointer none,.iface 121 (.pointer (some ⟨ge,0,none⟩))])) (w10.alloc (.cells #[.int .i64 0,.int .i64 0] 128)) from ⟨HB10.out,.inl ⟨_,3,.of HAB.out Htk.out HP.out (.inl ⟨rfl,by omega⟩),rfl,HE10.out⟩⟩);go_wp2_with fail;exact bodyPost_ret (v:=.tuple #[.slice none 0 0,.slice none 0 0,.pointer none,.iface 121 (.pointer (some ⟨ge,0,none⟩))]) (by simp [results,Tryz.results157,go_sem]) rfl HQ.out
  ·obtain rfl:n=k:=by omega
   have dk:decide ((n:Int)<(n:Int))=false:=by simp
   have hpl:=HP.out;rw [show cs.take n=cs by rw [←hl];exact List.take_length] at hpl
   have HQ:=qH (show PlanR x.id x.ck x.ap x.ws cs w (.returned (.tuple #[.slice Ao Lo.length co,.slice Aa La.length ca,.pointer (some ⟨gi,0,none⟩),.nilIface])) wr from
    ⟨HM.out.bel,.inr ⟨_,_,gi,Sn,ws1,o1,a1,ck,a,ws,v7,v8,Lo,La,rfl,HAB.out,hpl,HM.out.lo,HLO.out,HM.out.la,HLA.out,HM.out.inb,HM.out.new⟩⟩)
   clear hpl;go_wp2_with fail;exact bodyPost_ret (v:=.tuple #[.slice Ao Lo.length co,.slice Aa La.length ca,.pointer (some ⟨gi,0,none⟩),.nilIface]) (by simp [results,Tryz.results157,go_sem]) rfl HQ.out
end
end regn
namespace regn
open Go Go.RowKit base err cmp wire dep vec jrnp jrn writep wireb framew
structure RX.Ok (x:RX) (l:List Part):Prop where
 i1:1≤x.id
 i2:x.id≤x.n
 i3:x.n≤16
 m1:1≤x.m.size
 m2:x.m.size≤64
 c1:0≤x.ck
 c2:x.ck≤1099511627776
 ap:BndV x.ap
 ws:RngW x.ws
 key:x.key≤1099511627776
 d1:0≤x.made
 d2:x.made≤1099511627776
 g1:1≤x.gen
 g2:x.gen≤1099511627776
 well:Well x.dn l
def MadeX (x:RX) (l:List Part) (rs0:List (List UInt8)) (cs:List Ch) (x':RX) (own:List Wr):Prop :=
 ∃ ws1 all ck a ws ps,ws1.map Wr.abs=x.ws.map Wr.abs∧Plan x.id x.ck x.ap ws1 cs own all ck a ws∧all=ps.map pabs∧(∀ q ∈ ps,q.Ok)∧x'=takesX x l (rs0++ps.map recW) ps a ws ∧
  (rs0++ps.map recW=[]∨(dev (putL x.gen l (rs0++ps.map recW))).length≤x.dn.room)
theorem right_list:∀ {L:List Wr},RngW L→∃ ps:List PW,L.map Wr.abs=ps.map pabs∧∀ q ∈ ps,q.Ok
 | [],_=>⟨[],rfl,by simp⟩
 | y :: L,h=>by
  obtain ⟨ps,h1,h2⟩:=right_list (L:=L) (fun x hx=>h x (by simp [hx]));obtain ⟨q,hq,he⟩:=right_pw_ex (h y (by simp));refine ⟨q :: ps,?_,fun z hz=>?_⟩
  ·rw [List.map_cons,List.map_cons,h1]
   have:y.abs=pabs q:=by rw [he];rfl
   rw [this]
  ·rcases List.mem_cons.1 hz with hz|hz
   ·rw [hz];exact hq
   ·exact h2 z hz
theorem applyL_n (L:List Wr):∀ x:RX,(applyL x L).n=x.n:=by
 induction L with
 | nil=>intro x;rfl
 | cons y L ih=>intro x;exact ih (applyX x y)
theorem takesX_fix (x:RX) (l:List Part) (rs:List (List UInt8)) (ps:List PW) (ap:List Int) (ws:List Wr):(takesX x l rs ps ap ws).id=x.id∧(takesX x l rs ps ap ws).n=x.n :=
 ⟨(applyL_fix (ps.map pabs) (putX x l rs)).1,applyL_n (ps.map pabs) (putX x l rs)⟩
def NoMake (x:RX) (l:List Part) (rs0:List (List UInt8)) (cs:List Ch) (c:Int):Prop :=
 PlanStop x.id x.ck x.ap x.ws cs c∨∃ (ws1 o all:List Wr) (ck:Int) (a:List Int) (ws:List Wr) (ps:List PW),ws1.map Wr.abs=x.ws.map Wr.abs∧Plan x.id x.ck x.ap ws1 cs o all ck a ws∧all=ps.map pabs∧(∀ q ∈ ps,q.Ok)∧jrn.NoPut x.gen l x.dn (rs0++ps.map recW) c
def MakeI (own:Nat→Nat) (p:RP) (x:RX) (l:List Part) (va:Value) (rs0:List (List UInt8)) (cs:List Ch) (w:World) (e:Ending) (w':World):Prop :=
 ∃ v v2 own',e=.returned (.tuple #[v,v2])∧Grown own own' w∧Keeps (fun i=>tags own [1,4,6,9,10] i∨va.ownBlock=some i) w w' ∧
  ((v2=.nilIface∧∃ gi v7 v8 x' o1,RegI w' own' { p with gi:=gi,va:=v7,vw:=v8 } x'∧MadeX x l rs0 cs x' o1∧(x.n=1→v=.slice none 0 0)) ∨
   (v=.slice none 0 0∧∃ k c,NoMake x l rs0 cs c∧k≤2∧ErrD w' (k+1) v2 c∧RegI w' own' p x))
section
variable {w:World} {own:Nat→Nat} {p:RP} {x:RX}
theorem rat_chain (h:RegI w own p x) {k:Nat} {v:Value} {c:Int} (he:ErrD w (k+1) v c):Calls Tryz.prog 20 #[.pointer (some ⟨p.r,0,none⟩),v] w (WrapD (k+1) c w):=by
 have HE:=qH he;obtain ⟨g0,v',rfl,_⟩:=he;have c0:w.cell? ⟨p.r,0,none⟩=some (.int .i64 x.id):=h.reg.c0;have hlt:=h.reg.lt;clear h;go_enter Tryz.func20,Tryz.ntmps20;go_wp2_with fail;refine (wrap_err _ _ HE.out).mono ?_;rintro e w1 ⟨⟨g,rfl,h1⟩,h2⟩;have HR:=qH (show WrapD (k+1) c w (.returned (.iface 121 (.pointer (some ⟨g,0,none⟩)))) w1 from ⟨⟨g,rfl,h1⟩,h2⟩);clear h1 h2;go_wp2_with fail;go_ret
 exact HR.out
theorem make_one (cs:List Ch) (A:Option Addr) (n c:Nat) (va:Value) (rs0:List (List UInt8)) (lp:List Part) (h:RegI w own p x) (hok:x.Ok lp) (hA:OwnS w 0 va rs0) (hrs0:∀ s ∈ rs0,s.length≤1000) (hl0:rs0.length≤1000) (hva:∀ i,va.ownBlock=some i→own i=0)
  (hl:cs.length=n) (hn:n≤1000) (hr:Reads w w.heap.size 5 A n (cs.flatMap Ch.cells)) (hLf:x.Lf.length≤800000) (h1:x.id=1) (h2:x.n=1) :
  Calls Tryz.prog 97 #[.pointer (some ⟨p.r,0,none⟩),va,.slice A n c] w (MakeI own p x lp va rs0 cs w):=by
 obtain ⟨A0,c0,rfl⟩:=hA.form;have hwf:x.ws.length≤1000:=h.inb.wfew;have HR:=qH h;have HOK:=qH hok;have HA:=qH hA;have HRS:=qH hrs0;have HVA:=qH hva;have HPL:=qH (plan_i cs A n c h ⟨hok.i1,by have:=hok.i2;have:=hok.i3;omega⟩ ⟨hok.c1,hok.c2⟩ hok.ap hok.ws hl hn hr);clear h hok hA hrs0 hva hr;go_enter Tryz.func97,Tryz.ntmps97;go_wp2_with fail;refine HPL.out.mono ?_;rintro e w1 ⟨hb1,h3⟩;have hs1:=hb1.size;have HB1:=qH hb1;have HR1:=qH (HR.out.below hb1)
 rcases h3 with ⟨v,c3,hc3,rfl,he⟩|⟨vo,vl,gi,Sn,ws1,o1,all,ck,a,ws,v7,v8,Lo,La,rfl,hab,hpl,hlo,hloa,hla,hlaa,hin,hsn⟩
 ·have HE:=qH he
  obtain ⟨g0,v',rfl,_⟩:=he;clear hb1;go_wp2_with fail;refine (rat_chain HR1.out HE.out).mono ?_;rintro e w2 ⟨⟨g,rfl,_,h4⟩,hb2⟩
  have HQ:=qH (show MakeI own p x lp (.slice A0 rs0.length c0) rs0 cs w (.returned (.tuple #[.slice none 0 0,.iface 121 (.pointer (some ⟨g,0,none⟩))])) w2 from
   ⟨_,_,own,rfl,Grown.refl _ _,.of_below (HB1.out.trans (hb2.mono hs1)),.inr ⟨rfl,1,c3,.inl hc3,by omega,h4,HR1.out.below hb2⟩⟩)
  clear h4 hb2;go_wp2_with fail;go_ret2
  exact HQ.out
 ·obtain ⟨_,_,hrw,_,hra,hlo2,hla2⟩:=hpl.facts ⟨by have:=HOK.out.i1;omega,by have:=HOK.out.i2;have:=HOK.out.i3;omega⟩ ⟨HOK.out.c1,HOK.out.c2⟩ HOK.out.ap (by
   intro y hy;obtain ⟨z,hz,he⟩:=abs_mem hab hy;have h1:=HOK.out.ws z hz;rw [←right_abs,←he,right_abs] at h1;exact h1)
  have hw1l:ws1.length=x.ws.length:=by have:=congrArg List.length hab;simpa using this
  have hRL:RngW La:=fun y hy=>by
   have:=hra y.abs (by rw [←hlaa];exact List.mem_map_of_mem hy);exact this
  obtain ⟨ps,hps,hpok⟩:=right_list hRL
  have hLal:La.length≤2000:=by
   have h5:La.length=all.length:=by rw [←hlaa,List.length_map]
   omega
  have hz:∀ i,w.heap.size≤i→own i=0:=fun i hi=>HR.out.zero hi
  have HT:=qH (takes_i (w:=w1) (own:=own) (p:=p) (x:=x) (Sn:=Sn) (T:=fun i=>w.heap.size≤i) (.slice A0 rs0.length c0) rs0 vl La ps gi a ws v7 v8 lp HR1.out HOK.out.well HOK.out.g1 HOK.out.g2 (own_below HA.out hb1) HRS.out hl0
   ⟨ownI_low hla.ow.row (Nat.zero_le _),hla.ow.few,fun y hy=>(hla.ow.nums y hy).base (Nat.zero_le _),hla.ow.inS,hla.ow.numS⟩ hps hpok hin (fun i hi=>hz i hi) (fun i hi=>hz i (hsn i hi))
   (fun i hi=>⟨HVA.out i hi,by have:=(HA.out.lt i hi).2;omega,fun e=>by have:=(HA.out.lt i hi).2;have:=hsn i e;omega⟩) (by omega))
  have HMX:=qH (show MadeX x lp rs0 cs (takesX x lp (rs0++ps.map recW) ps a ws) o1∨¬ (rs0++ps.map recW=[]∨(dev (putL x.gen lp (rs0++ps.map recW))).length≤x.dn.room) from by
   by_cases hf:(rs0++ps.map recW=[]∨(dev (putL x.gen lp (rs0++ps.map recW))).length≤x.dn.room)
   ·exact .inl ⟨ws1,all,ck,a,ws,ps,hab,hpl,hlaa.symm.trans hps,hpok,rfl,hf⟩
   ·exact .inr hf)
  have HNM:=qH (show ∀ c,jrn.NoPut x.gen lp x.dn (rs0++ps.map recW) c→NoMake x lp rs0 cs c from fun c h=>.inr ⟨ws1,o1,all,ck,a,ws,ps,hab,hpl,hlaa.symm.trans hps,hpok,h⟩);obtain ⟨Al,cl,rfl⟩:=ownsRow_slice hla.ow.row;obtain ⟨Ao,co,rfl⟩:=ownsRow_slice hlo.ow.row;have HSN:=qH hsn;clear hb1 hab hpl hlo hloa hla hlaa hin hsn hrw hra hRL hps hpok hz hlo2 hla2;have HID:=qH (takesX_fix x lp (rs0++ps.map recW) ps a ws);go_wp2_with fail;refine HT.out.mono ?_;rintro e w5 ⟨v,o5,rfl,hg5,hk5,hc5⟩;have HK5:=qH (show Keeps (fun i=>tags own [1,4,6,9,10] i∨(Value.slice A0 rs0.length c0).ownBlock=some i) w w5 from (Keeps.of_below HB1.out).trans hk5)
  have HG5:=qH (show Grown own o5 w from fun i=>by
   rcases hg5 i with h|h|h|h
   ·exact .inl h
   ·exact .inr (.inl h)
   ·exact .inr (.inr (Nat.le_trans hs1 h))
   ·exact .inr (.inr (HSN.out i h)))
  have hs5:=HK5.out.size;clear hg5 hk5
  rcases hc5 with ⟨rfl,hr5,hf5⟩|⟨k,c3,hc3,hk3,he5,hr5⟩
  ·have HX:=qH (HMX.out.resolve_right (fun h=>h hf5))
   have HR5:=qH hr5;clear hr5 hf5 HMX HT;go_wp2_with fail;refine (push_one Ao Lo.length co HR5.out.reg (by show (((takesX x lp (rs0++ps.map recW) ps a ws).id:Nat):Int)=1;rw [HID.out.1,h1];rfl) (by show (((takesX x lp (rs0++ps.map recW) ps a ws).n:Nat):Int)=1;rw [HID.out.2,h2];rfl)).mono ?_;rintro e w6 ⟨rfl,hb6⟩
   have HQ:=qH (show MakeI own p x lp (.slice A0 rs0.length c0) rs0 cs w (.returned (.tuple #[.slice none 0 0,.nilIface])) w6 from
    ⟨_,_,o5,rfl,HG5.out,HK5.out.trans (.of_below hb6),.inl ⟨rfl,gi,v7,v8,_,o1,HR5.out.below hb6,HX.out,fun _=>rfl⟩⟩)
   clear hb6;go_wp2_with fail;go_ret2
   exact HQ.out
  ·have HE:=qH he5
   have HR5:=qH hr5;obtain ⟨g0,v',rfl,_⟩:=he5;clear hr5 HMX HT;go_wp2_with fail;refine (rat_chain HR5.out HE.out).mono ?_;rintro e w6 ⟨⟨g,rfl,_,h6⟩,hb6⟩
   have HQ:=qH (show MakeI own p x lp (.slice A0 rs0.length c0) rs0 cs w (.returned (.tuple #[.slice none 0 0,.iface 121 (.pointer (some ⟨g,0,none⟩))])) w6 from
    ⟨_,_,o5,rfl,HG5.out,HK5.out.trans (.of_below hb6),.inr ⟨rfl,k+1,c3,HNM.out c3 hc3,by omega,h6,HR5.out.below hb6⟩⟩)
   clear h6 hb6;go_wp2_with fail;go_ret2
   exact HQ.out
end
end regn
end Go.Proofs.YthlahcnglacekaaGreatDoor
