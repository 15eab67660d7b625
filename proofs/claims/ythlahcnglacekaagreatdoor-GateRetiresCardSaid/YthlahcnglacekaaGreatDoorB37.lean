/- Part of GateRetires. -/
import Derived.Test.YthlahcnglacekaaGreatDoorB28
import Derived.Test.YthlahcnglacekaaGreatDoorB39
set_option maxRecDepth 100000
set_option maxHeartbeats 16000000
namespace Go.Proofs.YthlahcnglacekaaGreatDoor
namespace regn
open Go Go.RowKit base err lease fold monoj rowe
section
variable {w:World}
theorem both_nil (w:World):Calls Tryz.prog 34 #[.nilIface,.nilIface] w fun e w'=>e=.returned .nilIface∧w'=w:=by
 go_enter Tryz.func34,Tryz.ntmps34;go_wp2;go_ret
 exact ⟨rfl,rfl⟩
theorem new_nil (id n:Nat) (h1:1≤id) (h2:id≤n) (h3:n≤16):feed.newL id n 0 []=some []:=by
 unfold feed.newL;rw [if_neg]
 ·rfl
 ·unfold feed.badNew
  simp
  omega
theorem head_nil (id n:Nat) (h1:1≤id) (h2:id≤n) (h3:n≤16):(dep.headB id [] || ([]:List Int).any dep.numB)=false:=by
 unfold dep.headB;simp
 refine ⟨⟨?_,?_⟩,?_⟩ <;> first|omega|rfl
theorem at_nil' (id:Int):vec.atV [] id=0:=by
 unfold vec.atV;simp
def OpenR (Sb:Nat→Prop) (a b:Nat) (db:diskp.Dk) (id n:Nat) (m:ByteArray) (w:World) (e:Ending) (w':World):Prop :=
 ∃ r jn gl gc gi gf gr gs bs gt bt va,∃ Sj Si Sq:Nat→Prop,e=.returned (.tuple #[.pointer (some ⟨r,0,none⟩),.nilIface]) ∧
  RegB w' r ⟨id,n,m,.pointer (some ⟨jn,0,none⟩),.pointer (some ⟨gc,0,none⟩),.pointer (some ⟨gi,0,none⟩),.pointer (some ⟨gs,0,none⟩),.pointer (some ⟨gf,0,none⟩),.pointer (some ⟨gt,0,none⟩),.pointer (some ⟨gr,0,none⟩),.pointer (some ⟨gl,0,none⟩),0,fun _=>0,.map (some (w.heap.size+1)),false⟩ ∧
  LeaseB w' gl id n (fun _=>0)∧jrn.JrnB w' jn b a 1∧disk.Grow Sb Sj w∧disk.DiskS w' Sj b { db with b:=jrnp.dev (jrnp.startL 1 []),safe:=(jrnp.dev (jrnp.startL 1 [])).length }∧¬ Sj jn ∧
  clock.Clk w' gc 0 id∧dep.InF w' Si gi id [] [] va (.slice none 0 0)∧feed.FeedS w' Sq gf id n 0 [] (List.replicate n 0)∧ringw.RingB w' gr m 0∧store.StI w' gs bs []∧tab.Tab w' gt bt []∧Keeps Sb w w' ∧
  ∃ f a1 a2,w.heap.size<r∧r<gl∧gl<jn∧jn<f∧(∀ i,Sj i→i<f∧(Sb i∨gl<i))∧f<gt∧f<bt∧gt<gs∧gt<bs∧bt<gs∧bt<bs∧gs<gc∧bs<gc∧gc<a1∧(∀ i,Si i→a1≤i∧i<a2)∧(∀ i,Sq i→a2≤i∧i<gr)
theorem open_w (Sa Sb:Nat→Prop) (a b:Nat) (da db:diskp.Dk) (id n:Nat) (m:ByteArray) (w:World) (hda:disk.DiskS w Sa a da) (hdb:disk.DiskS w Sb b db) (hwa:jrnp.Well da []) (hwb:jrnp.Well db []) (hab:∀ i,Sa i→¬ Sb i) (hroom:(jrnp.dev (jrnp.startL 1 [])).length≤db.room)
  (h1:1≤id) (h2:id≤n) (h3:n≤16) (m1:1≤m.size) (m2:m.size≤64) :
  Calls Tryz.prog 13 #[.pointer (some ⟨a,0,none⟩),.pointer (some ⟨b,0,none⟩),.agg #[.int .i64 id,.int .i64 n,.string m]] w (OpenR Sb a b db id n m w):=by
 have HDA:=qH hda;have HDB:=qH hdb;have HWA:=qH hwa;have HWB:=qH hwb;have HAB:=qH hab;have HRO:=qH hroom;clear hda hdb hwa hwb hab hroom;have hmm:=@run_makeMap Tryz.prog;go_enter Tryz.func13,Tryz.ntmps13;go_wp2_with fail;clear hmm;refine (lease.new_ok id n h1 h2 h3 _).mono ?_;rintro e w2 ⟨rfl,hls,hb2⟩;have e3:∀ (o1 o2 o3:Obj),(((w.alloc o1).alloc o2).alloc o3).heap.size=w.heap.size+3:=by intros;simp
 have hr2:RegB w2 (w.heap.size+1+1) ⟨id,n,m,.pointer none,.pointer none,.pointer none,.pointer none,.pointer none,.pointer none,.pointer none,.pointer none,0,fun _=>0,.map (some (w.heap.size+1)),false⟩ :=
  Blk.below (Blk.newAt _ _ _ (by simp)) hb2 (by rw [e3];omega)
 have hc2:Blk w2 w.heap.size 53 #[.int .i64 id,.int .i64 n,.string m]:=Blk.below (Blk.alloc (Blk.alloc (Blk.new w _ _) _) _) hb2 (by rw [e3];omega);have hbw:Below w.heap.size w w2:=(below_alloc (below_alloc (below_new w _) _) _).trans (hb2.mono (by rw [e3];omega));have hszz:=hb2.size;rw [e3] at hls hszz ⊢;clear hb2 e3;obtain ⟨c,hc⟩:∃ c,w.heap.size=c:=⟨_,rfl⟩;rw [hc] at hr2 hc2 hls hszz ⊢;obtain ⟨r,hre⟩:∃ r,c+1+1=r:=⟨_,rfl⟩;obtain ⟨gl,hgl⟩:∃ gl,c+3=gl:=⟨_,rfl⟩;rw [hre] at hr2 ⊢;rw [hgl] at hls hszz ⊢;have hcr:¬ c=r:=by omega
 have hrc:¬ r=c:=by omega
 have k2:w2.cell? ⟨c,2,none⟩=some (.string m):=hc2.cell 2;have hcl:=hc2.lt;have HR2:=qH hr2;have HC2:=qH hc2;have HL2:=qH hls;have HB2:=qH hbw;have v10:=hr2.c10;have z10:=hr2.frozen 10;have hrl:=hr2.lt;have hll:=hls.lt;clear hr2 hc2 hls hbw;go_wp2_with fail;have hb3a:Below w.heap.size w (w2.setCell ⟨r,10,none⟩ (.pointer (some ⟨gl,0,none⟩))):=HB2.out.setCell (by show w.heap.size≤r;omega) _;have hR3:RegB (w2.setCell ⟨r,10,none⟩ (.pointer (some ⟨gl,0,none⟩))) r _:=HR2.out.s10 (.pointer (some ⟨gl,0,none⟩));have hC3:=Blk.far HC2.out (p:=⟨r,10,none⟩) (by simpa using hcr) (.pointer (some ⟨gl,0,none⟩));have hL3:LeaseB (w2.setCell ⟨r,10,none⟩ (.pointer (some ⟨gl,0,none⟩))) gl id n (fun _=>0):=Blk.far HL2.out (p:=⟨r,10,none⟩) (by simp;omega) (.pointer (some ⟨gl,0,none⟩));have HR3:=qH hR3;have HC3:=qH hC3;have HL3:=qH hL3;have HB3:=qH hb3a;clear v10 z10 k2 hR3 hC3 hL3 hb3a;generalize w2.setCell ⟨r,10,none⟩ (.pointer (some ⟨gl,0,none⟩))=w3 at *;refine (ringw.new_ok m 0 m1 m2 (by omega) w3).mono ?_;rintro e w4 ⟨rfl,_,hb4⟩;have HR4:=qH (show RegB w4 r _ from Blk.below HR3.out hb4 HR3.out.lt);have HC4:=qH (Blk.below HC3.out hb4 HC3.out.lt);have HL4:=qH (show LeaseB w4 gl id n (fun _=>0) from Blk.below HL3.out hb4 HL3.out.lt);have hb4w:Below w.heap.size w w4:=HB3.out.trans (hb4.mono HB3.out.size);have hs4:=hb4w.size;have HB4:=qH hb4w;clear hb4 hb4w;have k0:w4.cell? ⟨c,0,none⟩=some (.int .i64 id):=HC4.out.cell 0;have hcl4:=HC4.out.lt;have HDA4:=qH (HDA.out.below HB4.out);have HDB4:=qH (HDB.out.below HB4.out);go_wp2_with fail;refine (jrn.open_fresh HDA4.out HDB4.out HWA.out HWB.out HAB.out HRO.out).mono ?_;rintro e w5 ⟨jn,Sj,rfl,hj1,hj2,hj3,hj4,hj5,hj6⟩;have hsm:∀ i,Sb i→i<w.heap.size:=by obtain ⟨v,hv⟩:=HDB.out;exact hv.small
 have hbr:¬ Sb r:=fun h=>by have:=hsm r h;omega
 have hbc:¬ Sb c:=fun h=>by have:=hsm c h;omega
 have hbl:¬ Sb gl:=fun h=>by have:=hsm gl h;omega
 have HR5:=qH (show RegB w5 r _ from Blk.keeps HR4.out hj6 hbr);have HC5:=qH (Blk.keeps HC4.out hj6 hbc);have HL5:=qH (show LeaseB w5 gl id n (fun _=>0) from Blk.keeps HL4.out hj6 hbl);have HJ5:=qH hj2;have HG5:=qH hj3;have HD5:=qH hj4;have HN5:=qH hj5;have hs5:=hj6.size;have HK5:=qH hj6;have v3:w5.cell? ⟨r,3,none⟩=some (.pointer none):=HR5.out.c3;have z3:=HR5.out.frozen 3;have k0':w5.cell? ⟨c,0,none⟩=some (.int .i64 id):=HC5.out.cell 0;have hcl5:=HC5.out.lt;have hrl5:=HR5.out.lt;clear hj2 hj3 hj4 hj5 hj6 hsm k0;go_wp2_with fail
 have hk6:Keeps (· = r) w5 ((w5.setCell ⟨r,3,none⟩ (.pointer (some ⟨jn,0,none⟩))).alloc (.cells (Fo.mk id 0 (.slice none 0 0) 0 0 0 (.slice none 0 0) (.slice none 0 0) (.slice none 0 0) (.pointer none) (.pointer none) false true).cells 104)) :=
  (Keeps.set1 w5 r 3 (.pointer (some ⟨jn,0,none⟩))).trans ((Keeps.of_below (X:=nobody) (below_new _ _)).more fun _ _ h=>h.elim)
 have hR6:RegB ((w5.setCell ⟨r,3,none⟩ (.pointer (some ⟨jn,0,none⟩))).alloc (.cells (Fo.mk id 0 (.slice none 0 0) 0 0 0 (.slice none 0 0) (.slice none 0 0) (.slice none 0 0) (.pointer none) (.pointer none) false true).cells 104)) r _:=Blk.alloc (HR5.out.s3 (.pointer (some ⟨jn,0,none⟩))) _;have hF6:FoldB ((w5.setCell ⟨r,3,none⟩ (.pointer (some ⟨jn,0,none⟩))).alloc (.cells (Fo.mk id 0 (.slice none 0 0) 0 0 0 (.slice none 0 0) (.slice none 0 0) (.slice none 0 0) (.pointer none) (.pointer none) false true).cells 104)) w5.heap.size ⟨id,0,.slice none 0 0,0,0,0,.slice none 0 0,.slice none 0 0,.slice none 0 0,.pointer none,.pointer none,false,true⟩:=Blk.newAt _ _ _ (by simp);have HK6:=qH hk6;have HR6:=qH hR6;have HF6:=qH hF6;clear hk6 hR6 hF6 v3 z3 k0';refine (new.new_any none 0 0 [] _ ⟨rfl,by simp,by simp,Reads.none_⟩ (by omega) (by simp)).mono ?_;rintro e w7 h7
 rcases h7 with ⟨_,gt,bt,rfl,ht1,ht2,ht3,hb7⟩|⟨hbad,_⟩
 rotate_left
 ·exact absurd ⟨trivial,by simp,by simp⟩ hbad
 obtain ⟨f,hf⟩:∃ f,w5.heap.size=f:=⟨_,rfl⟩;have hfs:f<w7.heap.size:=by have h8:=hb7.size;simp at h8;omega
 have hR7:=Blk.below HR6.out hb7 HR6.out.lt;have hF7:=Blk.below HF6.out hb7 HF6.out.lt;rw [hf] at hF7 ⊢;have HR7:=qH (show RegB w7 r _ from hR7);have HF7:=qH (show FoldB w7 f ⟨id,0,.slice none 0 0,0,0,0,.slice none 0 0,.slice none 0 0,.slice none 0 0,.pointer none,.pointer none,false,true⟩ from hF7);have HT7:=qH ht3;have hb7':=hb7.size;have hgt:f<gt:=by simp at ht1;omega
 have hbt:f<bt:=by simp at ht2;omega
 have HK7:=qH (HK6.out.trans ((Keeps.of_below (X:=nobody) hb7).more fun _ _ h=>h.elim));clear hb7 hb7' ht1 ht2 ht3 hR7 hF7;have v10:w7.cell? ⟨f,10,none⟩=some (.pointer none):=HF7.out.cell 10;have z10:=HF7.out.frozen 10;have hfr:¬ f=r:=by omega
 have hrf:¬ r=f:=by omega
 go_wp2_with fail;have hk8:Keeps (· = f) w7 (w7.setCell ⟨f,10,none⟩ (.pointer (some ⟨gt,0,none⟩))):=Keeps.set1 _ _ _ _;have hF8:FoldB (w7.setCell ⟨f,10,none⟩ (.pointer (some ⟨gt,0,none⟩))) f ⟨id,0,.slice none 0 0,0,0,0,.slice none 0 0,.slice none 0 0,.slice none 0 0,.pointer none,.pointer (some ⟨gt,0,none⟩),false,true⟩:=HF7.out.set_ 10 (.pointer (some ⟨gt,0,none⟩));have HR8:=qH (show RegB (w7.setCell ⟨f,10,none⟩ (.pointer (some ⟨gt,0,none⟩))) r _ from Blk.keeps HR7.out hk8 hrf);have HF8:=qH hF8;have HT8:=qH (HT7.out.keeps hk8 (fun e=>by have e:gt=f:=e;omega) (fun e=>by have e:bt=f:=e;omega));have HK8:=qH hk8;clear hk8 hF8 v10 z10;generalize w7.setCell ⟨f,10,none⟩ (.pointer (some ⟨gt,0,none⟩))=w8 at *
 go_loopw [84] (fun i wr=>i=.int .i64 0∧wr=w8) (fun _ _=>0)
 case atStart=>exact ⟨rfl,rfl⟩
 case round =>
  obtain ⟨rfl,rfl⟩:=hrel;go_wp2_with fail;refine (begin_new f _ _ HF8.out rfl rfl).mono ?_;rintro e w9 ⟨gs,bs,rfl,hf9,hs9,hgs,hbs,hk9⟩;have hfl8:=HF8.out.lt;have HF9:=qH hf9;have HS9:=qH hs9;have HR9:=qH (show RegB w9 r _ from Blk.keeps HR8.out hk9 hrf);have HT9:=qH (HT8.out.keeps hk9 (fun e=>by have e:gt=f:=e;omega) (fun e=>by have e:bt=f:=e;omega));have HK9:=qH hk9;clear hf9 hs9 hk9;go_wp2_with fail;refine (load_w r f _ _ [] [] [] 0 gs gt (fun _=>False) w9 ⟨rfl,rfl,HR9.out,HF9.out,hfr,by show (1:Int)≤(id:Int);omega,by show (id:Int)≤(n:Int);omega,by show (n:Int)≤16;omega,by show (0:Int)≤0;omega,by show (0:Int)≤_;omega,m1,m2,⟨rfl,.inl ⟨rfl,rfl⟩⟩,fun i hi=>(by cases hi),(by simp),head_nil id n h1 h2 h3,wire.OW.none _ _ _,fun h=>h,fun _ h=>h.elim,new_nil id n h1 h2 h3,(at_nil' _).symm,rfl,by omega⟩).mono ?_;rintro e w10 ⟨rfl,h10⟩;have H10:=qH h10;clear h10;go_wp2_with fail;refine (both_nil _).mono ?_;rintro e w11 ⟨rfl,rfl⟩;go_wp2_with fail;go_ret2
  obtain ⟨gc,gi,gf,gr,va,Si,Sq,q1,q2,q3,q4,q5,q6,q7,a1,a2,q8,q9,q10,q11⟩:=H10.out;have hK:Keeps (fun i=>i=r∨i=f) w5 _:=(((HK7.out.more fun _ _ h=>.inl h).trans (HK8.out.more fun _ _ h=>.inr h)).trans (HK9.out.more fun _ _ h=>.inr h)).trans (q7.more fun _ _ h=>.inl h);have hsm:∀ i,Sb i→i<w.heap.size:=by obtain ⟨v,hv⟩:=HDB.out;exact hv.small
  have hsj:∀ i,Sj i→i<w5.heap.size:=by obtain ⟨v,hv⟩:=HD5.out;exact hv.small
  have hgl4:=HL4.out.lt;have hjl:=HJ5.out.lt;have hgtl:=HT8.out.1.lt;have hbtl:=HT8.out.2.lt;have hgsl:=HS9.out.lt;have hbsl:=HS9.out.ltm;have hsj2:∀ i,Sj i→i<f∧(Sb i∨gl<i):=fun i hi=>⟨by have:=hsj i hi;omega,(HG5.out.2 i hi).imp (fun h=>h) (fun h=>by omega)⟩;refine ⟨r,jn,gl,gc,gi,gf,gr,gs,bs,gt,bt,va,Sj,Si,Sq,rfl,?_,?_,?_,?_,?_,HN5.out,q3,q4,q5,q6,?_,?_,?_,f,a1,a2,?_,?_,?_,?_,hsj2,hgt,hbt,?_,?_,?_,?_,?_,?_,q9,q10,q11⟩
  ·rw [hc]
   exact q1
  ·exact Blk.keeps HL5.out hK (fun e=>by rcases e with e|e <;> omega)
  ·exact Blk.keeps HJ5.out hK (fun e=>by rcases e with e|e <;> omega)
  ·exact ⟨fun i hi=>HG5.out.1 i hi,fun i hi=>(HG5.out.2 i hi).imp (fun h=>h) (fun h=>by omega)⟩
  ·exact HD5.out.keeps hK (fun i hi e=>by
    have h9:=hsj2 i hi
    rcases e with e|e
    ·rcases h9.2 with h8|h8
     ·have:=hsm i h8;omega
     ·omega
    ·omega)
  ·exact HS9.out.keeps q7 (fun e=>by have e:gs=r:=e;omega) (fun e=>by have e:bs=r:=e;omega)
  ·exact HT9.out.keeps q7 (fun e=>by have e:gt=r:=e;omega) (fun e=>by have e:bt=r:=e;omega)
  ·have k1:Keeps (fun i=>Sb i∨i=r∨i=f) w _:=(((Keeps.of_below (X:=nobody) HB4.out).more fun _ _ h=>h.elim).trans (HK5.out.more fun _ _ h=>.inl h)).trans (hK.more fun _ _ h=>.inr h)
   exact ⟨k1.os,k1.tape,k1.output,k1.size,fun i hb hx=>k1.block i hb (fun e=>by
    rcases e with e|e|e
    ·exact hx e
    ·omega
    ·omega)⟩
  all_goals omega
end
end regn
namespace regn
open Go Go.RowKit base err lease fold
structure RX where
 id:Nat
 n:Nat
 m:ByteArray
 ck:Int
 ap:List Int
 ws:List wire.Wr
 L:List rows.R
 base:Nat
 Lf:List wire.Wr
 K:List Int
 ep:List list.Ep
 key:Nat
 un:Nat→Int
 se:Nat→Int
 made:Int
 gen:Nat
 dn:diskp.Dk
 ds:diskp.Dk
structure RP where
 r:Nat
 jn:Nat
 gn:Nat
 gs:Nat
 gc:Nat
 gi:Nat
 gf:Nat
 gr:Nat
 gl:Nat
 st:Nat
 sb:Nat
 gt:Nat
 bt:Nat
 va:Value
 vw:Value
 ends:Value
def rgOf (p:RP) (x:RX):Rg:=⟨x.id,x.n,x.m,.pointer (some ⟨p.jn,0,none⟩),.pointer (some ⟨p.gc,0,none⟩),.pointer (some ⟨p.gi,0,none⟩),.pointer (some ⟨p.st,0,none⟩),.pointer (some ⟨p.gf,0,none⟩),.pointer (some ⟨p.gt,0,none⟩),.pointer (some ⟨p.gr,0,none⟩),.pointer (some ⟨p.gl,0,none⟩),x.made,x.se,p.ends,false⟩
def tags (own:Nat→Nat) (l:List Nat):Nat→Prop:=fun i=>own i ∈ l∧own i≠0
structure RegI (w:World) (own:Nat→Nat) (p:RP) (x:RX):Prop where
 reg:RegB w p.r (rgOf p x)
 lease:LeaseB w p.gl x.id x.n x.un
 jrn:jrn.JrnB w p.jn p.gn p.gs x.gen
 now:disk.DiskS w (fun i=>own i=4) p.gn x.dn
 spare:disk.DiskS w (fun i=>own i=5) p.gs x.ds
 clk:clock.Clk w p.gc x.ck x.id
 inb:dep.InF w (fun i=>own i=7) p.gi x.id x.ap x.ws p.va p.vw
 sto:store.StI w p.st p.sb x.L
 feed:feed.FeedS w (fun i=>own i=10) p.gf x.id x.n x.base x.Lf x.K
 tab:tab.Tab w p.gt p.bt x.ep
 ring:ringw.RingB w p.gr x.m x.key
 o1:own p.r=1
 o2:own p.gl=2
 o3:own p.jn=3
 o6:own p.gc=6
 o8:own p.st=8
 o9:own p.sb=9
 o11:own p.gt=11
 o12:own p.bt=12
 o13:own p.gr=13
 small:∀ i,own i≠0→i<w.heap.size
def Grown (own own':Nat→Nat) (w:World):Prop:=∀ i,own' i=own i∨own' i=0∨w.heap.size≤i
theorem Grown.refl (own:Nat→Nat) (w:World):Grown own own w:=fun _=>.inl rfl
theorem Grown.trans {own o1 o2:Nat→Nat} {w w1:World} (h:Grown own o1 w) (h2:Grown o1 o2 w1) (hs:w.heap.size≤w1.heap.size):Grown own o2 w:=fun i=>by
 rcases h2 i with h2|h2|h2
 ·rcases h i with h|h|h
  ·exact .inl (h2.trans h)
  ·exact .inr (.inl (h2.trans h))
  ·exact .inr (.inr h)
 ·exact .inr (.inl h2)
 ·exact .inr (.inr (Nat.le_trans hs h2))
theorem Grown.later {own o1:Nat→Nat} {w w1:World} (h:Grown own o1 w1) (hs:w.heap.size≤w1.heap.size):Grown own o1 w:=fun i=>(h i).imp id (fun h=>h.imp id (fun h=>Nat.le_trans hs h))
theorem Grown.zero {own o1:Nat→Nat} {w:World} (h:Grown own o1 w) {i:Nat} (hi:own i=0) (hl:i<w.heap.size):o1 i=0:=by
 rcases h i with h|h|h
 ·rw [h,hi]
 ·exact h
 ·omega
section
variable {w w':World} {own:Nat→Nat} {p:RP} {x:RX} {X:Nat→Prop}
theorem RegI.keeps (h:RegI w own p x) (hk:Keeps X w w') (hx:∀ i,own i≠0→¬ X i):RegI w' own p x :=
 have q:∀ {i t},own i=t→t≠0→¬ X i:=fun h1 h2=>hx _ (h1 ▸ h2)
 ⟨Blk.keeps h.reg hk (q h.o1 (by decide)),Blk.keeps h.lease hk (q h.o2 (by decide)),Blk.keeps h.jrn hk (q h.o3 (by decide)),h.now.keeps hk (fun _ hi=>q hi (by decide)),h.spare.keeps hk (fun _ hi=>q hi (by decide)),
  Blk.keeps h.clk hk (q h.o6 (by decide)),h.inb.keeps hk (fun _ hi=>q hi (by decide)),h.sto.keeps hk (q h.o8 (by decide)) (q h.o9 (by decide)),h.feed.keeps hk (fun _ hi=>q hi (by decide)),h.tab.keeps hk (q h.o11 (by decide)) (q h.o12 (by decide)),Blk.keeps h.ring hk (q h.o13 (by decide)),
  h.o1,h.o2,h.o3,h.o6,h.o8,h.o9,h.o11,h.o12,h.o13,fun i hi=>Nat.lt_of_lt_of_le (h.small i hi) hk.size⟩
theorem RegI.below (h:RegI w own p x) (hb:Below w.heap.size w w'):RegI w' own p x:=h.keeps (X:=nobody) (.of_below hb) (fun _ _ h=>h)
theorem RegI.drew (h:RegI w own p x):RegI w.drew own p x:=h.below (Below.refl _ _).drew
theorem RegI.setClk {c:Int} (h:RegI w own p x) (hc:clock.Clk w' p.gc c x.id) (hk:Keeps X w w') (hx:∀ i,X i→own i=6):RegI w' own p { x with ck:=c } :=
 have q:∀ {i t},own i=t→t≠6→¬ X i:=fun h1 h2 h3=>h2 (h1 ▸ hx _ h3)
 ⟨Blk.keeps h.reg hk (q h.o1 (by decide)),Blk.keeps h.lease hk (q h.o2 (by decide)),Blk.keeps h.jrn hk (q h.o3 (by decide)),h.now.keeps hk (fun _ hi=>q hi (by decide)),h.spare.keeps hk (fun _ hi=>q hi (by decide)),
  hc,h.inb.keeps hk (fun _ hi=>q hi (by decide)),h.sto.keeps hk (q h.o8 (by decide)) (q h.o9 (by decide)),h.feed.keeps hk (fun _ hi=>q hi (by decide)),h.tab.keeps hk (q h.o11 (by decide)) (q h.o12 (by decide)),Blk.keeps h.ring hk (q h.o13 (by decide)),
  h.o1,h.o2,h.o3,h.o6,h.o8,h.o9,h.o11,h.o12,h.o13,fun i hi=>Nat.lt_of_lt_of_le (h.small i hi) hk.size⟩
theorem RegI.setSto {L:List rows.R} (h:RegI w own p x) (hc:store.StI w' p.st p.sb L) (hk:Keeps X w w') (hx:∀ i,X i→own i=9):RegI w' own p { x with L:=L } :=
 have q:∀ {i t},own i=t→t≠9→¬ X i:=fun h1 h2 h3=>h2 (h1 ▸ hx _ h3)
 ⟨Blk.keeps h.reg hk (q h.o1 (by decide)),Blk.keeps h.lease hk (q h.o2 (by decide)),Blk.keeps h.jrn hk (q h.o3 (by decide)),h.now.keeps hk (fun _ hi=>q hi (by decide)),h.spare.keeps hk (fun _ hi=>q hi (by decide)),
  Blk.keeps h.clk hk (q h.o6 (by decide)),h.inb.keeps hk (fun _ hi=>q hi (by decide)),hc,h.feed.keeps hk (fun _ hi=>q hi (by decide)),h.tab.keeps hk (q h.o11 (by decide)) (q h.o12 (by decide)),Blk.keeps h.ring hk (q h.o13 (by decide)),
  h.o1,h.o2,h.o3,h.o6,h.o8,h.o9,h.o11,h.o12,h.o13,fun i hi=>Nat.lt_of_lt_of_le (h.small i hi) hk.size⟩
theorem RegI.setRing {k:Nat} (h:RegI w own p x) (hc:ringw.RingB w' p.gr x.m k) (hk:Keeps X w w') (hx:∀ i,X i→own i=13):RegI w' own p { x with key:=k } :=
 have q:∀ {i t},own i=t→t≠13→¬ X i:=fun h1 h2 h3=>h2 (h1 ▸ hx _ h3)
 ⟨Blk.keeps h.reg hk (q h.o1 (by decide)),Blk.keeps h.lease hk (q h.o2 (by decide)),Blk.keeps h.jrn hk (q h.o3 (by decide)),h.now.keeps hk (fun _ hi=>q hi (by decide)),h.spare.keeps hk (fun _ hi=>q hi (by decide)),
  Blk.keeps h.clk hk (q h.o6 (by decide)),h.inb.keeps hk (fun _ hi=>q hi (by decide)),h.sto.keeps hk (q h.o8 (by decide)) (q h.o9 (by decide)),h.feed.keeps hk (fun _ hi=>q hi (by decide)),h.tab.keeps hk (q h.o11 (by decide)) (q h.o12 (by decide)),hc,
  h.o1,h.o2,h.o3,h.o6,h.o8,h.o9,h.o11,h.o12,h.o13,fun i hi=>Nat.lt_of_lt_of_le (h.small i hi) hk.size⟩
theorem RegI.setReg {md:Int} {s:Nat→Int} (h:RegI w own p x) (hc:RegB w' p.r (rgOf p { x with made:=md,se:=s })) (hk:Keeps X w w') (hx:∀ i,X i→own i=1):RegI w' own p { x with made:=md,se:=s } :=
 have q:∀ {i t},own i=t→t≠1→¬ X i:=fun h1 h2 h3=>h2 (h1 ▸ hx _ h3)
 ⟨hc,Blk.keeps h.lease hk (q h.o2 (by decide)),Blk.keeps h.jrn hk (q h.o3 (by decide)),h.now.keeps hk (fun _ hi=>q hi (by decide)),h.spare.keeps hk (fun _ hi=>q hi (by decide)),
  Blk.keeps h.clk hk (q h.o6 (by decide)),h.inb.keeps hk (fun _ hi=>q hi (by decide)),h.sto.keeps hk (q h.o8 (by decide)) (q h.o9 (by decide)),h.feed.keeps hk (fun _ hi=>q hi (by decide)),h.tab.keeps hk (q h.o11 (by decide)) (q h.o12 (by decide)),Blk.keeps h.ring hk (q h.o13 (by decide)),
  h.o1,h.o2,h.o3,h.o6,h.o8,h.o9,h.o11,h.o12,h.o13,fun i hi=>Nat.lt_of_lt_of_le (h.small i hi) hk.size⟩
noncomputable def regive (own:Nat→Nat) (t:Nat) (S':Nat→Prop):Nat→Nat:=fun i=>open Classical in if S' i then t else if own i=t then 0 else own i
theorem regive_at {t:Nat} {S':Nat→Prop} {i:Nat} (ht:t≠0):regive own t S' i=t↔S' i:=by
 unfold regive
 by_cases h:S' i
 ·rw [if_pos h];exact ⟨fun _=>h,fun _=>rfl⟩
 ·rw [if_neg h]
  by_cases h2:own i=t
  ·rw [if_pos h2];exact ⟨fun e=>absurd e.symm ht,fun e=>absurd e h⟩
  ·rw [if_neg h2];exact ⟨fun e=>absurd e h2,fun e=>absurd e h⟩
theorem regive_ne {t s:Nat} {S':Nat→Prop} {i:Nat} (hd:∀ j,S' j→own j=t∨own j=0) (hs:s≠0) (hst:s≠t):regive own t S' i=s↔own i=s:=by
 unfold regive
 by_cases h:S' i
 ·rw [if_pos h]
  refine ⟨fun e=>absurd e.symm hst,fun e=>?_⟩
  rcases hd i h with h2|h2
  ·exact absurd (h2 ▸ e).symm hst
  ·exact absurd (h2 ▸ e).symm hs
 ·rw [if_neg h]
  by_cases h2:own i=t
  ·rw [if_pos h2,h2];exact ⟨fun e=>absurd e.symm hs,fun e=>absurd e.symm hst⟩
  ·rw [if_neg h2]
theorem regive_zero {t:Nat} {S':Nat→Prop} {i:Nat} (h:¬ S' i) (h2:own i=0):regive own t S' i=0:=by
 unfold regive;rw [if_neg h]
 split
 ·rfl
 ·exact h2
theorem regive_grown {t:Nat} {S':Nat→Prop} {w:World} (hd:∀ j,S' j→own j=t∨w.heap.size≤j):Grown own (regive own t S') w:=fun i=>by
 unfold regive
 by_cases h:S' i
 ·rw [if_pos h]
  rcases hd i h with h2|h2
  ·exact .inl h2.symm
  ·exact .inr (.inr h2)
 ·rw [if_neg h]
  by_cases h2:own i=t
  ·rw [if_pos h2];exact .inr (.inl rfl)
  ·rw [if_neg h2];exact .inl rfl
theorem regive_small {t:Nat} {S':Nat→Prop} {w:World} (hs:∀ i,own i≠0→i<w.heap.size) (hS:∀ i,S' i→i<w.heap.size):∀ i,regive own t S' i≠0→i<w.heap.size:=fun i hi=>by
 by_cases h:S' i
 ·exact hS i h
 ·refine hs i (fun e=>hi (regive_zero h e))
theorem setOf_eq {S T:Nat→Prop} (h:∀ i,S i↔T i):S=T:=funext fun i=>propext (h i)
theorem RegI.setFeed {S':Nat→Prop} {b:Nat} {Lf:List wire.Wr} {K:List Int} (h:RegI w own p x) (hf:feed.FeedS w' S' p.gf x.id x.n b Lf K) (hk:Keeps X w w') (hx:∀ i,X i→own i=10) (hS:∀ i,S' i→own i=10∨w.heap.size≤i) :
  RegI w' (regive own 10 S') p { x with base:=b,Lf:=Lf,K:=K }∧Grown own (regive own 10 S') w:=by
 have hsm:∀ i,S' i→i<w'.heap.size:=by obtain ⟨_,_,_,_,_,h8⟩:=hf;exact h8.small
 have hd:∀ j,S' j→own j=10∨own j=0:=fun j hj=>(hS j hj).imp id (fun h2=>Classical.byContradiction fun h3=>by have:=h.small j h3;omega);have q:∀ {i t},own i=t→t≠10→¬ X i:=fun h1 h2 h3=>h2 (h1 ▸ hx _ h3);have r:∀ {i t},own i=t→t≠0→t≠10→regive own 10 S' i=t:=fun h1 h2 h3=>(regive_ne hd h2 h3).2 h1;have e4:(fun i=>regive own 10 S' i=4)=fun i=>own i=4:=setOf_eq fun i=>regive_ne hd (by decide) (by decide);have e5:(fun i=>regive own 10 S' i=5)=fun i=>own i=5:=setOf_eq fun i=>regive_ne hd (by decide) (by decide);have e7:(fun i=>regive own 10 S' i=7)=fun i=>own i=7:=setOf_eq fun i=>regive_ne hd (by decide) (by decide);have e10:(fun i=>regive own 10 S' i=10)=S':=setOf_eq fun i=>regive_at (by decide)
 refine ⟨⟨Blk.keeps h.reg hk (q h.o1 (by decide)),Blk.keeps h.lease hk (q h.o2 (by decide)),Blk.keeps h.jrn hk (q h.o3 (by decide)),by rw [e4];exact h.now.keeps hk (fun _ hi=>q hi (by decide)),by rw [e5];exact h.spare.keeps hk (fun _ hi=>q hi (by decide)),
  Blk.keeps h.clk hk (q h.o6 (by decide)),by rw [e7];exact h.inb.keeps hk (fun _ hi=>q hi (by decide)),h.sto.keeps hk (q h.o8 (by decide)) (q h.o9 (by decide)),by rw [e10];exact hf,h.tab.keeps hk (q h.o11 (by decide)) (q h.o12 (by decide)),Blk.keeps h.ring hk (q h.o13 (by decide)),
  r h.o1 (by decide) (by decide),r h.o2 (by decide) (by decide),r h.o3 (by decide) (by decide),r h.o6 (by decide) (by decide),r h.o8 (by decide) (by decide),r h.o9 (by decide) (by decide),r h.o11 (by decide) (by decide),r h.o12 (by decide) (by decide),r h.o13 (by decide) (by decide),
  regive_small (fun i hi=>Nat.lt_of_lt_of_le (h.small i hi) hk.size) hsm⟩,regive_grown hS⟩
theorem RegI.setInb {S':Nat→Prop} {gi:Nat} {va vw:Value} {ap:List Int} {ws:List wire.Wr} (h:RegI w own p x) (hf:dep.InF w' S' gi x.id ap ws va vw) (hr:RegB w' p.r (rgOf { p with gi:=gi,va:=va,vw:=vw } x)) (hk:Keeps X w w') (hx:∀ i,X i→own i=1∨own i=7) (hS:∀ i,S' i→own i=7∨own i=0) :
  RegI w' (regive own 7 S') { p with gi:=gi,va:=va,vw:=vw } { x with ap:=ap,ws:=ws }:=by
 have hsm:∀ i,S' i→i<w'.heap.size:=hf.small;have hd:=hS;have q:∀ {i t},own i=t→t≠1→t≠7→¬ X i:=fun h1 h2 h2' h3=>(hx _ h3).elim (fun h4=>h2 (h1 ▸ h4)) (fun h4=>h2' (h1 ▸ h4));have r:∀ {i t},own i=t→t≠0→t≠7→regive own 7 S' i=t:=fun h1 h2 h3=>(regive_ne hd h2 h3).2 h1;have e4:(fun i=>regive own 7 S' i=4)=fun i=>own i=4:=setOf_eq fun i=>regive_ne hd (by decide) (by decide);have e5:(fun i=>regive own 7 S' i=5)=fun i=>own i=5:=setOf_eq fun i=>regive_ne hd (by decide) (by decide);have e10:(fun i=>regive own 7 S' i=10)=fun i=>own i=10:=setOf_eq fun i=>regive_ne hd (by decide) (by decide);have e7:(fun i=>regive own 7 S' i=7)=S':=setOf_eq fun i=>regive_at (by decide)
 exact ⟨hr,Blk.keeps h.lease hk (q h.o2 (by decide) (by decide)),Blk.keeps h.jrn hk (q h.o3 (by decide) (by decide)),by rw [e4];exact h.now.keeps hk (fun _ hi=>q hi (by decide) (by decide)),by rw [e5];exact h.spare.keeps hk (fun _ hi=>q hi (by decide) (by decide)),
  Blk.keeps h.clk hk (q h.o6 (by decide) (by decide)),by rw [e7];exact hf,h.sto.keeps hk (q h.o8 (by decide) (by decide)) (q h.o9 (by decide) (by decide)),by rw [e10];exact h.feed.keeps hk (fun _ hi=>q hi (by decide) (by decide)),h.tab.keeps hk (q h.o11 (by decide) (by decide)) (q h.o12 (by decide) (by decide)),Blk.keeps h.ring hk (q h.o13 (by decide) (by decide)),
  r h.o1 (by decide) (by decide),r h.o2 (by decide) (by decide),r h.o3 (by decide) (by decide),r h.o6 (by decide) (by decide),r h.o8 (by decide) (by decide),r h.o9 (by decide) (by decide),r h.o11 (by decide) (by decide),r h.o12 (by decide) (by decide),r h.o13 (by decide) (by decide),
  regive_small (fun i hi=>Nat.lt_of_lt_of_le (h.small i hi) hk.size) hsm⟩
theorem RegI.setNow {S':Nat→Prop} {d:diskp.Dk} (h:RegI w own p x) (hf:disk.DiskS w' S' p.gn d) (hk:Keeps X w w') (hx:∀ i,X i→own i=4) (hS:∀ i,S' i→own i=4∨w.heap.size≤i) :
  RegI w' (regive own 4 S') p { x with dn:=d }∧Grown own (regive own 4 S') w:=by
 have hsm:∀ i,S' i→i<w'.heap.size:=by obtain ⟨_,h8⟩:=hf;exact h8.small
 have hd:∀ j,S' j→own j=4∨own j=0:=fun j hj=>(hS j hj).imp id (fun h2=>Classical.byContradiction fun h3=>by have:=h.small j h3;omega);have q:∀ {i t},own i=t→t≠4→¬ X i:=fun h1 h2 h3=>h2 (h1 ▸ hx _ h3);have r:∀ {i t},own i=t→t≠0→t≠4→regive own 4 S' i=t:=fun h1 h2 h3=>(regive_ne hd h2 h3).2 h1;have e10:(fun i=>regive own 4 S' i=10)=fun i=>own i=10:=setOf_eq fun i=>regive_ne hd (by decide) (by decide);have e5:(fun i=>regive own 4 S' i=5)=fun i=>own i=5:=setOf_eq fun i=>regive_ne hd (by decide) (by decide);have e7:(fun i=>regive own 4 S' i=7)=fun i=>own i=7:=setOf_eq fun i=>regive_ne hd (by decide) (by decide);have e4:(fun i=>regive own 4 S' i=4)=S':=setOf_eq fun i=>regive_at (by decide)
 refine ⟨⟨Blk.keeps h.reg hk (q h.o1 (by decide)),Blk.keeps h.lease hk (q h.o2 (by decide)),Blk.keeps h.jrn hk (q h.o3 (by decide)),by rw [e4];exact hf,by rw [e5];exact h.spare.keeps hk (fun _ hi=>q hi (by decide)),
  Blk.keeps h.clk hk (q h.o6 (by decide)),by rw [e7];exact h.inb.keeps hk (fun _ hi=>q hi (by decide)),h.sto.keeps hk (q h.o8 (by decide)) (q h.o9 (by decide)),by rw [e10];exact h.feed.keeps hk (fun _ hi=>q hi (by decide)),h.tab.keeps hk (q h.o11 (by decide)) (q h.o12 (by decide)),Blk.keeps h.ring hk (q h.o13 (by decide)),
  r h.o1 (by decide) (by decide),r h.o2 (by decide) (by decide),r h.o3 (by decide) (by decide),r h.o6 (by decide) (by decide),r h.o8 (by decide) (by decide),r h.o9 (by decide) (by decide),r h.o11 (by decide) (by decide),r h.o12 (by decide) (by decide),r h.o13 (by decide) (by decide),
  regive_small (fun i hi=>Nat.lt_of_lt_of_le (h.small i hi) hk.size) hsm⟩,regive_grown hS⟩
end
end regn
namespace regn
open Go Go.RowKit base err lease fold monoj rowe
section
variable {w:World} {r:Nat} {x:Rg}
theorem rat_nil (h:RegB w r x):Calls Tryz.prog 20 #[.pointer (some ⟨r,0,none⟩),.nilIface] w fun e w'=>e=.returned .nilIface∧w'=w:=by
 have c0:=h.c0;have hlt:=h.lt;clear h;go_enter Tryz.func20,Tryz.ntmps20;go_wp2_with fail;refine (framew.at_nil _ _ _).mono ?_;rintro e w1 ⟨rfl,rfl⟩;go_wp2_with fail;go_ret
 exact ⟨rfl,rfl⟩
theorem epoch_any {gt bt:Nat} {L:List list.Ep} (u:ByteArray) (h:RegB w r x) (hd:x.down=false) (hp:x.ep=.pointer (some ⟨gt,0,none⟩)) (ht:tab.Tab w gt bt L) (hu:u.size≤maxLen):Calls Tryz.prog 39 #[.pointer (some ⟨r,0,none⟩),.string u] w fun e w'=>e=.returned (.int .i64 (list.getL L u))∧w'=w:=by
 have c8:=h.c8;have hlt:=h.lt;have HD:=qH (down_any h);have HG:=qH (tab.get_any gt bt L u w ht hu);rw [hp] at c8;rw [hd] at HD;clear h hd hp ht hu;go_enter Tryz.func39,Tryz.ntmps39;go_wp2_with fail;refine HD.out.mono ?_;rintro e w1 ⟨rfl,hw⟩;subst hw;go_wp2_with fail;refine HG.out.mono ?_;rintro e w2 ⟨rfl,hw⟩;subst hw;go_wp2_with fail;go_ret
 exact ⟨rfl,rfl⟩
def WrapR (w:World) (e:Ending) (w':World):Prop:=(∃ k,e=.returned (.iface 121 (.pointer (some ⟨k,0,none⟩))))∧Below w.heap.size w w'
theorem at_err (s:ByteArray) (n:Int) (g:Nat) (w:World):Calls Tryz.prog 15 #[.string s,.int .i64 n,.iface 121 (.pointer (some ⟨g,0,none⟩))] w (WrapR w):=by
 go_enter Tryz.func15,Tryz.ntmps15;go_wp2;go_ret
 exact ⟨⟨_,rfl⟩,(Below.refl _ _).alloc (Nat.le_refl _) _⟩
theorem rat_err (g:Nat) (h:RegB w r x):Calls Tryz.prog 20 #[.pointer (some ⟨r,0,none⟩),.iface 121 (.pointer (some ⟨g,0,none⟩))] w (WrapR w):=by
 have c0:=h.c0;have hlt:=h.lt;clear h;go_enter Tryz.func20,Tryz.ntmps20;go_wp2_with fail;refine (at_err _ _ _ _).mono ?_;rintro e w1 ⟨⟨k,rfl⟩,hb⟩;have HB:=qH hb;clear hb;go_wp2_with fail;go_ret
 exact ⟨⟨k,rfl⟩,HB.out⟩
def RingQ (m:ByteArray) (n:Nat) (w:World) (e:Ending) (w':World):Prop:=∃ g,e=.returned (.pointer (some ⟨g,0,none⟩))∧ringw.RingB w' g m n∧Below w.heap.size w w'
theorem ring_any {gr n:Nat} (h:RegB w r x) (hd:x.down=false) (hp:x.rn=.pointer (some ⟨gr,0,none⟩)) (hg:ringw.RingB w gr x.m n) (m1:1≤x.m.size) (m2:x.m.size≤64) (hn:n≤1099511627776):Calls Tryz.prog 47 #[.pointer (some ⟨r,0,none⟩)] w (RingQ x.m n w):=by
 have c2:=h.c2;have c9:=h.c9;have hlt:=h.lt;have HD:=qH (down_any h);have HG:=qH hg;rw [hp] at c9;rw [hd] at HD;clear h hd hp hg;go_enter Tryz.func47,Tryz.ntmps47;go_wp2_with fail;refine HD.out.mono ?_;rintro e w1 ⟨rfl,hw⟩;subst hw;go_wp2_with fail;refine wp_region_mono nobody (by kernel_rfl) ?_
 iterate 9
  first|refine qT 0 (v:=?_) ?_ ?_|refine qT 1 (v:=?_) ?_ ?_|refine qT 2 (v:=?_) ?_ ?_|refine qT 3 (v:=?_) ?_ ?_|refine qT 4 (v:=?_) ?_ ?_|refine qT 5 (v:=?_) ?_ ?_|refine qT 6 (v:=?_) ?_ ?_|refine qT 7 (v:=?_) ?_ ?_|refine qT 8 (v:=?_) ?_ ?_
  rotate_left
  ·(intro W hSw;(have hcW:=hSw.cells;try simp only [qSd] at hcW);go_simp <;> rfl)
  try simp only [qPA]
 refine wpMono_one' 9 (by kernel_rfl) rfl (by rfl) (fun K hK=>?_)
 go_simp
 refine (ringw.current_any gr x.m n _ HG.out.drew).mono ?_;rintro e w2 ⟨rfl,rfl⟩;refine hK.out _ _ ?_ ?_
 ·exact .refl _ _
 clear hK K
 try simp only [qPA]
 refine wpMono_one' 10 (by kernel_rfl) rfl (by rfl) (fun K hK=>?_)
 go_simp
 refine (ringw.new_ok x.m n m1 m2 hn _).mono ?_;rintro e w3 ⟨rfl,hr3,hb3⟩;have HR3:=qH hr3;have HB3:=qH hb3;clear hr3 hb3;refine hK.out _ _ ?_ ?_
 ·exact .of_below HB3.out
 clear hK K
 try simp only [qPA]
 iterate 5
  first|refine qT 11 (v:=?_) ?_ ?_|refine qT 12 (v:=?_) ?_ ?_|refine qT 13 (v:=?_) ?_ ?_|refine qT 14 (v:=?_) ?_ ?_|refine qT 15 (v:=?_) ?_ ?_
  rotate_left
  ·(intro W hSw;(have hcW:=hSw.cells;try simp only [qSd] at hcW);go_simp <;> rfl)
  try simp only [qPA]
 refine wpMono_done (by kernel_rfl) ?_ _;go_wp2_with fail;go_ret
 exact ⟨_,rfl,HR3.out,((Below.refl _ _).drew).trans HB3.out⟩
def GoodQ (id n:Nat) (u:Nat→Int) (now:Nat) (w:World) (e:Ending) (w':World):Prop:=Below w.heap.size w w' ∧
 (((∀ i,i<17→lapse id n u now i=false)∧e=.returned .nilIface)∨((∃ i,i<17∧lapse id n u now i=true)∧∃ g,e=.returned (.iface 121 (.pointer (some ⟨g,0,none⟩)))))
theorem good_q {gl id n:Nat} (now:Nat) (u:Nat→Int) (h:RegB w r x) (hd:x.down=false) (hp:x.ls=.pointer (some ⟨gl,0,none⟩)) (hl:LeaseB w gl id n u):Calls Tryz.prog 37 #[.pointer (some ⟨r,0,none⟩),.int .i64 now] w (GoodQ id n u now w):=by
 have c10:=h.c10;have hlt:=h.lt;have HR:=qH h;have HD:=qH (down_any h);have HG:=qH (good_w gl id n now u w hl);rw [hp] at c10;rw [hd] at HD;clear h hd hp hl;go_enter Tryz.func37,Tryz.ntmps37;go_wp2_with fail;refine HD.out.mono ?_;rintro e w1 ⟨rfl,hw⟩;subst hw;go_wp2_with fail;refine HG.out.mono ?_;rintro e w2 h2
 rcases h2 with ⟨ha,rfl,hb⟩|⟨ha,v,rfl,he,_,hb,_⟩
 ·have HA:=qH ha
  have HB:=qH hb;have HR2:=qH (show RegB w2 r x from Blk.below HR.out hb hlt);clear ha hb;go_wp2_with fail;refine (rat_nil HR2.out).mono ?_;rintro e w3 ⟨rfl,hw⟩;subst hw;go_wp2_with fail;go_ret
  exact ⟨HB.out,.inl ⟨HA.out,rfl⟩⟩
 ·obtain ⟨g,rfl⟩:=he.form
  have HA:=qH ha;have HB:=qH hb;have HR2:=qH (show RegB w2 r x from Blk.below HR.out hb hlt);have hsz:=hb.size;clear ha hb he;go_wp2_with fail;refine (rat_err g HR2.out).mono ?_;rintro e w3 ⟨⟨k,rfl⟩,hb3⟩;have HB3:=qH (HB.out.trans (hb3.mono hsz));clear hb3;go_wp2_with fail;go_ret
  exact ⟨HB3.out,.inr ⟨HA.out,k,rfl⟩⟩
end
end regn
end Go.Proofs.YthlahcnglacekaaGreatDoor
