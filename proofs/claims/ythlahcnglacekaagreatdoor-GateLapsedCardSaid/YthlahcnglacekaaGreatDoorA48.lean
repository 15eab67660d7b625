/- A part of the proof of GateLapsed: WhoE, WGateLapsed. -/
import Derived.Test.YthlahcnglacekaaGreatDoorA47
import Derived.Test.YthlahcnglacekaaGreatDoorA46
set_option maxRecDepth 100000
set_option maxHeartbeats 16000000
namespace Go.Proofs.YthlahcnglacekaaGreatDoor
namespace gatew
open Go Go.RowKit Go.Lib base rowe err wireb claimp tokw regn fold
def BadW (k:Nat) (c:Int) (w:World) (e:Ending) (w':World):Prop:=(∃ v,e=.returned (.tuple #[.agg ⟨zeroC⟩,v])∧ErrD w' k v c)∧Below w.heap.size w w'
theorem errD_int {w:World} {f:Int} {c:Int}:∀ {k:Nat},¬ ErrD w k (.int .i64 f) c
 | 0,h=>by cases h
 | k+1,h=>by obtain ⟨g,v',h1,_⟩:=h;cases h1
theorem errD_farI {w w':World} {b:Nat} {f:Int} (hb:w.cell? ⟨b,2,none⟩=some (.int .i64 f)) (hk:Keeps (fun i=>i=b) w w'):∀ {k:Nat} {v:Value} {c:Int},ErrD w k v c→ErrD w' k v c
 | 0,_,_,h=>h
 | k+1,_,_,h=>by
  obtain ⟨g,v',h1,h2,h3,h4⟩:=h;refine ⟨g,v',h1,Nat.lt_of_lt_of_le h2 hk.size,(hk.cell 2 h2 (fun e=>?_)).trans h3,errD_farI hb hk h4⟩;subst e;rw [hb] at h3;obtain rfl:=Option.some.inj h3;exact errD_int h4
theorem who_none (hd:ByteArray) (w:World):Calls Tryz.prog 16 #[.pointer none,.string hd] w (BadW 0 5 w):=by
 have HX0:=qH (Blk.new w 37 zeroC.toArray);have HB0:=qH (below_new w (.cells zeroC.toArray 37));have hs0:(w.alloc (.cells zeroC.toArray 37)).heap.size=w.heap.size+1:=by simp
 unfold zeroC at HX0 HB0 hs0;go_enter Tryz.func16,Tryz.ntmps16;go_wp2_with fail;generalize w.alloc _=w0 at *;refine (down_nil _).mono ?_;rintro e w1 ⟨rfl,hw⟩;subst hw
 go_wp2_with (refine wpList_store_blk rfl 37 (.tmp 4) (.tmp 13) rfl w.heap.size [.string ⟨#[]⟩,.string ⟨#[]⟩,.int .i64 0,.int .i64 0,.int .i64 0,.slice none 0 0] rfl rfl HX0.out (by kernel_rfl) rfl rfl ?_;intro w4 ho4 hk4 hs4)
 obtain ⟨p0,p1,p2,p3,p4,p5⟩:=cells6 ho4;have HFIN:=qH (show BadW 0 5 w (.returned (.tuple #[.agg ⟨zeroC⟩,.iface 41 (.int .i64 5)])) w4 from ⟨⟨_,rfl,rfl⟩,HB0.out.trans (hk4.below (fun i hi e=>by omega) (by omega))⟩);clear ho4 hk4;exact bodyPost_ret (v:=.tuple #[.agg ⟨zeroC⟩,.iface 41 (.int .i64 5)]) (by unfold zeroC;simp [results,Tryz.results16,go_sem,p0,p1,p2,p3,p4,p5]) rfl HFIN.out
theorem who_bad {k:Nat} {c:Int} (a0:Value) (hd:ByteArray) (w:World) (h:∀ w1,Below w.heap.size w w1→Calls Tryz.prog 16 #[a0,.string hd] w1 (BadW k c w1)) :
  Calls Tryz.prog 8 #[a0,.string hd] w (BadW (k+1) c w):=by
 have HRD:=qH (h (w.alloc (.cells zeroC.toArray 37)) (below_new w _));have HX0:=qH (Blk.new w 37 zeroC.toArray);have HB0:=qH (below_new w (.cells zeroC.toArray 37));have hs0:(w.alloc (.cells zeroC.toArray 37)).heap.size=w.heap.size+1:=by simp
 clear h;unfold zeroC at HX0 HB0 hs0 HRD;go_enter Tryz.func8,Tryz.ntmps8;go_wp2_with fail;generalize w.alloc _=w1 at *;refine HRD.out.mono ?_;rintro e w2 ⟨⟨v,rfl,he⟩,hb2⟩;have HE:=qH he;obtain ⟨t,x,rfl⟩:=errD_form he;have HX2:=qH (HX0.out.below hb2 (by omega));have HB2:=qH (HB0.out.trans (hb2.mono (by omega)));have hs2:=hb2.size;clear hb2 HX0 HB0 HRD he;have hcb3:=below_new w2 (.cells zeroC.toArray 37);have HX3:=qH (HX2.out.below hcb3 (by omega));have HB3:=qH (HB2.out.trans (hcb3.mono (by omega)));have HE3:=qH (HE.out.below hcb3);have hs3:=hcb3.size;clear hcb3 HX2 HB2 HE;unfold zeroC at *;go_wp2_with fail;generalize w2.alloc _=w3 at *;refine (wrap_any _ _ HE3.out).mono ?_;rintro e w4 ⟨⟨g,rfl,hg,he4⟩,hb4⟩;have HX4:=qH (HX3.out.below hb4 (by omega));have HB4:=qH (HB3.out.trans (hb4.mono (by omega)));have HE4:=qH he4;have hs4:=hb4.size;clear hb4 he4 HX3 HB3 HE3
 go_wp2_with (refine wpList_store_blk rfl 37 (.tmp 4) (.tmp 16) rfl w.heap.size [.string ⟨#[]⟩,.string ⟨#[]⟩,.int .i64 0,.int .i64 0,.int .i64 0,.slice none 0 0] rfl rfl HX4.out (by kernel_rfl) rfl rfl ?_;intro w10 ho10 hk10 hs10)
 have HE10:=qH (errD_farI (HX4.out.cell 2) hk10 HE4.out);obtain ⟨p0,p1,p2,p3,p4,p5⟩:=cells6 ho10;have HFIN:=qH (show BadW (k+1) c w (.returned (.tuple #[.agg ⟨zeroC⟩,.iface 121 (.pointer (some ⟨g,0,none⟩))])) w10 from ⟨⟨_,rfl,HE10.out⟩,HB4.out.trans (hk10.below (fun i hi e=>by omega) (by omega))⟩);clear ho10 hk10;exact bodyPost_ret (v:=.tuple #[.agg ⟨zeroC⟩,.iface 121 (.pointer (some ⟨g,0,none⟩))]) (by unfold zeroC;simp [results,Tryz.results8,go_sem,p0,p1,p2,p3,p4,p5]) rfl HFIN.out
end gatew
namespace wGateLapsed
open Go Go.RowKit Go.Lib base rowe err wireb claimp tokw regn fold lease gatew
theorem req_cells:Tryz.prog.cellsOf 23=6:=by kernel_rfl
theorem req_arg {w:World} {v:Value} (h:Arg Tryz.prog w 23 v):∃ (op:Int) (ck us k vl:ByteArray) (life:Int),v=.agg ⟨reqL op ck us k vl life⟩:=by
 obtain ⟨cs,rfl,hl,hs⟩:=h.agg (.inl ⟨_,Tryz.underlying23⟩);rw [req_cells] at hl;obtain ⟨_,hf⟩:=hs.struct Tryz.underlying23;have e3:Tryz.prog.cellsOf 3=1:=by kernel_rfl
 have e9:Tryz.prog.cellsOf 9=1:=by kernel_rfl
 match cs,hl with
 | [x0,x1,x2,x3,x4,x5],_ =>
  simp [e3,e9] at hf
  obtain ⟨h0,h1,h2,h3,h4,h5⟩:=hf;obtain ⟨n0,q0,_⟩:=h0.int Tryz.underlying3;obtain ⟨s1,q1,_⟩:=h1.string Tryz.underlying9;obtain ⟨s2,q2,_⟩:=h2.string Tryz.underlying9;obtain ⟨s3,q3,_⟩:=h3.string Tryz.underlying9;obtain ⟨s4,q4,_⟩:=h4.string Tryz.underlying9;obtain ⟨n5,q5,_⟩:=h5.int Tryz.underlying3;simp at q0 q1 q2 q3 q4 q5
  subst q0 q1 q2 q3 q4 q5;exact ⟨n0,s1,s2,s3,s4,n5,rfl⟩
theorem two_lapsed (now:Nat):∃ i,i<17∧lapse 1 2 (fun _=>0) now i=true:=⟨2,by omega,by
 unfold lapse isL;rw [decide_eq_true (by omega),decide_eq_true (by show (0:Int)≤_;omega)];rfl⟩
def Bad (op now:Int):Prop:=now<0∨1099511627776<now∨op<1∨8<op
theorem serve_two {own:Nat→Nat} {p:RP} (op:Int) (ck us k vl:ByteArray) (life now:Int) (w:World) (h:RegI w own p (newX 1 2 m1 dG dG)) :
  ∃ kk c,1≤kk∧kk≤3∧((Bad op now∧c=1)∨(¬ Bad op now∧c=12))∧Calls Tryz.prog 7 #[.pointer (some ⟨p.r,0,none⟩),.agg ⟨reqL op ck us k vl life⟩,.int .i64 now] w (BadS kk c w):=by
 by_cases hb:Bad op now
 ·exact ⟨1,1,by omega,by omega,.inl ⟨hb,rfl⟩,serve_bad _ op ck us k vl life now w (fun w1 hb1=>serve_arg op ck us k vl life now w1 (h.below hb1) hb)⟩
 ·refine ⟨3,12,by omega,by omega,.inr ⟨hb,rfl⟩,serve_bad _ op ck us k vl life now w (fun w1 hb1=>?_)⟩
  unfold Bad at hb;obtain ⟨n,rfl⟩:∃ n:Nat,now=n:=⟨now.toNat,by omega⟩;exact (serve_lapsed op ck us k vl life n w1 (h.below hb1) (two_lapsed n) (by omega) (by omega) (by omega)).mono fun e w' h=>h.bad
theorem walk (v0 v1:Value) (w:World) (a0:Arg Tryz.prog w 23 v0) (a1:Arg Tryz.prog w 3 v1) (hT:quota.Tabs w∧bake.Tabs w) :
  Calls Tryz.prog 3 #[v0,v1] w fun e w'=>e=.returned (.bool true)∧Below w.heap.size w w':=by
 obtain ⟨op,ck,us,k,vl,life,rfl⟩:=req_arg a0;obtain ⟨now,rfl,_⟩:=a1.int Tryz.underlying3;clear a0 a1;have HQ:=qH (Blk.new w 23 (reqL op ck us k vl life).toArray);have HB0:=qH (below_new w (.cells (reqL op ck us k vl life).toArray 23));have hs0:(w.alloc (.cells (reqL op ck us k vl life).toArray 23)).heap.size=w.heap.size+1:=by simp
 have HAW:=qH (awake_g (w.alloc (.cells (reqL op ck us k vl life).toArray 23)) ⟨hT.1.below HB0.out,hT.2.below HB0.out⟩);clear hT;have hc:(6000<ck.size)∨(¬ 6000<ck.size∧200<us.size)∨(¬ 6000<ck.size∧¬ 200<us.size∧200<k.size)∨(¬ 6000<ck.size∧¬ 200<us.size∧¬ 200<k.size∧300<vl.size)∨(¬ 6000<ck.size∧¬ 200<us.size∧¬ 200<k.size∧¬ 300<vl.size):=by omega
 rcases hc with d1|⟨d1,d2⟩|⟨d1,d2,d3⟩|⟨d1,d2,d3,d4⟩|⟨d1,d2,d3,d4⟩
 ·unfold reqL at *
  go_enter Tryz.func3,Tryz.ntmps3;go_wp2_with fail;generalize w.alloc _=w0 at *;refine HAW.out.mono ?_;rintro e w1 ⟨rfl,hb1⟩;have HQ1:=qH (HQ.out.below hb1 (by omega));have HB1:=qH (HB0.out.trans (hb1.mono (by omega)));have q1:w1.cell? ⟨w.heap.size,1,none⟩=some (.string ck):=HQ1.out.cell 1;have q2:w1.cell? ⟨w.heap.size,2,none⟩=some (.string us):=HQ1.out.cell 2;have q3:w1.cell? ⟨w.heap.size,3,none⟩=some (.string k):=HQ1.out.cell 3;have q4:w1.cell? ⟨w.heap.size,4,none⟩=some (.string vl):=HQ1.out.cell 4;have hq1:=HQ1.out.lt;clear hb1 HQ HB0;go_wp2_with fail;go_ret
  exact ⟨rfl,HB1.out⟩
 ·unfold reqL at *
  go_enter Tryz.func3,Tryz.ntmps3;go_wp2_with fail;generalize w.alloc _=w0 at *;refine HAW.out.mono ?_;rintro e w1 ⟨rfl,hb1⟩;have HQ1:=qH (HQ.out.below hb1 (by omega));have HB1:=qH (HB0.out.trans (hb1.mono (by omega)));have q1:w1.cell? ⟨w.heap.size,1,none⟩=some (.string ck):=HQ1.out.cell 1;have q2:w1.cell? ⟨w.heap.size,2,none⟩=some (.string us):=HQ1.out.cell 2;have q3:w1.cell? ⟨w.heap.size,3,none⟩=some (.string k):=HQ1.out.cell 3;have q4:w1.cell? ⟨w.heap.size,4,none⟩=some (.string vl):=HQ1.out.cell 4;have hq1:=HQ1.out.lt;clear hb1 HQ HB0;go_wp2_with fail;go_ret
  exact ⟨rfl,HB1.out⟩
 ·unfold reqL at *
  go_enter Tryz.func3,Tryz.ntmps3;go_wp2_with fail;generalize w.alloc _=w0 at *;refine HAW.out.mono ?_;rintro e w1 ⟨rfl,hb1⟩;have HQ1:=qH (HQ.out.below hb1 (by omega));have HB1:=qH (HB0.out.trans (hb1.mono (by omega)));have q1:w1.cell? ⟨w.heap.size,1,none⟩=some (.string ck):=HQ1.out.cell 1;have q2:w1.cell? ⟨w.heap.size,2,none⟩=some (.string us):=HQ1.out.cell 2;have q3:w1.cell? ⟨w.heap.size,3,none⟩=some (.string k):=HQ1.out.cell 3;have q4:w1.cell? ⟨w.heap.size,4,none⟩=some (.string vl):=HQ1.out.cell 4;have hq1:=HQ1.out.lt;clear hb1 HQ HB0;go_wp2_with fail;go_ret
  exact ⟨rfl,HB1.out⟩
 ·unfold reqL at *
  go_enter Tryz.func3,Tryz.ntmps3;go_wp2_with fail;generalize w.alloc _=w0 at *;refine HAW.out.mono ?_;rintro e w1 ⟨rfl,hb1⟩;have HQ1:=qH (HQ.out.below hb1 (by omega));have HB1:=qH (HB0.out.trans (hb1.mono (by omega)));have q1:w1.cell? ⟨w.heap.size,1,none⟩=some (.string ck):=HQ1.out.cell 1;have q2:w1.cell? ⟨w.heap.size,2,none⟩=some (.string us):=HQ1.out.cell 2;have q3:w1.cell? ⟨w.heap.size,3,none⟩=some (.string k):=HQ1.out.cell 3;have q4:w1.cell? ⟨w.heap.size,4,none⟩=some (.string vl):=HQ1.out.cell 4;have hq1:=HQ1.out.lt;clear hb1 HQ HB0;go_wp2_with fail;go_ret
  exact ⟨rfl,HB1.out⟩
 unfold reqL at *;go_enter Tryz.func3,Tryz.ntmps3;go_wp2_with fail;generalize w.alloc _=w0 at *;refine HAW.out.mono ?_;rintro e w1 ⟨rfl,hb1⟩;have HQ1:=qH (HQ.out.below hb1 (by omega));have HB1:=qH (HB0.out.trans (hb1.mono (by omega)));have q1:w1.cell? ⟨w.heap.size,1,none⟩=some (.string ck):=HQ1.out.cell 1;have q2:w1.cell? ⟨w.heap.size,2,none⟩=some (.string us):=HQ1.out.cell 2;have q3:w1.cell? ⟨w.heap.size,3,none⟩=some (.string k):=HQ1.out.cell 3;have q4:w1.cell? ⟨w.heap.size,4,none⟩=some (.string vl):=HQ1.out.cell 4;have hq1:=HQ1.out.lt;have hs1:=hb1.size;clear hb1 HQ HB0 HAW;go_wp2_with fail;refine (open_l 2 w1 (by omega) (by omega)).mono ?_;rintro e w2 ⟨p,own,rfl,hr2,_,hb2⟩;have HQ2:=qH (HQ1.out.below hb2 (by omega));have HB2:=qH (HB1.out.trans (hb2.mono (by omega)));have HR2:=qH hr2;have hs2:=hb2.size;clear hb2 hr2 HQ1 HB1 q1 q2 q3 q4 d1 d2 d3 d4;have q0:w2.cell? ⟨w.heap.size,0,none⟩=some (.int .i64 op):=HQ2.out.cell 0;have q1:w2.cell? ⟨w.heap.size,1,none⟩=some (.string ck):=HQ2.out.cell 1;have q2:w2.cell? ⟨w.heap.size,2,none⟩=some (.string us):=HQ2.out.cell 2;have q3:w2.cell? ⟨w.heap.size,3,none⟩=some (.string k):=HQ2.out.cell 3;have q4:w2.cell? ⟨w.heap.size,4,none⟩=some (.string vl):=HQ2.out.cell 4;have q5:w2.cell? ⟨w.heap.size,5,none⟩=some (.int .i64 life):=HQ2.out.cell 5;have hq2:=HQ2.out.lt;obtain ⟨kk,c,hk1,hk3,hcc,hS⟩:=serve_two op ck us k vl life now w2 HR2.out;have HS:=qH hS;have HCC:=qH hcc;unfold reqL at HS;clear hS hcc;go_wp2_with fail;refine HS.out.mono ?_;rintro e w3 ⟨⟨g,rfl,hg,he⟩,hb3⟩;have HE3:=qH he;have HQ3:=qH (HQ2.out.below hb3 (by omega));have HB3:=qH (HB2.out.trans (hb3.mono (by omega)));have hs3:=hb3.size;clear hb3 he HQ2 HB2 HS HR2 q0 q1 q2 q3 q4 q5;have hcb4:=below_new w3 (.cells (respL ⟨#[]⟩ ⟨#[]⟩ false 0).toArray 28);have HE4:=qH (HE3.out.below hcb4);have HQ4:=qH (HQ3.out.below hcb4 (by omega));have HB4:=qH (HB3.out.trans (hcb4.mono (by omega)));have hs4:=hcb4.size;clear hcb4 HE3 HQ3 HB3;have q0:=HQ4.out.cell 0;have q1:=HQ4.out.cell 1;have q2:=HQ4.out.cell 2;have q3:=HQ4.out.cell 3;have q4:=HQ4.out.cell 4;have q5:=HQ4.out.cell 5;have hq4:=HQ4.out.lt;unfold respL at *;have HSN:=qH (fun w4=>serve_bad (.pointer none) op ck us k vl life now w4 (fun w5 _=>serve_none op ck us k vl life now w5));unfold reqL at HSN;go_wp2_with fail;generalize w3.alloc _=w4 at *;refine (HSN.out w4).mono ?_;rintro e w5 ⟨⟨gf,rfl,hgf,hf⟩,hb5⟩;have HF5:=qH hf;have HE5:=qH (HE4.out.below hb5);have HQ5:=qH (HQ4.out.below hb5 (by omega));have HB5:=qH (HB4.out.trans (hb5.mono (by omega)));have hs5:=hb5.size;clear hb5 hf HE4 HQ4 HB4 HSN q0 q1 q2 q3 q4 q5;have hcb6:=below_new w5 (.cells (respL ⟨#[]⟩ ⟨#[]⟩ false 0).toArray 28);have HF6:=qH (HF5.out.below hcb6);have HE6:=qH (HE5.out.below hcb6);have HQ6:=qH (HQ5.out.below hcb6 (by omega));have HB6:=qH (HB5.out.trans (hcb6.mono (by omega)));have hs6:=hcb6.size;clear hcb6 HF5 HE5 HQ5 HB5;have q1:=HQ6.out.cell 1;have hq6:=HQ6.out.lt;unfold respL at *;go_wp2_with fail;generalize w5.alloc _=w6 at *;refine (who_bad (.pointer none) ck w6 (fun w7 _=>who_none ck w7)).mono ?_;rintro e w7 ⟨⟨v,rfl,hv⟩,hb7⟩;have HV7:=qH hv;obtain ⟨gv,_,rfl,_⟩:=hv;have HF7:=qH (HF6.out.below hb7);have HE7:=qH (HE6.out.below hb7);have HQ7:=qH (HQ6.out.below hb7 (by omega));have HB7:=qH (HB6.out.trans (hb7.mono (by omega)));have hs7:=hb7.size;clear hb7 HF6 HE6 HQ6 HB6 q1;have hcb8:=below_new w7 (.cells zeroC.toArray 37);have HV8:=qH (HV7.out.below hcb8);have HF8:=qH (HF7.out.below hcb8);have HE8:=qH (HE7.out.below hcb8);have HQ8:=qH (HQ7.out.below hcb8 (by omega));have HB8:=qH (HB7.out.trans (hcb8.mono (by omega)));have hs8:=hcb8.size;clear hcb8 HV7 HF7 HE7 HQ7 HB7;unfold zeroC at *;go_wp2_with fail;generalize w7.alloc _=w8 at *;refine (is_chain 5 HF8.out (by omega) (by omega)).mono ?_;rintro e w9 ⟨rfl,hw⟩;subst hw;rw [show ((5:Int)==5)=true from rfl];go_wp2_with fail;refine (is_chain 5 HV8.out (by omega) (by omega)).mono ?_;rintro e w9 ⟨rfl,hw⟩;subst hw;rw [show ((5:Int)==5)=true from rfl];rename World=>w9;have HE9:=qH HE8.out;have HB9:=qH HB8.out;have q0:=HQ8.out.cell 0;have hq8:=HQ8.out.lt;clear HE8 HB8 HV8 HF8
 have hcc:(now<0∧c=1)∨(¬ now<0∧(1099511627776:Int)<now∧c=1)∨(¬ now<0∧¬ (1099511627776:Int)<now∧op<1∧c=1)∨(¬ now<0∧¬ (1099511627776:Int)<now∧¬ op<1∧(8:Int)<op∧c=1)∨(¬ now<0∧¬ (1099511627776:Int)<now∧¬ op<1∧¬ (8:Int)<op∧c=12):=by
  have h:=HCC.out;unfold Bad at h;omega
 clear HCC
 rcases hcc with ⟨d1,rfl⟩|⟨d1,d2,rfl⟩|⟨d1,d2,d3,rfl⟩|⟨d1,d2,d3,d4,rfl⟩|⟨d1,d2,d3,d4,rfl⟩
 ·go_wp2_with fail
  refine (is_chain 1 HE9.out hk1 hk3).mono ?_;rintro e w9 ⟨rfl,hw⟩;subst hw;go_wp2_with fail;go_ret
  exact ⟨rfl,HB9.out⟩
 ·go_wp2_with fail
  refine (is_chain 1 HE9.out hk1 hk3).mono ?_;rintro e w9 ⟨rfl,hw⟩;subst hw;go_wp2_with fail;go_ret
  exact ⟨rfl,HB9.out⟩
 ·go_wp2_with fail
  refine (is_chain 1 HE9.out hk1 hk3).mono ?_;rintro e w9 ⟨rfl,hw⟩;subst hw;go_wp2_with fail;go_ret
  exact ⟨rfl,HB9.out⟩
 ·go_wp2_with fail
  refine (is_chain 1 HE9.out hk1 hk3).mono ?_;rintro e w9 ⟨rfl,hw⟩;subst hw;go_wp2_with fail;go_ret
  exact ⟨rfl,HB9.out⟩
 ·go_wp2_with fail
  refine (is_chain 12 HE9.out hk1 hk3).mono ?_;rintro e w9 ⟨rfl,hw⟩;subst hw;go_wp2_with fail;go_ret
  exact ⟨rfl,HB9.out⟩
end wGateLapsed
end Go.Proofs.YthlahcnglacekaaGreatDoor
