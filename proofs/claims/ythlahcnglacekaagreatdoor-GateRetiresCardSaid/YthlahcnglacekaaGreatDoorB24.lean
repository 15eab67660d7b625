/- Part of GateRetires. -/
import Derived.Test.YthlahcnglacekaaGreatDoorB20
import Derived.Test.YthlahcnglacekaaGreatDoorB21
set_option maxRecDepth 100000
set_option maxHeartbeats 16000000
namespace Go.Proofs.YthlahcnglacekaaGreatDoor
namespace mac
open Go Go.RowKit Go.Lib base rowe rowc wireb appb macp monoj
theorem u8s_byt (l:List UInt8):u8s (natB l)=byt l:=by simp [u8s,natB,byt]
theorem u8s_byt8 {l:List Nat} (h:∀ x ∈ l,x<256):u8s l=byt (byt8 l):=by rw [←u8s_byt,natB_byt h]
def rowLen:Value→Nat|.slice _ n _=>n|_=>0
theorem w8_len (v:W8):(u32s v.list).length=8:=by simp [u32s,W8.list]
theorem w8_one (v:W8):(u32s v.list).all (·.oneCell')=true:=by simp [u32s,W8.list,Value.oneCell']
theorem _root_.Go.Proofs.YthlahcnglacekaaGreatDoor.macp.W8.list_lt {v:W8} (h:v.Ok):∀ x ∈ v.list,x<4294967296:=by
 intro x hx;simp only [W8.list,List.mem_cons,List.not_mem_nil,or_false] at hx
 rcases hx with rfl|rfl|rfl|rfl|rfl|rfl|rfl|rfl
 ·exact h.a
 ·exact h.b
 ·exact h.c
 ·exact h.d
 ·exact h.e
 ·exact h.f
 ·exact h.g
 ·exact h.h
theorem digest_any (s:ByteArray) (w:World) (hs:s.size≤100000):Calls Tryz.prog 211 #[.string s] w fun e w'=>e=.returned (.string ⟨(dig s.data.toList).toArray⟩)∧Below w.heap.size w w':=by
 have hconv:=run_bytes_of_string (P:=Tryz.prog) w 9 86 5 s Tryz.underlying9 Tryz.underlying86 Tryz.underlying5;have hge:=grownCap_ge w s.size 0 5;have hcm:=grownCap_le_maxLen w s.size 0 5 (by unfold maxLen;omega);generalize grownCap w s.size 0 5=cap at *;obtain ⟨l,hl⟩:∃ l,s.data.toList=l:=⟨_,rfl⟩;have hll:l.length=s.size:=by rw [←hl];rfl
 have hb0:BRow (w.drew.alloc (.cells (bytesRow s cap) 5 ((bytesRow s cap).size,(bytesRow s cap).size+1))) w.heap.size (.slice (some ⟨w.heap.size,0,none⟩) s.size cap) l:=by rw [←hl];exact brow_new rfl hge hcm
 have hbw0:Below w.heap.size w (w.drew.alloc (.cells (bytesRow s cap) 5 ((bytesRow s cap).size,(bytesRow s cap).size+1))):=((Below.refl _ w).drew).alloc (by simp) _;have HB:=qH (hb0.below ((Below.refl _ _).alloc (Nat.le_refl _) (.cells [.int .u8 128].toArray 5)));have HBW:=qH (hbw0.alloc (by simp) (.cells [.int .u8 128].toArray 5));have hsz:(w.drew.alloc (.cells (bytesRow s cap) 5 ((bytesRow s cap).size,(bytesRow s cap).size+1))).heap.size=w.heap.size+1:=by simp
 clear hb0 hbw0;generalize w.drew.alloc (.cells (bytesRow s cap) 5 ((bytesRow s cap).size,(bytesRow s cap).size+1))=w1 at *;rw [hl];go_enter Tryz.func211,Tryz.ntmps211
 go_wp2_with (at_builtin;refine wpList_append_brow rfl (.tmp 9) (.tmp 10) 86 rfl (bs:=[128]) rfl HB.out rfl (src_built rfl rfl hsz.symm) (by simp;omega) (by simp;omega) ?_;intro v2 w2 hv2 hb2)
 have HV:=qH hv2;have HBW2:=qH (HBW.out.trans (hb2.mono (Nat.le_refl _)));clear hv2 hb2 HB HBW
 go_loopw [3] (fun bv wr=>∃ k:Nat,k≤zeros s.size∧BRow wr w.heap.size bv (padK l k)∧Below w.heap.size w wr) (fun bv _=>s.size+1+zeros s.size-rowLen bv)
 case atStart=>exact ⟨0,Nat.zero_le _,by simpa [padK] using HV.out,HBW2.out⟩
 case round =>
  clear HV HBW2;obtain ⟨k,hk,hv,hbw⟩:=hrel;obtain ⟨g,c,rfl,_⟩:=id hv;have hpl:=padK_len l k;have hz:=zeros_lt s.size;obtain ⟨m,hm⟩:∃ m,(padK l k).length=m:=⟨_,rfl⟩;rw [hm] at hv hpl ⊢;rw [hll] at hpl;have hend:=zeros_end hk;rw [←hpl] at hend;have HV:=qH hv;have HBW:=qH hbw;have hws:=hbw.size
  by_cases hkz:k=zeros s.size
  ·have hm56:(m:Int) % 64=56:=by have:=hend.2 hkz;omega
   have hm6:m≤200000:=by omega
   have hp:padK l k++byt8 (eight (s.size*8))=padB l:=by unfold padB;rw [hll,hkz]
   have HP:=qH hp;clear hv hbw hend hkz hpl hk hp;go_wp2_with fail;rw [show ((s.size:Nat):Int)*8=((s.size*8:Nat):Int) by omega];refine (eight_any (s.size*8) _ (by omega)).mono ?_;rintro e w3 ⟨rfl,hb8,hb3⟩;have HS:=qH (show Src Tryz.prog 1 86 (.slice (some ⟨wr.heap.size,0,none⟩) 8 8) (byt8 (eight (s.size*8))).length (byt (byt8 (eight (s.size*8)))) w3 from Lies.src (Lies.blk (t:=380) (by rw [←u8s_byt8 (eight_lt _)];exact hb8)) 86 Tryz.underlying86 8);have HV3:=qH (HV.out.below hb3);have HBW3:=qH (HBW.out.trans (hb3.mono hws));have hws3:=HBW3.out.size;clear hb8 hb3 HV HBW
   go_wp2_with (at_builtin;refine wpList_append_brow rfl (.tmp 19) (.tmp 24) 86 rfl rfl HV3.out rfl HS.out (by rw [byt8_len,hm];simp [eight];omega) hws3 ?_;intro v4 w4 hv4 hb4)
   rw [HP.out] at hv4;obtain ⟨g4,c4,rfl,hg4a,hg4b,hg4c,hg4d,_,hli⟩:=hv4;obtain ⟨nB,hnB⟩:∃ nB,(padB l).length=64*nB:=⟨(padB l).length / 64,by have:=pad_len (natB l);rw [←natB_pad,natB_len] at this;omega⟩;have HN:=qH hnB;have hnB2:nB≤3200:=by have:=padB_len l;rw [hll] at this;omega
   rw [hnB] at hg4c ⊢;have HL:=qH hli;have HBW4:=qH (HBW3.out.trans hb4);have hws4:=HBW4.out.size;clear hli hb4 HV3 HBW3 HS hws3 HP hnB hm hm56;go_wp2_with fail;refine (start_any _).mono ?_;rintro e w5 ⟨rfl,hb5⟩;have HL5:=qH ((HL.out.keeps (X:=nobody) (.of_below hb5) (fun h=>h)).keeps (X:=nobody) (.of_below (below_new w5 (.cells #[.int .u32 0,.int .u32 0,.int .u32 0,.int .u32 0,.int .u32 0,.int .u32 0,.int .u32 0,.int .u32 0] 352))) (fun h=>h));have HBW5:=qH ((HBW4.out.trans (hb5.mono hws4)).alloc (Nat.le_trans hws4 hb5.size) (.cells #[.int .u32 0,.int .u32 0,.int .u32 0,.int .u32 0,.int .u32 0,.int .u32 0,.int .u32 0,.int .u32 0] 352));have hs5:=hb5.size;obtain ⟨gh,hgh⟩:∃ gh,w5.heap.size=gh:=⟨_,rfl⟩;have hg45:g4<gh:=by omega
   obtain ⟨V0,hV0⟩:∃ V0,macp.start=V0:=⟨_,rfl⟩;have HV0:=qH (show hK l 0=V0 from hV0);rw [hV0];have HGN:=qH (show Blk (w5.alloc (.cells #[.int .u32 0,.int .u32 0,.int .u32 0,.int .u32 0,.int .u32 0,.int .u32 0,.int .u32 0,.int .u32 0] 352)) gh 352 #[.int .u32 0,.int .u32 0,.int .u32 0,.int .u32 0,.int .u32 0,.int .u32 0,.int .u32 0,.int .u32 0] from Blk.newAt _ _ _ hgh.symm);clear hb5 HL HBW4 hV0;rw [hgh] at hs5
   go_wp2_with (refine wpList_store_blk rfl 352 (.tmp 4) (.tmp 26) rfl gh _ (by rw [←hgh];rfl) rfl HGN.out (by kernel_rfl) (by simp [u32s,W8.list]) (by simp [u32s,W8.list,Value.oneCell']) ?_;intro w6 ho6 hk6 hs6)
   have HO6:=qH (show Blk w6 gh 352 (u32s (hK l 0).list).toArray from by rw [HV0.out];exact ho6);have HL6:=qH (HL5.out.keeps hk6 (by omega));have HBW6:=qH (HBW5.out.trans (hk6.below (fun i hi e=>by omega) HBW5.out.size));clear ho6 hk6 hs6 HGN HL5 HBW5 HV0;go_wp2_with fail;simp only [Act.put]
   go_loopw [3] (fun bv wr=>∃ (k:Nat) (A:Option Addr),k≤nB∧(k<nB→A=some ⟨g4,64*k,none⟩)∧bv=.slice A (64*nB-64*k) (c4-64*k)∧Blk wr gh 352 (u32s (hK l k).list).toArray∧Lies wr g4 0 (padB l)∧Below w.heap.size w wr) (fun bv _=>rowLen bv)
   case atStart=>exact ⟨0,some ⟨g4,0,none⟩,Nat.zero_le _,fun _=>rfl,rfl,HO6.out,HL6.out,HBW6.out⟩
   case round =>
    clear HO6 HL6 HBW6;obtain ⟨k,A,hk,hA,rfl,ho,hli,hbw⟩:=hrel;have HNX:=qH (hK_next l k);have HOK:=qH (hK_ok l k);have hol:=ho.lt
    by_cases hkn:k=nB
    ·have HBW:=qH hbw
     have hws:=hbw.size;subst hkn;rw [show 64*k-64*k=0 by omega];have HOU:=qH (show ∀ j,outK l j=((hK l k).list.take j).flatMap fun x=>byt8 (four x) from fun j=>by unfold outK;rw [HN.out,Nat.mul_div_cancel_left k (by omega)]);have HTX:=qH (W8.list_lt HOK.out);have hT8:(hK l k).list.length=8:=rfl;generalize (hK l k).list=TT at *;have hix:=fun (i:Nat) (w1:World) (hi:i<8)=>idx_words 352 8 i TT w1 Tryz.underlying352 hi hT8;have HC:=qH (show ∀ j v,(u32s TT)[j]?=some v→wr.cell? ⟨gh,0+j,none⟩=some v from fun j v hv=>by rw [Nat.zero_add,ho.cell j];simpa using hv);have hTl:(u32s TT).length=8:=by rw [u32s_len,hT8]
     clear ho hli hbw
     go_wp2_with (refine wpList_load_at rfl 352 (.tmp 4) rfl gh 0 (u32s TT) rfl Tryz.underlying352 rfl (by rw [hTl];kernel_rfl) HC.out ?_)
     go_loopw [5,37] (fun ov iv wr'=>∃ i:Nat,i≤8∧iv=.int .i64 i∧OwnB wr' w.heap.size ov (outK l i)∧Below w.heap.size w wr') (fun _ iv _=>8-(intOf iv).toNat)
     case atStart=>exact ⟨0,by omega,rfl,by rw [HOU.out];exact OwnB.none _ _,HBW.out⟩
     case round =>
      clear HBW hws HC;obtain ⟨i,hi,rfl,hv,hbw⟩:=hrel;have hws:=hbw.size
      by_cases h8:i=8
      ·subst h8
       rw [outK_8] at hv;have hcv:=own_conv hv;have HBW:=qH hbw;clear hv hbw;go_wp2_with fail;go_ret
       exact ⟨rfl,HBW.out⟩
      ·have hi8:(i:Int)<8:=by omega
       have hixi:=fun w1=>hix i w1 (by omega);have hxl:TT.getD i 0<4294967296:=getD_lt HTX.out (by omega) i;have HNX:=qH (show outK l i++byt8 (four (TT.getD i 0))=outK l (i+1) from by rw [HOU.out,HOU.out,take_next TT (by omega),List.flatMap_append];simp);have hol:=outK_len l i;have HV:=qH hv;have HBW:=qH hbw;generalize TT.getD i 0=x at *;clear hv hbw hix;go_wp2_with fail;refine (eight_any x _ (by omega)).mono ?_;rintro e w3 ⟨rfl,hb8,hb3⟩;have h4:Lies w3 wr.heap.size (0+4) (((byt8 (eight x)).drop 4).take 4):=(Lies.blk (t:=380) (by rw [←u8s_byt8 (eight_lt _)];exact hb8)).cut 4 4;have HS:=qH (show Reads w3 w3.heap.size 1 (some ⟨wr.heap.size,4,none⟩) 4 (byt (byt8 (four x))) from h4.reads);have HV3:=qH (HV.out.below hb3);have HB3:=qH (HBW.out.trans (hb3.mono hws));have hws3:=HB3.out.size;clear h4 hb8 hb3 HV HBW
       go_wp2_with (at_builtin;refine wpList_plain rfl fun _ hK=>wp_append_row (.tmp 40) (.tmp 44) rfl rfl rfl HV3.out HS.out (by show _+4≤1000000;omega) hws3 fun v4 w4 hv4 hb4=>hK _ _ ?_;have HV4:=qH hv4;have HB4:=qH (HB3.out.trans hb4);clear hv4 hb4)
       go_roundw
       case rel=>exact ⟨i+1,by omega,by go_num,by rw [←HNX.out];exact HV4.out,HB4.out⟩
       case measure=>simp [intOf];omega
    ·obtain rfl:=hA (by omega)
     obtain ⟨q,hq⟩:∃ q,64*k=q:=⟨_,rfl⟩;obtain ⟨m2,hm2⟩:∃ m2,64*nB-q=m2:=⟨_,rfl⟩;obtain ⟨c2,hc2⟩:∃ c2,c4-q=c2:=⟨_,rfl⟩;rw [hq,hm2,hc2];have h64:64≤m2:=by omega
     have hmc:m2≤c2:=by omega
     have hcm2:c2≤maxLen:=by omega
     have hmp:(0:Int)<(m2:Int):=by omega
     have hcz:(64:Int)≤(c2:Int):=by omega
     have hmz:(64:Int)≤(m2:Int):=by omega
     have hc0:¬ c2=0:=by omega
     have HRD:=qH (show ∀ w',Keeps nobody wr w'→Reads w' w'.heap.size 1 (some ⟨g4,q,none⟩) 64 (u8s (natB (((padB l).drop (64*k)).take 64))) from fun w' hk'=>by
      have h1:=(hli.keeps hk' (fun h=>h)).cut (64*k) 64;have h2:=h1.reads;rw [Nat.zero_add,hq,List.length_take,List.length_drop,HN.out,show min 64 (64*nB-q)=64 by omega] at h2;rw [u8s_byt,hq];exact h2)
     have HLB:=qH (show (natB (((padB l).drop (64*k)).take 64)).length=64 from by rw [natB_len,List.length_take,List.length_drop,HN.out];omega);have HLI:=qH hli;have HO:=qH ho;have HBW:=qH hbw;clear hli hbw;obtain ⟨B,hB⟩:∃ B,natB (((padB l).drop (64*k)).take 64)=B:=⟨_,rfl⟩;have HBL:=qH (show ∀ x ∈ B,x<256 from by rw [←hB];exact natB_lt _);rw [hB] at HNX HRD HLB;obtain ⟨V,hV⟩:∃ V,hK l k=V:=⟨_,rfl⟩;rw [hV] at ho HO HNX HOK;obtain ⟨va,vb,vc,vd,ve,vf,vg,vh⟩:=V;obtain ⟨y0,y1,y2,y3,y4,y5,y6,y7⟩:=cells8 ho;clear ho hB hV;go_wp2_with fail;refine wp_region_monoJ (fun i=>i=gh) [4] (by kernel_rfl) ?_;refine wpMonoJ_read' 0 [3,4] (v:=?_) rfl (by kernel_rfl) (by kernel_rfl) (by kernel_rfl) (by rfl) (by kernel_rfl) (by rfl) (fun _ _ _ h=>h) (by rfl) ?_ ?_;rotate_left
     ·(intro W hSw;(first|(have hcW:=hSw.cells;try simp only [qSd] at hcW)|skip);go_simp <;> rfl)
     try simp only [qPA]
     iterate 2
      first|refine qJ 1 (v:=?_) ?_ ?_|refine qJ 2 (v:=?_) ?_ ?_
      rotate_left
      ·(intro W hSw;(first|(have hcW:=hSw.cells;try simp only [qSd] at hcW)|skip);go_simp <;> rfl)
      try simp only [qPA]
     refine wpMonoJ_one' 3 (by kernel_rfl) rfl (by rfl) (fun K hK=>?_)
     go_simp
     refine (fold_any ⟨va,vb,vc,vd,ve,vf,vg,vh⟩ B g4 q c2 _ HOK.out HBL.out HLB.out (by omega) hcm2 (HRD.out _ Keeps.drew)).mono ?_;rintro e w7 ⟨rfl,hb7⟩;have HB7:=qH hb7;clear hb7;generalize fold ⟨va,vb,vc,vd,ve,vf,vg,vh⟩ B=F at *;refine hK.out _ _ ?_ ?_
     ·exact .of_below HB7.out
     clear hK K
     try simp only [qPA]
     refine wpMonoJ_one' 4 (by kernel_rfl) rfl (by rfl) (fun K hK=>?_);refine wp_store_at 352 (.tmp 4) (.tmp 35) rfl gh 0 (u32s F.list) rfl rfl ((HO.out.drew).below HB7.out hol) (by rw [w8_len];kernel_rfl) (by rw [w8_len];simp [u32s,W8.list]) (w8_one F) (fun w8 hq1 hq2 hq3=>?_);refine hK.out _ _ ?_ ?_
     ·exact moved hq2 (by decide)
     clear hK K
     try simp only [Act.put]
     refine wpMonoJ_done (by kernel_rfl) ?_ _
     have HO8:=qH (show Blk w8 gh 352 (u32s (hK l (k+1)).list).toArray from by
      rw [HNX.out];have h9:=hq1;rw [putAt_all (by simp [u32s,W8.list])] at h9;exact h9)
     have hk8:Keeps (fun x=>x=gh) wr w8:=(Keeps.drew.trans (.of_below HB7.out)).trans hq2;have HL8:=qH (HLI.out.keeps hk8 (by omega));have HBW8:=qH (HBW.out.trans (hk8.below (fun i hi e=>by omega) HBW.out.size));clear hq1 hq2 hq3 hk8 y0 y1 y2 y3 y4 y5 y6 y7;go_wp2_with fail;go_roundw
     case rel =>
      refine ⟨k+1,_,by omega,fun h=>?_,by rw [show m2-64=64*nB-64*(k+1) by omega,show c2-64=c4-64*(k+1) by omega],HO8.out,HL8.out,HBW8.out⟩;rw [if_neg (by omega),show q+64=64*(k+1) by omega]
     case measure=>show m2-64<m2;omega
  ·have hm56:¬ (m:Int) % 64=56:=fun h=>hkz (hend.1 (by omega))
   clear hv hbw hend
   go_wp2_with (at_builtin;refine wpList_append_brow rfl (.tmp 16) (.tmp 17) 86 rfl (bs:=[0]) rfl (HV.out.below ((Below.refl _ _).alloc (Nat.le_refl _) _)) rfl (src_built rfl rfl rfl) (by simp;omega) (by simp;omega) ?_;intro v3 w3 hv3 hb3)
   obtain ⟨g3,c3,rfl,_⟩:=id hv3;have HV3:=qH hv3;have HBW3:=qH (HBW.out.trans (((Below.refl _ _).alloc hws _).trans hb3));clear hv3 hb3;go_wp2_with fail;go_roundw
   case rel=>exact ⟨k+1,by omega,by rw [←padK_next];exact HV3.out,HBW3.out⟩
   case measure=>simp [rowLen,hm];omega
end mac
end Go.Proofs.YthlahcnglacekaaGreatDoor
