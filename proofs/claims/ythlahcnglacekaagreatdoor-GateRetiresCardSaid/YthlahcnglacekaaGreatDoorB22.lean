/- Part of GateRetires. -/
import Derived.Test.YthlahcnglacekaaGreatDoorB07
import Derived.Test.YthlahcnglacekaaGreatDoorB21
import Derived.BigQuiet
set_option maxRecDepth 100000
set_option maxHeartbeats 16000000
namespace Go.Proofs.YthlahcnglacekaaGreatDoor
namespace quota
open Go Go.RowKit base dec err
open Go.Lib (decDigits)
end quota
namespace textw
open Go Go.RowKit Go.Lib base rowe rowc wireb appb encp monoj
theorem word_info:(Tryz.prog.info? 272).map (fun i=>(i.zero,i.size,i.bytes))=some (some (.int .u32 0),1,4):=by kernel_rfl
def w32 (l:List Nat):List Value:=l.map fun n=>.int .u32 (n:Nat)
theorem letters_ix:∀ n:Fin 64,Lib.indexByte letters (lett n.val)=(n.val:Int):=by decide +kernel
theorem or4_int {n0 n1 n2 n3:Nat} (h0:n0<64) (h1:n1<64) (h2:n2<64) (h3:n3<64) :
  bits .or .u32 (bits .or .u32 (bits .or .u32 ((n0:Int)*262144) ((n1:Int)*4096)) ((n2:Int)*64)) (n3:Int)=((n0*262144+n1*4096+n2*64+n3:Nat):Int):=by
 have e1:=u32_or_nat (n0*262144) (n1*4096) (by omega) (by omega)
 have l1:n0*262144 ||| n1*4096=n0*262144+n1*4096:=by
  rw [show n0*262144=2 ^ 18*n0 by omega,←Nat.two_pow_add_eq_or_of_lt (show n1*4096<2 ^ 18 by omega)]
 have e2:=u32_or_nat (n0*262144 ||| n1*4096) (n2*64) (by omega) (by omega)
 have l2:(n0*262144 ||| n1*4096) ||| n2*64=n0*262144+n1*4096+n2*64:=by
  rw [l1,show n0*262144+n1*4096=2 ^ 12*(n0*64+n1) by omega,←Nat.two_pow_add_eq_or_of_lt (show n2*64<2 ^ 12 by omega)]
 have e3:=u32_or_nat ((n0*262144 ||| n1*4096) ||| n2*64) n3 (by omega) (by omega);rw [or4 h1 h2 h3] at e3;rw [show (n0:Int)*262144=((n0*262144:Nat):Int) by omega,show (n1:Int)*4096=((n1*4096:Nat):Int) by omega,show (n2:Int)*64=((n2*64:Nat):Int) by omega,e1,e2,e3]
theorem three_eq {a b c:Int} {x y z:UInt8} (h1:a=(x.toNat:Int)) (h2:b=(y.toNat:Int)) (h3:c=(z.toNat:Int)):[Value.int .u8 a,.int .u8 b,.int .u8 c]=byt [x,y,z]:=by
 subst h1 h2 h3;rfl
theorem two_reads {w:World} {A B:Int} {x y:UInt8} (h1:A=(x.toNat:Int)) (h2:B=(y.toNat:Int)):Reads (w.alloc (.cells #[.int .u8 A,.int .u8 B] 5)).drew (w.alloc (.cells #[.int .u8 A,.int .u8 B] 5)).drew.heap.size 1 (some ⟨w.heap.size,0,none⟩) 2 (byt [x,y]):=by
 subst h1 h2;exact Reads.newAtD w #[.int .u8 (x.toNat:Nat),.int .u8 (y.toNat:Nat)] 5 (0,0) rfl rfl
theorem one_reads {w:World} {A:Int} {x:UInt8} (h1:A=(x.toNat:Int)):Reads (w.alloc (.cells #[.int .u8 A] 5)).drew (w.alloc (.cells #[.int .u8 A] 5)).drew.heap.size 1 (some ⟨w.heap.size,0,none⟩) 1 (byt [x]):=by
 subst h1;exact Reads.newAtD w #[.int .u8 (x.toNat:Nat)] 5 (0,0) rfl rfl
theorem or_first {n0 n1:Nat} (h0:n0<64) (h1:n1<64):bits .or .u32 ((n0:Int)*4) ((n1:Int) / 16)=((n0*4+n1 / 16:Nat):Int):=by
 have e:=u32_or_nat (n0*4) (n1 / 16) (by omega) (by omega);rw [or2 (show n1 / 16<4 by omega)] at e;rw [show (n0:Int)*4=((n0*4:Nat):Int) by omega,show (n1:Int) / 16=((n1 / 16:Nat):Int) by omega,e]
theorem or_second {n1 n2:Nat} (h1:n1<64) (h2:n2<64):bits .or .u32 ((n1:Int)*16) ((n2:Int) / 4)=((n1*16+n2 / 4:Nat):Int):=by
 have e:=u32_or_nat (n1*16) (n2 / 4) (by omega) (by omega);rw [or16 (show n2 / 4<16 by omega)] at e;rw [show (n1:Int)*16=((n1*16:Nat):Int) by omega,show (n2:Int) / 4=((n2 / 4:Nat):Int) by omega,e]
theorem and_three {n2:Nat} (h2:n2<64):bits .and .u32 (n2:Int) 3=((n2 % 4:Nat):Int):=by
 have e:=u32_and_nat n2 3 (by omega) (by omega);rw [Nat.and_two_pow_sub_one_eq_mod n2 2] at e;exact e
theorem and_fifteen {n1:Nat} (h1:n1<64):bits .and .u32 (n1:Int) 15=((n1 % 16:Nat):Int):=by
 have e:=u32_and_nat n1 15 (by omega) (by omega);rw [Nat.and_two_pow_sub_one_eq_mod n1 4] at e;exact e
theorem dec_any (l:List UInt8) (w:World) (hl:l.length≤10000):Calls Tryz.prog 174 #[.string ⟨(enc l).toArray⟩] w fun e w'=>e=.returned (.tuple #[.string ⟨l.toArray⟩,.nilIface])∧Below w.heap.size w w':=by
 obtain ⟨i0,hi,hz⟩:=Option.map_eq_some_iff.1 word_info;simp only [Prod.mk.injEq] at hz;obtain ⟨hz0,hz1,hz2⟩:=hz;obtain ⟨S,hS⟩:∃ S:ByteArray,(⟨(enc l).toArray⟩:ByteArray)=S:=⟨_,rfl⟩;have hSl:S.data.toList=enc l:=by rw [←hS]
 have hsz:S.size=(sext l).length:=by
  have h1:S.data.toList.length=S.size:=rfl;rw [←h1,hSl,enc,List.length_map]
 have hx:=sext_lt l;have hlb:(sext l).length≤14000:=by rw [sext_len];omega
 rw [hS];go_enter Tryz.func174,Tryz.ntmps174;go_wp2_with fail
 go_loopw [4,5] (fun nv iv wr=>∃ i:Nat,i≤(sext l).length∧iv=.int .i64 i∧wr.ownsRow w.heap.size 272 1 nv i (w32 ((sext l).take i))∧Below w.heap.size w wr) (fun _ iv _=>(sext l).length-(RowKit.intOf iv).toNat)
 case atStart=>exact ⟨0,Nat.zero_le _,rfl,⟨rfl,.inl ⟨rfl,rfl⟩⟩,Below.refl _ _⟩
 case round =>
  obtain ⟨i,hi_,rfl,hv,hbw⟩:=hrel;rename World=>w1
  by_cases hin:i=(sext l).length
  ·subst hin
   rw [List.take_length] at hv;rw [←hsz] at hv;have HV:=qH hv;have HBW:=qH hbw;obtain ⟨A,c,rfl⟩:=ownsRow_slice hv;have hnn:¬ (((sext l).length:Nat):Int)<(S.size:Int):=by omega
   clear hv hbw;have HR:=qH (show Reads w1 w1.heap.size 1 A (sext l).length (w32 (sext l)) from by rw [←hsz];exact Reads.of_own HV.out)
   have hAc:(sext l).length≤c:=by
    rcases HV.out.2 with ⟨h0,h1⟩|⟨g,cap,cur,h0,_,_,h3,_⟩
    ·rw [←hsz];omega
    ·have:=(Value.slice.inj h0).2.2
     omega
   have hcm:c≤maxLen:=by
    rcases HV.out.2 with ⟨h0,h1⟩|⟨g,cap,cur,h0,_,_,_,h3,_⟩
    ·have:=(Value.slice.inj h0).2.2
     unfold maxLen;omega
    ·have:=(Value.slice.inj h0).2.2
     omega
   rw [hsz];clear HV;go_wp2_with fail
   go_loopw [4,7] (fun nv ov w2=>∃ (r o:List UInt8) (A:Option Addr) (c:Nat),nv=.slice A (sext r).length c∧(sext r).length≤c∧c≤maxLen∧Reads w2 w1.heap.size 1 A (sext r).length (w32 (sext r))∧o++r=l∧OwnB w2 w1.heap.size ov o∧Below w1.heap.size w1 w2) (fun nv _ _=>match nv with|.slice _ n _=>n|_=>0)
   case atStart=>exact ⟨l,[],A,c,rfl,hAc,hcm,HR.out,rfl,OwnB.none _ _,Below.refl _ _⟩
   case round =>
    clear HR hAc hcm;obtain ⟨r,o,A1,c1,rfl,hAc,hcm,hr,ho,hv,hbw⟩:=hrel;have hol:o.length≤10000:=by have:=congrArg List.length ho;rw [List.length_append] at this;omega
    have hws:=hbw.size
    match r with
    | x :: y :: z :: r =>
     have hx1:=x.toNat_lt;have hy1:=y.toNat_lt;have hz1':=z.toNat_lt;obtain ⟨n0,hn0⟩:∃ n,x.toNat / 4=n:=⟨_,rfl⟩;obtain ⟨n1,hn1⟩:∃ n,x.toNat % 4*16+y.toNat / 16=n:=⟨_,rfl⟩;obtain ⟨n2,hn2⟩:∃ n,y.toNat % 16*4+z.toNat / 64=n:=⟨_,rfl⟩;obtain ⟨n3,hn3⟩:∃ n,z.toNat % 64=n:=⟨_,rfl⟩;rw [sext3,hn0,hn1,hn2,hn3] at hr hAc ⊢;obtain ⟨g,off,rfl,hgb,hc⟩:=hr.2 (by simp);have c0:wr.cell? ⟨g,off,none⟩=some (.int .u32 (n0:Nat)):=hc 0 (by simp [w32]);have c1':wr.cell? ⟨g,off+1,none⟩=some (.int .u32 (n1:Nat)):=hc 1 (by simp [w32]);have c2:wr.cell? ⟨g,off+2,none⟩=some (.int .u32 (n2:Nat)):=hc 2 (by simp [w32]);have c3:wr.cell? ⟨g,off+3,none⟩=some (.int .u32 (n3:Nat)):=hc 3 (by simp [w32]);simp only [List.length_cons] at hAc ⊢;obtain ⟨m,hm⟩:∃ m,(sext r).length=m:=⟨_,rfl⟩;rw [hm] at hAc ⊢;have HC:=qH hc;have HV:=qH hv;have HBW2:=qH hbw;have hb0:n0<64:=by omega
     have hb1:n1<64:=by omega
     have hb2:n2<64:=by omega
     have hb3:n3<64:=by omega
     have hX:n0*262144+n1*4096+n2*64+n3=x.toNat*65536+y.toNat*256+z.toNat:=by omega
     have HOR:=qH (or4_int (n0:=n0) hb0 hb1 hb2 hb3);rw [hX] at HOR;have HO:=qH ho;clear hr hv hbw hc hn0 hn1 hn2 hn3 ho;go_wp2_with fail
     go_quiet (fail)
     rw [HOR.out];obtain ⟨X,hXX⟩:∃ X,x.toNat*65536+y.toNat*256+z.toNat=X:=⟨_,rfl⟩;rw [hXX];have hXl:X<16777216:=by omega
     clear hX HOR;have HV2:=qH (show OwnB (wr.drewN nq) w1.heap.size u7 o from HV.out);have HEQ:=qH (show [Value.int .u8 ((X:Int) / 65536),.int .u8 ((X:Int) / 256 % 256),.int .u8 ((X:Int) % 256)]=byt [x,y,z] from three_eq (by omega) (by omega) (by omega))
     go_wp2_with (at_builtin;refine wpList_push_b (w:=wr.drewN nq) rfl (.tmp 52) (.tmp 61) rfl (l:=o) (bs:=[x,y,z]) rfl HV2.out 3 3 wr.heap.size rfl [.int .u8 ((X:Int) / 65536),.int .u8 ((X:Int) / 256 % 256),.int .u8 ((X:Int) % 256)] rfl HEQ.out rfl (by omega) hws ?_;intro v5 w5 hv5 hb5)
     have HV5:=qH hv5;have HB5:=qH (HBW2.out.trans ((below_drewN (Below.refl _ _) _).trans hb5));have HO5:=qH (show (o++[x,y,z])++r=l from by rw [List.append_assoc];exact HO.out);clear hv5 hb5;have hc4:(4:Int)≤(c1:Int):=by omega
     have hm4:(4:Int)≤((m+1+1+1+1:Nat):Int):=by omega
     go_wp2_with fail;go_roundw
     case rel =>
      refine ⟨r,o++[x,y,z],_,c1-4,by rw [hm],by omega,by omega,⟨by simp [w32],fun hp=>?_⟩,HO5.out,HV5.out,HB5.out⟩;refine ⟨g,off+4,if_neg (by omega),hgb,fun j hj=>?_⟩;have h1:=HC.out (j+4) (by simp only [w32,List.map_cons,List.length_cons] at hj ⊢;omega);rw [HB5.out.cell (p:=⟨g,off+4+j,none⟩) hgb,←HBW2.out.cell (p:=⟨g,off+4+j,none⟩) hgb,show off+4+j=off+(j+4) by omega,h1];simp [w32]
     case measure=>show m<m+1+1+1+1;omega
    | [x,y] =>
     have hx1:=x.toNat_lt;have hy1:=y.toNat_lt;obtain ⟨n0,hn0⟩:∃ n,x.toNat / 4=n:=⟨_,rfl⟩;obtain ⟨n1,hn1⟩:∃ n,x.toNat % 4*16+y.toNat / 16=n:=⟨_,rfl⟩;obtain ⟨n2,hn2⟩:∃ n,y.toNat % 16*4=n:=⟨_,rfl⟩;rw [show sext [x,y]=[n0,n1,n2] from by rw [←hn0,←hn1,←hn2];rfl] at hr hAc ⊢;obtain ⟨g,off,rfl,hgb,hc⟩:=hr.2 (by simp);have c0:wr.cell? ⟨g,off,none⟩=some (.int .u32 (n0:Nat)):=hc 0 (by simp [w32]);have c1':wr.cell? ⟨g,off+1,none⟩=some (.int .u32 (n1:Nat)):=hc 1 (by simp [w32]);have c2:wr.cell? ⟨g,off+2,none⟩=some (.int .u32 (n2:Nat)):=hc 2 (by simp [w32]);simp only [List.length_cons,List.length_nil] at hAc ⊢;have HV:=qH hv;have HBW2:=qH hbw;have HO:=qH ho;have hb0:n0<64:=by omega
     have hb1:n1<64:=by omega
     have hb2:n2<64:=by omega
     have o1:=or_first (n0:=n0) (n1:=n1) hb0 hb1;have o2:=or_second (n1:=n1) (n2:=n2) hb1 hb2;have o3:=and_three (n2:=n2) hb2;rw [show n0*4+n1 / 16=x.toNat by omega] at o1;rw [show n1*16+n2 / 4=n1 / 16*256+y.toNat by omega] at o2;rw [show n2 % 4=0 by omega] at o3;obtain ⟨q,hq⟩:∃ q,n1 / 16=q:=⟨_,rfl⟩;have hql:q<4:=by omega
     have hgw:g<wr.heap.size:=by omega
     rw [hq] at o2
     have HRD:=qH (two_reads (w:=wr) (A:=IntKind.u8.wrap (bits .or .u32 (IntKind.u32.wrap ((n0:Int)*4)) ((n1:Int) / 16))) (B:=IntKind.u8.wrap (bits .or .u32 (IntKind.u32.wrap ((n1:Int)*16)) ((n2:Int) / 4))) (x:=x) (y:=y)
      (by rw [show IntKind.u32.wrap ((n0:Int)*4)=(n0:Int)*4 by simp only [IntKind.wrap_u32'];omega,o1];simp only [IntKind.wrap_u8'];omega)
      (by rw [show IntKind.u32.wrap ((n1:Int)*16)=(n1:Int)*16 by simp only [IntKind.wrap_u32'];omega,o2];simp only [IntKind.wrap_u8'];omega))
     clear hr hv hbw hc ho hn0 hn1 hn2;go_wp2_with fail;refine wp_region_monoJ (fun i=>w1.heap.size≤i) [22] (by kernel_rfl) ?_
     iterate 3
      first|refine qJ 0 (v:=?_) ?_ ?_|refine qJ 1 (v:=?_) ?_ ?_|refine qJ 2 (v:=?_) ?_ ?_
      rotate_left
      ·(intro W hSw;(first|(have hcW:=hSw.cells;try simp only [qSd] at hcW)|skip);go_simp <;> rfl)
      try simp only [qPA]
     refine wpMonoJ_read' 3 [4,9,10,21,22,23] (v:=?_) rfl (by kernel_rfl) (by kernel_rfl) (by kernel_rfl) (by rfl) (by kernel_rfl) (by rfl) (fun _ _ _ h=>h) (by rfl) ?_ ?_;rotate_left
     ·(intro W hSw;(first|(have hcW:=hSw.cells;try simp only [qSd] at hcW)|skip);go_simp <;> rfl)
     try simp only [qPA]
     iterate 3
      first|refine qJ 4 (v:=?_) ?_ ?_|refine qJ 5 (v:=?_) ?_ ?_|refine qJ 6 (v:=?_) ?_ ?_
      rotate_left
      ·(intro W hSw;(first|(have hcW:=hSw.cells;try simp only [qSd] at hcW)|skip);go_simp <;> rfl)
      try simp only [qPA]
     refine wpMonoJ_read' 7 [8,9,10,21,22,23] (v:=?_) rfl (by kernel_rfl) (by kernel_rfl) (by kernel_rfl) (by rfl) (by kernel_rfl) (by rfl) (fun _ _ _ h=>h) (by rfl) ?_ ?_;rotate_left
     ·(intro W hSw;(first|(have hcW:=hSw.cells;try simp only [qSd] at hcW)|skip);go_simp <;> rfl)
     try simp only [qPA]
     iterate 5
      first|refine qJ 8 (v:=?_) ?_ ?_|refine qJ 9 (v:=?_) ?_ ?_|refine qJ 10 (v:=?_) ?_ ?_|refine qJ 11 (v:=?_) ?_ ?_|refine qJ 12 (v:=?_) ?_ ?_
      rotate_left
      ·(intro W hSw;(first|(have hcW:=hSw.cells;try simp only [qSd] at hcW)|skip);go_simp <;> rfl)
      try simp only [qPA]
     refine wpMonoJ_read' 13 [14,19,20,21,22,23] (v:=?_) rfl (by kernel_rfl) (by kernel_rfl) (by kernel_rfl) (by rfl) (by kernel_rfl) (by rfl) (fun _ _ _ h=>h) (by rfl) ?_ ?_;rotate_left
     ·(intro W hSw;(first|(have hcW:=hSw.cells;try simp only [qSd] at hcW)|skip);go_simp <;> rfl)
     try simp only [qPA]
     iterate 3
      first|refine qJ 14 (v:=?_) ?_ ?_|refine qJ 15 (v:=?_) ?_ ?_|refine qJ 16 (v:=?_) ?_ ?_
      rotate_left
      ·(intro W hSw;(first|(have hcW:=hSw.cells;try simp only [qSd] at hcW)|skip);go_simp <;> rfl)
      try simp only [qPA]
     refine wpMonoJ_read' 17 [18,19,20,21,22,23] (v:=?_) rfl (by kernel_rfl) (by kernel_rfl) (by kernel_rfl) (by rfl) (by kernel_rfl) (by rfl) (fun _ _ _ h=>h) (by rfl) ?_ ?_;rotate_left
     ·(intro W hSw;(first|(have hcW:=hSw.cells;try simp only [qSd] at hcW)|skip);go_simp <;> rfl)
     try simp only [qPA]
     iterate 3
      first|refine qJ 18 (v:=?_) ?_ ?_|refine qJ 19 (v:=?_) ?_ ?_|refine qJ 20 (v:=?_) ?_ ?_
      rotate_left
      ·(intro W hSw;(first|(have hcW:=hSw.cells;try simp only [qSd] at hcW)|skip);go_simp <;> rfl)
      try simp only [qPA]
     refine wpMonoJ_one' 21 (by kernel_rfl) rfl (by rfl) (fun K hK=>?_)
     go_simp
     refine hK.out _ _ ?_ ?_
     ·exact Keeps.alloc _
     clear hK K
     try simp only [qPA]
     refine wpMonoJ_one' 22 (by kernel_rfl) rfl (by rfl) (fun K hK=>?_);refine wp_append_row (w:=(wr.alloc (.cells #[(.int .u8 (IntKind.u8.wrap (bits .or .u32 (IntKind.u32.wrap ((n0:Int)*4)) ((n1:Int) / 16)))),(.int .u8 (IntKind.u8.wrap (bits .or .u32 (IntKind.u32.wrap ((n1:Int)*16)) ((n2:Int) / 4))))] 5)).drew) (l1:=o) (l2:=[x,y]) (.tmp 91) (.tmp 112) rfl (A:=some ⟨wr.heap.size,0,none⟩) (c:=2) rfl rfl (HV.out.below (below_new wr _).drew) HRD.out (by show _+2≤1000000;omega) (by show _≤(wr.alloc _).heap.size;simp;omega) (fun v5 w5 hv5 hb5=>?_);refine hK.out _ _ ?_ ?_
     ·exact moved (Keeps.lo hb5 (fun i hi=>hi)) (by decide)
     clear hK K
     try simp only [qPA]
     refine qJ 23 (v:=?_) ?_ ?_;rotate_left
     ·(intro W hSw;(first|(have hcW:=hSw.cells;try simp only [qSd] at hcW)|skip);go_simp <;> rfl)
     try simp only [qPA]
     refine wpMonoJ_done (by kernel_rfl) ?_ _;have HBB5:=qH (HBW2.out.trans (((below_new wr (.cells #[(.int .u8 (IntKind.u8.wrap (bits .or .u32 (IntKind.u32.wrap ((n0:Int)*4)) ((n1:Int) / 16)))),(.int .u8 (IntKind.u8.wrap (bits .or .u32 (IntKind.u32.wrap ((n1:Int)*16)) ((n2:Int) / 4))))] 5)).drew.mono hws).trans hb5))
     have c25:w5.cell? ⟨g,off+2,none⟩=some (.int .u32 (n2:Nat)):=by
      rw [HBB5.out.cell (p:=⟨g,off+2,none⟩) hgb,←HBW2.out.cell (p:=⟨g,off+2,none⟩) hgb];exact c2
     have hcv:=own_conv hv5;rw [HO.out] at hcv;have hlt5:g<w5.heap.size:=by have:=HBB5.out.size;omega
     clear hv5 hb5 c0 c1' c2 o1 o2 HV HRD;go_wp2_with fail;go_ret2
     exact ⟨rfl,HBW.out.trans (HBB5.out.mono HBW.out.size)⟩
    | [x] =>
     have hx1:=x.toNat_lt;obtain ⟨n0,hn0⟩:∃ n,x.toNat / 4=n:=⟨_,rfl⟩;obtain ⟨n1,hn1⟩:∃ n,x.toNat % 4*16=n:=⟨_,rfl⟩;rw [show sext [x]=[n0,n1] from by rw [←hn0,←hn1];rfl] at hr hAc ⊢;obtain ⟨g,off,rfl,hgb,hc⟩:=hr.2 (by simp);have c0:wr.cell? ⟨g,off,none⟩=some (.int .u32 (n0:Nat)):=hc 0 (by simp [w32]);have c1':wr.cell? ⟨g,off+1,none⟩=some (.int .u32 (n1:Nat)):=hc 1 (by simp [w32]);simp only [List.length_cons,List.length_nil] at hAc ⊢;have HV:=qH hv;have HBW2:=qH hbw;have HO:=qH ho;have hb0:n0<64:=by omega
     have hb1:n1<64:=by omega
     have o1:=or_first (n0:=n0) (n1:=n1) hb0 hb1;have o3:=and_fifteen (n1:=n1) hb1;rw [show n0*4+n1 / 16=x.toNat by omega] at o1;rw [show n1 % 16=0 by omega] at o3;have hgw:g<wr.heap.size:=by omega
     have HRD:=qH (one_reads (w:=wr) (A:=IntKind.u8.wrap (bits .or .u32 (IntKind.u32.wrap ((n0:Int)*4)) ((n1:Int) / 16))) (x:=x)
      (by rw [show IntKind.u32.wrap ((n0:Int)*4)=(n0:Int)*4 by simp only [IntKind.wrap_u32'];omega,o1];simp only [IntKind.wrap_u8'];omega))
     clear hr hv hbw hc ho hn0 hn1;go_wp2_with fail;refine wp_region_monoJ (fun i=>w1.heap.size≤i) [12] (by kernel_rfl) ?_
     iterate 3
      first|refine qJ 0 (v:=?_) ?_ ?_|refine qJ 1 (v:=?_) ?_ ?_|refine qJ 2 (v:=?_) ?_ ?_
      rotate_left
      ·(intro W hSw;(first|(have hcW:=hSw.cells;try simp only [qSd] at hcW)|skip);go_simp <;> rfl)
      try simp only [qPA]
     refine wpMonoJ_read' 3 [4,9,10,11,12,13] (v:=?_) rfl (by kernel_rfl) (by kernel_rfl) (by kernel_rfl) (by rfl) (by kernel_rfl) (by rfl) (fun _ _ _ h=>h) (by rfl) ?_ ?_;rotate_left
     ·(intro W hSw;(first|(have hcW:=hSw.cells;try simp only [qSd] at hcW)|skip);go_simp <;> rfl)
     try simp only [qPA]
     iterate 3
      first|refine qJ 4 (v:=?_) ?_ ?_|refine qJ 5 (v:=?_) ?_ ?_|refine qJ 6 (v:=?_) ?_ ?_
      rotate_left
      ·(intro W hSw;(first|(have hcW:=hSw.cells;try simp only [qSd] at hcW)|skip);go_simp <;> rfl)
      try simp only [qPA]
     refine wpMonoJ_read' 7 [8,9,10,11,12,13] (v:=?_) rfl (by kernel_rfl) (by kernel_rfl) (by kernel_rfl) (by rfl) (by kernel_rfl) (by rfl) (fun _ _ _ h=>h) (by rfl) ?_ ?_;rotate_left
     ·(intro W hSw;(first|(have hcW:=hSw.cells;try simp only [qSd] at hcW)|skip);go_simp <;> rfl)
     try simp only [qPA]
     iterate 3
      first|refine qJ 8 (v:=?_) ?_ ?_|refine qJ 9 (v:=?_) ?_ ?_|refine qJ 10 (v:=?_) ?_ ?_
      rotate_left
      ·(intro W hSw;(first|(have hcW:=hSw.cells;try simp only [qSd] at hcW)|skip);go_simp <;> rfl)
      try simp only [qPA]
     refine wpMonoJ_one' 11 (by kernel_rfl) rfl (by rfl) (fun K hK=>?_)
     go_simp
     refine hK.out _ _ ?_ ?_
     ·exact Keeps.alloc _
     clear hK K
     try simp only [qPA]
     refine wpMonoJ_one' 12 (by kernel_rfl) rfl (by rfl) (fun K hK=>?_);refine wp_append_row (w:=(wr.alloc (.cells #[(.int .u8 (IntKind.u8.wrap (bits .or .u32 (IntKind.u32.wrap ((n0:Int)*4)) ((n1:Int) / 16))))] 5)).drew) (l1:=o) (l2:=[x]) (.tmp 72) (.tmp 83) rfl (A:=some ⟨wr.heap.size,0,none⟩) (c:=1) rfl rfl (HV.out.below (below_new wr _).drew) HRD.out (by show _+1≤1000000;omega) (by show _≤(wr.alloc _).heap.size;simp;omega) (fun v5 w5 hv5 hb5=>?_);refine hK.out _ _ ?_ ?_
     ·exact moved (Keeps.lo hb5 (fun i hi=>hi)) (by decide)
     clear hK K
     try simp only [qPA]
     refine qJ 13 (v:=?_) ?_ ?_;rotate_left
     ·(intro W hSw;(first|(have hcW:=hSw.cells;try simp only [qSd] at hcW)|skip);go_simp <;> rfl)
     try simp only [qPA]
     refine wpMonoJ_done (by kernel_rfl) ?_ _;have HBB5:=qH (HBW2.out.trans (((below_new wr (.cells #[(.int .u8 (IntKind.u8.wrap (bits .or .u32 (IntKind.u32.wrap ((n0:Int)*4)) ((n1:Int) / 16))))] 5)).drew.mono hws).trans hb5))
     have c25:w5.cell? ⟨g,off+1,none⟩=some (.int .u32 (n1:Nat)):=by
      rw [HBB5.out.cell (p:=⟨g,off+1,none⟩) hgb,←HBW2.out.cell (p:=⟨g,off+1,none⟩) hgb];exact c1'
     have hcv:=own_conv hv5;rw [HO.out] at hcv;have hlt5:g<w5.heap.size:=by have:=HBB5.out.size;omega
     clear hv5 hb5 c0 c1' o1 HV HRD;go_wp2_with fail;go_ret2
     exact ⟨rfl,HBW.out.trans (HBB5.out.mono HBW.out.size)⟩
    | [] =>
     rw [show sext []=[] from rfl] at hr hAc ⊢;simp only [List.length_nil] at hAc ⊢;have hcv:=own_conv hv;rw [show o=l from by rw [←ho,List.append_nil]] at hcv;have HBW2:=qH hbw;clear hr hv hbw ho;go_wp2_with fail;go_ret2
     exact ⟨rfl,HBW.out.trans (HBW2.out.mono HBW.out.size)⟩
  ·have hiz:(i:Int)<(S.size:Int):=by omega
   have hiS:i<S.size:=by omega
   have hil:i<(sext l).length:=by omega
   obtain ⟨k,hk⟩:∃ k,(sext l)[i]=k:=⟨_,rfl⟩;have hk64:k<64:=by rw [←hk];exact hx _ (List.getElem_mem hil)
   have hby:S[i]=lett k:=by
    have h1:S.data.toList[i]'(by show i<S.data.toList.length;rw [hSl,enc,List.length_map];exact hil)=(enc l)[i]'(by rw [enc,List.length_map];exact hil):=by simp only [hSl]
    rw [←hk];exact h1.trans (by simp [enc])
   have hix:=letters_ix ⟨k,hk64⟩;have HNX:=qH (show (sext l).take i++[k]=(sext l).take (i+1) from by rw [List.take_add_one,List.getElem?_eq_getElem hil,hk];rfl);have HV:=qH hv;have HBW:=qH hbw;have hws:=hbw.size;clear hv hbw;have hkz:¬ (k:Int)<0:=by omega
   have hix2:Lib.indexByte (⟨letters.toArray⟩:ByteArray).data.toList (((lett k).toNat:Nat):Int).toNat.toUInt8=(k:Int):=by
    rw [show (((lett k).toNat:Nat):Int).toNat.toUInt8=lett k from by rw [Int.toNat_natCast];exact UInt8.ofNat_toNat];exact hix
   go_wp2_with fail;have h8:=Tryz.strings_IndexByte ⟨letters.toArray⟩ (((lett k).toNat:Nat):Int) w1;rw [hix2] at h8;refine h8.mono ?_;rintro e w2 ⟨rfl,hw⟩;subst hw;clear h8 hix hix2
   go_wp2_with (at_builtin;refine wpList_append_newAt rfl (.tmp 24) (.tmp 27) _ rfl w.heap.size 272 i0 _ 1 4 Tryz.underlying331 hi hz0 hz1 hz2 rfl (by decide) _ i _ rfl HV.out 1 1 w2.heap.size rfl [_] rfl rfl (by simp [Value.oneCell']) (by unfold maxLen;omega) (by omega) hws ?_;intro v5 w5 hv5 hb5 _ _)
   have HV5:=qH (show w5.ownsRow w.heap.size 272 1 v5 (i+1) (w32 ((sext l).take (i+1))) from by
    rw [←HNX.out];have h6:=hv5;unfold w32 at h6 ⊢;rw [List.map_append];exact h6)
   have HB5:=qH (HBW.out.trans hb5);clear hv5 hb5;go_wp2_with fail;go_roundw
   case rel =>
    have hrel5:∃ i':Nat,i'≤(sext l).length∧Value.int .i64 ((i:Int)+1)=.int .i64 i'∧w5.ownsRow w.heap.size 272 1 v5 i' (w32 ((sext l).take i'))∧Below w.heap.size w w5:=⟨i+1,by omega,by go_num,HV5.out,HB5.out⟩
    first|exact hrel5|exact ⟨_,_,hrel5,rfl,rfl⟩|exact ⟨_,_,_,hrel5,rfl,rfl,rfl⟩
   case measure=>simp [RowKit.intOf];omega
end textw
end Go.Proofs.YthlahcnglacekaaGreatDoor
