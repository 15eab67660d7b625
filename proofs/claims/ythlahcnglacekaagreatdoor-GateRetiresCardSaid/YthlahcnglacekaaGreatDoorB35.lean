/- Part of GateRetires. -/
import Derived.Test.YthlahcnglacekaaGreatDoorB23
import Derived.Test.YthlahcnglacekaaGreatDoorB34
import Derived.Test.YthlahcnglacekaaGreatDoorB21
set_option maxRecDepth 100000
set_option maxHeartbeats 16000000
namespace Go.Proofs.YthlahcnglacekaaGreatDoor
namespace mac
open Go Go.RowKit Go.Lib base rowe err wireb macp ringw
theorem key_ok (g:Nat) (m:ByteArray) (c n:Nat) (w:World) (h:RingB w g m c) (hm:m.size≤64) (hc:c≤1099511627776) (hn:n≤1099511627776) (hl:c≤n+2) :
  Calls Tryz.prog 161 #[.pointer (some ⟨g,0,none⟩),.int .i64 n] w fun e w'=>e=.returned (.tuple #[.string ⟨(derive m.data.toList n).toArray⟩,.nilIface])∧Below w.heap.size w w':=by
 have c0:w.cell? ⟨g,0,none⟩=_:=h.cell 0;have hlt:=h.lt;simp at c0
 have HA:=qH (alive_any g m c n w h hc hn);rw [decide_eq_true hl] at HA;have HD:=qH (derive_any m n w hm hn);clear h;obtain ⟨D,hD⟩:∃ D,derive m.data.toList n=D:=⟨_,rfl⟩;rw [hD] at HD ⊢;clear hD;go_enter Tryz.func161,Tryz.ntmps161;go_wp2_with fail;refine HA.out.mono ?_;rintro e w1 ⟨rfl,hw⟩;subst hw;go_wp2_with fail;refine HD.out.mono ?_;rintro e w2 ⟨rfl,hb⟩;have HB:=qH hb;clear hb;go_wp2_with fail;go_ret2
 exact ⟨rfl,HB.out⟩
theorem key_bad (g:Nat) (m:ByteArray) (c n:Nat) (w:World) (h:RingB w g m c) (hc:c≤1099511627776) (hn:n≤1099511627776) (hl:¬ c≤n+2) :
  Calls Tryz.prog 161 #[.pointer (some ⟨g,0,none⟩),.int .i64 n] w fun e w'=>∃ x k,e=.returned (.tuple #[.string ⟨#[]⟩,x])∧ErrK w' x k 9∧w.heap.size≤k∧Below w.heap.size w w':=by
 have HA:=qH (alive_any g m c n w h hc hn);rw [decide_eq_false hl] at HA;have HC:=qH (current_any g m c w h);clear h;go_enter Tryz.func161,Tryz.ntmps161;go_wp2_with fail;refine HA.out.mono ?_;rintro e w1 ⟨rfl,hw⟩;subst hw;go_wp2_with fail;refine HC.out.mono ?_;rintro e w2 ⟨rfl,hw⟩;subst hw;go_wp2_with fail;refine (at_blk _ _ 9 _).mono ?_;rintro e w3 ⟨x,k,rfl,hx,hk,hb⟩;have HX:=qH hx;have HB:=qH hb;obtain ⟨rfl,_⟩:=hx;clear hb;go_wp2_with fail;go_ret2
 exact ⟨_,k,rfl,HX.out,hk,HB.out⟩
end mac
namespace tokw
open Go Go.RowKit Go.Lib base rowe err wireb macp mac ringw claimp encp textw
def tokL (m:List UInt8) (x:PC):List UInt8:=enc x.bytes++46 :: enc (tag (derive m x.ke) x.bytes)
theorem tok_str (a b:List UInt8):(⟨a.toArray⟩:ByteArray)++⟨#[46]⟩++⟨b.toArray⟩=str (a++46 :: b):=by
 apply ByteArray.ext
 simp [str,ByteArray.data_append]
theorem str_l (l:List UInt8):(⟨l.toArray⟩:ByteArray)=str l:=rfl
theorem mint_ok (g:Nat) (m:ByteArray) (c:Nat) (x:PC) (d:Value) (w:World) (h:RingB w g m c) (hm:m.size≤64) (hc:c≤1099511627776) (hd:wire.Nums w w.heap.size d (natI x.cx)) (hok:({ x with ke:=c }:PC).Ok) :
  Calls Tryz.prog 99 #[.pointer (some ⟨g,0,none⟩),.agg ⟨x.cells d⟩] w fun e w'=>e=.returned (.tuple #[.string (str (tokL m.data.toList { x with ke:=c })),.nilIface])∧Below w.heap.size w w':=by
 have hg:=h.lt;have hbl:=bytes_len hok;obtain ⟨B,hB⟩:∃ B,({ x with ke:=c }:PC).bytes=B:=⟨_,rfl⟩;have HK:=qH (key_ok g m c c);have HOK:=qH hok;have HTL:=qH (show tokL m.data.toList { x with ke:=c }=enc B++46 :: enc (tag (derive m.data.toList c) B) from by rw [←hB];rfl);have HBY:=qH hB;rw [hB] at hbl;have HR0:=qH h;have hcb:=below_new w (.cells (x.cells d).toArray 37);have HX0:=qH (Blk.new w 37 (x.cells d).toArray);have HB0:=qH hcb;have HC0:=qH (current_any g m c (w.alloc (.cells (x.cells d).toArray 37)) (h.alloc _));have HN:=qH hd;unfold PC.cells at *;clear h hd hcb hB hok;go_enter Tryz.func99,Tryz.ntmps99;go_wp2_with fail;refine HC0.out.mono ?_;rintro e w1 ⟨rfl,hw⟩;subst hw;have hf4:=HX0.out.frozen 4;have hlt:=HX0.out.lt;clear HC0;have c4:(w.alloc (.cells (x.cells d).toArray 37)).cell? ⟨w.heap.size,4,none⟩=some (.int .i64 x.ke):=HX0.out.cell 4;unfold PC.cells at *;go_wp2_with fail;clear hf4 hlt c4 HX0;have hcb:=below_new w (.cells #[.string (str x.se),.string (str x.us),.int .i64 x.ep,.int .i64 x.is,.int .i64 c,d] 37);have HX1:=qH (Blk.new w 37 #[.string (str x.se),.string (str x.us),.int .i64 x.ep,.int .i64 x.is,.int .i64 c,d]);have HN1:=qH ((HN.out.below hcb).more (B':=(w.alloc (.cells #[.string (str x.se),.string (str x.us),.int .i64 x.ep,.int .i64 x.is,.int .i64 c,d] 37)).heap.size) (by simp));have HB1:=qH hcb;have HR1:=qH (show RingB (w.alloc (.cells #[.string (str x.se),.string (str x.us),.int .i64 x.ep,.int .i64 x.is,.int .i64 c,d] 37)) g m c from HR0.out.alloc _);have hs1:(w.alloc (.cells #[.string (str x.se),.string (str x.us),.int .i64 x.ep,.int .i64 x.is,.int .i64 c,d] 37)).heap.size=w.heap.size+1:=by simp
 clear hcb HN HB0 HR0;generalize w.alloc (.cells #[.string (str x.se),.string (str x.us),.int .i64 x.ep,.int .i64 x.is,.int .i64 c,d] 37)=w1 at *;refine (encodeC { x with ke:=c } d w1 HN1.out HOK.out).mono ?_;rintro e w2 ⟨rfl,hb2⟩;rw [HBY.out];have HX2:=qH (HX1.out.below hb2 (by omega));have HR2:=qH (show RingB w2 g m c from HR1.out.below hb2 (by omega));have HB2:=qH (HB1.out.trans (hb2.mono (by omega)));have hs2:=hb2.size;have c4:w2.cell? ⟨w.heap.size,4,none⟩=some (.int .i64 c):=HX2.out.cell 4;clear hb2 HX1 HN1 HB1 HR1 HX2;go_wp2_with fail;refine (HK.out w2 HR2.out hm hc hc (by omega)).mono ?_;rintro e w3 ⟨rfl,hb3⟩;have HB3:=qH (HB2.out.trans (hb3.mono (by omega)));have hs3:=hb3.size;clear hb3 HR2 HB2 HK c4;have hkl:(derive m.data.toList c).length=32:=tag_len _ _;generalize derive m.data.toList c=D at *;have hBs:(str B).size=B.length:=str_size B;go_wp2_with fail;have hE:=enc_any (str B) w3 (by omega);rw [str_list] at hE;have hEl:=enc_len B;refine hE.mono ?_;rintro e w4 ⟨rfl,hb4⟩;have HB4:=qH (HB3.out.trans (hb4.mono (by omega)));have hs4:=hb4.size;clear hb4 HB3 hE;generalize enc B=E at *;go_wp2_with fail;have hT:=tag_any ⟨D.toArray⟩ (str B) w4 (by show D.toArray.size≤64;simp;omega) (by omega);rw [str_list] at hT;have hTl:=tag_len (⟨D.toArray⟩:ByteArray).data.toList B;refine hT.mono ?_;rintro e w5 ⟨rfl,hb5⟩;have HB5:=qH (HB4.out.trans (hb5.mono (by omega)));have hs5:=hb5.size;clear hb5 HB4 hT;rw [show (⟨D.toArray⟩:ByteArray).data.toList=D from str_list D] at *;generalize tag D B=TG at *;go_wp2_with fail;have hF:=enc_any (str TG) w5 (by rw [str_size];omega);rw [str_list] at hF;have hFl:=enc_len TG;refine hF.mono ?_;rintro e w6 ⟨rfl,hb6⟩;have HB6:=qH (HB5.out.trans (hb6.mono (by omega)));clear hb6 HB5 hF;generalize enc TG=F at *;have hl1:¬ 9223372036854775807<E.length+1:=by omega
 have hl2:¬ 9223372036854775807<E.length+1+F.length:=by omega
 go_wp2_with fail;go_ret2
 exact ⟨by rw [HTL.out,←tok_str];rfl,HB6.out⟩
end tokw
end Go.Proofs.YthlahcnglacekaaGreatDoor
