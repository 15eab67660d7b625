/- Part of GateRetires. -/
import Derived.Test.YthlahcnglacekaaGreatDoorB24
import Derived.Lib.BufferWrite
import Derived.Lib.SlBuf
import Derived.Test.YthlahcnglacekaaGreatDoorB03
set_option maxRecDepth 100000
set_option maxHeartbeats 16000000
namespace Go.Proofs.YthlahcnglacekaaGreatDoor
namespace mac
open Go Go.RowKit Go.Lib base rowe rowc wireb appb macp monoj
def keyP (key:List UInt8):List UInt8:=key++List.replicate (64-key.length) 0
theorem keyP_len {key:List UInt8} (h:key.length≤64):(keyP key).length=64:=by simp [keyP];omega
def mixL (p:List UInt8) (m:UInt8) (i:Nat):List UInt8:=(p.take i).map (fun c=>c ^^^ m)++p.drop i
theorem mix_at {p:List UInt8} (m:UInt8) {i:Nat} (h:i<p.length):mixL p m i=(p.take i).map (fun c=>c ^^^ m)++p[i] :: p.drop (i+1):=by
 unfold mixL;rw [List.drop_eq_getElem_cons h]
theorem mix_next {p:List UInt8} (m:UInt8) {i:Nat} (h:i<p.length):(p.take i).map (fun c=>c ^^^ m)++(p[i] ^^^ m) :: p.drop (i+1)=mixL p m (i+1):=by
 unfold mixL;rw [List.take_add_one,List.getElem?_eq_getElem h,List.map_append,List.append_assoc];rfl
theorem mix_all {p:List UInt8} (m:UInt8) (h:p.length=64):mixL p m 64=p.map fun c=>c ^^^ m:=by
 unfold mixL;rw [←h,List.take_length,List.drop_length,List.append_nil]
theorem byt_cell {w:World} {g:Nat} {t:TypeId} {a b:List UInt8} {x:UInt8} {i:Nat} (h:Blk w g t (byt (a++x :: b)).toArray) (hi:a.length=i):w.cell? ⟨g,i,none⟩=some (.int .u8 (x.toNat:Nat)):=by
 rw [h.cell i];subst hi;simp [byt]
theorem byt_set {w:World} {g:Nat} {t:TypeId} {a b:List UInt8} {x:UInt8} {i:Nat} (h:Blk w g t (byt (a++x :: b)).toArray) (hi:a.length=i) (y:UInt8) (v:Value) (hv:v=.int .u8 (y.toNat:Nat)) :
  Blk (w.setCell ⟨g,i,none⟩ v) g t (byt (a++y :: b)).toArray:=by
 have h1:=h.set_ i v;subst hv;subst hi
 have e:(byt (a++x :: b)).toArray.setIfInBounds a.length (.int .u8 (y.toNat:Nat))=(byt (a++y :: b)).toArray:=by
  simp [byt]
 rw [e] at h1;exact h1
theorem xor_byte (x m:UInt8):bits .xor .u8 ((x.toNat:Nat):Int) ((m.toNat:Nat):Int)=(((x ^^^ m).toNat:Nat):Int):=by
 have h:=u8_xor_nat x.toNat m.toNat x.toNat_lt m.toNat_lt;rw [h,UInt8.toNat_xor]
theorem drop_rep (n k:Nat):(byt (List.replicate n 0)).drop k=byt (List.replicate (n-k) 0):=by simp only [byt,List.map_replicate,List.drop_replicate]
theorem app_list (a:List UInt8) (s:ByteArray):((⟨a.toArray⟩:ByteArray)++s).data.toList=a++s.data.toList:=by simp [ByteArray.data_append]
theorem app_size (a:List UInt8) (s:ByteArray):((⟨a.toArray⟩:ByteArray)++s).size=a.length+s.size:=by simp [ByteArray.size_append];rfl
theorem mix_text {w w':World} {g:Nat} {t:TypeId} {l:List UInt8} {m:UInt8} (hl:(keyP l).length=64) (h:Blk w g t (byt (mixL (keyP l) m 64)).toArray) (hk:Keeps nobody w w') :
  (convert 86 9 (.slice (some ⟨g,0,none⟩) 64 64)).run Tryz.prog w'=.ok (.string ⟨(keyX l m).toArray⟩) w':=by
 rw [mix_all m hl] at h;have h1:=((Lies.blk h).keeps hk (fun h=>h)).text 64;rw [List.length_map,hl] at h1;exact h1
theorem tag_any (key s:ByteArray) (w:World) (hk:key.size≤64) (hs:s.size≤90000):Calls Tryz.prog 163 #[.string key,.string s] w fun e w'=>e=.returned (.string ⟨(tag key.data.toList s.data.toList).toArray⟩)∧Below w.heap.size w w':=by
 obtain ⟨l,hl⟩:∃ l,key.data.toList=l:=⟨_,rfl⟩;have hll:l.length=key.size:=by rw [←hl];rfl
 have hpl:=keyP_len (key:=l) (by omega);have hnk:¬ (64:Int)<(key.size:Int):=by omega
 obtain ⟨gi,hgi⟩:∃ gi,w.heap.size=gi:=⟨_,rfl⟩;obtain ⟨W0,hW0⟩:∃ W0,(w.alloc (.cells (byt (List.replicate 64 0)).toArray 316)).alloc (.cells (byt (List.replicate 64 0)).toArray 316)=W0:=⟨_,rfl⟩;have h1:Blk W0 gi 316 (byt (List.replicate 64 0)).toArray:=by rw [←hW0,←hgi];exact (Blk.new _ _ _).alloc _
 have h2:Blk W0 (gi+1) 316 (byt (List.replicate 64 0)).toArray:=by rw [←hW0,←hgi];exact Blk.newAt _ _ _ (by simp)
 have hb:Below w.heap.size w W0:=by rw [←hW0];exact (below_new _ _).alloc (by simp) _
 have hs0:W0.heap.size=gi+2:=by rw [←hW0,←hgi];simp
 have hcp:=run_copy_row_string (P:=Tryz.prog) (ty:=3) W0 86 9 5 gi 0 64 64 key _ 316 Tryz.underlying86 (by kernel_rfl) h1 hk (by rw [List.size_toArray,byt_len,List.length_replicate];omega)
 have hrow:((byt (List.replicate 64 (0:UInt8))).toArray.toList.take 0++Go.Lib.byteCells key.data.toList++(byt (List.replicate 64 (0:UInt8))).toArray.toList.drop (0+key.size))=byt (keyP l):=by
  rw [hl,List.take_zero,List.nil_append,Nat.zero_add];unfold keyP;rw [byt_app,hll,←drop_rep];rfl
 rw [hrow] at hcp;have hb1:Blk (W0.setRow gi (byt (keyP l)).toArray) gi 316 (byt (keyP l)).toArray:=setRow_blk _ h1;have hkr:Keeps (· = gi) W0 (W0.setRow gi (byt (keyP l)).toArray):=setRow_keeps _ _ _;have hb2:=h2.keeps hkr (by omega);have hbw:=hb.trans (hkr.below (fun i hi e=>by omega) (by omega));have hs1:(W0.setRow gi (byt (keyP l)).toArray).heap.size=gi+2:=by simpa using hs0
 clear h1 h2 hb hkr hrow;generalize W0.setRow gi (byt (keyP l)).toArray=W1 at *;have HB1:=qH hb1;have HB2:=qH hb2;have HBW:=qH hbw;have HC:=qH (show ∀ j v,(byt (keyP l))[j]?=some v→W1.cell? ⟨gi,0+j,none⟩=some v from fun j v hv=>by rw [Nat.zero_add,hb1.cell j];simpa using hv);have hTl:(byt (keyP l)).length=64:=by rw [byt_len,hpl]
 have HONE:=qH (show (byt (keyP l)).all (·.oneCell')=true from List.all_eq_true.2 (byt_one _));have HCP:=qH (show (Builtin.copy_ #[86,9] 3 #[.slice (some ⟨gi,0,none⟩) 64 64,.string key]).run Tryz.prog ((w.alloc (.cells (byt (List.replicate 64 0)).toArray 316)).alloc (.cells (byt (List.replicate 64 0)).toArray 316))=.ok (goInt key.size) W1 from by rw [hW0];exact hcp);clear hb1 hb2 hbw hcp;go_enter Tryz.func163,Tryz.ntmps163;rw [hgi]
 go_wp2_with (first|(refine wpList_copy_run _ rfl (.tmp 13) (.tmp 14) 86 9 rfl _ _ rfl rfl HCP.out ?_)|(refine wpList_load_at rfl 316 (.tmp 5) rfl gi 0 (byt (keyP l)) rfl Tryz.underlying316 rfl (by rw [hTl];kernel_rfl) HC.out ?_)|(refine wpList_store_blk rfl 316 (.tmp 6) (.tmp 16) rfl (gi+1) (byt (keyP l)) rfl rfl HB2.out (by rw [hTl];kernel_rfl) (by rw [hTl];rfl) HONE.out ?_;intro w2 ho hk2 hs2))
 have HI2:=qH (HB1.out.keeps hk2 (by omega));have HO2:=qH ho;have HBW2:=qH (HBW.out.trans (hk2.below (fun i hi e=>by omega) (by omega)));clear ho hk2 hs2 HB1 HB2 HBW HC HCP HONE
 try simp only [Act.put]
 go_wp2_with fail
 go_loopw [17] (fun x wr=>∃ i:Nat,i≤64∧x=.int .i64 i∧Blk wr gi 316 (byt (mixL (keyP l) 0x36 i)).toArray∧Blk wr (gi+1) 316 (byt (mixL (keyP l) 0x5c i)).toArray∧Below w.heap.size w wr) (fun x _=>64-(RowKit.intOf x).toNat)
 case atStart=>exact ⟨0,by omega,rfl,HI2.out,HO2.out,HBW2.out⟩
 case round =>
  clear HI2 HO2 HBW2;obtain ⟨i,hi,rfl,h1,h2,hbw⟩:=hrel;have hlt:=h2.lt
  by_cases h64:i=64
  ·subst h64
   have HC1:=qH (show ∀ W,Keeps nobody wr W→(convert 86 9 (.slice (some ⟨gi,0,none⟩) 64 64)).run Tryz.prog W=.ok (.string ⟨(keyX l 0x36).toArray⟩) W from fun W hk=>mix_text hpl h1 hk);have HC2:=qH (show ∀ W,Keeps nobody wr W→(convert 86 9 (.slice (some ⟨gi+1,0,none⟩) 64 64)).run Tryz.prog W=.ok (.string ⟨(keyX l 0x5c).toArray⟩) W from fun W hk=>mix_text hpl h2 hk);have HBW:=qH hbw;have hx1:(keyX l 0x36).length=64:=by rw [keyX,List.length_map];exact hpl
   have hx2:(keyX l 0x5c).length=64:=by rw [keyX,List.length_map];exact hpl
   have HT:=qH (show tag l s.data.toList=dig (keyX l 0x5c++dig (keyX l 0x36++s.data.toList)) from by unfold tag;rw [if_neg (by omega)];rfl);have hq1:¬ 9223372036854775807<64+s.size:=by omega
   clear h1 h2 hbw;generalize keyX l 0x36=A at *;generalize keyX l 0x5c=B at *;go_wp2_with fail;refine wp_region_mono nobody (by kernel_rfl) ?_
   iterate 6
    first|refine qT 0 (v:=?_) ?_ ?_|refine qT 1 (v:=?_) ?_ ?_|refine qT 2 (v:=?_) ?_ ?_|refine qT 3 (v:=?_) ?_ ?_|refine qT 4 (v:=?_) ?_ ?_|refine qT 5 (v:=?_) ?_ ?_
    rotate_left
    ·(intro W hSw;(first|(have hcv1:=HC1.out W (Keeps.drew.trans hSw);have hcv2:=HC2.out W (Keeps.drew.trans hSw))|skip);go_simp <;> rfl)
    try simp only [qPA]
   refine wpMono_one' 6 (by kernel_rfl) rfl (by rfl) (fun K hK=>?_)
   go_simp
   refine (digest_any _ _ (by rw [app_size];omega)).mono ?_;rintro e w2 ⟨rfl,hb2⟩;rw [app_list];have HB2:=qH hb2;clear hb2;generalize hD:dig (A++s.data.toList)=D at *;have hDl:D.length=32:=by rw [←hD];exact dig_size _
   refine hK.out _ _ ?_ ?_
   ·exact .of_below HB2.out
   clear hK K
   try simp only [qPA]
   refine qT 7 (v:=?_) ?_ ?_;rotate_left
   ·(intro W hSw;(first|(have hcv1:=HC1.out W (Keeps.drew.trans hSw);have hcv2:=HC2.out W (Keeps.drew.trans hSw))|skip);go_simp <;> rfl)
   try simp only [qPA]
   refine wpMono_one' 8 (by kernel_rfl) rfl (by rfl) (fun K hK=>?_)
   go_simp
   refine (digest_any _ _ (by rw [app_size];show _+(List.toArray D).size≤_;simp;omega)).mono ?_;rintro e w3 ⟨rfl,hb3⟩;rw [app_list];have HB3:=qH hb3;clear hb3;refine hK.out _ _ ?_ ?_
   ·exact .of_below HB3.out
   clear hK K;refine qT 9 (v:=?_) ?_ ?_;rotate_left
   ·(intro W hSw;(first|(have hcv1:=HC1.out W (Keeps.drew.trans hSw);have hcv2:=HC2.out W (Keeps.drew.trans hSw))|skip);go_simp <;> rfl)
   try simp only [qPA]
   refine wpMono_done (by kernel_rfl) ?_ _;go_wp2_with fail;go_ret
   exact ⟨by rw [hl,HT.out];rfl,hgi ▸ HBW.out.trans (((Below.refl _ _).drew.trans (HB2.out.trans (HB3.out.mono HB2.out.size))).mono HBW.out.size)⟩
  ·have hi64:(i:Int)<64:=by omega
   have hip:i<(keyP l).length:=by omega
   have hlen:∀ m:UInt8,(((keyP l).take i).map fun c=>c ^^^ m).length=i:=fun m=>by rw [List.length_map,List.length_take];omega
   rw [mix_at _ hip] at h1 h2;have c1:=byt_cell h1 (hlen _);have c2:=byt_cell h2 (hlen _);have f1:=h1.frozen i;have f2:=h2.frozen i;have x1:=xor_byte (keyP l)[i] 0x36;have x2:=xor_byte (keyP l)[i] 0x5c;have HN1:=qH (fun (v:Value) (hv:v=.int .u8 (((keyP l)[i] ^^^ 0x36).toNat:Nat))=>byt_set h1 (hlen _) ((keyP l)[i] ^^^ 0x36) v hv);have M1:=qH (mix_next (p:=keyP l) 0x36 hip);have M2:=qH (mix_next (p:=keyP l) 0x5c hip);have H2:=qH h2;have HBW:=qH hbw;clear h1 h2 hbw;generalize (keyP l)[i]=c at *;go_wp2_with fail;go_roundw
   case rel =>
    exact ⟨i+1,by omega,by go_num,by rw [←M1.out];exact (HN1.out _ (val_int x1)).far (p:=⟨gi+1,i,none⟩) (by simp <;> omega) _,
     by rw [←M2.out];exact byt_set (H2.out.far (p:=⟨gi,i,none⟩) (by simp <;> omega) _) (hlen _) (c ^^^ 0x5c) _ (val_int x2),
     (HBW.out.trans ((Keeps.set1 _ _ _ _).below (fun i hi e=>by omega) HBW.out.size)).trans ((Keeps.set1 _ _ _ _).below (fun i hi e=>by omega) (by have:=HBW.out.size;simp;omega))⟩
   case measure=>simp [RowKit.intOf];omega
end mac
namespace mac
open Go Go.RowKit Go.Lib base rowe rowc wireb appb macp monoj ringw
theorem key_str (E:List UInt8):((⟨#[107,101,121]⟩:ByteArray)++⟨E.toArray⟩).data.toList=[107,101,121]++E:=by simp [ByteArray.data_append]
theorem key_size {E:List UInt8} (h:E.length=8):((⟨#[107,101,121]⟩:ByteArray)++⟨E.toArray⟩).size≤90000:=by
 have h1:=congrArg List.length (key_str E);rw [List.length_append,h] at h1;have h2:((⟨#[107,101,121]⟩:ByteArray)++⟨E.toArray⟩).data.toList.length=((⟨#[107,101,121]⟩:ByteArray)++⟨E.toArray⟩).size:=rfl;rw [←h2,h1]
 decide
theorem derive_is (m:List UInt8) (n:Nat):derive m n=tag m ([107,101,121]++byt8 (eight n)):=rfl
theorem derive_any (m:ByteArray) (n:Nat) (w:World) (hm:m.size≤64) (hn:n≤1099511627776):Calls Tryz.prog 210 #[.string m,.int .i64 n] w fun e w'=>e=.returned (.string ⟨(derive m.data.toList n).toArray⟩)∧Below w.heap.size w w':=by
 go_enter Tryz.func210,Tryz.ntmps210;go_wp2_with fail;refine (eight_any n _ (by omega)).mono ?_;rintro e w1 ⟨rfl,hb8,hb⟩;have hli:Lies w1 w.heap.size 0 (byt8 (eight n)):=Lies.blk (t:=380) (by rw [←u8s_byt8 (eight_lt _)];exact hb8);have hcv:(convert 86 9 (.slice (some ⟨w.heap.size,0,none⟩) 8 8)).run Tryz.prog w1=.ok (.string ⟨(byt8 (eight n)).toArray⟩) w1:=hli.text 8;have hel:(byt8 (eight n)).length=8:=by rw [byt8_len];rfl
 have HB:=qH hb;clear hb8 hb hli;have HD:=qH (derive_is m.data.toList n);generalize byt8 (eight n)=E at *;go_wp2_with fail;have h8:=tag_any m ((⟨#[107,101,121]⟩:ByteArray)++⟨E.toArray⟩) w1 hm (key_size hel);rw [key_str,←HD.out] at h8;obtain ⟨D,hD⟩:∃ D,derive m.data.toList n=D:=⟨_,rfl⟩;rw [hD] at h8;have HDD:=qH hD;clear hD;refine h8.mono ?_;rintro e w2 ⟨rfl,hb2⟩;have HB2:=qH (HB.out.trans (hb2.mono HB.out.size));clear hb2 h8;go_wp2_with fail;go_ret
 exact ⟨by rw [HDD.out];rfl,HB2.out⟩
theorem or_zero (d x y:UInt8):(d ||| (x ^^^ y))=0↔d=0∧x=y:=by
 rw [UInt8.or_eq_zero_iff,UInt8.xor_eq_zero_iff]
theorem or_byte8 (d z:UInt8):bits .or .u8 ((d.toNat:Nat):Int) ((z.toNat:Nat):Int)=(((d ||| z).toNat:Nat):Int):=by
 have h:=u8_or_nat d.toNat z.toNat d.toNat_lt z.toNat_lt;rw [h,UInt8.toNat_or]
theorem take_eq {a b:List UInt8} {i:Nat} (ha:i<a.length) (hb:i<b.length):a.take (i+1)=b.take (i+1)↔a.take i=b.take i∧a[i]=b[i]:=by
 rw [List.take_add_one,List.take_add_one,List.getElem?_eq_getElem ha,List.getElem?_eq_getElem hb]
 constructor
 ·intro h
  have h2:=List.append_inj' h rfl;exact ⟨h2.1,by simpa using h2.2⟩
 ·rintro ⟨h1,h2⟩
  rw [h1,h2]
def eqB (a b:ByteArray):Bool:=decide (a.data.toList=b.data.toList)
theorem equal_any (a b:ByteArray) (w:World) (ha:a.size≤100000):Calls Tryz.prog 176 #[.string a,.string b] w fun e w'=>e=.returned (.bool (eqB a b))∧Below w.heap.size w w':=by
 have hal:a.data.toList.length=a.size:=rfl;have hbl:b.data.toList.length=b.size:=rfl;have hconv:=run_bytes_of_string (P:=Tryz.prog) w 9 86 5 a Tryz.underlying9 Tryz.underlying86 Tryz.underlying5;generalize grownCap w a.size 0 5=cap at *;have hbw0:Below w.heap.size w (w.drew.alloc (.cells (bytesRow a cap) 5 ((bytesRow a cap).size,(bytesRow a cap).size+1))):=((Below.refl _ w).drew).alloc (by simp) _;generalize w.drew.alloc (.cells (bytesRow a cap) 5 ((bytesRow a cap).size,(bytesRow a cap).size+1))=w1 at *
 by_cases hs:a.size=b.size
 ·have HBW:=qH hbw0
  clear hbw0;have hs':(a.size:Int)=(b.size:Int):=by omega
  go_enter Tryz.func176,Tryz.ntmps176;go_wp2_with fail
  go_loopw [5,15] (fun dv iv wr=>∃ (i:Nat) (d:UInt8),i≤a.size∧iv=.int .i64 i∧dv=.int .u8 (d.toNat:Nat)∧(d=0↔a.data.toList.take i=b.data.toList.take i)∧Below w.heap.size w wr) (fun _ iv _=>a.size-(RowKit.intOf iv).toNat)
  case atStart=>exact ⟨0,0,Nat.zero_le _,rfl,rfl,by simp,HBW.out⟩
  case round =>
   clear HBW;obtain ⟨i,d,hi,rfl,rfl,hd,hbw⟩:=hrel
   by_cases hia:i=a.size
   ·subst hia
    rw [←hal,List.take_length,hal,hs,←hbl,List.take_length] at hd;have HBW:=qH hbw;have HD:=qH hd;clear hbw hd
    by_cases h0:d=0
    ·subst h0
     have HE:=qH (show eqB a b=true from decide_eq_true (HD.out.1 rfl));go_wp2_with fail;go_ret
     exact ⟨by rw [HE.out];rfl,HBW.out⟩
    ·have HE:=qH (show eqB a b=false from decide_eq_false (fun h=>h0 (HD.out.2 h)))
     have hdn:¬ d.toNat=0:=fun h=>h0 (UInt8.toNat_inj.1 h);go_wp2_with fail;go_ret
     exact ⟨by rw [HE.out];simp [hdn],HBW.out⟩
   ·have hiz:(i:Int)<(a.size:Int):=by omega
    have hia':i<a.size:=by omega
    have hib':i<b.size:=by omega
    have hor:=or_byte8 d (a[i] ^^^ b[i]);have hxr:=xor_byte a[i] b[i];have hz:=or_zero d a[i] b[i];have HBW:=qH hbw;have HD:=qH hd;clear hbw hd;go_wp2_with fail
    go_quiet (fail)
    go_wp2_with fail;go_roundw
    case rel =>
     refine ⟨i+1,d ||| (a[i] ^^^ b[i]),by omega,by go_num,val_int hor,?_,below_drewN HBW.out _⟩;rw [hz,HD.out];exact (take_eq hia' hib').symm
    case measure=>simp [RowKit.intOf];omega
 ·have hne:eqB a b=false:=decide_eq_false (fun h=>hs (by rw [←hal,←hbl,h]))
  have hs':¬ (a.size:Int)=(b.size:Int):=by omega
  rw [hne];clear hconv hbw0 hne;go_enter Tryz.func176,Tryz.ntmps176;go_wp2_with fail;go_ret
  exact ⟨rfl,Below.refl _ _⟩
theorem alive_any (g:Nat) (m:ByteArray) (c n:Nat) (w:World) (h:RingB w g m c) (hc:c≤1099511627776) (hn:n≤1099511627776):Calls Tryz.prog 209 #[.pointer (some ⟨g,0,none⟩),.int .i64 n] w fun e w'=>e=.returned (.bool (decide (c≤n+2)))∧w'=w:=by
 have c1:w.cell? ⟨g,1,none⟩=_:=h.cell 1;have hlt:=h.lt;simp at c1
 have e1:IntKind.i64.wrap ((c:Int)-2)=(c:Int)-2:=by rw [IntKind.wrap_i64];omega
 have hm:(n:Int)≤1099511627776:=by omega
 clear h
 by_cases hd:c≤n+2
 ·have h1:max 0 ((c:Int)-2)≤(n:Int):=by omega
  have hdd:=qH (decide_eq_true hd);rw [hdd.out];go_enter Tryz.func209,Tryz.ntmps209;go_wp2_with fail;go_ret
  exact ⟨rfl,rfl⟩
 ·have h1:¬ max 0 ((c:Int)-2)≤(n:Int):=by omega
  have hdd:=qH (decide_eq_false hd);rw [hdd.out];go_enter Tryz.func209,Tryz.ntmps209;go_wp2_with fail;go_ret
  exact ⟨rfl,rfl⟩
end mac
end Go.Proofs.YthlahcnglacekaaGreatDoor
