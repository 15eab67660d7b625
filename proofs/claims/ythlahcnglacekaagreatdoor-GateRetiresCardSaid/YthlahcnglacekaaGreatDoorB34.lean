/- Part of GateRetires. -/
import Derived.Test.YthlahcnglacekaaGreatDoorB16
set_option maxRecDepth 100000
set_option maxHeartbeats 16000000
namespace Go.Proofs.YthlahcnglacekaaGreatDoor
namespace regn
open Go Go.RowKit base err wireb wirep writep
section
variable {w:World}
theorem textclo (g c:Nat) (s:ByteArray) (l:List UInt8) (w:World) (h:OutB w g l) (hc:w.cell? ⟨c,0,none⟩=some (.string s)) (hn:s.size≤8192) (hr:l.length+s.size+9≤65536) :
  Calls Tryz.prog 237 #[.pointer (some ⟨g,0,none⟩),.pointer (some ⟨c,0,none⟩)] w (PutB g (l++textW s.data.toList) w):=by
 have H:=qH h;have hlt:=h.lt;clear h;go_enter Tryz.func237,Tryz.ntmps237;go_wp2_with fail;refine (text_b g s l _ H.out hn hr).mono ?_;rintro e w1 h1;obtain ⟨rfl,h2⟩:=h1;have HR:=qH (show PutB g (l++textW s.data.toList) w (.returned noResult) w1 from ⟨rfl,h2⟩);clear h2;go_wp2_with fail;refine bodyPost_end (results_none rfl _ _ _) rfl ?_;exact HR.out
theorem record_text (c k:Nat) (s:ByteArray) (w:World) (hc:w.cell? ⟨c,0,none⟩=some (.string s)) (hcl:c<w.heap.size) (hk:k≤100) (hn:s.size≤8192) :
  Calls Tryz.prog 53 #[.int .i64 k,.func (.func 237) #[] #[.pointer (some ⟨c,0,none⟩)]] w fun e w'=>e=.returned (.string (str (numW k++textW s.data.toList)))∧Below w.heap.size w w':=by
 have hnl:(numW k).length≤9:=by
  have:=numW_len 0 k (by omega);omega
 go_enter Tryz.func53,Tryz.ntmps53;go_wp2_with fail;have ho:OutB (w.alloc (.cells #[.slice none 0 0,.nilIface] 226)) w.heap.size []:=⟨.slice none 0 0,_,Blk.new _ _ _,⟨rfl,.inl ⟨rfl,rfl⟩⟩⟩;have hb:Below w.heap.size w (w.alloc (.cells #[.slice none 0 0,.nilIface] 226)):=below_new _ _;have HO:=qH ho;have HB:=qH hb;clear ho hb;refine (num_b w.heap.size k [] _ HO.out (by omega) (by simp)).mono ?_;rintro e w1 ⟨rfl,ho1,hb1⟩;have HO1:=qH (show OutB w1 w.heap.size (numW k) from ho1);have hb1':=HB.out.trans hb1;have HB1:=qH hb1';have hc1:w1.cell? ⟨c,0,none⟩=some (.string s):=(hb1'.cell (p:=⟨c,0,none⟩) hcl).trans hc;clear hb1 ho1 hb1';go_wp2_with fail;refine (textclo w.heap.size c s (numW k) w1 HO1.out hc1 hn (by omega)).mono ?_;rintro e w2 ⟨rfl,ho2,hb2⟩;have HO2:=qH ho2;have HB2:=qH (HB1.out.trans hb2);clear ho2 hb2;go_wp2_with fail;refine (done_b w.heap.size _ w2 HO2.out).mono ?_;rintro e w3 ⟨rfl,rfl⟩;go_wp2_with fail;go_ret
 exact ⟨rfl,HB2.out⟩
theorem write_record (x:PW) (d:Value) (k:Nat) (w:World) (hd:wire.Nums w w.heap.size d (natI x.d)) (hx:x.Ok) (hk:k≤100) (hl:x.bytes.length≤8192) :
  Calls Tryz.prog 202 #[.int .i64 k,.agg ⟨(x.wr d).cells⟩] w fun e w'=>e=.returned (.string (str (numW k++textW x.bytes)))∧Below w.heap.size w w':=by
 have HE:=qH (encode_b x d (w.alloc (.cells (x.wr d).cells.toArray 188)) ((hd.below (below_new _ _)).more (by simp)));have HB:=qH (below_new w (.cells (x.wr d).cells.toArray 188));have HX:=qH hx;clear hd hx;have hes:(x.wr d).cells=(x.wr d).cells:=rfl;generalize hcs:(x.wr d).cells=cs at *;unfold wire.Wr.cells at hcs;subst hcs;clear hes;go_enter Tryz.func202,Tryz.ntmps202;go_wp2_with fail;refine HE.out.mono ?_;rintro e w1 ⟨s,er,rfl,h1,hb1⟩
 rcases h1 with ⟨_,rfl,rfl⟩|⟨hno,_⟩
 rotate_left
 ·exact absurd HX.out hno
 have HB1:=qH (HB.out.trans (hb1.mono HB.out.size));have hs1:=HB1.out.size;clear hb1;go_wp2_with fail;refine (record_text w1.heap.size k (str x.bytes) _ (Blk.cell (Blk.new w1 9 #[.string (str x.bytes)]) 0) (by simp) hk (by rw [str_size];exact hl)).mono ?_;rintro e w2 ⟨rfl,hb2⟩;have HB2:=qH (HB1.out.trans (((below_new w1 _).trans (hb2.mono (below_new w1 _).size)).mono hs1));clear hb2;rw [str_list];go_wp2_with fail;go_ret
 exact ⟨rfl,HB2.out⟩
end
end regn
namespace wireb
open Go Go.RowKit base rowe err rowc wirep writep claimp
theorem encodeC (x:PC) (d:Value) (w:World) (hd:wire.Nums w w.heap.size d (natI x.cx)) (hok:x.Ok) :
  Calls Tryz.prog 160 #[.agg ⟨x.cells d⟩] w fun e w'=>e=.returned (.tuple #[.string (str x.bytes),.nilIface])∧Below w.heap.size w w':=by
 have hx0:=(Blk.new w 37 (x.cells d).toArray);have hd2:wire.Nums (w.alloc (.cells (x.cells d).toArray 37)) (w.alloc (.cells (x.cells d).toArray 37)).heap.size d (natI x.cx):=(hd.below (below_new _ _)).more (by simp);have hdg:=qH (hd.below (below_new w (.cells (x.cells d).toArray 37)));have HRT:=qH (rightC_ok x d _ hd2 hok);have HX0:=qH hx0;have HB0:=qH (below_new w (.cells (x.cells d).toArray 37));clear hd hd2 hx0;have HOK:=qH hok;obtain ⟨s1,s64,u1,u32,em,im,km,tr⟩:=hok;have hm:maxNum=1099511627776:=rfl;have q1:=numW_len 8 x.ep (by omega);have q2:=numW_len 8 x.is (by omega);have q3:=numW_len 8 x.ke (by omega);have q4:=vecW_len tr;have q5:(textW x.se).length≤80:=by unfold textW;rw [List.length_append];have:=numW_len 0 x.se.length (by omega);omega
 have q6:(textW x.us).length≤80:=by unfold textW;rw [List.length_append];have:=numW_len 0 x.us.length (by omega);omega
 have z1:(str x.se).size≤64:=by rw [str_size];exact s64
 have z2:(str x.us).size≤32:=by rw [str_size];exact u32
 have Htr:=qH tr;have Q:=qH (And.intro q1 (And.intro q2 (And.intro q3 (And.intro q4 (And.intro q5 q6)))));clear q1 q2 q3 q4 q5 q6 tr;unfold PC.cells at *;go_enter Tryz.func160,Tryz.ntmps160;go_wp2_with fail;refine HRT.out.mono ?_;rintro e w1 ⟨rfl,hb1⟩;have hx:=HX0.out.below hb1 (by simp);have hbb:=HB0.out.trans (hb1.mono (by simp));have hlt1:w.heap.size<w1.heap.size:=hx.lt;have Hdg:=qH (hdg.out.below (hb1.mono (by simp)));have Hdg0:=Hdg;have HX:=qH (hx.alloc (.cells #[.slice none 0 0,.nilIface] 226));have HB:=qH (hbb.alloc (by omega) (.cells #[.slice none 0 0,.nilIface] 226));have HO:=qH (show OutB (w1.alloc (.cells #[.slice none 0 0,.nilIface] 226)) w1.heap.size [] from ⟨_,_,Blk.new w1 226 _,OwnB.none _ _⟩);have c0:w1.cell? ⟨w.heap.size,0,none⟩=_:=hx.cell 0;simp at c0
 clear hx hbb hb1 HX0 HRT HB0 hdg;go_wp2_with fail;clear Hdg;have Hdg:=qH (nums_alloc Hdg0.out (.cells #[.slice none 0 0,.nilIface] 226) (Nat.le_of_lt hlt1));refine (text_b w1.heap.size (str x.se) _ _ HO.out (by omega) (by simp only [List.length_nil,str_size];omega)).mono ?_;rintro e w2 ⟨rfl,ho,hb⟩;have hx:=HX.out.below hb hlt1;have hbb:=HB.out.trans (hb.mono (Nat.le_of_lt hlt1));have hdg:=Hdg.out.below (hb.mono (Nat.le_of_lt hlt1));clear HX HB HO Hdg c0;have HX:=qH hx;have HB:=qH hbb
 (try rw [str_list] at ho)
 have HO:=qH ho;have Hdg:=qH hdg;have c0:(w2).cell? ⟨w.heap.size,1,none⟩=_:=hx.cell 1;simp at c0
 clear hx hbb ho hb hdg;go_wp2_with fail;refine (text_b w1.heap.size (str x.us) _ _ HO.out (by omega) (by simp only [List.length_append,List.length_nil,str_size];obtain ⟨q1,q2,q3,q4,q5,q6⟩:=Q.out;omega)).mono ?_;rintro e w3 ⟨rfl,ho,hb⟩;have hx:=HX.out.below hb hlt1;have hbb:=HB.out.trans (hb.mono (Nat.le_of_lt hlt1));have hdg:=Hdg.out.below (hb.mono (Nat.le_of_lt hlt1));clear HX HB HO Hdg c0;have HX:=qH hx;have HB:=qH hbb
 (try rw [str_list] at ho)
 have HO:=qH ho;have Hdg:=qH hdg;have c0:(w3).cell? ⟨w.heap.size,2,none⟩=_:=hx.cell 2;simp at c0
 clear hx hbb ho hb hdg;go_wp2_with fail;refine (num_b w1.heap.size x.ep _ _ HO.out (by omega) (by simp only [List.length_append,List.length_nil];obtain ⟨q1,q2,q3,q4,q5,q6⟩:=Q.out;omega)).mono ?_;rintro e w4 ⟨rfl,ho,hb⟩;have hx:=HX.out.below hb hlt1;have hbb:=HB.out.trans (hb.mono (Nat.le_of_lt hlt1));have hdg:=Hdg.out.below (hb.mono (Nat.le_of_lt hlt1));clear HX HB HO Hdg c0;have HX:=qH hx;have HB:=qH hbb
 (try rw [str_list] at ho)
 have HO:=qH ho;have Hdg:=qH hdg;have c0:(w4).cell? ⟨w.heap.size,3,none⟩=_:=hx.cell 3;simp at c0
 clear hx hbb ho hb hdg;go_wp2_with fail;refine (num_b w1.heap.size x.is _ _ HO.out (by omega) (by simp only [List.length_append,List.length_nil];obtain ⟨q1,q2,q3,q4,q5,q6⟩:=Q.out;omega)).mono ?_;rintro e w5 ⟨rfl,ho,hb⟩;have hx:=HX.out.below hb hlt1;have hbb:=HB.out.trans (hb.mono (Nat.le_of_lt hlt1));have hdg:=Hdg.out.below (hb.mono (Nat.le_of_lt hlt1));clear HX HB HO Hdg c0;have HX:=qH hx;have HB:=qH hbb
 (try rw [str_list] at ho)
 have HO:=qH ho;have Hdg:=qH hdg;have c0:(w5).cell? ⟨w.heap.size,4,none⟩=_:=hx.cell 4;simp at c0
 clear hx hbb ho hb hdg;go_wp2_with fail;refine (num_b w1.heap.size x.ke _ _ HO.out (by omega) (by simp only [List.length_append,List.length_nil];obtain ⟨q1,q2,q3,q4,q5,q6⟩:=Q.out;omega)).mono ?_;rintro e w6 ⟨rfl,ho,hb⟩;have hx:=HX.out.below hb hlt1;have hbb:=HB.out.trans (hb.mono (Nat.le_of_lt hlt1));have hdg:=Hdg.out.below (hb.mono (Nat.le_of_lt hlt1));clear HX HB HO Hdg c0;have HX:=qH hx;have HB:=qH hbb
 (try rw [str_list] at ho)
 have HO:=qH ho;have Hdg:=qH hdg;have c0:(w6).cell? ⟨w.heap.size,5,none⟩=_:=hx.cell 5;simp at c0
 clear hx hbb ho hb hdg;go_wp2_with fail;refine (vec_b w1.heap.size _ d x.cx _ HO.out (Hdg.out.more (by omega)) Htr.out (by simp only [List.length_append,List.length_nil];obtain ⟨q1,q2,q3,q4,q5,q6⟩:=Q.out;omega)).mono ?_;rintro e w7 ⟨rfl,ho,hb⟩;have hx:=HX.out.below hb hlt1;have hbb:=HB.out.trans (hb.mono (Nat.le_of_lt hlt1));have hdg:=Hdg.out.below (hb.mono (Nat.le_of_lt hlt1));clear HX HB HO Hdg c0;have HX:=qH hx;have HB:=qH hbb
 (try rw [str_list] at ho)
 have HO:=qH ho;have Hdg:=qH hdg;have c0:(w7).cell? ⟨w.heap.size,0,none⟩=_:=hx.cell 0;simp at c0
 clear hx hbb ho hb hdg;go_wp2_with fail;refine (done_b w1.heap.size _ _ HO.out).mono ?_;rintro e w8 ⟨rfl,rfl⟩;have HL:∀ l,l=x.bytes→(⟨l.toArray⟩:ByteArray)=str x.bytes:=fun l h=>by rw [h];rfl
 rw [HL _ (by simp [PC.bytes,List.append_assoc])];clear HL;go_wp2_with fail;go_ret2
 exact ⟨rfl,HB.out⟩
end wireb
namespace wireb
open Go Go.RowKit base rowe err rowc wirep writep inp claimp
theorem cells6 {w:World} {g:Nat} {T:TypeId} {a0 a1 a2 a3 a4 a5:Value} (h:Blk w g T #[a0,a1,a2,a3,a4,a5]) :
  w.cell? ⟨g,0,none⟩=some a0∧w.cell? ⟨g,1,none⟩=some a1∧w.cell? ⟨g,2,none⟩=some a2∧w.cell? ⟨g,3,none⟩=some a3∧w.cell? ⟨g,4,none⟩=some a4∧w.cell? ⟨g,5,none⟩=some a5 :=
 ⟨h.cell 0,h.cell 1,h.cell 2,h.cell 3,h.cell 4,h.cell 5⟩
theorem nums_own {w w':World} {base:Nat} {A:Option Addr} {c:Nat} {l:List Nat} (h:OwnN w base (.slice A l.length c) l) (hs:w.heap.size≤w'.heap.size)
  (hk:∀ b o,base≤b→b<w.heap.size→w'.cell? ⟨b,o,none⟩=w.cell? ⟨b,o,none⟩):wire.Nums w' w'.heap.size (.slice A l.length c) (natI l):=by
 have hr:Reads w w.heap.size 1 A l.length ((natI l).map (Value.int .i64)):=Reads.of_own h;refine ⟨A,_,c,rfl,natI_len l,h.few,hr.1,fun hn=>?_⟩;obtain ⟨g,cap,hv,hb,hlt⟩:=World.ownsRow.form h hn;have hA:A=some ⟨g,0,none⟩:=by injection hv
 obtain ⟨b,off,e,_,hc⟩:=hr.2 hn;rw [hA] at e;obtain ⟨rfl,rfl⟩:g=b∧0=off:=by simpa using e
 exact ⟨g,0,hA,by omega,fun j hj=>(hk g (0+j) hb hlt).trans (hc j hj)⟩
def zeroC:List Value:=[.string ⟨#[]⟩,.string ⟨#[]⟩,.int .i64 0,.int .i64 0,.int .i64 0,.slice none 0 0]
theorem own_caps {w:World} {base:Nat} {A:Option Addr} {c:Nat} {l:List Nat} (h:OwnN w base (.slice A l.length c) l):l.length≤c∧c≤maxLen∧(A=none→l.length=0∧c=0):=by
 rcases h.2 with ⟨h0,h1⟩|⟨g,cap,cur,h0,_,_,h3,h4,_⟩
 ·obtain ⟨rfl,_,rfl⟩:=Value.slice.inj h0
  exact ⟨by omega,Nat.zero_le _,fun _=>⟨h1,rfl⟩⟩
 ·obtain ⟨rfl,_,rfl⟩:=Value.slice.inj h0
  exact ⟨h3,h4,fun h=>by cases h⟩
def NumsF (w:World) (lo:Nat) (d:Value) (zs:List Int):Prop:=(∃ A n c,d=.slice A n c∧n≤c∧c≤maxLen∧(A=none→n=0∧c=0)) ∧
 ∀ w',w.heap.size≤w'.heap.size→(∀ b o,lo≤b→b<w.heap.size→w'.cell? ⟨b,o,none⟩=w.cell? ⟨b,o,none⟩)→wire.Nums w' w'.heap.size d zs
theorem NumsF.far {w w':World} {lo lo':Nat} {d:Value} {zs:List Int} (h:NumsF w lo d zs) (hl:lo'≤lo) (hs:w.heap.size≤w'.heap.size) (hk:∀ b o,lo≤b→b<w.heap.size→w'.cell? ⟨b,o,none⟩=w.cell? ⟨b,o,none⟩):NumsF w' lo' d zs :=
 ⟨h.1,fun w'' h1 h2=>h.2 w'' (Nat.le_trans hs h1) fun b o hb hlt=>(h2 b o (Nat.le_trans hl hb) (Nat.lt_of_lt_of_le hlt hs)).trans (hk b o hb hlt)⟩
def DecC (x:PC) (w:World) (e:Ending) (w':World):Prop:=∃ d,e=.returned (.tuple #[.agg ⟨x.cells d⟩,.nilIface])∧NumsF w' w.heap.size d (natI x.cx)∧Below w.heap.size w w'
theorem decodeC (x:PC) (w:World) (hok:x.Ok):Calls Tryz.prog 175 #[.string (str x.bytes)] w (DecC x w):=by
 have hbl:=bytes_len hok;have HOK:=qH hok;obtain ⟨s1,s64,u1,u32,em,im,km,tr⟩:=hok;have hm:maxNum=1099511627776:=rfl;have t1:textI 64 (some (str x.bytes).data.toList)=(x.se,some (textW x.us++(numW x.ep++(numW x.is++(numW x.ke++vecW x.cx))))):=by rw [str_list];exact textI_back _ s64 (by omega)
 have t2:textI 32 (some (textW x.us++(numW x.ep++(numW x.is++(numW x.ke++vecW x.cx)))))=(x.us,some (numW x.ep++(numW x.is++(numW x.ke++vecW x.cx)))):=textI_back _ u32 (by omega);have t3:numI 1099511627776 (some (numW x.ep++(numW x.is++(numW x.ke++vecW x.cx))))=(x.ep,some (numW x.is++(numW x.ke++vecW x.cx))):=numI_back _ em (by omega);have t4:numI 1099511627776 (some (numW x.is++(numW x.ke++vecW x.cx)))=(x.is,some (numW x.ke++vecW x.cx)):=numI_back _ im (by omega);have t5:numI 1099511627776 (some (numW x.ke++vecW x.cx))=(x.ke,some (vecW x.cx)):=numI_back _ km (by omega);have t6:vecI (some (vecW x.cx))=(x.cx,some []):=by have h:=vecI_back [] tr;rwa [List.append_nil] at h
 have hsz:(str x.bytes).size≤maxLen:=by rw [str_size];unfold maxLen;omega
 clear s1 s64 u1 u32 em im km tr hbl;go_enter Tryz.func175,Tryz.ntmps175;go_wp2_with fail;refine (read_in _ _ hsz).mono ?_;rintro e w1 ⟨rfl,h3,h4⟩;have hs1:(w.alloc (.cells zeroC.toArray 37)).heap.size=w.heap.size+1:=by simp
 unfold zeroC at hs1;rw [hs1] at h3 h4;have HRB:=qH ((Blk.new w 37 zeroC.toArray).below (w':=w1) h4 (by omega));have HBB:=qH ((below_new w (.cells zeroC.toArray 37)).trans (h4.mono (by omega)));have HI:=qH h3;clear h3 h4;rw [hs1];clear hs1;obtain ⟨gi,hgi⟩:∃ x,w.heap.size+1=x:=⟨_,rfl⟩;rw [hgi] at HI ⊢;go_wp2_with fail;refine (text_in 64 HI.out).mono ?_;rintro e w2 ⟨rfl,h3,h4⟩;rw [t1] at h3
 (try rw [t1])
 have hr2:=HRB.out.keeps h4 (by omega);have HI:=qH h3;have HRB:=qH hr2;have HBB:=qH (HBB.out.trans (h4.below (B:=w.heap.size) (fun i hi e=>by omega) (by have:=HBB.out.size;omega)));clear h3 hr2 h4;dsimp only;go_wp2_with fail;refine (text_in 32 HI.out).mono ?_;rintro e w3 ⟨rfl,h3,h4⟩;rw [t2] at h3
 (try rw [t2])
 have hr2:=HRB.out.keeps h4 (by omega);have HI:=qH h3;have HRB:=qH hr2;have HBB:=qH (HBB.out.trans (h4.below (B:=w.heap.size) (fun i hi e=>by omega) (by have:=HBB.out.size;omega)));clear h3 hr2 h4;dsimp only;go_wp2_with fail;refine (num_in 1099511627776 HI.out).mono ?_;rintro e w4 ⟨rfl,h3,h4⟩;rw [t3] at h3
 (try rw [t3])
 have hr2:=HRB.out.keeps h4 (by omega);have HI:=qH h3;have HRB:=qH hr2;have HBB:=qH (HBB.out.trans (h4.below (B:=w.heap.size) (fun i hi e=>by omega) (by have:=HBB.out.size;omega)));clear h3 hr2 h4;dsimp only;go_wp2_with fail;refine (num_in 1099511627776 HI.out).mono ?_;rintro e w5 ⟨rfl,h3,h4⟩;rw [t4] at h3
 (try rw [t4])
 have hr2:=HRB.out.keeps h4 (by omega);have HI:=qH h3;have HRB:=qH hr2;have HBB:=qH (HBB.out.trans (h4.below (B:=w.heap.size) (fun i hi e=>by omega) (by have:=HBB.out.size;omega)));clear h3 hr2 h4;dsimp only;go_wp2_with fail;refine (num_in 1099511627776 HI.out).mono ?_;rintro e w6 ⟨rfl,h3,h4⟩;rw [t5] at h3
 (try rw [t5])
 have hr2:=HRB.out.keeps h4 (by omega);have HI:=qH h3;have HRB:=qH hr2;have HBB:=qH (HBB.out.trans (h4.below (B:=w.heap.size) (fun i hi e=>by omega) (by have:=HBB.out.size;omega)));clear h3 hr2 h4;dsimp only;go_wp2_with fail;refine (vec_in HI.out).mono ?_;rintro e w7 ⟨vd,rfl,hd1,h3,h4⟩;rw [t6] at hd1 h3;obtain ⟨Ad,cd,rfl⟩:=hd1.form;dsimp only at hd1 h3 ⊢;have hg7:=HRB.out.lt;have hr7:=HRB.out.keeps h4 (by omega);have hB6:w.heap.size≤w6.heap.size:=HBB.out.size;have HBB7:=qH (HBB.out.trans (h4.below (B:=w.heap.size) (fun i hi e=>by omega) hB6));have HD:=qH hd1.nums;have HOD:=qH hd1;have HL7:=qH (below_new w7 (.cells zeroC.toArray 37));have HI7:=qH (h3.below (below_new w7 (.cells zeroC.toArray 37)));have HR7:=qH (hr7.alloc (.cells zeroC.toArray 37));have HW7:=qH (Blk.new w7 37 zeroC.toArray);have HB7:=qH (HBB7.out.alloc HBB7.out.size (.cells zeroC.toArray 37));have hgl:gi<w7.heap.size:=h3.lt;have hrl:w.heap.size<w7.heap.size:=hr7.lt;clear hd1 h3 h4 hr7 HRB HBB HBB7 HI t1 t2 t3 t4 t5 t6;obtain ⟨wb,hwb⟩:∃ wb,w7.heap.size=wb:=⟨_,rfl⟩;rw [hwb] at HW7 hgl hrl HD HL7
 go_wp2_with (refine wpList_store_blk rfl 37 (.tmp 5) (.tmp 21) rfl wb (x.cells (.slice Ad x.cx.length cd)) (by rw [←hwb];rfl) rfl HW7.out (by kernel_rfl) rfl rfl ?_;intro w8 ho8 hk8 hs8)
 have HW8:=qH ho8;have HI8:=qH (HI7.out.keepsE hk8 (by omega) (fun k cs _ hk e=>by have h1:=HW7.out.ne_ hk (by decide);have h2:k=wb:=e;omega));have HR8:=qH (HR7.out.keeps hk8 (by omega));have HL8:=qH (HL7.out.trans (hk8.below (B:=wb) (fun i hi e=>by omega) (by rw [←hwb];simp)));have HB8:=qH (HB7.out.trans (hk8.below (fun i hi e=>by omega) HB7.out.size));clear ho8 hk8 hs8 HW7 HI7 HR7 HL7 HB7;go_wp2_with fail;refine (end_in HI8.out).mono ?_;rintro e w9 ⟨er,rfl,heo,hb9⟩
 obtain rfl:er=.nilIface:=by
  rcases heo with ⟨_,h⟩|⟨h,_⟩
  ·exact h
  ·exact absurd rfl h
 have HW9:=qH (HW8.out.below hb9 (HW8.out.lt));have HR9:=qH (HR8.out.below hb9 (HR8.out.lt));have HL9:=qH (HL8.out.trans (hb9.mono (by have:=HW8.out.lt;omega)));have HB9:=qH (HB8.out.trans (hb9.mono HB8.out.size));clear heo hb9 HW8 HR8 HL8 HB8 HI8;unfold PC.cells at HW9;obtain ⟨p0,p1,p2,p3,p4,p5⟩:=cells6 HW9.out;have hlt9:=HW9.out.lt;go_wp2_with fail;refine (rightC_ok x (.slice Ad x.cx.length cd) _ ((HD.out.below HL9.out).more (by omega)) HOK.out).mono ?_;rintro e w10 ⟨rfl,hb10⟩;have HW10:=qH (HW9.out.below hb10 HW9.out.lt);have HR10:=qH (HR9.out.below hb10 HR9.out.lt);have HL10:=qH (HL9.out.trans (hb10.mono (by omega)));have HB10:=qH (HB9.out.trans (hb10.mono HB9.out.size));clear p0 p1 p2 p3 p4 p5 hb10 HW9 HR9 HL9 HB9 hlt9;obtain ⟨p0,p1,p2,p3,p4,p5⟩:=cells6 HW10.out;have hlt10:=HW10.out.lt
 go_wp2_with (refine wpList_store_blk rfl 37 (.tmp 2) (.tmp 34) rfl w.heap.size (x.cells (.slice Ad x.cx.length cd)) rfl rfl HR10.out (by kernel_rfl) rfl rfl ?_;intro w11 ho11 hk11 hs11)
 clear p0 p1 p2 p3 p4 p5;unfold PC.cells at ho11;obtain ⟨p0,p1,p2,p3,p4,p5⟩:=cells6 ho11;have HFIN:=qH (show DecC x w (.returned (.tuple #[.agg ⟨x.cells (.slice Ad x.cx.length cd)⟩,.nilIface])) w11 from ⟨_,rfl,⟨⟨_,_,_,rfl,own_caps HOD.out⟩,fun w'' h1 h2=>nums_own HOD.out (by omega) (fun b o hb hlt=>(h2 b o (by omega) (by omega)).trans ((hk11.cell o (by omega) (by omega)).trans (HL10.out.cell (p:=⟨b,o,none⟩) (by show b<wb;omega))))⟩,HB10.out.trans (hk11.below (fun i hi e=>by omega) HB10.out.size)⟩);clear ho11 hk11;exact bodyPost_ret (v:=.tuple #[.agg ⟨x.cells (.slice Ad x.cx.length cd)⟩,.nilIface]) (by unfold PC.cells;simp [results,Tryz.results175,go_sem,p0,p1,p2,p3,p4,p5]) rfl HFIN.out
end wireb
end Go.Proofs.YthlahcnglacekaaGreatDoor
