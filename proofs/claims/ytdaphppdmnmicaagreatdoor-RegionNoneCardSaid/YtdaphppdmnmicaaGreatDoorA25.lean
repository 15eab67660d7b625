/- A part of the proof of RegionNone: WriteM, PartW, OrdW, ScanW, NumR, WRecR, Decode. -/
import Derived.Test.YtdaphppdmnmicaaGreatDoorA17
import Derived.Test.YtdaphppdmnmicaaGreatDoorA14
import Derived.Test.YtdaphppdmnmicaaGreatDoorA16
import Derived.Test.YtdaphppdmnmicaaGreatDoorA01
import Derived.Test.YtdaphppdmnmicaaGreatDoorA02
namespace Go.Proofs.YtdaphppdmnmicaaGreatDoor.wireb
open Go Go.RowKit base rowe err rowc wirep writep
def str (l:List UInt8):ByteArray:=⟨l.toArray⟩
theorem str_list (l:List UInt8):(str l).data.toList=l:=by simp [str]
theorem str_size (l:List UInt8):(str l).size=l.length:=by simp [str,ByteArray.size]
theorem str_of (s:ByteArray):str s.data.toList=s:=by simp [str]
def _root_.Go.Proofs.YtdaphppdmnmicaaGreatDoor.writep.PW.wr (x:PW) (d:Value):wire.Wr:=⟨x.r,x.n,x.t,x.r,d,natI x.d,str x.se,str x.k,str x.v,x.g,x.l⟩
theorem right_pw (x:PW) (d:Value):wire.rightB (x.wr d)=x.right:=by
 have h3:wire.trB (natI x.d) 1099511627776=trN x.d maxNum:=tr_nat x.d 1099511627776
 have h4:((str x.v).toList == [])=decide (x.v=[]):=by
  have:(str x.v).toList=x.v:=ByteArray.toList_mk x.v
  rw [this]
  cases x.v <;> rfl
 have e1:wire.rightB (x.wr d)=wire.rightB ⟨x.r,x.n,x.t,x.r,d,natI x.d,str x.se,str x.k,str x.v,x.g,x.l⟩:=rfl
 rw [e1]
 unfold wire.rightB PW.right
 dsimp only
 simp only [str_size,h3,h4,wire.inB]
 rw [Bool.eq_iff_iff]
 simp only [Bool.and_eq_true,decide_eq_true_eq,beq_self_eq_true,true_and]
 rw [show maxNum=1099511627776 from rfl]
 constructor
 ·rintro ⟨h1,h2,⟨h3,h4⟩,⟨h5,h6⟩,h7,h8,h9,h10,h11,h12,h13,h14⟩
  exact ⟨by omega,by omega,by omega,by omega,by omega,by omega,h7,by omega,by omega,by omega,by omega,h12,by omega⟩
 ·rintro ⟨h1,h2,h3,h4,h5,h6,h7,h8,h9,h10,h11,h12,h13⟩
  exact ⟨by omega,by omega,⟨by omega,by omega⟩,⟨by omega,by omega⟩,h7,by omega,by omega,by omega,by omega,h12,by omega,by omega⟩
theorem nums_alloc {w:World} {B:Nat} {d:Value} {zs:List Int} (h:wire.Nums w B d zs) (o:Obj) (hB:B≤w.heap.size):wire.Nums (w.alloc o) B d zs:=h.below ((Below.refl _ _).alloc hB o)
def EncB (x:PW) (w:World) (e:Ending) (w':World):Prop:=∃ s er,e=.returned (.tuple #[.string s,er])∧((x.Ok∧s=str x.bytes∧er=.nilIface) ∨ (¬ x.Ok∧s=str []∧EO w' er 1))∧Below w.heap.size w w'
set_option maxRecDepth 100000 in
set_option maxHeartbeats 2000000 in
theorem encode_b (x:PW) (d:Value) (w:World) (hd:wire.Nums w w.heap.size d (natI x.d)) :
  Calls Tryz.prog 204 #[.agg ⟨(x.wr d).cells⟩] w (EncB x w):=by
 have hx0:=(Blk.new w 34 (x.wr d).cells.toArray)
 have hd2:wire.Nums (w.alloc (.cells (x.wr d).cells.toArray 34)) (w.alloc (.cells (x.wr d).cells.toArray 34)).heap.size d (natI x.d):=(hd.below (below_new _ _)).more (by simp)
 have hdg:=Lib.hid (hd.below (below_new w (.cells (x.wr d).cells.toArray 34)))
 have hb0:=below_new w (.cells (x.wr d).cells.toArray 34)
 have Hrt:=Lib.hid (right_pw x d)
 clear hd
 have HX0:=Lib.hid hx0
 have HD2:=Lib.hid hd2
 have HB0:=Lib.hid hb0
 clear hx0 hd2 hb0
 by_cases hok:x.Ok
 ·have HOK:=Lib.hid hok
  have hrt:=(PW.right_iff x).2 hok
  rw [hrt] at Hrt
  obtain ⟨r1,r16,n1,nm,t1,tm,tr,s1,s64,k32,v128,gv,lm⟩:=hok
  have hm:maxNum=1099511627776:=rfl
  have q1:=numW_len 8 x.r (by omega)
  have q2:=numW_len 8 x.n (by omega)
  have q3:=numW_len 8 x.t (by omega)
  have q4:=vecW_len tr
  have q5:(textW x.se).length≤80:=by unfold textW;rw [List.length_append];have:=numW_len 0 x.se.length (by omega);omega
  have q6:(textW x.k).length≤80:=by unfold textW;rw [List.length_append];have:=numW_len 0 x.k.length (by omega);omega
  have q7:=numW_len 0 x.g.toNat (by cases x.g <;> decide)
  have q8:(textW x.v).length≤140:=by unfold textW;rw [List.length_append];have:=numW_len 1 x.v.length (by omega);omega
  have z1:(str x.se).size≤64:=by rw [str_size];exact s64
  have z2:(str x.k).size≤32:=by rw [str_size];exact k32
  have z3:(str x.v).size≤128:=by rw [str_size];exact v128
  have Htr:=Lib.hid tr
  have Q:=Lib.hid (And.intro q1 (And.intro q2 (And.intro q3 (And.intro q4 (And.intro q5 (And.intro q6 (And.intro q7 q8)))))))
  clear hrt q1 q2 q3 q4 q5 q6 q7 q8 tr gv
  have hrt:=Hrt.out
  unfold PW.wr wire.Wr.cells at *
  dsimp only at *
  go_enter Tryz.func204,Tryz.ntmps204
  go_wp2_with fail
  refine (wire.right_any ⟨x.r,x.n,x.t,x.r,d,natI x.d,str x.se,str x.k,str x.v,x.g,x.l⟩ _ HD2.out).mono ?_
  rintro e w1 ⟨rfl,hb1⟩
  rw [hrt]
  have hx:=HX0.out.below hb1 (by simp)
  have hbb:=HB0.out.trans (hb1.mono (by simp))
  have hlt1:w.heap.size < w1.heap.size:=hx.lt
  have Hdg:=Lib.hid (hdg.out.below (hb1.mono (by simp)))
  have Hdg0:=Hdg
  have HX:=Lib.hid (hx.alloc (.cells #[.slice none 0 0,.nilIface] 367))
  have HB:=Lib.hid (hbb.alloc (by omega) (.cells #[.slice none 0 0,.nilIface] 367))
  have HO:=Lib.hid (show OutB (w1.alloc (.cells #[.slice none 0 0,.nilIface] 367)) w1.heap.size [] from ⟨_,_,Blk.new w1 367 _,OwnB.none _ _⟩)
  have c0:w1.cell? ⟨w.heap.size,0,none⟩=_:=hx.cell 0
  simp at c0
  clear hx hbb hb1 HX0 HD2 HB0 hdg hrt Hrt
  go_wp2_with fail
  clear Hdg
  have Hdg:=Lib.hid (nums_alloc Hdg0.out (.cells #[.slice none 0 0,.nilIface] 367) (Nat.le_of_lt hlt1))
  refine (num_b w1.heap.size x.r _ _ HO.out (by omega) (by simp)).mono ?_
  rintro e w2 ⟨rfl,ho,hb⟩
  have hx:=HX.out.below hb hlt1
  have hbb:=HB.out.trans (hb.mono (Nat.le_of_lt hlt1))
  have hdg:=Hdg.out.below (hb.mono (Nat.le_of_lt hlt1))
  clear HX HB HO Hdg c0
  have HX:=Lib.hid hx
  have HB:=Lib.hid hbb
  (try rw [str_list] at ho)
  have HO:=Lib.hid ho
  have Hdg:=Lib.hid hdg
  have c0:(w2).cell? ⟨w.heap.size,1,none⟩=_:=hx.cell 1
  simp at c0
  clear hx hbb ho hb hdg
  go_wp2_with fail
  refine (num_b w1.heap.size x.n _ _ HO.out (by omega) (by simp only [List.length_append,List.length_nil];obtain ⟨q1,q2,q3,q4,q5,q6,q7,q8⟩:=Q.out;omega)).mono ?_
  rintro e w3 ⟨rfl,ho,hb⟩
  have hx:=HX.out.below hb hlt1
  have hbb:=HB.out.trans (hb.mono (Nat.le_of_lt hlt1))
  have hdg:=Hdg.out.below (hb.mono (Nat.le_of_lt hlt1))
  clear HX HB HO Hdg c0
  have HX:=Lib.hid hx
  have HB:=Lib.hid hbb
  (try rw [str_list] at ho)
  have HO:=Lib.hid ho
  have Hdg:=Lib.hid hdg
  have c0:(w3).cell? ⟨w.heap.size,2,none⟩=_:=hx.cell 2
  simp at c0
  clear hx hbb ho hb hdg
  go_wp2_with fail
  refine (num_b w1.heap.size x.t _ _ HO.out (by omega) (by simp only [List.length_append,List.length_nil];obtain ⟨q1,q2,q3,q4,q5,q6,q7,q8⟩:=Q.out;omega)).mono ?_
  rintro e w4 ⟨rfl,ho,hb⟩
  have hx:=HX.out.below hb hlt1
  have hbb:=HB.out.trans (hb.mono (Nat.le_of_lt hlt1))
  have hdg:=Hdg.out.below (hb.mono (Nat.le_of_lt hlt1))
  clear HX HB HO Hdg c0
  have HX:=Lib.hid hx
  have HB:=Lib.hid hbb
  (try rw [str_list] at ho)
  have HO:=Lib.hid ho
  have Hdg:=Lib.hid hdg
  have c0:(w4).cell? ⟨w.heap.size,4,none⟩=_:=hx.cell 4
  simp at c0
  clear hx hbb ho hb hdg
  go_wp2_with fail
  refine (vec_b w1.heap.size _ d x.d _ HO.out (Hdg.out.more (by omega)) Htr.out (by simp only [List.length_append,List.length_nil];obtain ⟨q1,q2,q3,q4,q5,q6,q7,q8⟩:=Q.out;omega)).mono ?_
  rintro e w5 ⟨rfl,ho,hb⟩
  have hx:=HX.out.below hb hlt1
  have hbb:=HB.out.trans (hb.mono (Nat.le_of_lt hlt1))
  have hdg:=Hdg.out.below (hb.mono (Nat.le_of_lt hlt1))
  clear HX HB HO Hdg c0
  have HX:=Lib.hid hx
  have HB:=Lib.hid hbb
  (try rw [str_list] at ho)
  have HO:=Lib.hid ho
  have Hdg:=Lib.hid hdg
  have c0:(w5).cell? ⟨w.heap.size,5,none⟩=_:=hx.cell 5
  simp at c0
  clear hx hbb ho hb hdg
  go_wp2_with fail
  refine (text_b w1.heap.size (str x.se) _ _ HO.out (by omega) (by simp only [List.length_append,List.length_nil,str_size];obtain ⟨q1,q2,q3,q4,q5,q6,q7,q8⟩:=Q.out;omega)).mono ?_
  rintro e w6 ⟨rfl,ho,hb⟩
  have hx:=HX.out.below hb hlt1
  have hbb:=HB.out.trans (hb.mono (Nat.le_of_lt hlt1))
  have hdg:=Hdg.out.below (hb.mono (Nat.le_of_lt hlt1))
  clear HX HB HO Hdg c0
  have HX:=Lib.hid hx
  have HB:=Lib.hid hbb
  (try rw [str_list] at ho)
  have HO:=Lib.hid ho
  have Hdg:=Lib.hid hdg
  have c0:(w6).cell? ⟨w.heap.size,6,none⟩=_:=hx.cell 6
  simp at c0
  clear hx hbb ho hb hdg
  go_wp2_with fail
  refine (text_b w1.heap.size (str x.k) _ _ HO.out (by omega) (by simp only [List.length_append,List.length_nil,str_size];obtain ⟨q1,q2,q3,q4,q5,q6,q7,q8⟩:=Q.out;omega)).mono ?_
  rintro e w7 ⟨rfl,ho,hb⟩
  have hx:=HX.out.below hb hlt1
  have hbb:=HB.out.trans (hb.mono (Nat.le_of_lt hlt1))
  have hdg:=Hdg.out.below (hb.mono (Nat.le_of_lt hlt1))
  clear HX HB HO Hdg c0
  have HX:=Lib.hid hx
  have HB:=Lib.hid hbb
  (try rw [str_list] at ho)
  have HO:=Lib.hid ho
  have Hdg:=Lib.hid hdg
  have c0:(w7).cell? ⟨w.heap.size,8,none⟩=_:=hx.cell 8
  simp at c0
  clear hx hbb ho hb hdg
  go_wp2_with fail
  refine (flag_b w1.heap.size x.g _ _ HO.out (by simp only [List.length_append,List.length_nil];obtain ⟨q1,q2,q3,q4,q5,q6,q7,q8⟩:=Q.out;omega)).mono ?_
  rintro e w8 ⟨rfl,ho,hb⟩
  have hx:=HX.out.below hb hlt1
  have hbb:=HB.out.trans (hb.mono (Nat.le_of_lt hlt1))
  have hdg:=Hdg.out.below (hb.mono (Nat.le_of_lt hlt1))
  clear HX HB HO Hdg c0
  have HX:=Lib.hid hx
  have HB:=Lib.hid hbb
  (try rw [str_list] at ho)
  have HO:=Lib.hid ho
  have Hdg:=Lib.hid hdg
  have c0:(w8).cell? ⟨w.heap.size,7,none⟩=_:=hx.cell 7
  simp at c0
  clear hx hbb ho hb hdg
  go_wp2_with fail
  refine (text_b w1.heap.size (str x.v) _ _ HO.out (by omega) (by simp only [List.length_append,List.length_nil,str_size];obtain ⟨q1,q2,q3,q4,q5,q6,q7,q8⟩:=Q.out;omega)).mono ?_
  rintro e w9 ⟨rfl,ho,hb⟩
  have hx:=HX.out.below hb hlt1
  have hbb:=HB.out.trans (hb.mono (Nat.le_of_lt hlt1))
  have hdg:=Hdg.out.below (hb.mono (Nat.le_of_lt hlt1))
  clear HX HB HO Hdg c0
  have HX:=Lib.hid hx
  have HB:=Lib.hid hbb
  (try rw [str_list] at ho)
  have HO:=Lib.hid ho
  have Hdg:=Lib.hid hdg
  have c0:(w9).cell? ⟨w.heap.size,9,none⟩=_:=hx.cell 9
  simp at c0
  clear hx hbb ho hb hdg
  go_wp2_with fail
  refine (num_b w1.heap.size x.l _ _ HO.out (by omega) (by simp only [List.length_append,List.length_nil];obtain ⟨q1,q2,q3,q4,q5,q6,q7,q8⟩:=Q.out;omega)).mono ?_
  rintro e w10 ⟨rfl,ho,hb⟩
  have hx:=HX.out.below hb hlt1
  have hbb:=HB.out.trans (hb.mono (Nat.le_of_lt hlt1))
  have hdg:=Hdg.out.below (hb.mono (Nat.le_of_lt hlt1))
  clear HX HB HO Hdg c0
  have HX:=Lib.hid hx
  have HB:=Lib.hid hbb
  (try rw [str_list] at ho)
  have HO:=Lib.hid ho
  have Hdg:=Lib.hid hdg
  have c0:(w10).cell? ⟨w.heap.size,0,none⟩=_:=hx.cell 0
  simp at c0
  clear hx hbb ho hb hdg
  go_wp2_with fail
  refine (done_b w1.heap.size _ _ HO.out).mono ?_
  rintro e w11 ⟨rfl,rfl⟩
  have HR:=Lib.hid (show EncB x w (.returned (.tuple #[.string (str x.bytes),.nilIface])) w11 from ⟨_,_,rfl,.inl ⟨HOK.out,rfl,rfl⟩,HB.out⟩)
  have HL:∀ l,l=x.bytes→(⟨l.toArray⟩:ByteArray)=str x.bytes:=fun l h=>by rw [h];rfl
  rw [HL _ (by simp [PW.bytes,List.append_assoc])]
  clear HL
  go_wp2
  exact bodyPost_ret (v:=.tuple #[.string (str x.bytes),.nilIface]) (by simp [results,Tryz.results204,go_sem]) rfl HR.out
 ·have hrt:x.right=false:=by
   cases h:x.right with
   | false=>rfl
   | true=>exact absurd ((PW.right_iff x).1 h) hok
  rw [hrt] at Hrt
  have HOK:=Lib.hid hok
  clear hok hrt
  have hrt:=Hrt.out
  unfold PW.wr wire.Wr.cells at *
  dsimp only at *
  go_enter Tryz.func204,Tryz.ntmps204
  go_wp2_with fail
  refine (wire.right_any ⟨x.r,x.n,x.t,x.r,d,natI x.d,str x.se,str x.k,str x.v,x.g,x.l⟩ _ HD2.out).mono ?_
  rintro e w1 ⟨rfl,hb1⟩
  rw [hrt]
  have HB:=Lib.hid (HB0.out.trans (hb1.mono (by simp)))
  clear hb1 hrt
  go_wp2_with fail
  refine (Go.Proofs.YtdaphppdmnmicaaGreatDoor.err.at_any _ _ 1 _).mono ?_
  rintro e w2 ⟨ve,rfl,he,hne,hb2,_⟩
  have HR:=Lib.hid (show EncB x w (.returned (.tuple #[.string ⟨#[]⟩,ve])) w2 from ⟨_,_,rfl,.inr ⟨HOK.out,rfl,.inr ⟨by decide,he,hne⟩⟩,HB.out.trans (hb2.mono HB.out.size)⟩)
  clear he hne hb2
  go_wp2
  exact bodyPost_ret (v:=.tuple #[.string ⟨#[]⟩,ve]) (by simp [results,Tryz.results204,go_sem]) rfl HR.out
end Go.Proofs.YtdaphppdmnmicaaGreatDoor.wireb
namespace Go.Proofs.YtdaphppdmnmicaaGreatDoor.jrn
open Go Go.RowKit Go.Lib base rowe err rowc wirep framep wireb framew jrnp inp writep
def pcells (p:Part):List Value:=[.int .i64 p.kind,.int .i64 p.gen,.int .i64 p.place,.string (str p.text)]
set_option maxRecDepth 10000 in
set_option maxHeartbeats 1600000 in
theorem part_seal (p:Part) (h:p.Ok) (w:World):Calls Tryz.prog 158 #[.agg ⟨pcells p⟩] w fun e w'=>e=.returned (.string (str p.sealed))∧Below w.heap.size w w':=by
 obtain ⟨k1,k4,g1,g2,pl,tx,rc⟩:=id h
 have q1:=numW_len 8 p.kind (by omega)
 have q2:=numW_len 8 p.gen (by omega)
 have q3:=numW_len 8 p.place (by omega)
 have z1:(str p.text).size≤4096:=by rw [str_size];exact tx
 have HBY:=Lib.hid (show [] ++ numW p.kind ++ numW p.gen ++ numW p.place ++ textW p.text=p.bytes from by simp [Part.bytes])
 have hbl:=jrnp.bytes_len h
 have HS:=Lib.hid (show p.sealed=sealF p.bytes from rfl)
 have hx0:=(Blk.new w 184 (pcells p).toArray).alloc (.cells #[.slice none 0 0,.nilIface] 367)
 have hb0:=below_alloc (below_new w (.cells (pcells p).toArray 184)) (.cells #[.slice none 0 0,.nilIface] 367)
 have ho0:OutB ((w.alloc (.cells (pcells p).toArray 184)).alloc (.cells #[.slice none 0 0,.nilIface] 367)) (w.alloc (.cells (pcells p).toArray 184)).heap.size []:=⟨_,_,Blk.new _ 367 _,OwnB.none _ _⟩
 have hs1:(w.alloc (.cells (pcells p).toArray 184)).heap.size=w.heap.size + 1:=by simp
 rw [hs1] at ho0
 have HX:=Lib.hid hx0
 have HB:=Lib.hid hb0
 have HO:=Lib.hid ho0
 have hlt1:w.heap.size < w.heap.size + 1:=Nat.lt_succ_self _
 clear hx0 hb0 ho0 hs1 h rc
 generalize p.bytes=by_ at *
 generalize p.sealed=se at *
 unfold pcells at *
 have c0:((w.alloc (.cells #[.int .i64 p.kind,.int .i64 p.gen,.int .i64 p.place,.string (str p.text)] 184)).alloc (.cells #[.slice none 0 0,.nilIface] 367)).cell? ⟨w.heap.size,0,none⟩=_:=HX.out.cell 0
 simp at c0
 go_enter Tryz.func158,Tryz.ntmps158
 go_wp2_with fail
 refine (num_b (w.heap.size + 1) p.kind _ _ HO.out (by omega) (by simp)).mono ?_
 rintro e w2 ⟨rfl,ho,hb⟩
 have hx:=HX.out.below hb hlt1
 have hbb:=HB.out.trans (hb.mono (Nat.le_of_lt hlt1))
 clear HX HB HO c0
 (try rw [str_list] at ho)
 have HX:=Lib.hid hx
 have HB:=Lib.hid hbb
 have HO:=Lib.hid ho
 have c0:(w2).cell? ⟨w.heap.size,1,none⟩=_:=hx.cell 1
 simp at c0
 clear hx hbb ho hb
 go_wp2_with fail
 refine (num_b (w.heap.size + 1) p.gen _ _ HO.out (by omega) (by simp only [List.length_append,List.length_nil];omega)).mono ?_
 rintro e w3 ⟨rfl,ho,hb⟩
 have hx:=HX.out.below hb hlt1
 have hbb:=HB.out.trans (hb.mono (Nat.le_of_lt hlt1))
 clear HX HB HO c0
 (try rw [str_list] at ho)
 have HX:=Lib.hid hx
 have HB:=Lib.hid hbb
 have HO:=Lib.hid ho
 have c0:(w3).cell? ⟨w.heap.size,2,none⟩=_:=hx.cell 2
 simp at c0
 clear hx hbb ho hb
 go_wp2_with fail
 refine (num_b (w.heap.size + 1) p.place _ _ HO.out (by omega) (by simp only [List.length_append,List.length_nil];omega)).mono ?_
 rintro e w4 ⟨rfl,ho,hb⟩
 have hx:=HX.out.below hb hlt1
 have hbb:=HB.out.trans (hb.mono (Nat.le_of_lt hlt1))
 clear HX HB HO c0
 (try rw [str_list] at ho)
 have HX:=Lib.hid hx
 have HB:=Lib.hid hbb
 have HO:=Lib.hid ho
 have c0:(w4).cell? ⟨w.heap.size,3,none⟩=_:=hx.cell 3
 simp at c0
 clear hx hbb ho hb
 go_wp2_with fail
 refine (text_b (w.heap.size + 1) (str p.text) _ _ HO.out (by omega) (by simp only [List.length_append,List.length_nil];omega)).mono ?_
 rintro e w5 ⟨rfl,ho,hb⟩
 have hx:=HX.out.below hb hlt1
 have hbb:=HB.out.trans (hb.mono (Nat.le_of_lt hlt1))
 clear HX HB HO c0
 (try rw [str_list] at ho)
 have HX:=Lib.hid hx
 have HB:=Lib.hid hbb
 have HO:=Lib.hid ho
 have c0:(w5).cell? ⟨w.heap.size,0,none⟩=_:=hx.cell 0
 simp at c0
 clear hx hbb ho hb
 go_wp2_with fail
 have ho:=HO.out
 rw [HBY.out] at ho
 have HO:=Lib.hid ho
 clear ho
 refine (done_b (w.heap.size + 1) by_ _ HO.out).mono ?_
 rintro e w6 ⟨rfl,rfl⟩
 go_wp2_with fail
 refine (seal_f ⟨by_.toArray⟩ (by show by_.toArray.size≤8192;simp;omega) _).mono ?_
 rintro e w7 ⟨rfl,hb7⟩
 have hsz:=HB.out.size
 have HB7:=Lib.hid (HB.out.trans (hb7.mono hsz))
 rw [show (⟨by_.toArray⟩:ByteArray).data.toList=by_ from by simp,← HS.out]
 clear hb7
 go_wp2_with fail
 go_ret
 exact ⟨rfl,HB7.out⟩
theorem cells4 {w:World} {g:Nat} {T:TypeId} {a0 a1 a2 a3:Value} (h:Blk w g T #[a0,a1,a2,a3]) :
  w.cell? ⟨g,0,none⟩=some a0∧w.cell? ⟨g,1,none⟩=some a1∧w.cell? ⟨g,2,none⟩=some a2∧w.cell? ⟨g,3,none⟩=some a3:=⟨h.cell 0,h.cell 1,h.cell 2,h.cell 3⟩
def PartR (p:Part) (next:Nat) (w:World) (e:Ending) (w':World):Prop:=e=.returned (.tuple #[.agg ⟨pcells p⟩,.int .i64 next,.bool true])∧Below w.heap.size w w'
theorem inb_setP {w:World} {g b:Nat} {s:ByteArray} {st:Rd} {cs:Array Value} (h:InB w g s st) (hb:Blk w b 184 cs) (hg:g ≠ b) (i:Nat) (v:Value):InB (w.setCell ⟨b,i,none⟩ v) g s st :=
 h.keepsE (Keeps.set1 w b i v) (fun e=>hg e) (fun k cs _ hk e=>by have h1:=hb.ne_ hk (by decide);have h2:k=b:=e;omega)
set_option maxRecDepth 10000 in
set_option maxHeartbeats 1600000 in
theorem part_open (s:ByteArray) (at_:Nat) (p:Part) (r:List UInt8) (h:p.Ok) (hs:s.size≤1048576) (hd:s.data.toList.drop at_=p.sealed ++ r) (w:World) :
  Calls Tryz.prog 155 #[.string s,.int .i64 at_] w (PartR p (at_ + p.sealed.length) w):=by
 obtain ⟨k1,k4,g1,g2,pl,tx,rc⟩:=id h
 have hbl:=jrnp.bytes_len h
 have hal:at_ + p.sealed.length≤1048576:=by
  have:=congrArg List.length hd
  rw [List.length_drop,List.length_append] at this
  have h2:s.data.toList.length=s.size:=rfl
  have:=seal_pos p
  omega
 have HO:=Lib.hid (fun w=>open_f s at_ p.bytes r w hs (by omega) hd)
 rw [show (sealF p.bytes).length=p.sealed.length from rfl] at HO
 have hm:maxNum=1099511627776:=rfl
 obtain ⟨by_,hby⟩:∃ x,p.bytes=x:=⟨_,rfl⟩
 have e1:numI 4 (some by_)=(p.kind,some (numW p.gen ++ (numW p.place ++ textW p.text))):=by rw [← hby];exact numI_back _ k4 (by omega)
 have e2:numI 1099511627776 (some (numW p.gen ++ (numW p.place ++ textW p.text)))=(p.gen,some (numW p.place ++ textW p.text)):=numI_back _ g2 (by omega)
 have e3:numI 1099511627776 (some (numW p.place ++ textW p.text))=(p.place,some (textW p.text)):=numI_back _ pl (by omega)
 have e4:textI 4096 (some (textW p.text))=(p.text,some []):=by have:=textI_back (most:=4096) (s:=p.text) [] tx (by omega);rwa [List.append_nil] at this
 have HRC:=Lib.hid (show p.kind ≠ 2→str p.text=⟨#[]⟩ from fun hk=>by
  rw [rc.resolve_left hk]
  rfl)
 rw [hby] at HO hbl
 generalize at_ + p.sealed.length=nx at *
 clear hd h rc hby
 go_enter Tryz.func155,Tryz.ntmps155
 go_wp2_with fail
 refine (HO.out _).mono ?_
 rintro e w1 ⟨rfl,hb1⟩
 have hs1:(w.alloc (.cells #[.int .i64 0,.int .i64 0,.int .i64 0,.string ⟨#[]⟩] 184)).heap.size=w.heap.size + 1:=by simp
 have HRB:=Lib.hid ((Blk.new w 184 #[.int .i64 0,.int .i64 0,.int .i64 0,.string ⟨#[]⟩]).below hb1 (by omega))
 have HBB:=Lib.hid ((below_new w (.cells #[.int .i64 0,.int .i64 0,.int .i64 0,.string ⟨#[]⟩] 184)).trans (hb1.mono (by omega)))
 clear hb1 HO hs1
 go_wp2_with fail
 refine (read_in _ ⟨by_.toArray⟩ (by show by_.toArray.size≤maxLen;unfold maxLen;simp;omega)).mono ?_
 rintro e w2 ⟨rfl,h3,h4⟩
 rw [show (⟨by_.toArray⟩:ByteArray).data.toList=by_ from by simp] at h3
 have hlr:=HRB.out.lt
 obtain ⟨gi,hgi⟩:∃ x,w1.heap.size=x:=⟨_,rfl⟩
 have HRB:=Lib.hid (HRB.out.below h4 hlr)
 have HBB:=Lib.hid (HBB.out.trans (h4.mono (by omega)))
 rw [hgi] at h3 ⊢
 have HI:=Lib.hid h3
 clear h3 h4
 go_wp2_with fail
 refine (num_in 4 HI.out).mono ?_
 rintro e w3 ⟨rfl,h3,h4⟩
 rw [e1] at h3 ⊢
 have hr2:=HRB.out.keeps h4 (by omega)
 have HI:=Lib.hid h3
 have HRB:=Lib.hid hr2
 have HBB:=Lib.hid (HBB.out.trans (h4.below (B:=w.heap.size) (fun i hi e=>by omega) (by have:=HBB.out.size;omega)))
 clear h3 hr2 h4
 go_wp2_with fail
 refine (num_in 1099511627776 HI.out).mono ?_
 rintro e w4 ⟨rfl,h3,h4⟩
 rw [e2] at h3 ⊢
 have hr2:=HRB.out.keeps h4 (by omega)
 have HI:=Lib.hid h3
 have HRB:=Lib.hid hr2
 have HBB:=Lib.hid (HBB.out.trans (h4.below (B:=w.heap.size) (fun i hi e=>by omega) (by have:=HBB.out.size;omega)))
 clear h3 hr2 h4
 go_wp2_with fail
 refine (num_in 1099511627776 HI.out).mono ?_
 rintro e w5 ⟨rfl,h3,h4⟩
 rw [e3] at h3 ⊢
 have hr2:=HRB.out.keeps h4 (by omega)
 have HI:=Lib.hid h3
 have HRB:=Lib.hid hr2
 have HBB:=Lib.hid (HBB.out.trans (h4.below (B:=w.heap.size) (fun i hi e=>by omega) (by have:=HBB.out.size;omega)))
 clear h3 hr2 h4
 go_wp2_with fail
 obtain ⟨wb,hwb⟩:∃ x,w5.heap.size=x:=⟨_,rfl⟩
 have hgb:gi < wb:=by have:=HI.out.lt;omega
 have HWn:=Lib.hid (Blk.new w5 184 #[.int .i64 p.kind,.int .i64 p.gen,.int .i64 p.place,.string ⟨#[]⟩])
 have HIn:=Lib.hid (HI.out.below (below_new w5 (.cells #[.int .i64 p.kind,.int .i64 p.gen,.int .i64 p.place,.string ⟨#[]⟩] 184)))
 have HRn:=Lib.hid (HRB.out.alloc (.cells #[.int .i64 p.kind,.int .i64 p.gen,.int .i64 p.place,.string ⟨#[]⟩] 184))
 have HBn:=Lib.hid (below_alloc HBB.out (.cells #[.int .i64 p.kind,.int .i64 p.gen,.int .i64 p.place,.string ⟨#[]⟩] 184))
 clear HI HRB HBB
 rw [hwb] at HWn ⊢
 generalize w5.alloc (.cells #[.int .i64 p.kind,.int .i64 p.gen,.int .i64 p.place,.string ⟨#[]⟩] 184)=w6 at *
 have HI:=HIn
 have HRB:=HRn
 have HBB:=HBn
 clear HIn HRn HBn
 refine (text_in 4096 HI.out).mono ?_
 rintro e w7 ⟨rfl,h3,h4⟩
 rw [e4] at h3 ⊢
 have hw2:=HWn.out.keeps h4 (by omega)
 have hr2:=HRB.out.keeps h4 (by omega)
 have hb2:=HBB.out.trans (h4.below (B:=w.heap.size) (fun i hi e=>by omega) (by have:=HBB.out.size;omega))
 have c3:w7.cell? ⟨wb,3,none⟩=_:=hw2.cell 3
 have f3:=hw2.frozen 3
 have hwl:=hw2.lt
 simp at c3
 have hi3:=inb_setP (st:=some []) h3 hw2 (by omega) 3 (.string (str p.text))
 have hw3:Blk (w7.setCell ⟨wb,3,none⟩ (.string (str p.text))) wb 184 (pcells p).toArray:=hw2.set_ 3 (.string (str p.text))
 have hr3:=hr2.far (p:=⟨wb,3,none⟩) (by simp;omega) (.string (str p.text))
 have hb3:=hb2.trans ((Keeps.set1 w7 wb 3 (.string (str p.text))).below (B:=w.heap.size) (fun i hi e=>by omega) (by have:=hb2.size;omega))
 have HI:=Lib.hid hi3
 have HW:=Lib.hid hw3
 have HRB:=Lib.hid hr3
 have HBB:=Lib.hid hb3
 clear h3 h4 hw2 hr2 hb2 hi3 hw3 hr3 hb3 HWn
 go_wp2_with fail
 clear c3 f3 hwl
 have es:(⟨p.text.toArray⟩:ByteArray)=str p.text:=rfl
 rw [es]
 generalize w7.setCell ⟨wb,3,none⟩ (.string (str p.text))=w8 at *
 refine (end_in HI.out).mono ?_
 rintro ee w9 ⟨er,rfl,heo,hb9⟩
 obtain rfl:er=.nilIface:=by
  rcases heo with ⟨_,h⟩|⟨h,_⟩
  ·exact h
  ·exact absurd rfl h
 have HW:=Lib.hid (HW.out.below hb9 HW.out.lt)
 have HRB:=Lib.hid (HRB.out.below hb9 HRB.out.lt)
 have HBB:=Lib.hid (HBB.out.trans (hb9.mono HBB.out.size))
 clear heo hb9 HI
 obtain ⟨p0,p1,p2,p3⟩:=cells4 HW.out
 have dk:decide ((p.kind:Int) < 1)=false:=decide_eq_false (by omega)
 have dg:decide ((p.gen:Int) < 1)=false:=decide_eq_false (by omega)
 have n1:¬ p.kind=0:=by omega
 have n2:¬ p.gen=0:=by omega
 by_cases hk2:p.kind=2
 ·have d2:((p.kind:Int) != 2)=false:=by simp;omega
  clear hk2
  go_wp2_with (refine wpList_store_blk rfl 184 (.tmp 4) (.tmp 60) rfl w.heap.size (pcells p) rfl rfl HRB.out (by kernel_rfl) rfl rfl ?_;intro w10 ho4 hk4 hs4)
  clear p0 p1 p2 p3
  obtain ⟨p0,p1,p2,p3⟩:=cells4 ho4
  have HR:=Lib.hid (show PartR p nx w (.returned (.tuple #[.agg ⟨pcells p⟩,.int .i64 nx,.bool true])) w10 from ⟨rfl,HBB.out.trans (hk4.below (fun i hi e=>by omega) HBB.out.size)⟩)
  clear ho4 hk4
  exact bodyPost_ret (v:=.tuple #[.agg ⟨pcells p⟩,.int .i64 nx,.bool true]) (by unfold pcells;simp [results,Tryz.results155,go_sem,p0,p1,p2,p3]) rfl HR.out
 ·have d2:((p.kind:Int) != 2)=true:=by simp;omega
  have ht:=HRC.out hk2
  have hpc:pcells p=[.int .i64 p.kind,.int .i64 p.gen,.int .i64 p.place,.string ⟨#[]⟩]:=by unfold pcells;rw [ht]
  have HPC:=Lib.hid hpc
  rw [ht] at p3
  clear hk2 ht hpc
  go_wp2_with (refine wpList_store_blk rfl 184 (.tmp 4) (.tmp 60) rfl w.heap.size [.int .i64 p.kind,.int .i64 p.gen,.int .i64 p.place,.string ⟨#[]⟩] rfl rfl HRB.out (by kernel_rfl) rfl rfl ?_;intro w10 ho4 hk4 hs4)
  clear p0 p1 p2 p3
  obtain ⟨p0,p1,p2,p3⟩:=cells4 ho4
  have HR:=Lib.hid (show PartR p nx w (.returned (.tuple #[.agg #[.int .i64 p.kind,.int .i64 p.gen,.int .i64 p.place,.string ⟨#[]⟩],.int .i64 nx,.bool true])) w10 from ⟨by rw [HPC.out],HBB.out.trans (hk4.below (fun i hi e=>by omega) HBB.out.size)⟩)
  clear ho4 hk4
  exact bodyPost_ret (v:=.tuple #[.agg #[.int .i64 p.kind,.int .i64 p.gen,.int .i64 p.place,.string ⟨#[]⟩],.int .i64 nx,.bool true]) (by simp [results,Tryz.results155,go_sem,p0,p1,p2,p3]) rfl HR.out
end Go.Proofs.YtdaphppdmnmicaaGreatDoor.jrn
namespace Go.Proofs.YtdaphppdmnmicaaGreatDoor.jrn
open Go Go.RowKit Go.Lib base rowe err rowc wireb jrnp
theorem plen (p:Part):(pcells p).length=4:=rfl
def pZ:Part:=⟨0,0,0,[]⟩
theorem part_at {w:World} {A:Option Addr} {m B:Nat} {l:List Part} (h:Reads w B 4 A m (l.flatMap pcells)) (hl:l.length=m) {k:Nat} (hk:k < m):∃ b off,A=some ⟨b,off,none⟩∧b < B∧∀ q v,(pcells (l.getD k pZ))[q]?=some v→w.cell? ⟨b,off + k * 4 + q,none⟩=some v:=by
 obtain ⟨b,off,rfl,hb⟩:=h.at_some (by omega)
 refine ⟨b,off,rfl,hb,fun q v hq=>?_⟩
 have hq2:q < 4:=by
  have:=(List.getElem?_eq_some_iff.1 hq).1
  rwa [plen] at this
 have h5:=Reads.thing pcells plen h (k:=k) (x:=l.getD k pZ) (by omega) (by rw [List.getD_eq_getElem?_getD,List.getElem?_eq_getElem (by omega)];rfl) q hq2
 rw [h5,hq]
theorem four_of {w:World} {b off:Nat} {p:Part} (h:∀ q v,(pcells p)[q]?=some v→w.cell? ⟨b,off + q,none⟩=some v) :
  w.cell? ⟨b,off,none⟩=some (.int .i64 p.kind)∧w.cell? ⟨b,off + 1,none⟩=some (.int .i64 p.gen)∧w.cell? ⟨b,off + 2,none⟩=some (.int .i64 p.place)∧w.cell? ⟨b,off + 3,none⟩=some (.string (str p.text)) :=
 ⟨h 0 _ rfl,h 1 _ rfl,h 2 _ rfl,h 3 _ rfl⟩
theorem drop_at {l:List Part} {k:Nat} (h:k < l.length):l.drop k=l.getD k pZ :: l.drop (k + 1):=by
 rw [List.drop_eq_getElem_cons h,List.getD_eq_getElem?_getD,List.getElem?_eq_getElem h]
 rfl
def OrdR (l:List Part) (w:World) (e:Ending) (w':World):Prop:=e=.returned (.bool (ordered l))∧Below w.heap.size w w'
set_option maxRecDepth 10000 in
set_option maxHeartbeats 3200000 in
theorem ordered_w (A : Option Addr) (n c : Nat) (l : List Part) (w : World) (hl : l.length = n) (hn : n ≤ 1048576) (hr : Reads w w.heap.size 4 A n (l.flatMap pcells)) : Calls Tryz.prog 157 #[.slice A n c] w (OrdR l w) := by
  have HR := Lib.hid hr
  by_cases h0 : n = 0
  · subst h0
    have : l = [] := List.eq_nil_of_length_eq_zero hl
    subst this
    clear hr HR
    go_enter Tryz.func157, Tryz.ntmps157
    go_wp2_with fail
    go_ret
    exact ⟨rfl, Below.refl _ _⟩
  · obtain ⟨b, off, rfl, hbb, hc⟩ := part_at hr hl (k := 0) (by omega)
    have h1 := four_of hc
    rw [Nat.zero_mul, Nat.add_zero] at h1
    obtain ⟨x0, x1, x2, x3⟩ := h1
    have hcons : l = l.getD 0 pZ :: l.drop 1 := by have := drop_at (l := l) (k := 0) (by omega); simpa using this
    generalize hf : l.getD 0 pZ = f at *
    have hord : ordered l = (decide (f.kind = 1) && ordB f.gen false (l.drop 1)) := by rw [hcons]; rfl
    have HORD := Lib.hid hord
    have hne : (n == 0) = false := by simp; omega
    have hnz : ¬ n = 0 := h0
    clear hr hc x1 x2 x3 hcons hord
    by_cases hk : f.kind = 1
    · have hk1 : ((f.kind : Int) != 1) = false := by simp; omega
      have hrd : ordered l = ordB f.gen false (l.drop 1) := by rw [HORD.out, decide_eq_true hk, Bool.true_and]
      generalize hR : ordered l = R at *
      go_enter Tryz.func157, Tryz.ntmps157
      go_wp2_with fail
      have HOR := Lib.hid hR
      clear HORD hR x0
      go_loopw [3, 18, 4, 5, 23] (fun e i _ _ _ wr' => ∃ (k : Nat) (en : Bool), e = .bool en ∧ i = .int .i64 k ∧ k ≤ n ∧ Below w.heap.size w wr' ∧ ((k = 0 ∧ en = false) ∨ (0 < k ∧ R = ordB f.gen en (l.drop k)))) (fun _ i _ _ _ _ => n - (intOf i).toNat)
      case atStart => exact ⟨0, false, rfl, rfl, by omega, Below.refl _ _, .inl ⟨rfl, rfl⟩⟩
      case round =>
        obtain ⟨k, en, rfl, rfl, hkn, hbw, hcase⟩ := hrel
        have hsz := hbw.size
        by_cases hlt : k < n
        · obtain ⟨b', off', hbo, _, hc⟩ := part_at (HR.out.below hbw) hl hlt
          simp only [Option.some.injEq, Addr.mk.injEq, and_true] at hbo
          obtain ⟨rfl, rfl⟩ := hbo
          obtain ⟨b', off', hbo, _, hc0⟩ := part_at (HR.out.below hbw) hl (k := 0) (by omega)
          simp only [Option.some.injEq, Addr.mk.injEq, and_true] at hbo
          obtain ⟨rfl, rfl⟩ := hbo
          rw [hf, Nat.zero_mul, Nat.add_zero] at hc0
          have g1 : wr.cell? ⟨b, off + 1, none⟩ = some (.int .i64 f.gen) := hc0 1 _ rfl
          obtain ⟨e0, e1, e2, e3⟩ := four_of hc
          have hbl : b < wr.heap.size := by omega
          rcases hcase with ⟨rfl, rfl⟩ | ⟨hk0, hre⟩
          · rw [hf] at e0 e1 e2 e3
            rw [Nat.zero_mul, Nat.add_zero] at e0 e1 e2 e3
            have d1 : ((f.kind : Int) == 1) = true := by simp; omega
            have d3 : ((f.kind : Int) == 3) = false := by simp; omega
            have d4 : ((f.kind : Int) == 4) = false := by simp; omega
            have HBX := Lib.hid (below_alloc hbw (.cells #[.int .i64 f.kind, .int .i64 f.gen, .int .i64 f.place, .string (str f.text)] 184))
            have HRN := Lib.hid hrd
            clear hrd hc hc0 hk hbw
            go_wp2_with fail
            go_quiet (fail)
            go_wp2_with fail
            refine ⟨?rel, ?measure⟩
            case rel => exact ⟨1, false, rfl, by go_num, by omega, below_drewN HBX.out _, .inr ⟨by omega, HRN.out⟩⟩
            case measure => simp [intOf]; omega
          · have hd := drop_at (l := l) (k := k) (by omega)
            generalize l.getD k pZ = p at *
            rw [hd, ordB] at hre
            have HBX := Lib.hid (below_alloc hbw (.cells #[.int .i64 p.kind, .int .i64 p.gen, .int .i64 p.place, .string (str p.text)] 184))
            clear hrd hc hc0 hk hbw hd hf hk1
            have hk0' : 0 < k := hk0
            by_cases hg : p.gen = f.gen
            · have dg : ((p.gen : Int) != (f.gen : Int)) = false := by simp; omega
              by_cases h1 : p.kind = 1
              · have d1 : ((p.kind : Int) == 1) = true := by simp; omega
                have HRN := Lib.hid (show R = false from by rw [hre, if_pos (.inr (.inl h1))])
                clear hre h1 hg
                go_wp2_with fail
                go_quiet (fail)
                go_wp2_with fail
                go_ret
                exact ⟨by rw [HOR.out, HRN.out]; rfl, below_drewN HBX.out _⟩
              · have d1 : ((p.kind : Int) == 1) = false := by simp; omega
                by_cases h3 : p.kind = 3
                · have d3 : ((p.kind : Int) == 3) = true := by simp; omega
                  have d4 : ((p.kind : Int) == 4) = false := by simp; omega
                  cases en with
                  | true =>
                    have HRN := Lib.hid (show R = false from by rw [hre, if_pos (.inr (.inr (.inl ⟨h3, rfl⟩)))])
                    clear hre h1 h3 hg
                    go_wp2_with fail
                    go_quiet (fail)
                    go_wp2_with fail
                    go_ret
                    exact ⟨by rw [HOR.out, HRN.out]; rfl, below_drewN HBX.out _⟩
                  | false =>
                    have HRN := Lib.hid (show R = ordB f.gen true (l.drop (k + 1)) from by
                      rw [hre, if_neg (by rintro (h | h | ⟨_, h⟩ | ⟨h, _⟩); · exact h hg
                                          · exact h1 h
                                          · cases h
                                          · omega), Bool.false_or, decide_eq_true h3])
                    clear hre h1 h3 hg
                    go_wp2_with fail
                    go_quiet (fail)
                    go_wp2_with fail
                    refine ⟨?rel, ?measure⟩
                    case rel => exact ⟨k + 1, true, rfl, by go_num, by omega, below_drewN HBX.out _, .inr ⟨by omega, HRN.out⟩⟩
                    case measure => simp [intOf]; omega
                · have d3 : ((p.kind : Int) == 3) = false := by simp; omega
                  by_cases h4 : p.kind = 4 ∧ en = false
                  · obtain ⟨h4, rfl⟩ := h4
                    have d4 : ((p.kind : Int) == 4) = true := by simp; omega
                    have HRN := Lib.hid (show R = false from by rw [hre, if_pos (.inr (.inr (.inr ⟨h4, rfl⟩)))])
                    clear hre h1 h3 hg h4
                    go_wp2_with fail
                    go_quiet (fail)
                    go_wp2_with fail
                    go_ret
                    exact ⟨by rw [HOR.out, HRN.out]; rfl, below_drewN HBX.out _⟩
                  · have HRN := Lib.hid (show R = ordB f.gen en (l.drop (k + 1)) from by
                      rw [hre, if_neg (by rintro (h | h | ⟨h, _⟩ | h); · exact h hg
                                          · exact h1 h
                                          · exact h3 h
                                          · exact h4 h), decide_eq_false h3, Bool.or_false])
                    by_cases hk4 : p.kind = 4
                    · have d4 : ((p.kind : Int) == 4) = true := by simp; omega
                      obtain rfl : en = true := by
                        cases en with
                        | true => rfl
                        | false => exact absurd ⟨hk4, rfl⟩ h4
                      clear hre h1 h3 hg h4 hk4
                      go_wp2_with fail
                      go_quiet (fail)
                      go_wp2_with fail
                      refine ⟨?rel, ?measure⟩
                      case rel => exact ⟨k + 1, true, rfl, by go_num, by omega, below_drewN HBX.out _, .inr ⟨by omega, HRN.out⟩⟩
                      case measure => simp [intOf]; omega
                    · have d4 : ((p.kind : Int) == 4) = false := by simp; omega
                      clear hre h1 h3 hg h4 hk4
                      go_wp2_with fail
                      go_quiet (fail)
                      go_wp2_with fail
                      refine ⟨?rel, ?measure⟩
                      case rel => exact ⟨k + 1, en, rfl, by go_num, by omega, below_drewN HBX.out _, .inr ⟨by omega, HRN.out⟩⟩
                      case measure => simp [intOf]; omega
            · have dg : ((p.gen : Int) != (f.gen : Int)) = true := by simp; omega
              have HRN := Lib.hid (show R = false from by rw [hre, if_pos (.inl hg)])
              clear hre hg
              go_wp2_with fail
              go_quiet (fail)
              go_wp2_with fail
              go_ret
              exact ⟨by rw [HOR.out, HRN.out]; rfl, below_drewN HBX.out _⟩
        · obtain rfl : n = k := by omega
          have HRN := Lib.hid (show R = en from by
            rcases hcase with ⟨h, _⟩ | ⟨_, h⟩
            · omega
            · rw [h, List.drop_eq_nil_of_le (by omega)]; rfl)
          have HBW := Lib.hid hbw
          clear hbw hcase hrd hk hf
          go_wp2_with fail
          go_ret
          exact ⟨by rw [HOR.out, HRN.out]; rfl, HBW.out⟩
    · have hk1 : ((f.kind : Int) != 1) = true := by simp; omega
      have HF := Lib.hid (show ordered l = false from by rw [HORD.out, decide_eq_false hk, Bool.false_and])
      clear hk
      go_enter Tryz.func157, Tryz.ntmps157
      go_wp2_with fail
      go_ret
      exact ⟨by rw [HF.out]; rfl, Below.refl _ _⟩
end Go.Proofs.YtdaphppdmnmicaaGreatDoor.jrn
namespace Go.Proofs.YtdaphppdmnmicaaGreatDoor.jrn
open Go Go.RowKit Go.Lib base rowe err rowc wireb jrnp diskp disk monok
theorem part_info:(Tryz.prog.info? 184).map (fun i=>(i.zero,i.size,i.bytes))=some (some (.agg #[.int .i64 0,.int .i64 0,.int .i64 0,.string ⟨#[]⟩]),4,40):=by kernel_rfl
def ends (l:List Part) (k:Nat):List Nat:=(List.range k).map fun i=>(dev (l.take (i + 1))).length
theorem ends_next (l:List Part) (k:Nat):ends l (k + 1)=ends l k ++ [(dev (l.take (k + 1))).length]:=by
 unfold ends
 rw [List.range_succ,List.map_append]
 rfl
theorem ends_len (l:List Part) (k:Nat):(ends l k).length=k:=by simp [ends]
def OwnP (w:World) (base:Nat) (v:Value) (l:List Part):Prop:=w.ownsRow base 184 4 v l.length (l.flatMap pcells)
theorem OwnP.none (w:World) (base:Nat):OwnP w base (.slice none 0 0) []:=⟨rfl,.inl ⟨rfl,rfl⟩⟩
theorem OwnP.form {w:World} {base:Nat} {v:Value} {l:List Part} (h:OwnP w base v l):∃ A c,v=.slice A l.length c:=ownsRow_slice h
theorem pcells_one (l:List Part):∀ u ∈ l.flatMap pcells,u.oneCell'=true:=by
 intro u hu
 obtain ⟨p,_,hu⟩:=List.mem_flatMap.1 hu
 simp only [pcells,List.mem_cons,List.not_mem_nil,or_false] at hu
 rcases hu with rfl|rfl|rfl|rfl <;> rfl
structure LookS (w:World) (B g:Nat) (l:List Part) (k:Nat) (vp ve:Value):Prop where
 blk:Blk w g 177 #[vp,ve,.int .i64 (dev (l.take k)).length,.bool false,.bool false]
 parts:OwnP w B vp (l.take k)
 ends_:OwnN w B ve (ends l k)
 lo:g < B
def endOf (w:World) (g:Nat):Nat:=match w.cell? ⟨g,2,none⟩ with
 | some v=>(intOf v).toNat
 | none=>0
theorem LookS.at_ {w:World} {B g:Nat} {l:List Part} {k:Nat} {vp ve:Value} (h:LookS w B g l k vp ve):endOf w g=(dev (l.take k)).length:=by
 unfold endOf
 rw [h.blk.cell 2]
 simp [intOf]
theorem own_low' {w:World} {base base':Nat} {e:TypeId} {size n:Nat} {v:Value} {xs:List Value} (h:w.ownsRow base' e size v n xs) (hb:base≤base'):w.ownsRow base e size v n xs :=
 ⟨h.1,h.2.imp id fun ⟨g,cap,cur,e,h1,r⟩=>⟨g,cap,cur,e,Nat.le_trans hb h1,r⟩⟩
theorem reads_blk' {w:World} {g:Nat} {t:TypeId} {cs:List Value} (h:Blk w g t cs.toArray):Reads w w.heap.size cs.length (some ⟨g,0,none⟩) 1 cs :=
 ⟨by simp,fun _=>⟨g,0,rfl,h.lt,fun j _=>by rw [Nat.zero_add,h.cell j];simp⟩⟩
theorem pone (p:Part):∀ u ∈ pcells p,u.oneCell'=true:=by
 have:=pcells_one [p]
 simpa using this
theorem rows_ne {w:World} {b b':Nat} {e e':TypeId} {s s':Nat} {v v':Value} {n n':Nat} {xs xs':List Value} (h:w.ownsRow b e s v n xs) (h':w.ownsRow b' e' s' v' n' xs') (hne:e ≠ e'):v.ownBlock=none ∨ v.ownBlock ≠ v'.ownBlock:=by
 rcases h.2 with ⟨rfl,_⟩|⟨g,cap,cur,rfl,_,h1,_⟩
 ·exact .inl rfl
 ·right
  intro he
  rcases h'.2 with ⟨rfl,_⟩|⟨g',cap',cur',rfl,_,h2,_⟩
  ·cases he
  ·have:g=g':=by simpa [Value.ownBlock] using he
   subst this
   rw [h1] at h2
   injection h2 with h2
   injection h2 with _ h2
   exact hne h2
def zL:Array Value:=#[.slice none 0 0,.slice none 0 0,.int .i64 0,.bool false,.bool false]
structure Mid (w V:World) (cs:Array Value) (vp:Value) (lp:List Part) (ve:Value) (le:List Nat):Prop where
 blk:Blk V (w.heap.size + 1) 177 cs
 zero:Blk V w.heap.size 177 zL
 parts:OwnP V (w.heap.size + 2) vp lp
 ends_:OwnN V (w.heap.size + 2) ve le
 bw:Below w.heap.size w V
section
variable {w V V':World} {cs:Array Value} {vp ve:Value} {lp:List Part} {le:List Nat}
theorem Mid.big (h:Mid w V cs vp lp ve le):w.heap.size + 2≤V.heap.size:=h.blk.lt
theorem Mid.below (h:Mid w V cs vp lp ve le) (hb:Below V.heap.size V V'):Mid w V' cs vp lp ve le :=
 ⟨h.blk.below hb h.blk.lt,h.zero.below hb h.zero.lt,own_below h.parts hb,own_below h.ends_ hb,h.bw.trans (hb.mono (by have:=h.big;omega))⟩
theorem Mid.alloc (h:Mid w V cs vp lp ve le) (o:Obj):Mid w (V.alloc o) cs vp lp ve le:=h.below (below_new _ _)
theorem Mid.drew (h:Mid w V cs vp lp ve le):Mid w V.drew cs vp lp ve le:=h.below (Below.refl _ _).drew
theorem below_grown {v:Value} {B:Nat} {e:TypeId} {s n:Nat} {xs:List Value} (hb:Below w.heap.size w V) (hg:V.grownBy V' v.ownBlock) (ho:V.ownsRow B e s v n xs) (hB:w.heap.size≤B):Below w.heap.size w V' :=
 hb.trans ((Keeps.grown (X:=fun i=>w.heap.size≤i) hg fun i hi=>.inl (Nat.le_trans hB (ho.lt i hi).1)).below (fun i hi e=>by omega) hb.size)
theorem Mid.app4 {v6:Value} {p:Part} (h:Mid w V cs vp lp ve le) (ho:V'.ownsRow (w.heap.size + 2) 184 4 v6 (lp.length + 1) (lp.flatMap pcells ++ pcells p)) (hg:V.grownBy V' vp.ownBlock):Mid w V' cs v6 (lp ++ [p]) ve le :=
  ⟨h.blk.grown hg (fun e=>by have:=(h.parts.lt _ e.symm).1;omega),h.zero.grown hg (fun e=>by have:=(h.parts.lt _ e.symm).1;omega),
   by unfold OwnP;rw [List.length_append,List.flatMap_append];simpa using ho,h.ends_.kept hg (rows_ne h.ends_ h.parts (by decide)),below_grown h.bw hg h.parts (by omega)⟩
theorem Mid.app9 {v9:Value} {n:Nat} (h:Mid w V cs vp lp ve le) (ho:V'.ownsRow (w.heap.size + 2) 3 1 v9 (le.length + 1) (encN le ++ [.int .i64 (n:Nat)])) (hg:V.grownBy V' ve.ownBlock):Mid w V' cs vp lp v9 (le ++ [n]) :=
  ⟨h.blk.grown hg (fun e=>by have:=(h.ends_.lt _ e.symm).1;omega),h.zero.grown hg (fun e=>by have:=(h.ends_.lt _ e.symm).1;omega),
   h.parts.kept hg (rows_ne h.parts h.ends_ (by decide)),OwnN.push ho rfl,below_grown h.bw hg h.ends_ (by omega)⟩
theorem Mid.put (h:Mid w V cs vp lp ve le) (i:Nat) (u:Value):Mid w (V.setCell ⟨w.heap.size + 1,i,none⟩ u) (cs.setIfInBounds i u) vp lp ve le :=
  ⟨h.blk.set_ i u,h.zero.far (by simp) u,own_keeps h.parts (Keeps.set1 V _ i u) (fun g hg e=>by omega),own_keeps h.ends_ (Keeps.set1 V _ i u) (fun g hg e=>by omega),
   h.bw.trans ((Keeps.set1 V (w.heap.size + 1) i u).below (fun i hi e=>by omega) h.bw.size)⟩
end
theorem few_dev (l:List Part):l.length≤(dev l).length:=by
 induction l with
 | nil=>simp
 | cons p l ih=>rw [dev_cons,List.length_append,List.length_cons];have:=seal_pos p;omega
theorem lt_dev {l:List Part} {k:Nat} (h:k < l.length):(dev (l.take k)).length < (dev l).length:=by
 have h1:dev l=dev (l.take k) ++ dev (l.drop k):=by rw [← dev_app,List.take_append_drop]
 rw [h1,List.length_append,List.drop_eq_getElem_cons h,dev_cons,List.length_append]
 have:=seal_pos l[k]
 omega
def ScanR (l:List Part) (w:World) (e:Ending) (w':World):Prop:=∃ vp ve,e=.returned (.tuple #[.agg #[vp,ve,.int .i64 (dev l).length,.bool false,.bool (ordered l)],.nilIface])∧OwnP w' w.heap.size vp l∧OwnN w' w.heap.size ve (endsL l)∧Below w.heap.size w w'
set_option maxRecDepth 10000 in
set_option maxHeartbeats 3200000 in
theorem scan_w {S : Nat → Prop} {g : Nat} {d : Dk} (l : List Part) (w : World) (hd : DiskS w S g d) (hw : Well d l) : Calls Tryz.prog 72 #[.pointer (some ⟨g, 0, none⟩)] w (ScanR l w) := by
  have hd0 := hd.below (below_new w (.cells #[.slice none 0 0, .slice none 0 0, .int .i64 0, .bool false, .bool false] 177))
  have HB0 := Lib.hid (below_new w (.cells #[.slice none 0 0, .slice none 0 0, .int .i64 0, .bool false, .bool false] 177))
  have HZ0 := Lib.hid (Blk.new w 177 #[.slice none 0 0, .slice none 0 0, .int .i64 0, .bool false, .bool false])
  have hsz0 : (w.alloc (.cells #[.slice none 0 0, .slice none 0 0, .int .i64 0, .bool false, .bool false] 177)).heap.size = w.heap.size + 1 := by simp
  have HLN := Lib.hid (len_any hd0)
  have HRD := Lib.hid (read_all hd0 hw.down)
  rw [hw.down] at HLN
  have hb := hw.b
  have hfew := hw.few
  have HOK := Lib.hid hw.ok
  have hls : (⟨d.b.toArray⟩ : ByteArray).size = (dev l).length := by rw [← hb]; rfl
  have hll : (⟨d.b.toArray⟩ : ByteArray).data.toList = dev l := by rw [← hb]
  have hdl : (dev l).length ≤ 1048576 := by rw [← hb]; exact hfew
  have hz : Tryz.prog.cellsOf 177 = 5 := by kernel_rfl
  rw [hb] at HLN HRD hls hll
  have HLL := Lib.hid hll
  have HLS := Lib.hid hls
  clear hb hd hd0 hw hz hls hll hfew
  obtain ⟨s, hs⟩ : ∃ s, (⟨(dev l).toArray⟩ : ByteArray) = s := ⟨_, rfl⟩
  rw [hs] at HRD HLL HLS
  obtain ⟨L, hL⟩ : ∃ n, (dev l).length = n := ⟨_, rfl⟩
  rw [hL] at HRD HLS hdl HLN
  clear hs
  have hls := HLS.out
  have hlen : l.length ≤ L := by rw [← hL]; exact few_dev l
  obtain ⟨i0, hi0, hz⟩ := Option.map_eq_some_iff.1 part_info
  simp only [Prod.mk.injEq] at hz
  obtain ⟨hz0, hz1, hz2⟩ := hz
  obtain ⟨j0, hj0, hy⟩ := Option.map_eq_some_iff.1 int_info
  simp only [Prod.mk.injEq] at hy
  obtain ⟨hy0, hy1, hy2⟩ := hy
  go_enter Tryz.func72, Tryz.ntmps72
  go_wp2_with fail
  generalize w.alloc (.cells #[.slice none 0 0, .slice none 0 0, .int .i64 0, .bool false, .bool false] 177) = w0 at *
  refine HLN.out.mono ?_
  rintro e w1 ⟨rfl, rfl⟩
  go_wp2_with fail
  refine HRD.out.mono ?_
  rintro e w1 ⟨rfl, rfl⟩
  clear HRD HLN
  go_wp2_with fail
  have HZ1 := Lib.hid (HZ0.out.alloc (.cells #[.slice none 0 0, .slice none 0 0, .int .i64 0, .bool false, .bool false] 177))
  have HB1 := Lib.hid (below_alloc HB0.out (.cells #[.slice none 0 0, .slice none 0 0, .int .i64 0, .bool false, .bool false] 177))
  have HX1 := Lib.hid (show LookS (w1.alloc (.cells #[.slice none 0 0, .slice none 0 0, .int .i64 0, .bool false, .bool false] 177)) (w.heap.size + 2) (w.heap.size + 1) l 0 (.slice none 0 0) (.slice none 0 0) from
    ⟨by rw [← hsz0]; exact Blk.new _ _ _, OwnP.none _ _, OwnN.none _ _, by omega⟩)
  clear HZ0 HB0
  go_loopw [7, 8, 9] (fun _ _ _ wr => ∃ (k : Nat) (vp ve : Value), k ≤ l.length ∧ LookS wr (w.heap.size + 2) (w.heap.size + 1) l k vp ve ∧ Blk wr w.heap.size 177 #[.slice none 0 0, .slice none 0 0, .int .i64 0, .bool false, .bool false] ∧ Below w.heap.size w wr) (fun _ _ _ wr => L - endOf wr (w.heap.size + 1))
  case atStart => exact ⟨0, _, _, by omega, HX1.out, HZ1.out, HB1.out⟩
  case round =>
    clear HX1 HZ1 HB1
    obtain ⟨k, vp, ve, hk, hx, hz, hbw⟩ := hrel
    obtain ⟨x0, x1, x2, x3, x4⟩ := (show wr.cell? ⟨w.heap.size + 1, 0, none⟩ = some vp ∧ wr.cell? ⟨w.heap.size + 1, 1, none⟩ = some ve ∧ wr.cell? ⟨w.heap.size + 1, 2, none⟩ = some (.int .i64 (dev (l.take k)).length) ∧ wr.cell? ⟨w.heap.size + 1, 3, none⟩ = some (.bool false) ∧ wr.cell? ⟨w.heap.size + 1, 4, none⟩ = some (.bool false) from ⟨hx.blk.cell 0, hx.blk.cell 1, hx.blk.cell 2, hx.blk.cell 3, hx.blk.cell 4⟩)
    have hxl := hx.blk.lt
    have Hat := Lib.hid hx.at_
    by_cases hkl : k < l.length
    · have hde : (dev (l.take k)).length < L := by rw [← hL]; exact lt_dev hkl
      have hok := HOK.out l[k] (List.getElem_mem hkl)
      have hdr : s.data.toList.drop (dev (l.take k)).length = l[k].sealed ++ dev (l.drop (k + 1)) := by rw [HLL.out, dev_drop, List.drop_eq_getElem_cons hkl, dev_cons]
      have hnx : (dev (l.take k)).length + l[k].sealed.length = (dev (l.take (k + 1))).length := by rw [dev_take l k hkl, List.length_append]
      have HPO := Lib.hid (part_open s (dev (l.take k)).length l[k] (dev (l.drop (k + 1))) hok (by omega) hdr)
      rw [hnx] at HPO
      have htk : l.take (k + 1) = l.take k ++ [l[k]] := List.take_succ_eq_append_getElem hkl
      have hen := ends_next l k
      have HX := Lib.hid hx.blk
      have HPR := Lib.hid hx.parts
      have HEN := Lib.hid hx.ends_
      have HZ := Lib.hid hz
      have HB := Lib.hid hbw
      generalize l[k] = p at *
      generalize (dev (l.take k)).length = e0 at *
      generalize hnxe : (dev (l.take (k + 1))).length = nx at *
      clear hok hdr hx hz hbw x3 x4
      have dlt : decide ((e0 : Int) < (L : Int)) = true := decide_eq_true (by omega)
      go_wp2_with fail
      refine (HPO.out _).mono ?_
      rintro e w2 ⟨rfl, hb2⟩
      have HM2 := Lib.hid (show Mid w w2 #[vp, ve, .int .i64 e0, .bool false, .bool false] vp (l.take k) ve (ends l k) from Mid.below ⟨HX.out, HZ.out, HPR.out, HEN.out, HB.out⟩ hb2)
      clear hb2 HX HZ HPR HEN HB HPO
      unfold pcells
      go_wp2_with fail
      obtain ⟨gp, hgp⟩ : ∃ x, w2.heap.size = x := ⟨_, rfl⟩
      have hgpl : w.heap.size + 1 < gp := by have := HM2.out.big; omega
      have HM := Lib.hid (HM2.out.alloc (.cells #[.int .i64 p.kind, .int .i64 p.gen, .int .i64 p.place, .string (str p.text)] 184))
      have HP := Lib.hid (Blk.new w2 184 #[.int .i64 p.kind, .int .i64 p.gen, .int .i64 p.place, .string (str p.text)])
      have hvp : ∀ i, vp.ownBlock = some i → i ≠ gp := fun i hi => by have := (HM2.out.parts.lt i hi).2; omega
      have hve : ∀ i, ve.ownBlock = some i → i ≠ gp := fun i hi => by have := (HM2.out.ends_.lt i hi).2; omega
      rw [hgp] at HP ⊢
      clear HM2 x0 x1 x2
      generalize w2.alloc (.cells #[.int .i64 p.kind, .int .i64 p.gen, .int .i64 p.place, .string (str p.text)] 184) = w3 at *
      have x0 : w3.cell? ⟨w.heap.size + 1, 0, none⟩ = _ := HM.out.blk.cell 0
      have x1 : w3.cell? ⟨w.heap.size + 1, 1, none⟩ = _ := HM.out.blk.cell 1
      have xl := HM.out.blk.lt
      simp at x0 x1
      refine wp_region_monoK (fun b => w.heap.size + 1 < b ∧ b ≠ gp) [4, 9] (fun b => b = w.heap.size + 1) [12, 14, 16] (by kernel_rfl) ?_
      refine wpMonoK_take' 0 (v := ?_) rfl (by kernel_rfl) (by kernel_rfl) (by kernel_rfl) (fun _ _ _ h => h) (by rfl) ?_ ?_
      rotate_left
      · (intro W hSw; (first | (have hxW := HM.out.blk.drew.keeps hSw (by omega); have y0 : W.cell? ⟨w.heap.size + 1, 0, none⟩ = some vp := hxW.cell 0; have y1 : W.cell? ⟨w.heap.size + 1, 1, none⟩ = some ve := hxW.cell 1; have exl := hxW.lt) | (have hxW := HP.out.drew.keeps hSw (by omega); obtain ⟨p0, p1, p2, p3⟩ := cells4 hxW; have exl := hxW.lt) | skip); go_simp <;> rfl)
      try simp only [qPA]
      refine wpMonoK_read' 1 [4, 9, 11, 12, 13, 14, 15, 16] (v := ?_) rfl (by kernel_rfl) (by kernel_rfl) (by kernel_rfl) (by kernel_rfl) (by rfl) (fun _ _ _ h => h) (by rfl) ?_ ?_
      rotate_left
      · (intro W hSw; (first | (have hxW := HM.out.blk.drew.keeps hSw (by omega); have y0 : W.cell? ⟨w.heap.size + 1, 0, none⟩ = some vp := hxW.cell 0; have y1 : W.cell? ⟨w.heap.size + 1, 1, none⟩ = some ve := hxW.cell 1; have exl := hxW.lt) | (have hxW := HP.out.drew.keeps hSw (by omega); obtain ⟨p0, p1, p2, p3⟩ := cells4 hxW; have exl := hxW.lt) | skip); go_simp <;> rfl)
      try simp only [qPA]
      refine wpMonoK_take' 2 (v := ?_) rfl (by kernel_rfl) (by kernel_rfl) (by kernel_rfl) (fun _ _ _ h => h) (by rfl) ?_ ?_
      rotate_left
      · (intro W hSw; (first | (have hxW := HM.out.blk.drew.keeps hSw (by omega); have y0 : W.cell? ⟨w.heap.size + 1, 0, none⟩ = some vp := hxW.cell 0; have y1 : W.cell? ⟨w.heap.size + 1, 1, none⟩ = some ve := hxW.cell 1; have exl := hxW.lt) | (have hxW := HP.out.drew.keeps hSw (by omega); obtain ⟨p0, p1, p2, p3⟩ := cells4 hxW; have exl := hxW.lt) | skip); go_simp <;> rfl)
      try simp only [qPA]
      refine wpMonoK_take' 5 (v := ?_) rfl (by kernel_rfl) (by kernel_rfl) (by kernel_rfl) (fun _ _ _ h => h) (by rfl) ?_ ?_
      rotate_left
      · (intro W hSw; (first | (have hxW := HM.out.blk.drew.keeps hSw (by omega); have y0 : W.cell? ⟨w.heap.size + 1, 0, none⟩ = some vp := hxW.cell 0; have y1 : W.cell? ⟨w.heap.size + 1, 1, none⟩ = some ve := hxW.cell 1; have exl := hxW.lt) | (have hxW := HP.out.drew.keeps hSw (by omega); obtain ⟨p0, p1, p2, p3⟩ := cells4 hxW; have exl := hxW.lt) | skip); go_simp <;> rfl)
      try simp only [qPA]
      refine wpMonoK_read' 6 [9, 11, 12, 13, 14, 15, 16] (v := ?_) rfl (by kernel_rfl) (by kernel_rfl) (by kernel_rfl) (by kernel_rfl) (by rfl) (fun _ _ _ h => h) (by rfl) ?_ ?_
      rotate_left
      · (intro W hSw; (first | (have hxW := HM.out.blk.drew.keeps hSw (by omega); have y0 : W.cell? ⟨w.heap.size + 1, 0, none⟩ = some vp := hxW.cell 0; have y1 : W.cell? ⟨w.heap.size + 1, 1, none⟩ = some ve := hxW.cell 1; have exl := hxW.lt) | (have hxW := HP.out.drew.keeps hSw (by omega); obtain ⟨p0, p1, p2, p3⟩ := cells4 hxW; have exl := hxW.lt) | skip); go_simp <;> rfl)
      try simp only [qPA]
      refine wpMonoK_take' 7 (v := ?_) rfl (by kernel_rfl) (by kernel_rfl) (by kernel_rfl) (fun _ _ _ h => h) (by rfl) ?_ ?_
      rotate_left
      · (intro W hSw; (first | (have hxW := HM.out.blk.drew.keeps hSw (by omega); have y0 : W.cell? ⟨w.heap.size + 1, 0, none⟩ = some vp := hxW.cell 0; have y1 : W.cell? ⟨w.heap.size + 1, 1, none⟩ = some ve := hxW.cell 1; have exl := hxW.lt) | (have hxW := HP.out.drew.keeps hSw (by omega); obtain ⟨p0, p1, p2, p3⟩ := cells4 hxW; have exl := hxW.lt) | skip); go_simp <;> rfl)
      try simp only [qPA]
      refine wpMonoK_take' 10 (v := ?_) rfl (by kernel_rfl) (by kernel_rfl) (by kernel_rfl) (fun _ _ _ h => h) (by rfl) ?_ ?_
      rotate_left
      · (intro W hSw; (first | (have hxW := HM.out.blk.drew.keeps hSw (by omega); have y0 : W.cell? ⟨w.heap.size + 1, 0, none⟩ = some vp := hxW.cell 0; have y1 : W.cell? ⟨w.heap.size + 1, 1, none⟩ = some ve := hxW.cell 1; have exl := hxW.lt) | (have hxW := HP.out.drew.keeps hSw (by omega); obtain ⟨p0, p1, p2, p3⟩ := cells4 hxW; have exl := hxW.lt) | skip); go_simp <;> rfl)
      try simp only [qPA]
      clear x0 x1
      refine wpMonoK_two' 3 8 (by kernel_rfl) rfl (by rfl) rfl (by rfl) (fun K hK => ?_) (fun K hK => ?_)
      · skip
        go_simp
        refine hK.out _ _ (Go.Proofs.YtdaphppdmnmicaaGreatDoor.monok.stays (Keeps.alloc _)) ?_
        clear hK K
        try simp only [qPA]
        have hm3 := (HM.out.alloc (.cells #[.int .i64 p.kind, .int .i64 p.gen, .int .i64 p.place, .string (str p.text)] 184)).drew
        have h3 : Blk ((w3).alloc (.cells #[.int .i64 p.kind, .int .i64 p.gen, .int .i64 p.place, .string (str p.text)] 184)).drew (w3).heap.size 184 (pcells p).toArray := (Blk.new w3 184 (pcells p).toArray).drew
        (try have h8 := (H8.out.alloc (.cells #[.int .i64 p.kind, .int .i64 p.gen, .int .i64 p.place, .string (str p.text)] 184)).drew)
        obtain ⟨g3, hg3⟩ : ∃ x, (w3).heap.size = x := ⟨_, rfl⟩
        (try rw [World.size_drew])
        rw [hg3] at h3 ⊢
        clear HM
        generalize ((w3).alloc (.cells #[.int .i64 p.kind, .int .i64 p.gen, .int .i64 p.place, .string (str p.text)] 184)).drew = w4 at *
        have HM := Lib.hid hm3
        have H3 := Lib.hid h3
        (try have H8 := Lib.hid h8)
        clear hm3 h3
        refine wpMonoK_two' 4 8 (by kernel_rfl) rfl (by rfl) rfl (by rfl) (fun K hK => ?_) (fun K hK => ?_)
        · skip
          refine wp_append_any _ (.tmp 41) (.tmp 43) _ (by rfl) (w.heap.size + 2) 184 i0 _ 4 40 Tryz.underlying175 hi0 hz0 hz1 hz2 rfl (by omega) vp (l.take k).length _ (by rfl) HM.out.parts _ (some ⟨g3, 0, none⟩) 1 1 (pcells p) (by rfl) (reads_blk' H3.out) (pone p) (by rw [List.length_take]; unfold maxLen; omega) (by rw [List.length_take]; omega) HM.out.big fun v6 w5 ho6 hg6 _ => ?_
          have hm6 := HM.out.app4 (p := p) ho6 hg6
          (try have H8 := Lib.hid (H8.out.grown hg6 (fun e => own_blk_ne HM.out.parts H8.out (by decide) e.symm)))
          refine hK.out _ _ (Go.Proofs.YtdaphppdmnmicaaGreatDoor.monok.moved (.grown hg6 fun i hi => .inl ⟨by have := (HM.out.parts.lt i hi).1; omega, hvp i hi⟩) (by decide)) ?_
          clear hK K
          try simp only [qPA]
          obtain ⟨A6, c6, hv6⟩ := hm6.parts.form
          have hl6 : (l.take k ++ [p]).length = k + 1 := by rw [List.length_append, List.length_take]; simp; omega
          rw [hl6] at hv6
          subst hv6
          clear HM ho6 hg6 hl6
          have HM := Lib.hid hm6
          clear hm6
          refine wpMonoK_take' 11 (v := ?_) rfl (by kernel_rfl) (by kernel_rfl) (by kernel_rfl) (fun _ _ _ h => h) (by rfl) ?_ ?_
          rotate_left
          · (intro W hSw
             go_simp; first | done | rfl)
          try simp only [qPA]
          refine wpMonoK_one' 8 (by kernel_rfl) rfl (by rfl) (fun K hK => ?_)
          go_simp
          refine hK.out _ _ (Go.Proofs.YtdaphppdmnmicaaGreatDoor.monok.stays (Keeps.alloc _)) ?_
          clear hK K
          try simp only [qPA]
          have hm8 := (HM.out.alloc (.cells #[.int .i64 nx] 3)) 
          have h8 : Blk ((w5).alloc (.cells #[.int .i64 nx] 3))  (w5).heap.size 3 #[.int .i64 nx] := (Blk.new w5 3 #[.int .i64 nx]) 
          (try have h3 := (H3.out.alloc (.cells #[.int .i64 nx] 3)) )
          obtain ⟨g8, hg8⟩ : ∃ x, (w5).heap.size = x := ⟨_, rfl⟩
          (try rw [World.size_drew])
          rw [hg8] at h8 ⊢
          clear HM
          generalize ((w5).alloc (.cells #[.int .i64 nx] 3))  = w6 at *
          have HM := Lib.hid hm8
          have H8 := Lib.hid h8
          (try have H3 := Lib.hid h3)
          clear hm8 h8
          refine wpMonoK_one' 9 (by kernel_rfl) rfl (by rfl) (fun K hK => ?_)
          refine wp_append_any _ (.tmp 46) (.tmp 48) _ (by rfl) (w.heap.size + 2) 3 j0 _ 1 8 Tryz.underlying26 hj0 hy0 hy1 hy2 rfl (by omega) ve (ends l k).length _ (by rfl) HM.out.ends_ _ (some ⟨g8, 0, none⟩) 1 1 [.int .i64 nx] (by rfl) (reads_blk' H8.out) (by simp [Value.oneCell']) (by rw [ends_len]; unfold maxLen; omega) (by rw [ends_len]; omega) HM.out.big fun v9 w9 ho9 hg9 _ => ?_
          have hm9 := HM.out.app9 (n := nx) ho9 hg9
          refine hK.out _ _ (Go.Proofs.YtdaphppdmnmicaaGreatDoor.monok.moved (.grown hg9 fun i hi => .inl ⟨by have := (HM.out.ends_.lt i hi).1; omega, hve i hi⟩) (by decide)) ?_
          clear hK K
          try simp only [qPA]
          rw [← hen] at hm9
          obtain ⟨A9, c9, hv9⟩ := hm9.ends_.form
          rw [ends_len] at hv9
          subst hv9
          clear HM ho9 hg9
          have HM := Lib.hid hm9
          have q0 : w9.cell? ⟨w.heap.size + 1, 0, none⟩ = _ := hm9.blk.cell 0
          have q1 : w9.cell? ⟨w.heap.size + 1, 1, none⟩ = _ := hm9.blk.cell 1
          have q2 : w9.cell? ⟨w.heap.size + 1, 2, none⟩ = _ := hm9.blk.cell 2
          have f0 := hm9.blk.frozen 0
          have f1 := hm9.blk.frozen 1
          have f2 := hm9.blk.frozen 2
          have ql := hm9.blk.lt
          simp at q0 q1 q2
          clear hm9
          refine wpMonoK_one' 12 (by kernel_rfl) rfl (by rfl) (fun K hK => ?_)
          go_simp
          refine hK.out _ _ (Go.Proofs.YtdaphppdmnmicaaGreatDoor.monok.movedL (Keeps.set1 _ _ _ _) (by decide)) ?_
          clear hK K
          try simp only [qPA]
          refine wpMonoK_take' 13 (v := ?_) rfl (by kernel_rfl) (by kernel_rfl) (by kernel_rfl) (fun _ _ _ h => h) (by rfl) ?_ ?_
          rotate_left
          · (intro W hSw
             go_simp; first | done | rfl)
          try simp only [qPA]
          refine wpMonoK_one' 14 (by kernel_rfl) rfl (by rfl) (fun K hK => ?_)
          go_simp
          refine hK.out _ _ (Go.Proofs.YtdaphppdmnmicaaGreatDoor.monok.movedL (Keeps.set1 _ _ _ _) (by decide)) ?_
          clear hK K
          try simp only [qPA]
          refine wpMonoK_take' 15 (v := ?_) rfl (by kernel_rfl) (by kernel_rfl) (by kernel_rfl) (fun _ _ _ h => h) (by rfl) ?_ ?_
          rotate_left
          · (intro W hSw
             go_simp; first | done | rfl)
          try simp only [qPA]
          refine wpMonoK_one' 16 (by kernel_rfl) rfl (by rfl) (fun K hK => ?_)
          go_simp
          refine hK.out _ _ (Go.Proofs.YtdaphppdmnmicaaGreatDoor.monok.movedL (Keeps.set1 _ _ _ _) (by decide)) ?_
          clear hK K
          try simp only [qPA]
          refine wpMonoK_done (by kernel_rfl) ?_ _
          have hm10 := ((HM.out.put 0 (.slice A6 (k + 1) c6)).put 1 (.slice A9 (k + 1) c9)).put 2 (.int .i64 (nx : Nat))
          simp only [List.setIfInBounds_toArray, List.set_cons_zero, List.set_cons_succ] at hm10
          rw [← htk] at hm10
          have HM := Lib.hid hm10
          clear hm10
          generalize ((w9.setCell ⟨w.heap.size + 1, 0, none⟩ (.slice A6 (k + 1) c6)).setCell ⟨w.heap.size + 1, 1, none⟩ (.slice A9 (k + 1) c9)).setCell ⟨w.heap.size + 1, 2, none⟩ (.int .i64 (nx : Nat)) = w10 at *
          go_wp2_with fail
          have hl10 : LookS w10 (w.heap.size + 2) (w.heap.size + 1) l (k + 1) (.slice A6 (k + 1) c6) (.slice A9 (k + 1) c9) := ⟨by rw [hnxe]; exact HM.out.blk, HM.out.parts, HM.out.ends_, by omega⟩
          refine ⟨⟨k + 1, _, _, by omega, hl10, HM.out.zero, HM.out.bw⟩, ?_⟩
          rw [hl10.at_, Hat.out, hnxe]
          have := seal_pos p
          omega
        · skip
          go_simp
          refine hK.out _ _ (Go.Proofs.YtdaphppdmnmicaaGreatDoor.monok.stays (Keeps.alloc _)) ?_
          clear hK K
          try simp only [qPA]
          have hm8 := (HM.out.alloc (.cells #[.int .i64 nx] 3)) 
          have h8 : Blk ((w4).alloc (.cells #[.int .i64 nx] 3))  (w4).heap.size 3 #[.int .i64 nx] := (Blk.new w4 3 #[.int .i64 nx]) 
          (try have h3 := (H3.out.alloc (.cells #[.int .i64 nx] 3)) )
          obtain ⟨g8, hg8⟩ : ∃ x, (w4).heap.size = x := ⟨_, rfl⟩
          (try rw [World.size_drew])
          rw [hg8] at h8 ⊢
          clear HM
          generalize ((w4).alloc (.cells #[.int .i64 nx] 3))  = w5 at *
          have HM := Lib.hid hm8
          have H8 := Lib.hid h8
          (try have H3 := Lib.hid h3)
          clear hm8 h8
          refine wpMonoK_one' 4 (by kernel_rfl) rfl (by rfl) (fun K hK => ?_)
          refine wp_append_any _ (.tmp 41) (.tmp 43) _ (by rfl) (w.heap.size + 2) 184 i0 _ 4 40 Tryz.underlying175 hi0 hz0 hz1 hz2 rfl (by omega) vp (l.take k).length _ (by rfl) HM.out.parts _ (some ⟨g3, 0, none⟩) 1 1 (pcells p) (by rfl) (reads_blk' H3.out) (pone p) (by rw [List.length_take]; unfold maxLen; omega) (by rw [List.length_take]; omega) HM.out.big fun v6 w6 ho6 hg6 _ => ?_
          have hm6 := HM.out.app4 (p := p) ho6 hg6
          (try have H8 := Lib.hid (H8.out.grown hg6 (fun e => own_blk_ne HM.out.parts H8.out (by decide) e.symm)))
          refine hK.out _ _ (Go.Proofs.YtdaphppdmnmicaaGreatDoor.monok.moved (.grown hg6 fun i hi => .inl ⟨by have := (HM.out.parts.lt i hi).1; omega, hvp i hi⟩) (by decide)) ?_
          clear hK K
          try simp only [qPA]
          obtain ⟨A6, c6, hv6⟩ := hm6.parts.form
          have hl6 : (l.take k ++ [p]).length = k + 1 := by rw [List.length_append, List.length_take]; simp; omega
          rw [hl6] at hv6
          subst hv6
          clear HM ho6 hg6 hl6
          have HM := Lib.hid hm6
          clear hm6
          refine wpMonoK_take' 11 (v := ?_) rfl (by kernel_rfl) (by kernel_rfl) (by kernel_rfl) (fun _ _ _ h => h) (by rfl) ?_ ?_
          rotate_left
          · (intro W hSw
             go_simp; first | done | rfl)
          try simp only [qPA]
          refine wpMonoK_one' 9 (by kernel_rfl) rfl (by rfl) (fun K hK => ?_)
          refine wp_append_any _ (.tmp 46) (.tmp 48) _ (by rfl) (w.heap.size + 2) 3 j0 _ 1 8 Tryz.underlying26 hj0 hy0 hy1 hy2 rfl (by omega) ve (ends l k).length _ (by rfl) HM.out.ends_ _ (some ⟨g8, 0, none⟩) 1 1 [.int .i64 nx] (by rfl) (reads_blk' H8.out) (by simp [Value.oneCell']) (by rw [ends_len]; unfold maxLen; omega) (by rw [ends_len]; omega) HM.out.big fun v9 w9 ho9 hg9 _ => ?_
          have hm9 := HM.out.app9 (n := nx) ho9 hg9
          refine hK.out _ _ (Go.Proofs.YtdaphppdmnmicaaGreatDoor.monok.moved (.grown hg9 fun i hi => .inl ⟨by have := (HM.out.ends_.lt i hi).1; omega, hve i hi⟩) (by decide)) ?_
          clear hK K
          try simp only [qPA]
          rw [← hen] at hm9
          obtain ⟨A9, c9, hv9⟩ := hm9.ends_.form
          rw [ends_len] at hv9
          subst hv9
          clear HM ho9 hg9
          have HM := Lib.hid hm9
          have q0 : w9.cell? ⟨w.heap.size + 1, 0, none⟩ = _ := hm9.blk.cell 0
          have q1 : w9.cell? ⟨w.heap.size + 1, 1, none⟩ = _ := hm9.blk.cell 1
          have q2 : w9.cell? ⟨w.heap.size + 1, 2, none⟩ = _ := hm9.blk.cell 2
          have f0 := hm9.blk.frozen 0
          have f1 := hm9.blk.frozen 1
          have f2 := hm9.blk.frozen 2
          have ql := hm9.blk.lt
          simp at q0 q1 q2
          clear hm9
          refine wpMonoK_one' 12 (by kernel_rfl) rfl (by rfl) (fun K hK => ?_)
          go_simp
          refine hK.out _ _ (Go.Proofs.YtdaphppdmnmicaaGreatDoor.monok.movedL (Keeps.set1 _ _ _ _) (by decide)) ?_
          clear hK K
          try simp only [qPA]
          refine wpMonoK_take' 13 (v := ?_) rfl (by kernel_rfl) (by kernel_rfl) (by kernel_rfl) (fun _ _ _ h => h) (by rfl) ?_ ?_
          rotate_left
          · (intro W hSw
             go_simp; first | done | rfl)
          try simp only [qPA]
          refine wpMonoK_one' 14 (by kernel_rfl) rfl (by rfl) (fun K hK => ?_)
          go_simp
          refine hK.out _ _ (Go.Proofs.YtdaphppdmnmicaaGreatDoor.monok.movedL (Keeps.set1 _ _ _ _) (by decide)) ?_
          clear hK K
          try simp only [qPA]
          refine wpMonoK_take' 15 (v := ?_) rfl (by kernel_rfl) (by kernel_rfl) (by kernel_rfl) (fun _ _ _ h => h) (by rfl) ?_ ?_
          rotate_left
          · (intro W hSw
             go_simp; first | done | rfl)
          try simp only [qPA]
          refine wpMonoK_one' 16 (by kernel_rfl) rfl (by rfl) (fun K hK => ?_)
          go_simp
          refine hK.out _ _ (Go.Proofs.YtdaphppdmnmicaaGreatDoor.monok.movedL (Keeps.set1 _ _ _ _) (by decide)) ?_
          clear hK K
          try simp only [qPA]
          refine wpMonoK_done (by kernel_rfl) ?_ _
          have hm10 := ((HM.out.put 0 (.slice A6 (k + 1) c6)).put 1 (.slice A9 (k + 1) c9)).put 2 (.int .i64 (nx : Nat))
          simp only [List.setIfInBounds_toArray, List.set_cons_zero, List.set_cons_succ] at hm10
          rw [← htk] at hm10
          have HM := Lib.hid hm10
          clear hm10
          generalize ((w9.setCell ⟨w.heap.size + 1, 0, none⟩ (.slice A6 (k + 1) c6)).setCell ⟨w.heap.size + 1, 1, none⟩ (.slice A9 (k + 1) c9)).setCell ⟨w.heap.size + 1, 2, none⟩ (.int .i64 (nx : Nat)) = w10 at *
          go_wp2_with fail
          have hl10 : LookS w10 (w.heap.size + 2) (w.heap.size + 1) l (k + 1) (.slice A6 (k + 1) c6) (.slice A9 (k + 1) c9) := ⟨by rw [hnxe]; exact HM.out.blk, HM.out.parts, HM.out.ends_, by omega⟩
          refine ⟨⟨k + 1, _, _, by omega, hl10, HM.out.zero, HM.out.bw⟩, ?_⟩
          rw [hl10.at_, Hat.out, hnxe]
          have := seal_pos p
          omega
      · skip
        go_simp
        refine hK.out _ _ (Go.Proofs.YtdaphppdmnmicaaGreatDoor.monok.stays (Keeps.alloc _)) ?_
        clear hK K
        try simp only [qPA]
        have hm8 := (HM.out.alloc (.cells #[.int .i64 nx] 3)).drew
        have h8 : Blk ((w3).alloc (.cells #[.int .i64 nx] 3)).drew (w3).heap.size 3 #[.int .i64 nx] := (Blk.new w3 3 #[.int .i64 nx]).drew
        (try have h3 := (H3.out.alloc (.cells #[.int .i64 nx] 3)).drew)
        obtain ⟨g8, hg8⟩ : ∃ x, (w3).heap.size = x := ⟨_, rfl⟩
        (try rw [World.size_drew])
        rw [hg8] at h8 ⊢
        clear HM
        generalize ((w3).alloc (.cells #[.int .i64 nx] 3)).drew = w4 at *
        have HM := Lib.hid hm8
        have H8 := Lib.hid h8
        (try have H3 := Lib.hid h3)
        clear hm8 h8
        refine wpMonoK_one' 3 (by kernel_rfl) rfl (by rfl) (fun K hK => ?_)
        go_simp
        refine hK.out _ _ (Go.Proofs.YtdaphppdmnmicaaGreatDoor.monok.stays (Keeps.alloc _)) ?_
        clear hK K
        try simp only [qPA]
        have hm3 := (HM.out.alloc (.cells #[.int .i64 p.kind, .int .i64 p.gen, .int .i64 p.place, .string (str p.text)] 184)) 
        have h3 : Blk ((w4).alloc (.cells #[.int .i64 p.kind, .int .i64 p.gen, .int .i64 p.place, .string (str p.text)] 184))  (w4).heap.size 184 (pcells p).toArray := (Blk.new w4 184 (pcells p).toArray) 
        (try have h8 := (H8.out.alloc (.cells #[.int .i64 p.kind, .int .i64 p.gen, .int .i64 p.place, .string (str p.text)] 184)) )
        obtain ⟨g3, hg3⟩ : ∃ x, (w4).heap.size = x := ⟨_, rfl⟩
        (try rw [World.size_drew])
        rw [hg3] at h3 ⊢
        clear HM
        generalize ((w4).alloc (.cells #[.int .i64 p.kind, .int .i64 p.gen, .int .i64 p.place, .string (str p.text)] 184))  = w5 at *
        have HM := Lib.hid hm3
        have H3 := Lib.hid h3
        (try have H8 := Lib.hid h8)
        clear hm3 h3
        refine wpMonoK_one' 4 (by kernel_rfl) rfl (by rfl) (fun K hK => ?_)
        refine wp_append_any _ (.tmp 41) (.tmp 43) _ (by rfl) (w.heap.size + 2) 184 i0 _ 4 40 Tryz.underlying175 hi0 hz0 hz1 hz2 rfl (by omega) vp (l.take k).length _ (by rfl) HM.out.parts _ (some ⟨g3, 0, none⟩) 1 1 (pcells p) (by rfl) (reads_blk' H3.out) (pone p) (by rw [List.length_take]; unfold maxLen; omega) (by rw [List.length_take]; omega) HM.out.big fun v6 w6 ho6 hg6 _ => ?_
        have hm6 := HM.out.app4 (p := p) ho6 hg6
        (try have H8 := Lib.hid (H8.out.grown hg6 (fun e => own_blk_ne HM.out.parts H8.out (by decide) e.symm)))
        refine hK.out _ _ (Go.Proofs.YtdaphppdmnmicaaGreatDoor.monok.moved (.grown hg6 fun i hi => .inl ⟨by have := (HM.out.parts.lt i hi).1; omega, hvp i hi⟩) (by decide)) ?_
        clear hK K
        try simp only [qPA]
        obtain ⟨A6, c6, hv6⟩ := hm6.parts.form
        have hl6 : (l.take k ++ [p]).length = k + 1 := by rw [List.length_append, List.length_take]; simp; omega
        rw [hl6] at hv6
        subst hv6
        clear HM ho6 hg6 hl6
        have HM := Lib.hid hm6
        clear hm6
        refine wpMonoK_take' 11 (v := ?_) rfl (by kernel_rfl) (by kernel_rfl) (by kernel_rfl) (fun _ _ _ h => h) (by rfl) ?_ ?_
        rotate_left
        · (intro W hSw
           go_simp; first | done | rfl)
        try simp only [qPA]
        refine wpMonoK_one' 9 (by kernel_rfl) rfl (by rfl) (fun K hK => ?_)
        refine wp_append_any _ (.tmp 46) (.tmp 48) _ (by rfl) (w.heap.size + 2) 3 j0 _ 1 8 Tryz.underlying26 hj0 hy0 hy1 hy2 rfl (by omega) ve (ends l k).length _ (by rfl) HM.out.ends_ _ (some ⟨g8, 0, none⟩) 1 1 [.int .i64 nx] (by rfl) (reads_blk' H8.out) (by simp [Value.oneCell']) (by rw [ends_len]; unfold maxLen; omega) (by rw [ends_len]; omega) HM.out.big fun v9 w9 ho9 hg9 _ => ?_
        have hm9 := HM.out.app9 (n := nx) ho9 hg9
        refine hK.out _ _ (Go.Proofs.YtdaphppdmnmicaaGreatDoor.monok.moved (.grown hg9 fun i hi => .inl ⟨by have := (HM.out.ends_.lt i hi).1; omega, hve i hi⟩) (by decide)) ?_
        clear hK K
        try simp only [qPA]
        rw [← hen] at hm9
        obtain ⟨A9, c9, hv9⟩ := hm9.ends_.form
        rw [ends_len] at hv9
        subst hv9
        clear HM ho9 hg9
        have HM := Lib.hid hm9
        have q0 : w9.cell? ⟨w.heap.size + 1, 0, none⟩ = _ := hm9.blk.cell 0
        have q1 : w9.cell? ⟨w.heap.size + 1, 1, none⟩ = _ := hm9.blk.cell 1
        have q2 : w9.cell? ⟨w.heap.size + 1, 2, none⟩ = _ := hm9.blk.cell 2
        have f0 := hm9.blk.frozen 0
        have f1 := hm9.blk.frozen 1
        have f2 := hm9.blk.frozen 2
        have ql := hm9.blk.lt
        simp at q0 q1 q2
        clear hm9
        refine wpMonoK_one' 12 (by kernel_rfl) rfl (by rfl) (fun K hK => ?_)
        go_simp
        refine hK.out _ _ (Go.Proofs.YtdaphppdmnmicaaGreatDoor.monok.movedL (Keeps.set1 _ _ _ _) (by decide)) ?_
        clear hK K
        try simp only [qPA]
        refine wpMonoK_take' 13 (v := ?_) rfl (by kernel_rfl) (by kernel_rfl) (by kernel_rfl) (fun _ _ _ h => h) (by rfl) ?_ ?_
        rotate_left
        · (intro W hSw
           go_simp; first | done | rfl)
        try simp only [qPA]
        refine wpMonoK_one' 14 (by kernel_rfl) rfl (by rfl) (fun K hK => ?_)
        go_simp
        refine hK.out _ _ (Go.Proofs.YtdaphppdmnmicaaGreatDoor.monok.movedL (Keeps.set1 _ _ _ _) (by decide)) ?_
        clear hK K
        try simp only [qPA]
        refine wpMonoK_take' 15 (v := ?_) rfl (by kernel_rfl) (by kernel_rfl) (by kernel_rfl) (fun _ _ _ h => h) (by rfl) ?_ ?_
        rotate_left
        · (intro W hSw
           go_simp; first | done | rfl)
        try simp only [qPA]
        refine wpMonoK_one' 16 (by kernel_rfl) rfl (by rfl) (fun K hK => ?_)
        go_simp
        refine hK.out _ _ (Go.Proofs.YtdaphppdmnmicaaGreatDoor.monok.movedL (Keeps.set1 _ _ _ _) (by decide)) ?_
        clear hK K
        try simp only [qPA]
        refine wpMonoK_done (by kernel_rfl) ?_ _
        have hm10 := ((HM.out.put 0 (.slice A6 (k + 1) c6)).put 1 (.slice A9 (k + 1) c9)).put 2 (.int .i64 (nx : Nat))
        simp only [List.setIfInBounds_toArray, List.set_cons_zero, List.set_cons_succ] at hm10
        rw [← htk] at hm10
        have HM := Lib.hid hm10
        clear hm10
        generalize ((w9.setCell ⟨w.heap.size + 1, 0, none⟩ (.slice A6 (k + 1) c6)).setCell ⟨w.heap.size + 1, 1, none⟩ (.slice A9 (k + 1) c9)).setCell ⟨w.heap.size + 1, 2, none⟩ (.int .i64 (nx : Nat)) = w10 at *
        go_wp2_with fail
        have hl10 : LookS w10 (w.heap.size + 2) (w.heap.size + 1) l (k + 1) (.slice A6 (k + 1) c6) (.slice A9 (k + 1) c9) := ⟨by rw [hnxe]; exact HM.out.blk, HM.out.parts, HM.out.ends_, by omega⟩
        refine ⟨⟨k + 1, _, _, by omega, hl10, HM.out.zero, HM.out.bw⟩, ?_⟩
        rw [hl10.at_, Hat.out, hnxe]
        have := seal_pos p
        omega
    · obtain rfl : k = l.length := by omega
      obtain ⟨Ap, cp, rfl⟩ := hx.parts.form
      obtain ⟨Ae, ce, rfl⟩ := hx.ends_.form
      rw [ends_len] at hx x1
      rw [List.take_length] at hx x0 x2
      rw [hL] at x2
      have hbx := hx.blk
      rw [List.take_length, hL] at hbx
      have hpx := hx.parts
      rw [List.take_length] at hpx
      have HM := Lib.hid (show Mid w wr #[.slice Ap l.length cp, .slice Ae l.length ce, .int .i64 L, .bool false, .bool false] (.slice Ap l.length cp) l (.slice Ae l.length ce) (ends l l.length) from ⟨hbx, hz, hpx, hx.ends_, hbw⟩)
      have HRD := Lib.hid (Reads.of_own hpx)
      have dlt : decide ((L : Int) < (L : Int)) = false := by simp
      clear hx hz hbw hbx hpx Hat
      go_wp2_with fail
      refine (ordered_w Ap l.length cp l _ rfl (by omega) HRD.out).mono ?_
      rintro e w2 ⟨rfl, hb2⟩
      have hm2 := HM.out.below hb2
      have q4 : w2.cell? ⟨w.heap.size + 1, 4, none⟩ = _ := hm2.blk.cell 4
      have f4 := hm2.blk.frozen 4
      have ql := hm2.blk.lt
      simp at q4
      have hm3 := hm2.put 4 (.bool (ordered l))
      simp only [List.setIfInBounds_toArray, List.set_cons_zero, List.set_cons_succ] at hm3
      have HM := Lib.hid hm3
      have HZ := Lib.hid hm3.zero
      have y0 : (w2.setCell ⟨w.heap.size + 1, 4, none⟩ (.bool (ordered l))).cell? ⟨w.heap.size + 1, 0, none⟩ = _ := hm3.blk.cell 0
      have y1 : (w2.setCell ⟨w.heap.size + 1, 4, none⟩ (.bool (ordered l))).cell? ⟨w.heap.size + 1, 1, none⟩ = _ := hm3.blk.cell 1
      have y2 : (w2.setCell ⟨w.heap.size + 1, 4, none⟩ (.bool (ordered l))).cell? ⟨w.heap.size + 1, 2, none⟩ = _ := hm3.blk.cell 2
      have y3 : (w2.setCell ⟨w.heap.size + 1, 4, none⟩ (.bool (ordered l))).cell? ⟨w.heap.size + 1, 3, none⟩ = _ := hm3.blk.cell 3
      have y4 : (w2.setCell ⟨w.heap.size + 1, 4, none⟩ (.bool (ordered l))).cell? ⟨w.heap.size + 1, 4, none⟩ = _ := hm3.blk.cell 4
      simp at y0 y1 y2 y3 y4
      clear hb2 hm2 hm3 x0 x1 x2 x3 x4
      generalize hob : ordered l = ob at *
      go_wp2_with (refine wpList_store_blk rfl 177 (.tmp 2) (.tmp 95) rfl w.heap.size [.slice Ap l.length cp, .slice Ae l.length ce, .int .i64 L, .bool false, .bool ob] rfl rfl HZ.out (by kernel_rfl) rfl rfl ?_; intro w10 ho4 hk4 hs4)
      have HR := Lib.hid (show ScanR l w (.returned (.tuple #[.agg #[.slice Ap l.length cp, .slice Ae l.length ce, .int .i64 L, .bool false, .bool ob], .nilIface])) w10 from by
        have hp := own_keeps HM.out.parts hk4 (fun i hi e => by omega)
        have he := own_keeps HM.out.ends_ hk4 (fun i hi e => by omega)
        exact ⟨_, _, by rw [hob, hL], own_low' hp (by omega), own_low' he (by omega), HM.out.bw.trans (hk4.below (fun i hi e => by omega) HM.out.bw.size)⟩)
      clear y0 y1 y2 y3 y4 hk4
      have p0 : w10.cell? ⟨w.heap.size, 0, none⟩ = _ := ho4.cell 0
      have p1 : w10.cell? ⟨w.heap.size, 1, none⟩ = _ := ho4.cell 1
      have p2 : w10.cell? ⟨w.heap.size, 2, none⟩ = _ := ho4.cell 2
      have p3 : w10.cell? ⟨w.heap.size, 3, none⟩ = _ := ho4.cell 3
      have p4 : w10.cell? ⟨w.heap.size, 4, none⟩ = _ := ho4.cell 4
      simp at p0 p1 p2 p3 p4
      clear ho4
      exact bodyPost_ret (v := .tuple #[.agg #[.slice Ap l.length cp, .slice Ae l.length ce, .int .i64 L, .bool false, .bool ob], .nilIface]) (by simp [results, Tryz.results72, go_sem, p0, p1, p2, p3, p4]) rfl HR.out
end Go.Proofs.YtdaphppdmnmicaaGreatDoor.jrn
namespace Go.Proofs.YtdaphppdmnmicaaGreatDoor.regn
open Go Go.RowKit base err wireb wirep
section
variable {w:World}
theorem numclo (g c n:Nat) (l:List UInt8) (w:World) (h:OutB w g l) (hc:w.cell? ⟨c,0,none⟩=some (.int .i64 n)) (hn:n≤4611686018427387903) (hr:l.length + 9≤65536) :
  Calls Tryz.prog 118 #[.pointer (some ⟨g,0,none⟩),.pointer (some ⟨c,0,none⟩)] w (PutB g (l ++ numW n) w):=by
 have H:=Lib.hid h
 have hlt:=h.lt
 clear h
 go_enter Tryz.func118,Tryz.ntmps118
 go_wp2_with fail
 refine (num_b g n l _ H.out hn hr).mono ?_
 rintro e w1 h1
 obtain ⟨rfl,h2⟩:=h1
 have HR:=Lib.hid (show PutB g (l ++ numW n) w (.returned noResult) w1 from ⟨rfl,h2⟩)
 clear h2
 go_wp2_with fail
 refine bodyPost_end (results_none rfl _ _ _) rfl ?_
 exact HR.out
theorem record_num (c k n:Nat) (w:World) (hc:w.cell? ⟨c,0,none⟩=some (.int .i64 n)) (hcl:c < w.heap.size) (hk:k≤100) (hn:n≤4611686018427387903) :
  Calls Tryz.prog 117 #[.int .i64 k,.func (.func 118) #[] #[.pointer (some ⟨c,0,none⟩)]] w fun e w'=>e=.returned (.string (str (numW k ++ numW n)))∧Below w.heap.size w w':=by
 have hnl:(numW k).length≤9:=by
  have:=numW_len 0 k (by omega)
  omega
 go_enter Tryz.func117,Tryz.ntmps117
 go_wp2_with fail
 have ho:OutB (w.alloc (.cells #[.slice none 0 0,.nilIface] 367)) w.heap.size []:=⟨.slice none 0 0,_,Blk.new _ _ _,⟨rfl,.inl ⟨rfl,rfl⟩⟩⟩
 have hb:Below w.heap.size w (w.alloc (.cells #[.slice none 0 0,.nilIface] 367)):=below_new _ _
 have HO:=Lib.hid ho
 have HB:=Lib.hid hb
 clear ho hb
 refine (num_b w.heap.size k [] _ HO.out (by omega) (by simp)).mono ?_
 rintro e w1 ⟨rfl,ho1,hb1⟩
 have HO1:=Lib.hid (show OutB w1 w.heap.size (numW k) from ho1)
 have hb1':=HB.out.trans hb1
 have HB1:=Lib.hid hb1'
 have hc1:w1.cell? ⟨c,0,none⟩=some (.int .i64 n):=(hb1'.cell (p:=⟨c,0,none⟩) hcl).trans hc
 clear hb1 ho1 hb1'
 go_wp2_with fail
 refine (numclo w.heap.size c n (numW k) w1 HO1.out hc1 hn (by omega)).mono ?_
 rintro e w2 ⟨rfl,ho2,hb2⟩
 have HO2:=Lib.hid ho2
 have HB2:=Lib.hid (HB1.out.trans hb2)
 clear ho2 hb2
 go_wp2_with fail
 refine (done_b w.heap.size _ w2 HO2.out).mono ?_
 rintro e w3 ⟨rfl,rfl⟩
 go_wp2_with fail
 go_ret
 exact ⟨rfl,HB2.out⟩
theorem num_record (k n:Nat) (w:World) (hk:k≤100) (hn:n≤4611686018427387903) :
  Calls Tryz.prog 46 #[.int .i64 k,.int .i64 n] w fun e w'=>e=.returned (.string (str (numW k ++ numW n)))∧Below w.heap.size w w':=by
 go_enter Tryz.func46,Tryz.ntmps46
 go_wp2_with fail
 have hb:Below w.heap.size w (w.alloc (.cells #[.int .i64 n] 3)):=below_new _ _
 have HB:=Lib.hid hb
 refine (record_num w.heap.size k n _ (Blk.cell (Blk.new w 3 #[.int .i64 n]) 0) (by simp) hk hn).mono ?_
 rintro e w1 ⟨rfl,hb1⟩
 have HB1:=Lib.hid (HB.out.trans (hb1.mono hb.size))
 clear hb hb1
 go_wp2_with fail
 go_ret
 exact ⟨rfl,HB1.out⟩
end
end Go.Proofs.YtdaphppdmnmicaaGreatDoor.regn
namespace Go.Proofs.YtdaphppdmnmicaaGreatDoor.regn
open Go Go.RowKit base err wireb wirep writep
section
variable {w:World}
theorem textclo (g c:Nat) (s:ByteArray) (l:List UInt8) (w:World) (h:OutB w g l) (hc:w.cell? ⟨c,0,none⟩=some (.string s)) (hn:s.size≤8192) (hr:l.length + s.size + 9≤65536) :
  Calls Tryz.prog 236 #[.pointer (some ⟨g,0,none⟩),.pointer (some ⟨c,0,none⟩)] w (PutB g (l ++ textW s.data.toList) w):=by
 have H:=Lib.hid h
 have hlt:=h.lt
 clear h
 go_enter Tryz.func236,Tryz.ntmps236
 go_wp2_with fail
 refine (text_b g s l _ H.out hn hr).mono ?_
 rintro e w1 h1
 obtain ⟨rfl,h2⟩:=h1
 have HR:=Lib.hid (show PutB g (l ++ textW s.data.toList) w (.returned noResult) w1 from ⟨rfl,h2⟩)
 clear h2
 go_wp2_with fail
 refine bodyPost_end (results_none rfl _ _ _) rfl ?_
 exact HR.out
theorem record_text (c k:Nat) (s:ByteArray) (w:World) (hc:w.cell? ⟨c,0,none⟩=some (.string s)) (hcl:c < w.heap.size) (hk:k≤100) (hn:s.size≤8192) :
  Calls Tryz.prog 117 #[.int .i64 k,.func (.func 236) #[] #[.pointer (some ⟨c,0,none⟩)]] w fun e w'=>e=.returned (.string (str (numW k ++ textW s.data.toList)))∧Below w.heap.size w w':=by
 have hnl:(numW k).length≤9:=by
  have:=numW_len 0 k (by omega)
  omega
 go_enter Tryz.func117,Tryz.ntmps117
 go_wp2_with fail
 have ho:OutB (w.alloc (.cells #[.slice none 0 0,.nilIface] 367)) w.heap.size []:=⟨.slice none 0 0,_,Blk.new _ _ _,⟨rfl,.inl ⟨rfl,rfl⟩⟩⟩
 have hb:Below w.heap.size w (w.alloc (.cells #[.slice none 0 0,.nilIface] 367)):=below_new _ _
 have HO:=Lib.hid ho
 have HB:=Lib.hid hb
 clear ho hb
 refine (num_b w.heap.size k [] _ HO.out (by omega) (by simp)).mono ?_
 rintro e w1 ⟨rfl,ho1,hb1⟩
 have HO1:=Lib.hid (show OutB w1 w.heap.size (numW k) from ho1)
 have hb1':=HB.out.trans hb1
 have HB1:=Lib.hid hb1'
 have hc1:w1.cell? ⟨c,0,none⟩=some (.string s):=(hb1'.cell (p:=⟨c,0,none⟩) hcl).trans hc
 clear hb1 ho1 hb1'
 go_wp2_with fail
 refine (textclo w.heap.size c s (numW k) w1 HO1.out hc1 hn (by omega)).mono ?_
 rintro e w2 ⟨rfl,ho2,hb2⟩
 have HO2:=Lib.hid ho2
 have HB2:=Lib.hid (HB1.out.trans hb2)
 clear ho2 hb2
 go_wp2_with fail
 refine (done_b w.heap.size _ w2 HO2.out).mono ?_
 rintro e w3 ⟨rfl,rfl⟩
 go_wp2_with fail
 go_ret
 exact ⟨rfl,HB2.out⟩
set_option maxRecDepth 10000 in
theorem write_record (x:PW) (d:Value) (k:Nat) (w:World) (hd:wire.Nums w w.heap.size d (natI x.d)) (hx:x.Ok) (hk:k≤100) (hl:x.bytes.length≤8192) :
  Calls Tryz.prog 142 #[.int .i64 k,.agg ⟨(x.wr d).cells⟩] w fun e w'=>e=.returned (.string (str (numW k ++ textW x.bytes)))∧Below w.heap.size w w':=by
 have HE:=Lib.hid (encode_b x d (w.alloc (.cells (x.wr d).cells.toArray 34)) ((hd.below (below_new _ _)).more (by simp)))
 have HB:=Lib.hid (below_new w (.cells (x.wr d).cells.toArray 34))
 have HX:=Lib.hid hx
 clear hd hx
 have hes:(x.wr d).cells=(x.wr d).cells:=rfl
 generalize hcs:(x.wr d).cells=cs at *
 unfold wire.Wr.cells at hcs
 subst hcs
 clear hes
 go_enter Tryz.func142,Tryz.ntmps142
 go_wp2_with fail
 refine HE.out.mono ?_
 rintro e w1 ⟨s,er,rfl,h1,hb1⟩
 rcases h1 with ⟨_,rfl,rfl⟩|⟨hno,_⟩
 rotate_left
 ·exact absurd HX.out hno
 have HB1:=Lib.hid (HB.out.trans (hb1.mono HB.out.size))
 have hs1:=HB1.out.size
 clear hb1
 go_wp2_with fail
 refine (record_text w1.heap.size k (str x.bytes) _ (Blk.cell (Blk.new w1 9 #[.string (str x.bytes)]) 0) (by simp) hk (by rw [str_size];exact hl)).mono ?_
 rintro e w2 ⟨rfl,hb2⟩
 have HB2:=Lib.hid (HB1.out.trans (((below_new w1 _).trans (hb2.mono (below_new w1 _).size)).mono hs1))
 clear hb2
 rw [str_list]
 go_wp2_with fail
 go_ret
 exact ⟨rfl,HB2.out⟩
end
end Go.Proofs.YtdaphppdmnmicaaGreatDoor.regn
namespace Go.Proofs.YtdaphppdmnmicaaGreatDoor.wireb
open Go Go.RowKit base rowe err rowc wirep writep inp monok
theorem InB.set {w:World} {g b:Nat} {s:ByteArray} {st:Rd} {cs:Array Value} (h:InB w g s st) (hb:Blk w b 34 cs) (hg:g ≠ b) (i:Nat) (v:Value):InB (w.setCell ⟨b,i,none⟩ v) g s st :=
 h.keepsE (Keeps.set1 w b i v) (fun e=>hg e) (fun k cs _ hk e=>by have h1:=hb.ne_ hk (by decide);have h2:k=b:=e;omega)
theorem cellsW {w:World} {g:Nat} {T:TypeId} {a0 a1 a2 a3 a4 a5 a6 a7 a8 a9:Value} (h:Blk w g T #[a0,a1,a2,a3,a4,a5,a6,a7,a8,a9]) :
  w.cell? ⟨g,0,none⟩=some a0∧w.cell? ⟨g,1,none⟩=some a1∧w.cell? ⟨g,2,none⟩=some a2∧w.cell? ⟨g,3,none⟩=some a3∧w.cell? ⟨g,4,none⟩=some a4∧w.cell? ⟨g,5,none⟩=some a5∧w.cell? ⟨g,6,none⟩=some a6∧w.cell? ⟨g,7,none⟩=some a7∧w.cell? ⟨g,8,none⟩=some a8∧w.cell? ⟨g,9,none⟩=some a9 :=
 ⟨h.cell 0,h.cell 1,h.cell 2,h.cell 3,h.cell 4,h.cell 5,h.cell 6,h.cell 7,h.cell 8,h.cell 9⟩
theorem OwnN.few {w:World} {base:Nat} {v:Value} {l:List Nat} (h:OwnN w base v l):l.length≤maxLen:=by
 rcases h.2 with ⟨_,h0⟩|⟨g,cap,cur,_,_,_,h3,h4,_⟩
 ·omega
 ·omega
theorem OwnN.nums {w:World} {base:Nat} {A:Option Addr} {c:Nat} {l:List Nat} (h:OwnN w base (.slice A l.length c) l):wire.Nums w w.heap.size (.slice A l.length c) (natI l) :=
 ⟨A,_,c,rfl,natI_len l,h.few,Reads.of_own h⟩
theorem own_low' {w:World} {base base':Nat} {e:TypeId} {size n:Nat} {v:Value} {xs:List Value} (h:w.ownsRow base' e size v n xs) (hb:base≤base'):w.ownsRow base e size v n xs :=
 ⟨h.1,h.2.imp id fun ⟨g,cap,cur,e,h1,r⟩=>⟨g,cap,cur,e,Nat.le_trans hb h1,r⟩⟩
def zeroW:List Value:=[.int .i64 0,.int .i64 0,.int .i64 0,.int .i64 0,.slice none 0 0,.string ⟨#[]⟩,.string ⟨#[]⟩,.string ⟨#[]⟩,.bool false,.int .i64 0]
def DecR (r:Option PW) (w:World) (e:Ending) (w':World):Prop:=∃ cs er,e=.returned (.tuple #[.agg ⟨cs⟩,er])∧Below w.heap.size w w' ∧
 match r with
 | some x=>er=.nilIface∧∃ d,cs=(x.wr d).cells∧OwnN w' w.heap.size d x.d
 | none=>cs=zeroW∧EO w' er 2
set_option maxRecDepth 100000 in
set_option maxHeartbeats 4000000 in
theorem decode_b (s:ByteArray) (hs:s.size≤maxLen) (w:World):Calls Tryz.prog 86 #[.string s] w (DecR (readW s.data.toList) w):=by
 obtain ⟨a,ha⟩:∃ x,numI 16 (some s.data.toList)=x:=⟨_,rfl⟩
 obtain ⟨b,hb⟩:∃ x,numI 1099511627776 a.2=x:=⟨_,rfl⟩
 obtain ⟨c,hc⟩:∃ x,numI 1099511627776 b.2=x:=⟨_,rfl⟩
 obtain ⟨d,hd⟩:∃ x,vecI c.2=x:=⟨_,rfl⟩
 obtain ⟨e,he⟩:∃ x,textI 64 d.2=x:=⟨_,rfl⟩
 obtain ⟨f,hf⟩:∃ x,textI 32 e.2=x:=⟨_,rfl⟩
 obtain ⟨g,hg⟩:∃ x,numI 1 f.2=x:=⟨_,rfl⟩
 obtain ⟨h,hh⟩:∃ x,textI 128 g.2=x:=⟨_,rfl⟩
 obtain ⟨i,hi⟩:∃ x,numI 1099511627776 h.2=x:=⟨_,rfl⟩
 have HRD:=Lib.hid (show readW s.data.toList=if i.2=some []∧(PW.mk a.1 b.1 c.1 d.1 e.1 f.1 h.1 (decide (g.1=1)) i.1).right=true then some (PW.mk a.1 b.1 c.1 d.1 e.1 f.1 h.1 (decide (g.1=1)) i.1) else none from by
  unfold readW maxNum
  dsimp only
  rw [ha,hb,hc,hd,he,hf,hg,hh,hi])
 generalize readW s.data.toList=R at *
 go_enter Tryz.func86,Tryz.ntmps86
 go_wp2_with fail
 refine (read_in _ s hs).mono ?_
 rintro e w1 ⟨rfl,h3,h4⟩
 have hs1:(w.alloc (.cells zeroW.toArray 34)).heap.size=w.heap.size + 1:=by simp
 unfold zeroW at hs1
 rw [hs1] at h3 h4
 have HRB:=Lib.hid ((Blk.new w 34 zeroW.toArray).below (w':=w1) h4 (by omega))
 have HBB:=Lib.hid ((below_new w (.cells zeroW.toArray 34)).trans (h4.mono (by omega)))
 have HI:=Lib.hid h3
 clear h3 h4
 rw [hs1]
 clear hs1
 obtain ⟨gi,hgi⟩:∃ x,w.heap.size + 1=x:=⟨_,rfl⟩
 rw [hgi] at HI ⊢
 go_wp2_with fail
 refine (num_in 16 HI.out).mono ?_
 rintro e w2 ⟨rfl,h3,h4⟩
 rw [ha] at h3
 (try rw [ha])
 have hr2:=HRB.out.keeps h4 (by omega)
 have HI:=Lib.hid h3
 have HRB:=Lib.hid hr2
 have HBB:=Lib.hid (HBB.out.trans (h4.below (B:=w.heap.size) (fun i hi e=>by omega) (by have:=HBB.out.size;omega)))
 clear h3 hr2 h4
 go_wp2_with fail
 refine (num_in 1099511627776 HI.out).mono ?_
 rintro e w3 ⟨rfl,h3,h4⟩
 rw [hb] at h3
 (try rw [hb])
 have hr2:=HRB.out.keeps h4 (by omega)
 have HI:=Lib.hid h3
 have HRB:=Lib.hid hr2
 have HBB:=Lib.hid (HBB.out.trans (h4.below (B:=w.heap.size) (fun i hi e=>by omega) (by have:=HBB.out.size;omega)))
 clear h3 hr2 h4
 go_wp2_with fail
 obtain ⟨wb,hwb⟩:∃ x,w3.heap.size=x:=⟨_,rfl⟩
 have hgb:gi < wb:=by have:=HI.out.lt;omega
 have HWn:=Lib.hid (Blk.new w3 34 #[.int .i64 a.1,.int .i64 b.1,.int .i64 0,.int .i64 0,.slice none 0 0,.string ⟨#[]⟩,.string ⟨#[]⟩,.string ⟨#[]⟩,.bool false,.int .i64 0])
 have HIn:=Lib.hid (HI.out.below (below_new w3 (.cells #[.int .i64 a.1,.int .i64 b.1,.int .i64 0,.int .i64 0,.slice none 0 0,.string ⟨#[]⟩,.string ⟨#[]⟩,.string ⟨#[]⟩,.bool false,.int .i64 0] 34)))
 have HRn:=Lib.hid (HRB.out.alloc (.cells #[.int .i64 a.1,.int .i64 b.1,.int .i64 0,.int .i64 0,.slice none 0 0,.string ⟨#[]⟩,.string ⟨#[]⟩,.string ⟨#[]⟩,.bool false,.int .i64 0] 34))
 have HBn:=Lib.hid (below_alloc HBB.out (.cells #[.int .i64 a.1,.int .i64 b.1,.int .i64 0,.int .i64 0,.slice none 0 0,.string ⟨#[]⟩,.string ⟨#[]⟩,.string ⟨#[]⟩,.bool false,.int .i64 0] 34))
 clear HI HRB HBB
 rw [hwb] at HWn ⊢
 generalize w3.alloc (.cells #[.int .i64 a.1,.int .i64 b.1,.int .i64 0,.int .i64 0,.slice none 0 0,.string ⟨#[]⟩,.string ⟨#[]⟩,.string ⟨#[]⟩,.bool false,.int .i64 0] 34)=w4 at *
 have HW:=HWn
 have HI:=HIn
 have HRB:=HRn
 have HBB:=HBn
 clear HWn HIn HRn HBn
 refine wp_region_monoK (fun i=>i=gi) [1] (fun i=>i=wb) [6] (by kernel_rfl) ?_
 refine wpMonoK_take' 0 (v:=?_) rfl (by kernel_rfl) (by kernel_rfl) (by kernel_rfl) (fun _ _ _ h=>h) (by rfl) ?_ ?_
 rotate_left
 ·(intro W hSw;((first|(have hg:=HW.out.drew.keeps (X:=fun i=>i=gi) hSw (by omega);have k0:W.cell? ⟨wb,0,none⟩=some (.int .i64 a.1):=hg.cell 0;have gl:=hg.lt)|skip));go_simp <;> rfl)
 try simp only [qPA]
 refine wpMonoK_take' 2 (v:=?_) rfl (by kernel_rfl) (by kernel_rfl) (by kernel_rfl) (fun _ _ _ h=>h) (by rfl) ?_ ?_
 rotate_left
 ·(intro W hSw;((first|(have hg:=HW.out.drew.keeps (X:=fun i=>i=gi) hSw (by omega);have k0:W.cell? ⟨wb,0,none⟩=some (.int .i64 a.1):=hg.cell 0;have gl:=hg.lt)|skip));go_simp <;> rfl)
 try simp only [qPA]
 refine wpMonoK_read' 3 [4,5,6] (v:=?_) rfl (by kernel_rfl) (by kernel_rfl) (by kernel_rfl) (by kernel_rfl) (by rfl) (fun _ _ _ h=>h) (by rfl) ?_ ?_
 rotate_left
 ·(intro W hSw;((first|(have hg:=HW.out.drew.keeps (X:=fun i=>i=gi) hSw (by omega);have k0:W.cell? ⟨wb,0,none⟩=some (.int .i64 a.1):=hg.cell 0;have gl:=hg.lt)|skip));go_simp <;> rfl)
 try simp only [qPA]
 refine wpMonoK_one' 1 (by kernel_rfl) rfl (by rfl) (fun K hK=>?_)
 go_simp
 have HRB:=Lib.hid HRB.out.drew
 have HW:=Lib.hid HW.out.drew
 have HBB:=Lib.hid HBB.out.drew
 refine (num_in 1099511627776 HI.out.drew).mono ?_
 rintro e w5 ⟨rfl,h3,h4⟩
 rw [hc] at h3
 (try rw [hc])
 have hr2:=HRB.out.keeps h4 (by omega)
 have hw2:=HW.out.keeps h4 (by omega)
 have HI:=Lib.hid h3
 have HRB:=Lib.hid hr2
 have HW:=Lib.hid hw2
 have HBB:=Lib.hid (HBB.out.trans (h4.below (B:=w.heap.size) (fun i hi e=>by omega) (by have:=HBB.out.size;omega)))
 (try (have hd2:=HD.out.keeps h4 (fun i hi e=>by omega);clear HD;have HD:=Lib.hid hd2;clear hd2))
 have Hk:=Lib.hid h4
 clear h3 hr2 h4 hw2
 refine hK.out _ _ ?_ ?_
 ·exact Go.Proofs.YtdaphppdmnmicaaGreatDoor.monok.moved Hk.out (by decide)
 clear hK K
 try simp only [qPA]
 refine wpMonoK_take' 4 (v:=?_) rfl (by kernel_rfl) (by kernel_rfl) (by kernel_rfl) (fun _ _ _ h=>h) (by rfl) ?_ ?_
 rotate_left
 ·(intro W hSw;((first|(have hg:=HW.out.drew.keeps (X:=fun i=>i=gi) hSw (by omega);have k0:W.cell? ⟨wb,0,none⟩=some (.int .i64 a.1):=hg.cell 0;have gl:=hg.lt)|skip));go_simp <;> rfl)
 try simp only [qPA]
 refine wpMonoK_take' 5 (v:=?_) rfl (by kernel_rfl) (by kernel_rfl) (by kernel_rfl) (fun _ _ _ h=>h) (by rfl) ?_ ?_
 rotate_left
 ·(intro W hSw;((first|(have hg:=HW.out.drew.keeps (X:=fun i=>i=gi) hSw (by omega);have k0:W.cell? ⟨wb,0,none⟩=some (.int .i64 a.1):=hg.cell 0;have gl:=hg.lt)|skip));go_simp <;> rfl)
 try simp only [qPA]
 refine wpMonoK_one' 6 (by kernel_rfl) rfl (by rfl) (fun K hK=>?_)
 refine wp_store_at 32 (.tmp 19) (.tmp 18) rfl wb 2 [.int .i64 c.1,.int .i64 a.1] rfl rfl HW.out rfl (by simp) rfl (fun w6 hq1 hq2 hq3=>?_)
 refine hK.out _ _ ?_ ?_
 ·exact Go.Proofs.YtdaphppdmnmicaaGreatDoor.monok.movedL hq2 (by decide)
 clear hK K
 try simp only [Act.put]
 refine wpMonoK_done (by kernel_rfl) ?_ _
 have HW7:=Lib.hid (show Blk w6 wb 34 #[.int .i64 a.1,.int .i64 b.1,.int .i64 c.1,.int .i64 a.1,.slice none 0 0,.string ⟨#[]⟩,.string ⟨#[]⟩,.string ⟨#[]⟩,.bool false,.int .i64 0] from hq1)
 have HI7:=Lib.hid (HI.out.keepsE hq2 (by omega) (fun k cs _ hk e=>by have h1:=HW.out.ne_ hk (by decide);have h2:k=wb:=e;omega))
 have HR7:=Lib.hid (HRB.out.keeps hq2 (by omega))
 have HB7:=Lib.hid (HBB.out.trans (hq2.below (B:=w.heap.size) (fun i hi e=>by omega) (by have:=HBB.out.size;omega)))
 clear HW HI HRB HBB Hk hq1 hq2 hq3
 have HW:=HW7
 have HI:=HI7
 have HRB:=HR7
 have HBB:=HB7
 clear HW7 HI7 HR7 HB7
 go_wp2_with fail
 refine (vec_in HI.out).mono ?_
 rintro e w7 ⟨vd,rfl,hd1,h3,h4⟩
 rw [hd] at hd1 h3
 obtain ⟨Ad,cd,rfl⟩:=hd1.form
 have hr2:=HRB.out.keeps h4 (by omega)
 have hw2:=HW.out.keeps h4 (by omega)
 have hgB:wb < w6.heap.size:=HW.out.lt
 obtain ⟨B,hB⟩:∃ x,w6.heap.size=x:=⟨_,rfl⟩
 rw [hB] at hd1 hgB
 have hwB:w.heap.size≤B:=by omega
 have HI:=Lib.hid h3
 have HRB:=Lib.hid hr2
 have HW:=Lib.hid hw2
 have HD:=Lib.hid hd1
 have HBB:=Lib.hid (HBB.out.trans (h4.below (B:=w.heap.size) (fun i hi e=>by omega) (by have:=HBB.out.size;omega)))
 clear h3 hr2 h4 hw2 hd1
 have c4:(w7).cell? ⟨wb,4,none⟩=_:=HW.out.cell 4
 have f4:=HW.out.frozen 4
 have hwl:=HW.out.lt
 simp at c4
 go_wp2_with fail
 clear c4 f4 hwl
 have hw2:=HW.out.set_ 4 (.slice Ad d.1.length cd)
 have hi2:=HI.out.set HW.out (by omega) 4 (.slice Ad d.1.length cd)
 have hr2:=HRB.out.far (p:=⟨wb,4,none⟩) (by simp;omega) (.slice Ad d.1.length cd)
 have hb2:=HBB.out.trans ((Keeps.set1 w7 wb 4 (.slice Ad d.1.length cd)).below (B:=w.heap.size) (fun i hi e=>by omega) (by have:=HBB.out.size;omega))
 simp only [List.setIfInBounds_toArray,List.set_cons_zero,List.set_cons_succ] at hw2
 have hd2:=HD.out.keeps (Keeps.set1 w7 wb 4 (.slice Ad d.1.length cd)) (fun i hi e=>by omega)
 clear HW HI HRB HBB HD
 generalize (w7).setCell ⟨wb,4,none⟩ (.slice Ad d.1.length cd)=w8 at *
 have HW:=Lib.hid hw2
 have HI:=Lib.hid hi2
 have HRB:=Lib.hid hr2
 have HBB:=Lib.hid hb2
 have HD:=Lib.hid hd2
 clear hw2 hi2 hr2 hb2 hd2
 refine (text_in 64 HI.out).mono ?_
 rintro e w9 ⟨rfl,h3,h4⟩
 rw [he] at h3
 (try rw [he])
 have hr2:=HRB.out.keeps h4 (by omega)
 have hw2:=HW.out.keeps h4 (by omega)
 have HI:=Lib.hid h3
 have HRB:=Lib.hid hr2
 have HW:=Lib.hid hw2
 have HBB:=Lib.hid (HBB.out.trans (h4.below (B:=w.heap.size) (fun i hi e=>by omega) (by have:=HBB.out.size;omega)))
 (try (have hd2:=HD.out.keeps h4 (fun i hi e=>by omega);clear HD;have HD:=Lib.hid hd2;clear hd2))
 have Hk:=Lib.hid h4
 clear h3 hr2 h4 hw2
 go_wp2_with fail
 refine (text_in 32 HI.out).mono ?_
 rintro e w10 ⟨rfl,h3,h4⟩
 rw [hf] at h3
 (try rw [hf])
 have hr2:=HRB.out.keeps h4 (by omega)
 have hw2:=HW.out.keeps h4 (by omega)
 have HI:=Lib.hid h3
 have HRB:=Lib.hid hr2
 have HW:=Lib.hid hw2
 have HBB:=Lib.hid (HBB.out.trans (h4.below (B:=w.heap.size) (fun i hi e=>by omega) (by have:=HBB.out.size;omega)))
 (try (have hd2:=HD.out.keeps h4 (fun i hi e=>by omega);clear HD;have HD:=Lib.hid hd2;clear hd2))
 have Hk:=Lib.hid h4
 clear h3 hr2 h4 hw2
 have c5:(w10).cell? ⟨wb,5,none⟩=_:=HW.out.cell 5
 have f5:=HW.out.frozen 5
 have hwl:=HW.out.lt
 simp at c5
 have c6:(w10).cell? ⟨wb,6,none⟩=_:=HW.out.cell 6
 have f6:=HW.out.frozen 6
 have hwl:=HW.out.lt
 simp at c6
 go_wp2_with fail
 clear c5 f5 c6 f6 hwl
 have hw2:=HW.out.set_ 5 (.string ⟨e.1.toArray⟩)
 have hi2:=HI.out.set HW.out (by omega) 5 (.string ⟨e.1.toArray⟩)
 have hr2:=HRB.out.far (p:=⟨wb,5,none⟩) (by simp;omega) (.string ⟨e.1.toArray⟩)
 have hb2:=HBB.out.trans ((Keeps.set1 w10 wb 5 (.string ⟨e.1.toArray⟩)).below (B:=w.heap.size) (fun i hi e=>by omega) (by have:=HBB.out.size;omega))
 simp only [List.setIfInBounds_toArray,List.set_cons_zero,List.set_cons_succ] at hw2
 have hd2:=HD.out.keeps (Keeps.set1 w10 wb 5 (.string ⟨e.1.toArray⟩)) (fun i hi e=>by omega)
 clear HW HI HRB HBB HD
 generalize (w10).setCell ⟨wb,5,none⟩ (.string ⟨e.1.toArray⟩)=w11 at *
 have HW:=Lib.hid hw2
 have HI:=Lib.hid hi2
 have HRB:=Lib.hid hr2
 have HBB:=Lib.hid hb2
 have HD:=Lib.hid hd2
 clear hw2 hi2 hr2 hb2 hd2
 have hw2:=HW.out.set_ 6 (.string ⟨f.1.toArray⟩)
 have hi2:=HI.out.set HW.out (by omega) 6 (.string ⟨f.1.toArray⟩)
 have hr2:=HRB.out.far (p:=⟨wb,6,none⟩) (by simp;omega) (.string ⟨f.1.toArray⟩)
 have hb2:=HBB.out.trans ((Keeps.set1 w11 wb 6 (.string ⟨f.1.toArray⟩)).below (B:=w.heap.size) (fun i hi e=>by omega) (by have:=HBB.out.size;omega))
 simp only [List.setIfInBounds_toArray,List.set_cons_zero,List.set_cons_succ] at hw2
 have hd2:=HD.out.keeps (Keeps.set1 w11 wb 6 (.string ⟨f.1.toArray⟩)) (fun i hi e=>by omega)
 clear HW HI HRB HBB HD
 generalize (w11).setCell ⟨wb,6,none⟩ (.string ⟨f.1.toArray⟩)=w12 at *
 have HW:=Lib.hid hw2
 have HI:=Lib.hid hi2
 have HRB:=Lib.hid hr2
 have HBB:=Lib.hid hb2
 have HD:=Lib.hid hd2
 clear hw2 hi2 hr2 hb2 hd2
 refine (flag_in HI.out).mono ?_
 rintro e w13 ⟨rfl,h3,h4⟩
 rw [hg] at h3
 (try rw [hg])
 have hr2:=HRB.out.keeps h4 (by omega)
 have hw2:=HW.out.keeps h4 (by omega)
 have HI:=Lib.hid h3
 have HRB:=Lib.hid hr2
 have HW:=Lib.hid hw2
 have HBB:=Lib.hid (HBB.out.trans (h4.below (B:=w.heap.size) (fun i hi e=>by omega) (by have:=HBB.out.size;omega)))
 (try (have hd2:=HD.out.keeps h4 (fun i hi e=>by omega);clear HD;have HD:=Lib.hid hd2;clear hd2))
 have Hk:=Lib.hid h4
 clear h3 hr2 h4 hw2
 go_wp2_with fail
 refine (text_in 128 HI.out).mono ?_
 rintro e w14 ⟨rfl,h3,h4⟩
 rw [hh] at h3
 (try rw [hh])
 have hr2:=HRB.out.keeps h4 (by omega)
 have hw2:=HW.out.keeps h4 (by omega)
 have HI:=Lib.hid h3
 have HRB:=Lib.hid hr2
 have HW:=Lib.hid hw2
 have HBB:=Lib.hid (HBB.out.trans (h4.below (B:=w.heap.size) (fun i hi e=>by omega) (by have:=HBB.out.size;omega)))
 (try (have hd2:=HD.out.keeps h4 (fun i hi e=>by omega);clear HD;have HD:=Lib.hid hd2;clear hd2))
 have Hk:=Lib.hid h4
 clear h3 hr2 h4 hw2
 have c5:(w14).cell? ⟨wb,8,none⟩=_:=HW.out.cell 8
 have f5:=HW.out.frozen 8
 have hwl:=HW.out.lt
 simp at c5
 have c6:(w14).cell? ⟨wb,7,none⟩=_:=HW.out.cell 7
 have f6:=HW.out.frozen 7
 have hwl:=HW.out.lt
 simp at c6
 go_wp2_with fail
 clear c5 f5 c6 f6 hwl
 have hw2:=HW.out.set_ 8 (.bool (decide (g.1=1)))
 have hi2:=HI.out.set HW.out (by omega) 8 (.bool (decide (g.1=1)))
 have hr2:=HRB.out.far (p:=⟨wb,8,none⟩) (by simp;omega) (.bool (decide (g.1=1)))
 have hb2:=HBB.out.trans ((Keeps.set1 w14 wb 8 (.bool (decide (g.1=1)))).below (B:=w.heap.size) (fun i hi e=>by omega) (by have:=HBB.out.size;omega))
 simp only [List.setIfInBounds_toArray,List.set_cons_zero,List.set_cons_succ] at hw2
 have hd2:=HD.out.keeps (Keeps.set1 w14 wb 8 (.bool (decide (g.1=1)))) (fun i hi e=>by omega)
 clear HW HI HRB HBB HD
 generalize (w14).setCell ⟨wb,8,none⟩ (.bool (decide (g.1=1)))=w15 at *
 have HW:=Lib.hid hw2
 have HI:=Lib.hid hi2
 have HRB:=Lib.hid hr2
 have HBB:=Lib.hid hb2
 have HD:=Lib.hid hd2
 clear hw2 hi2 hr2 hb2 hd2
 have hw2:=HW.out.set_ 7 (.string ⟨h.1.toArray⟩)
 have hi2:=HI.out.set HW.out (by omega) 7 (.string ⟨h.1.toArray⟩)
 have hr2:=HRB.out.far (p:=⟨wb,7,none⟩) (by simp;omega) (.string ⟨h.1.toArray⟩)
 have hb2:=HBB.out.trans ((Keeps.set1 w15 wb 7 (.string ⟨h.1.toArray⟩)).below (B:=w.heap.size) (fun i hi e=>by omega) (by have:=HBB.out.size;omega))
 simp only [List.setIfInBounds_toArray,List.set_cons_zero,List.set_cons_succ] at hw2
 have hd2:=HD.out.keeps (Keeps.set1 w15 wb 7 (.string ⟨h.1.toArray⟩)) (fun i hi e=>by omega)
 clear HW HI HRB HBB HD
 generalize (w15).setCell ⟨wb,7,none⟩ (.string ⟨h.1.toArray⟩)=w16 at *
 have HW:=Lib.hid hw2
 have HI:=Lib.hid hi2
 have HRB:=Lib.hid hr2
 have HBB:=Lib.hid hb2
 have HD:=Lib.hid hd2
 clear hw2 hi2 hr2 hb2 hd2
 refine (num_in 1099511627776 HI.out).mono ?_
 rintro e w17 ⟨rfl,h3,h4⟩
 rw [hi] at h3
 (try rw [hi])
 have hr2:=HRB.out.keeps h4 (by omega)
 have hw2:=HW.out.keeps h4 (by omega)
 have HI:=Lib.hid h3
 have HRB:=Lib.hid hr2
 have HW:=Lib.hid hw2
 have HBB:=Lib.hid (HBB.out.trans (h4.below (B:=w.heap.size) (fun i hi e=>by omega) (by have:=HBB.out.size;omega)))
 (try (have hd2:=HD.out.keeps h4 (fun i hi e=>by omega);clear HD;have HD:=Lib.hid hd2;clear hd2))
 have Hk:=Lib.hid h4
 clear h3 hr2 h4 hw2
 have c5:(w17).cell? ⟨wb,9,none⟩=_:=HW.out.cell 9
 have f5:=HW.out.frozen 9
 have hwl:=HW.out.lt
 simp at c5
 go_wp2_with fail
 clear c5 f5 hwl
 have hw2:=HW.out.set_ 9 (.int .i64 i.1)
 have hi2:=HI.out.set HW.out (by omega) 9 (.int .i64 i.1)
 have hr2:=HRB.out.far (p:=⟨wb,9,none⟩) (by simp;omega) (.int .i64 i.1)
 have hb2:=HBB.out.trans ((Keeps.set1 w17 wb 9 (.int .i64 i.1)).below (B:=w.heap.size) (fun i hi e=>by omega) (by have:=HBB.out.size;omega))
 simp only [List.setIfInBounds_toArray,List.set_cons_zero,List.set_cons_succ] at hw2
 have hd2:=HD.out.keeps (Keeps.set1 w17 wb 9 (.int .i64 i.1)) (fun i hi e=>by omega)
 clear HW HI HRB HBB HD
 generalize (w17).setCell ⟨wb,9,none⟩ (.int .i64 i.1)=w19 at *
 have HW:=Lib.hid hw2
 have HI:=Lib.hid hi2
 have HRB:=Lib.hid hr2
 have HBB:=Lib.hid hb2
 have HD:=Lib.hid hd2
 clear hw2 hi2 hr2 hb2 hd2
 refine (end_in HI.out).mono ?_
 rintro ee w20 ⟨er,rfl,heo,hb20⟩
 have hr2:=HRB.out.below hb20 (by have:=HRB.out.lt;omega)
 have hw2:=HW.out.below hb20 (by have:=HW.out.lt;omega)
 have hd2:=HD.out.keeps (X:=nobody) (.of_below hb20) (fun _ _ h=>h)
 have HBB:=Lib.hid (HBB.out.trans (hb20.mono HBB.out.size))
 have HEK:=Lib.hid (show ∀ k,er=.iface 167 (.pointer (some ⟨k,0,none⟩))→¬ k=w.heap.size from by
  rintro k rfl rfl
  rcases heo with ⟨_,h⟩|⟨_,⟨k,hk,_,hc⟩,_⟩
  ·cases h
  ·have:=ptr_inj hk
   subst this
   rw [hr2.cell 2] at hc
   cases hc)
 have HRB:=Lib.hid hr2
 have HW:=Lib.hid hw2
 have HD:=Lib.hid hd2
 have HE:=Lib.hid heo
 clear hr2 hw2 hd2 hb20 HI Hk
 by_cases hend:i.2=some []
 ·have h0:endC i.2=0:=by rw [hend];rfl
  rw [h0] at heo
  obtain rfl:er=.nilIface:=by
   rcases heo with ⟨_,h⟩|⟨h,_⟩
   ·exact h
   ·exact absurd rfl h
  clear heo HE HEK
  obtain ⟨p0,p1,p2,p3,p4,p5,p6,p7,p8,p9⟩:=cellsW HW.out
  go_wp2_with fail
  have hrt:=right_pw ⟨a.1,b.1,c.1,d.1,e.1,f.1,h.1,decide (g.1=1),i.1⟩ (.slice Ad d.1.length cd)
  refine (wire.right_any ⟨a.1,b.1,c.1,a.1,.slice Ad d.1.length cd,natI d.1,⟨e.1.toArray⟩,⟨f.1.toArray⟩,⟨h.1.toArray⟩,decide (g.1=1),i.1⟩ _ HD.out.nums).mono ?_
  rintro ee w21 ⟨rfl,hb21⟩
  rw [show wire.rightB ⟨a.1,b.1,c.1,a.1,.slice Ad d.1.length cd,natI d.1,⟨e.1.toArray⟩,⟨f.1.toArray⟩,⟨h.1.toArray⟩,decide (g.1=1),i.1⟩=_ from hrt]
  clear hrt p0 p1 p2 p3 p4 p5 p6 p7 p8 p9
  have hr2:=HRB.out.below hb21 (by have:=HRB.out.lt;omega)
  have hw2:=HW.out.below hb21 (by have:=HW.out.lt;omega)
  have hd2:=HD.out.keeps (X:=nobody) (.of_below hb21) (fun _ _ h=>h)
  have HBB:=Lib.hid (HBB.out.trans (hb21.mono HBB.out.size))
  have HRB:=Lib.hid hr2
  have HW:=Lib.hid hw2
  have HD:=Lib.hid hd2
  clear hr2 hw2 hd2 hb21
  cases hrt:PW.right ⟨a.1,b.1,c.1,d.1,e.1,f.1,h.1,decide (g.1=1),i.1⟩ with
  | true =>
   obtain ⟨p0,p1,p2,p3,p4,p5,p6,p7,p8,p9⟩:=cellsW HW.out
   go_wp2_with (refine wpList_store_blk rfl 34 (.tmp 2) (.tmp 50) rfl w.heap.size (PW.wr ⟨a.1,b.1,c.1,d.1,e.1,f.1,h.1,decide (g.1=1),i.1⟩ (.slice Ad d.1.length cd)).cells rfl rfl HRB.out (by kernel_rfl) rfl rfl ?_;intro w22 ho4 hk4 hs4)
   clear p0 p1 p2 p3 p4 p5 p6 p7 p8 p9
   obtain ⟨p0,p1,p2,p3,p4,p5,p6,p7,p8,p9⟩:=cellsW ho4
   have HRN:=HRD.out
   rw [if_pos ⟨hend,hrt⟩] at HRN
   have HFIN:=Lib.hid (show DecR R w (.returned (.tuple #[.agg ⟨(PW.wr ⟨a.1,b.1,c.1,d.1,e.1,f.1,h.1,decide (g.1=1),i.1⟩ (.slice Ad d.1.length cd)).cells⟩,.nilIface])) w22 from by
    rw [HRN]
    refine ⟨_,_,rfl,HBB.out.trans (hk4.below (fun i hi e=>by omega) HBB.out.size),rfl,_,rfl,?_⟩
    have h1:=HD.out.keeps hk4 (fun i hi e=>by omega)
    unfold OwnN at h1 ⊢
    exact own_low' h1 hwB)
   clear ho4 hk4
   exact bodyPost_ret (v:=.tuple #[.agg ⟨(PW.wr ⟨a.1,b.1,c.1,d.1,e.1,f.1,h.1,decide (g.1=1),i.1⟩ (.slice Ad d.1.length cd)).cells⟩,.nilIface]) (by unfold wire.Wr.cells;simp [results,Tryz.results86,go_sem,p0,p1,p2,p3,p4,p5,p6,p7,p8,p9]) rfl HFIN.out
  | false =>
   go_wp2_with fail
   refine (at_blk _ _ 2 _).mono ?_
   rintro ee w22 ⟨er,k,rfl,he,hk,hb22⟩
   have hr2:=HRB.out.below hb22 (by have:=HRB.out.lt;omega)
   have hlr:=HRB.out.lt
   have HBB:=Lib.hid (HBB.out.trans (hb22.mono HBB.out.size))
   have HRB:=Lib.hid hr2
   have HE:=Lib.hid (show EO w22 er 2 from .inr ⟨by decide,he.err,by obtain ⟨rfl,_⟩:=he;simp⟩)
   obtain ⟨rfl,he⟩:=he
   have HEK:=Lib.hid (show ∀ j,Value.iface 167 (.pointer (some ⟨k,0,none⟩))=.iface 167 (.pointer (some ⟨j,0,none⟩))→¬ j=w.heap.size from fun j hj e=>by have:=ptr_inj hj;omega)
   clear he hb22 hr2
   go_wp2_with (refine wpList_store_blk rfl 34 (.tmp 2) (.tmp 47) rfl w.heap.size zeroW rfl rfl HRB.out (by kernel_rfl) rfl rfl ?_;intro w18 ho4 hk4 hs4)
   obtain ⟨p0,p1,p2,p3,p4,p5,p6,p7,p8,p9⟩:=cellsW ho4
   have HRN:=HRD.out
   rw [if_neg ((fun h=>(by have h2:=h.2;rw [hrt] at h2;cases h2)))] at HRN
   exact bodyPost_ret (v:=.tuple #[.agg ⟨zeroW⟩,.iface 167 (.pointer (some ⟨k,0,none⟩))]) (by unfold zeroW;simp [results,Tryz.results86,go_sem,p0,p1,p2,p3,p4,p5,p6,p7,p8,p9]) rfl (by rw [HRN];exact ⟨_,.iface 167 (.pointer (some ⟨k,0,none⟩)),rfl,HBB.out.trans (hk4.below (fun i hi e=>by omega) HBB.out.size),rfl,HE.out.keeps hk4 (fun k hk=>HEK.out k hk)⟩)
 ·rcases heo with ⟨h,_⟩|⟨_,he,hnn⟩
  ·exfalso
   apply hend
   generalize i.2=q at h
   cases q with
   | none=>cases h
   | some l=>cases l with
    | nil=>rfl
    | cons x l=>cases h
  ·have he2:endC i.2=2:=by
    generalize i.2=q at hend
    cases q with
    | none=>rfl
    | some l=>cases l with
     | nil=>exact absurd rfl hend
     | cons x l=>rfl
   rw [he2] at HE
   obtain ⟨k,rfl⟩:=he.form
   clear he hnn
   go_wp2_with (refine wpList_store_blk rfl 34 (.tmp 2) (.tmp 42) rfl w.heap.size zeroW rfl rfl HRB.out (by kernel_rfl) rfl rfl ?_;intro w18 ho4 hk4 hs4)
   obtain ⟨p0,p1,p2,p3,p4,p5,p6,p7,p8,p9⟩:=cellsW ho4
   have HRN:=HRD.out
   rw [if_neg (fun h=>hend h.1)] at HRN
   exact bodyPost_ret (v:=.tuple #[.agg ⟨zeroW⟩,.iface 167 (.pointer (some ⟨k,0,none⟩))]) (by unfold zeroW;simp [results,Tryz.results86,go_sem,p0,p1,p2,p3,p4,p5,p6,p7,p8,p9]) rfl (by rw [HRN];exact ⟨_,.iface 167 (.pointer (some ⟨k,0,none⟩)),rfl,HBB.out.trans (hk4.below (fun i hi e=>by omega) HBB.out.size),rfl,HE.out.keeps hk4 (fun k hk=>HEK.out k hk)⟩)
end Go.Proofs.YtdaphppdmnmicaaGreatDoor.wireb
