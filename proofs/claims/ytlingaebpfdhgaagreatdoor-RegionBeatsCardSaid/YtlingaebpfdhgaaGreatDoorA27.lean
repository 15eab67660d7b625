/- A part of the proof of RegionBeats: WriteM, PartW, OrdW, ScanW, NumR, WRecR, Decode, RightB, EpsW, BeatP, BeatL, EncBeat, EpRec, DecBP. -/
import Derived.Test.YtlingaebpfdhgaaGreatDoorA17
import Derived.Test.YtlingaebpfdhgaaGreatDoorA15
import Derived.Test.YtlingaebpfdhgaaGreatDoorA16
import Derived.Test.YtlingaebpfdhgaaGreatDoorA01
import Derived.Test.YtlingaebpfdhgaaGreatDoorA02
import Derived.Test.YtlingaebpfdhgaaGreatDoorA21
import Derived.Test.YtlingaebpfdhgaaGreatDoorA25
import Derived.Test.YtlingaebpfdhgaaGreatDoorA20
namespace Go.Proofs.YtlingaebpfdhgaaGreatDoor.wireb
open Go Go.RowKit base rowe err rowc wirep writep
def str (l:List UInt8):ByteArray:=⟨l.toArray⟩
theorem str_list (l:List UInt8):(str l).data.toList=l:=by simp [str]
theorem str_size (l:List UInt8):(str l).size=l.length:=by simp [str,ByteArray.size]
theorem str_of (s:ByteArray):str s.data.toList=s:=by simp [str]
def _root_.Go.Proofs.YtlingaebpfdhgaaGreatDoor.writep.PW.wr (x:PW) (d:Value):wire.Wr:=⟨x.r,x.n,x.t,x.r,d,natI x.d,str x.se,str x.k,str x.v,x.g,x.l⟩
theorem right_pw (x:PW) (d:Value):wire.rightB (x.wr d)=x.right:=by
 have h3:wire.trB (natI x.d) 1099511627776=trN x.d maxNum:=tr_nat x.d 1099511627776
 have h4:((str x.v).toList == [])=decide (x.v=[]):=by
  have:(str x.v).toList=x.v:=ByteArray.toList_mk x.v
  rw [this]
  cases x.v <;> rfl
 have e1:wire.rightB (x.wr d)=wire.rightB ⟨x.r,x.n,x.t,x.r,d,natI x.d,str x.se,str x.k,str x.v,x.g,x.l⟩:=rfl
 rw [e1]
 unfold wire.rightB PW.right
 dsimp only
 simp only [str_size,h3,h4,wire.inB]
 rw [Bool.eq_iff_iff]
 simp only [Bool.and_eq_true,decide_eq_true_eq,beq_self_eq_true,true_and]
 rw [show maxNum=1099511627776 from rfl]
 constructor
 ·rintro ⟨h1,h2,⟨h3,h4⟩,⟨h5,h6⟩,h7,h8,h9,h10,h11,h12,h13,h14⟩
  exact ⟨by omega,by omega,by omega,by omega,by omega,by omega,h7,by omega,by omega,by omega,by omega,h12,by omega⟩
 ·rintro ⟨h1,h2,h3,h4,h5,h6,h7,h8,h9,h10,h11,h12,h13⟩
  exact ⟨by omega,by omega,⟨by omega,by omega⟩,⟨by omega,by omega⟩,h7,by omega,by omega,by omega,by omega,h12,by omega,by omega⟩
theorem nums_alloc {w:World} {B:Nat} {d:Value} {zs:List Int} (h:wire.Nums w B d zs) (o:Obj) (hB:B≤w.heap.size):wire.Nums (w.alloc o) B d zs:=h.below ((Below.refl _ _).alloc hB o)
def EncB (x:PW) (w:World) (e:Ending) (w':World):Prop:=∃ s er,e=.returned (.tuple #[.string s,er])∧((x.Ok∧s=str x.bytes∧er=.nilIface) ∨ (¬ x.Ok∧s=str []∧EO w' er 1))∧Below w.heap.size w w'
set_option maxRecDepth 100000 in
set_option maxHeartbeats 2000000 in
theorem encode_b (x:PW) (d:Value) (w:World) (hd:wire.Nums w w.heap.size d (natI x.d)) :
  Calls Tryz.prog 22 #[.agg ⟨(x.wr d).cells⟩] w (EncB x w):=by
 have hx0:=(Blk.new w 34 (x.wr d).cells.toArray)
 have hd2:wire.Nums (w.alloc (.cells (x.wr d).cells.toArray 34)) (w.alloc (.cells (x.wr d).cells.toArray 34)).heap.size d (natI x.d):=(hd.below (below_new _ _)).more (by simp)
 have hdg:=Lib.hid (hd.below (below_new w (.cells (x.wr d).cells.toArray 34)))
 have hb0:=below_new w (.cells (x.wr d).cells.toArray 34)
 have Hrt:=Lib.hid (right_pw x d)
 clear hd
 have HX0:=Lib.hid hx0
 have HD2:=Lib.hid hd2
 have HB0:=Lib.hid hb0
 clear hx0 hd2 hb0
 by_cases hok:x.Ok
 ·have HOK:=Lib.hid hok
  have hrt:=(PW.right_iff x).2 hok
  rw [hrt] at Hrt
  obtain ⟨r1,r16,n1,nm,t1,tm,tr,s1,s64,k32,v128,gv,lm⟩:=hok
  have hm:maxNum=1099511627776:=rfl
  have q1:=numW_len 8 x.r (by omega)
  have q2:=numW_len 8 x.n (by omega)
  have q3:=numW_len 8 x.t (by omega)
  have q4:=vecW_len tr
  have q5:(textW x.se).length≤80:=by unfold textW;rw [List.length_append];have:=numW_len 0 x.se.length (by omega);omega
  have q6:(textW x.k).length≤80:=by unfold textW;rw [List.length_append];have:=numW_len 0 x.k.length (by omega);omega
  have q7:=numW_len 0 x.g.toNat (by cases x.g <;> decide)
  have q8:(textW x.v).length≤140:=by unfold textW;rw [List.length_append];have:=numW_len 1 x.v.length (by omega);omega
  have z1:(str x.se).size≤64:=by rw [str_size];exact s64
  have z2:(str x.k).size≤32:=by rw [str_size];exact k32
  have z3:(str x.v).size≤128:=by rw [str_size];exact v128
  have Htr:=Lib.hid tr
  have Q:=Lib.hid (And.intro q1 (And.intro q2 (And.intro q3 (And.intro q4 (And.intro q5 (And.intro q6 (And.intro q7 q8)))))))
  clear hrt q1 q2 q3 q4 q5 q6 q7 q8 tr gv
  have hrt:=Hrt.out
  unfold PW.wr wire.Wr.cells at *
  dsimp only at *
  go_enter Tryz.func22,Tryz.ntmps22
  go_wp2_with fail
  refine (wire.right_any ⟨x.r,x.n,x.t,x.r,d,natI x.d,str x.se,str x.k,str x.v,x.g,x.l⟩ _ HD2.out).mono ?_
  rintro e w1 ⟨rfl,hb1⟩
  rw [hrt]
  have hx:=HX0.out.below hb1 (by simp)
  have hbb:=HB0.out.trans (hb1.mono (by simp))
  have hlt1:w.heap.size < w1.heap.size:=hx.lt
  have Hdg:=Lib.hid (hdg.out.below (hb1.mono (by simp)))
  have Hdg0:=Hdg
  have HX:=Lib.hid (hx.alloc (.cells #[.slice none 0 0,.nilIface] 81))
  have HB:=Lib.hid (hbb.alloc (by omega) (.cells #[.slice none 0 0,.nilIface] 81))
  have HO:=Lib.hid (show OutB (w1.alloc (.cells #[.slice none 0 0,.nilIface] 81)) w1.heap.size [] from ⟨_,_,Blk.new w1 81 _,OwnB.none _ _⟩)
  have c0:w1.cell? ⟨w.heap.size,0,none⟩=_:=hx.cell 0
  simp at c0
  clear hx hbb hb1 HX0 HD2 HB0 hdg hrt Hrt
  go_wp2_with fail
  clear Hdg
  have Hdg:=Lib.hid (nums_alloc Hdg0.out (.cells #[.slice none 0 0,.nilIface] 81) (Nat.le_of_lt hlt1))
  refine (num_b w1.heap.size x.r _ _ HO.out (by omega) (by simp)).mono ?_
  rintro e w2 ⟨rfl,ho,hb⟩
  have hx:=HX.out.below hb hlt1
  have hbb:=HB.out.trans (hb.mono (Nat.le_of_lt hlt1))
  have hdg:=Hdg.out.below (hb.mono (Nat.le_of_lt hlt1))
  clear HX HB HO Hdg c0
  have HX:=Lib.hid hx
  have HB:=Lib.hid hbb
  (try rw [str_list] at ho)
  have HO:=Lib.hid ho
  have Hdg:=Lib.hid hdg
  have c0:(w2).cell? ⟨w.heap.size,1,none⟩=_:=hx.cell 1
  simp at c0
  clear hx hbb ho hb hdg
  go_wp2_with fail
  refine (num_b w1.heap.size x.n _ _ HO.out (by omega) (by simp only [List.length_append,List.length_nil];obtain ⟨q1,q2,q3,q4,q5,q6,q7,q8⟩:=Q.out;omega)).mono ?_
  rintro e w3 ⟨rfl,ho,hb⟩
  have hx:=HX.out.below hb hlt1
  have hbb:=HB.out.trans (hb.mono (Nat.le_of_lt hlt1))
  have hdg:=Hdg.out.below (hb.mono (Nat.le_of_lt hlt1))
  clear HX HB HO Hdg c0
  have HX:=Lib.hid hx
  have HB:=Lib.hid hbb
  (try rw [str_list] at ho)
  have HO:=Lib.hid ho
  have Hdg:=Lib.hid hdg
  have c0:(w3).cell? ⟨w.heap.size,2,none⟩=_:=hx.cell 2
  simp at c0
  clear hx hbb ho hb hdg
  go_wp2_with fail
  refine (num_b w1.heap.size x.t _ _ HO.out (by omega) (by simp only [List.length_append,List.length_nil];obtain ⟨q1,q2,q3,q4,q5,q6,q7,q8⟩:=Q.out;omega)).mono ?_
  rintro e w4 ⟨rfl,ho,hb⟩
  have hx:=HX.out.below hb hlt1
  have hbb:=HB.out.trans (hb.mono (Nat.le_of_lt hlt1))
  have hdg:=Hdg.out.below (hb.mono (Nat.le_of_lt hlt1))
  clear HX HB HO Hdg c0
  have HX:=Lib.hid hx
  have HB:=Lib.hid hbb
  (try rw [str_list] at ho)
  have HO:=Lib.hid ho
  have Hdg:=Lib.hid hdg
  have c0:(w4).cell? ⟨w.heap.size,4,none⟩=_:=hx.cell 4
  simp at c0
  clear hx hbb ho hb hdg
  go_wp2_with fail
  refine (vec_b w1.heap.size _ d x.d _ HO.out (Hdg.out.more (by omega)) Htr.out (by simp only [List.length_append,List.length_nil];obtain ⟨q1,q2,q3,q4,q5,q6,q7,q8⟩:=Q.out;omega)).mono ?_
  rintro e w5 ⟨rfl,ho,hb⟩
  have hx:=HX.out.below hb hlt1
  have hbb:=HB.out.trans (hb.mono (Nat.le_of_lt hlt1))
  have hdg:=Hdg.out.below (hb.mono (Nat.le_of_lt hlt1))
  clear HX HB HO Hdg c0
  have HX:=Lib.hid hx
  have HB:=Lib.hid hbb
  (try rw [str_list] at ho)
  have HO:=Lib.hid ho
  have Hdg:=Lib.hid hdg
  have c0:(w5).cell? ⟨w.heap.size,5,none⟩=_:=hx.cell 5
  simp at c0
  clear hx hbb ho hb hdg
  go_wp2_with fail
  refine (text_b w1.heap.size (str x.se) _ _ HO.out (by omega) (by simp only [List.length_append,List.length_nil,str_size];obtain ⟨q1,q2,q3,q4,q5,q6,q7,q8⟩:=Q.out;omega)).mono ?_
  rintro e w6 ⟨rfl,ho,hb⟩
  have hx:=HX.out.below hb hlt1
  have hbb:=HB.out.trans (hb.mono (Nat.le_of_lt hlt1))
  have hdg:=Hdg.out.below (hb.mono (Nat.le_of_lt hlt1))
  clear HX HB HO Hdg c0
  have HX:=Lib.hid hx
  have HB:=Lib.hid hbb
  (try rw [str_list] at ho)
  have HO:=Lib.hid ho
  have Hdg:=Lib.hid hdg
  have c0:(w6).cell? ⟨w.heap.size,6,none⟩=_:=hx.cell 6
  simp at c0
  clear hx hbb ho hb hdg
  go_wp2_with fail
  refine (text_b w1.heap.size (str x.k) _ _ HO.out (by omega) (by simp only [List.length_append,List.length_nil,str_size];obtain ⟨q1,q2,q3,q4,q5,q6,q7,q8⟩:=Q.out;omega)).mono ?_
  rintro e w7 ⟨rfl,ho,hb⟩
  have hx:=HX.out.below hb hlt1
  have hbb:=HB.out.trans (hb.mono (Nat.le_of_lt hlt1))
  have hdg:=Hdg.out.below (hb.mono (Nat.le_of_lt hlt1))
  clear HX HB HO Hdg c0
  have HX:=Lib.hid hx
  have HB:=Lib.hid hbb
  (try rw [str_list] at ho)
  have HO:=Lib.hid ho
  have Hdg:=Lib.hid hdg
  have c0:(w7).cell? ⟨w.heap.size,8,none⟩=_:=hx.cell 8
  simp at c0
  clear hx hbb ho hb hdg
  go_wp2_with fail
  refine (flag_b w1.heap.size x.g _ _ HO.out (by simp only [List.length_append,List.length_nil];obtain ⟨q1,q2,q3,q4,q5,q6,q7,q8⟩:=Q.out;omega)).mono ?_
  rintro e w8 ⟨rfl,ho,hb⟩
  have hx:=HX.out.below hb hlt1
  have hbb:=HB.out.trans (hb.mono (Nat.le_of_lt hlt1))
  have hdg:=Hdg.out.below (hb.mono (Nat.le_of_lt hlt1))
  clear HX HB HO Hdg c0
  have HX:=Lib.hid hx
  have HB:=Lib.hid hbb
  (try rw [str_list] at ho)
  have HO:=Lib.hid ho
  have Hdg:=Lib.hid hdg
  have c0:(w8).cell? ⟨w.heap.size,7,none⟩=_:=hx.cell 7
  simp at c0
  clear hx hbb ho hb hdg
  go_wp2_with fail
  refine (text_b w1.heap.size (str x.v) _ _ HO.out (by omega) (by simp only [List.length_append,List.length_nil,str_size];obtain ⟨q1,q2,q3,q4,q5,q6,q7,q8⟩:=Q.out;omega)).mono ?_
  rintro e w9 ⟨rfl,ho,hb⟩
  have hx:=HX.out.below hb hlt1
  have hbb:=HB.out.trans (hb.mono (Nat.le_of_lt hlt1))
  have hdg:=Hdg.out.below (hb.mono (Nat.le_of_lt hlt1))
  clear HX HB HO Hdg c0
  have HX:=Lib.hid hx
  have HB:=Lib.hid hbb
  (try rw [str_list] at ho)
  have HO:=Lib.hid ho
  have Hdg:=Lib.hid hdg
  have c0:(w9).cell? ⟨w.heap.size,9,none⟩=_:=hx.cell 9
  simp at c0
  clear hx hbb ho hb hdg
  go_wp2_with fail
  refine (num_b w1.heap.size x.l _ _ HO.out (by omega) (by simp only [List.length_append,List.length_nil];obtain ⟨q1,q2,q3,q4,q5,q6,q7,q8⟩:=Q.out;omega)).mono ?_
  rintro e w10 ⟨rfl,ho,hb⟩
  have hx:=HX.out.below hb hlt1
  have hbb:=HB.out.trans (hb.mono (Nat.le_of_lt hlt1))
  have hdg:=Hdg.out.below (hb.mono (Nat.le_of_lt hlt1))
  clear HX HB HO Hdg c0
  have HX:=Lib.hid hx
  have HB:=Lib.hid hbb
  (try rw [str_list] at ho)
  have HO:=Lib.hid ho
  have Hdg:=Lib.hid hdg
  have c0:(w10).cell? ⟨w.heap.size,0,none⟩=_:=hx.cell 0
  simp at c0
  clear hx hbb ho hb hdg
  go_wp2_with fail
  refine (done_b w1.heap.size _ _ HO.out).mono ?_
  rintro e w11 ⟨rfl,rfl⟩
  have HR:=Lib.hid (show EncB x w (.returned (.tuple #[.string (str x.bytes),.nilIface])) w11 from ⟨_,_,rfl,.inl ⟨HOK.out,rfl,rfl⟩,HB.out⟩)
  have HL:∀ l,l=x.bytes→(⟨l.toArray⟩:ByteArray)=str x.bytes:=fun l h=>by rw [h];rfl
  rw [HL _ (by simp [PW.bytes,List.append_assoc])]
  clear HL
  go_wp2
  exact bodyPost_ret (v:=.tuple #[.string (str x.bytes),.nilIface]) (by simp [results,Tryz.results22,go_sem]) rfl HR.out
 ·have hrt:x.right=false:=by
   cases h:x.right with
   | false=>rfl
   | true=>exact absurd ((PW.right_iff x).1 h) hok
  rw [hrt] at Hrt
  have HOK:=Lib.hid hok
  clear hok hrt
  have hrt:=Hrt.out
  unfold PW.wr wire.Wr.cells at *
  dsimp only at *
  go_enter Tryz.func22,Tryz.ntmps22
  go_wp2_with fail
  refine (wire.right_any ⟨x.r,x.n,x.t,x.r,d,natI x.d,str x.se,str x.k,str x.v,x.g,x.l⟩ _ HD2.out).mono ?_
  rintro e w1 ⟨rfl,hb1⟩
  rw [hrt]
  have HB:=Lib.hid (HB0.out.trans (hb1.mono (by simp)))
  clear hb1 hrt
  go_wp2_with fail
  refine (Go.Proofs.YtlingaebpfdhgaaGreatDoor.err.at_any _ _ 1 _).mono ?_
  rintro e w2 ⟨ve,rfl,he,hne,hb2,_⟩
  have HR:=Lib.hid (show EncB x w (.returned (.tuple #[.string ⟨#[]⟩,ve])) w2 from ⟨_,_,rfl,.inr ⟨HOK.out,rfl,.inr ⟨by decide,he,hne⟩⟩,HB.out.trans (hb2.mono HB.out.size)⟩)
  clear he hne hb2
  go_wp2
  exact bodyPost_ret (v:=.tuple #[.string ⟨#[]⟩,ve]) (by simp [results,Tryz.results22,go_sem]) rfl HR.out
end Go.Proofs.YtlingaebpfdhgaaGreatDoor.wireb
namespace Go.Proofs.YtlingaebpfdhgaaGreatDoor.jrn
open Go Go.RowKit Go.Lib base rowe err rowc wirep framep wireb framew jrnp inp writep
def pcells (p:Part):List Value:=[.int .i64 p.kind,.int .i64 p.gen,.int .i64 p.place,.string (str p.text)]
set_option maxRecDepth 10000 in
set_option maxHeartbeats 1600000 in
theorem part_seal (p:Part) (h:p.Ok) (w:World):Calls Tryz.prog 122 #[.agg ⟨pcells p⟩] w fun e w'=>e=.returned (.string (str p.sealed))∧Below w.heap.size w w':=by
 obtain ⟨k1,k4,g1,g2,pl,tx,rc⟩:=id h
 have q1:=numW_len 8 p.kind (by omega)
 have q2:=numW_len 8 p.gen (by omega)
 have q3:=numW_len 8 p.place (by omega)
 have z1:(str p.text).size≤4096:=by rw [str_size];exact tx
 have HBY:=Lib.hid (show [] ++ numW p.kind ++ numW p.gen ++ numW p.place ++ textW p.text=p.bytes from by simp [Part.bytes])
 have hbl:=jrnp.bytes_len h
 have HS:=Lib.hid (show p.sealed=sealF p.bytes from rfl)
 have hx0:=(Blk.new w 168 (pcells p).toArray).alloc (.cells #[.slice none 0 0,.nilIface] 81)
 have hb0:=below_alloc (below_new w (.cells (pcells p).toArray 168)) (.cells #[.slice none 0 0,.nilIface] 81)
 have ho0:OutB ((w.alloc (.cells (pcells p).toArray 168)).alloc (.cells #[.slice none 0 0,.nilIface] 81)) (w.alloc (.cells (pcells p).toArray 168)).heap.size []:=⟨_,_,Blk.new _ 81 _,OwnB.none _ _⟩
 have hs1:(w.alloc (.cells (pcells p).toArray 168)).heap.size=w.heap.size + 1:=by simp
 rw [hs1] at ho0
 have HX:=Lib.hid hx0
 have HB:=Lib.hid hb0
 have HO:=Lib.hid ho0
 have hlt1:w.heap.size < w.heap.size + 1:=Nat.lt_succ_self _
 clear hx0 hb0 ho0 hs1 h rc
 generalize p.bytes=by_ at *
 generalize p.sealed=se at *
 unfold pcells at *
 have c0:((w.alloc (.cells #[.int .i64 p.kind,.int .i64 p.gen,.int .i64 p.place,.string (str p.text)] 168)).alloc (.cells #[.slice none 0 0,.nilIface] 81)).cell? ⟨w.heap.size,0,none⟩=_:=HX.out.cell 0
 simp at c0
 go_enter Tryz.func122,Tryz.ntmps122
 go_wp2_with fail
 refine (num_b (w.heap.size + 1) p.kind _ _ HO.out (by omega) (by simp)).mono ?_
 rintro e w2 ⟨rfl,ho,hb⟩
 have hx:=HX.out.below hb hlt1
 have hbb:=HB.out.trans (hb.mono (Nat.le_of_lt hlt1))
 clear HX HB HO c0
 (try rw [str_list] at ho)
 have HX:=Lib.hid hx
 have HB:=Lib.hid hbb
 have HO:=Lib.hid ho
 have c0:(w2).cell? ⟨w.heap.size,1,none⟩=_:=hx.cell 1
 simp at c0
 clear hx hbb ho hb
 go_wp2_with fail
 refine (num_b (w.heap.size + 1) p.gen _ _ HO.out (by omega) (by simp only [List.length_append,List.length_nil];omega)).mono ?_
 rintro e w3 ⟨rfl,ho,hb⟩
 have hx:=HX.out.below hb hlt1
 have hbb:=HB.out.trans (hb.mono (Nat.le_of_lt hlt1))
 clear HX HB HO c0
 (try rw [str_list] at ho)
 have HX:=Lib.hid hx
 have HB:=Lib.hid hbb
 have HO:=Lib.hid ho
 have c0:(w3).cell? ⟨w.heap.size,2,none⟩=_:=hx.cell 2
 simp at c0
 clear hx hbb ho hb
 go_wp2_with fail
 refine (num_b (w.heap.size + 1) p.place _ _ HO.out (by omega) (by simp only [List.length_append,List.length_nil];omega)).mono ?_
 rintro e w4 ⟨rfl,ho,hb⟩
 have hx:=HX.out.below hb hlt1
 have hbb:=HB.out.trans (hb.mono (Nat.le_of_lt hlt1))
 clear HX HB HO c0
 (try rw [str_list] at ho)
 have HX:=Lib.hid hx
 have HB:=Lib.hid hbb
 have HO:=Lib.hid ho
 have c0:(w4).cell? ⟨w.heap.size,3,none⟩=_:=hx.cell 3
 simp at c0
 clear hx hbb ho hb
 go_wp2_with fail
 refine (text_b (w.heap.size + 1) (str p.text) _ _ HO.out (by omega) (by simp only [List.length_append,List.length_nil];omega)).mono ?_
 rintro e w5 ⟨rfl,ho,hb⟩
 have hx:=HX.out.below hb hlt1
 have hbb:=HB.out.trans (hb.mono (Nat.le_of_lt hlt1))
 clear HX HB HO c0
 (try rw [str_list] at ho)
 have HX:=Lib.hid hx
 have HB:=Lib.hid hbb
 have HO:=Lib.hid ho
 have c0:(w5).cell? ⟨w.heap.size,0,none⟩=_:=hx.cell 0
 simp at c0
 clear hx hbb ho hb
 go_wp2_with fail
 have ho:=HO.out
 rw [HBY.out] at ho
 have HO:=Lib.hid ho
 clear ho
 refine (done_b (w.heap.size + 1) by_ _ HO.out).mono ?_
 rintro e w6 ⟨rfl,rfl⟩
 go_wp2_with fail
 refine (seal_f ⟨by_.toArray⟩ (by show by_.toArray.size≤8192;simp;omega) _).mono ?_
 rintro e w7 ⟨rfl,hb7⟩
 have hsz:=HB.out.size
 have HB7:=Lib.hid (HB.out.trans (hb7.mono hsz))
 rw [show (⟨by_.toArray⟩:ByteArray).data.toList=by_ from by simp,← HS.out]
 clear hb7
 go_wp2_with fail
 go_ret
 exact ⟨rfl,HB7.out⟩
theorem cells4 {w:World} {g:Nat} {T:TypeId} {a0 a1 a2 a3:Value} (h:Blk w g T #[a0,a1,a2,a3]) :
  w.cell? ⟨g,0,none⟩=some a0∧w.cell? ⟨g,1,none⟩=some a1∧w.cell? ⟨g,2,none⟩=some a2∧w.cell? ⟨g,3,none⟩=some a3:=⟨h.cell 0,h.cell 1,h.cell 2,h.cell 3⟩
def PartR (p:Part) (next:Nat) (w:World) (e:Ending) (w':World):Prop:=e=.returned (.tuple #[.agg ⟨pcells p⟩,.int .i64 next,.bool true])∧Below w.heap.size w w'
theorem inb_setP {w:World} {g b:Nat} {s:ByteArray} {st:Rd} {cs:Array Value} (h:InB w g s st) (hb:Blk w b 168 cs) (hg:g ≠ b) (i:Nat) (v:Value):InB (w.setCell ⟨b,i,none⟩ v) g s st :=
 h.keepsE (Keeps.set1 w b i v) (fun e=>hg e) (fun k cs _ hk e=>by have h1:=hb.ne_ hk (by decide);have h2:k=b:=e;omega)
set_option maxRecDepth 10000 in
set_option maxHeartbeats 1600000 in
theorem part_open (s:ByteArray) (at_:Nat) (p:Part) (r:List UInt8) (h:p.Ok) (hs:s.size≤1048576) (hd:s.data.toList.drop at_=p.sealed ++ r) (w:World) :
  Calls Tryz.prog 119 #[.string s,.int .i64 at_] w (PartR p (at_ + p.sealed.length) w):=by
 obtain ⟨k1,k4,g1,g2,pl,tx,rc⟩:=id h
 have hbl:=jrnp.bytes_len h
 have hal:at_ + p.sealed.length≤1048576:=by
  have:=congrArg List.length hd
  rw [List.length_drop,List.length_append] at this
  have h2:s.data.toList.length=s.size:=rfl
  have:=seal_pos p
  omega
 have HO:=Lib.hid (fun w=>open_f s at_ p.bytes r w hs (by omega) hd)
 rw [show (sealF p.bytes).length=p.sealed.length from rfl] at HO
 have hm:maxNum=1099511627776:=rfl
 obtain ⟨by_,hby⟩:∃ x,p.bytes=x:=⟨_,rfl⟩
 have e1:numI 4 (some by_)=(p.kind,some (numW p.gen ++ (numW p.place ++ textW p.text))):=by rw [← hby];exact numI_back _ k4 (by omega)
 have e2:numI 1099511627776 (some (numW p.gen ++ (numW p.place ++ textW p.text)))=(p.gen,some (numW p.place ++ textW p.text)):=numI_back _ g2 (by omega)
 have e3:numI 1099511627776 (some (numW p.place ++ textW p.text))=(p.place,some (textW p.text)):=numI_back _ pl (by omega)
 have e4:textI 4096 (some (textW p.text))=(p.text,some []):=by have:=textI_back (most:=4096) (s:=p.text) [] tx (by omega);rwa [List.append_nil] at this
 have HRC:=Lib.hid (show p.kind ≠ 2→str p.text=⟨#[]⟩ from fun hk=>by
  rw [rc.resolve_left hk]
  rfl)
 rw [hby] at HO hbl
 generalize at_ + p.sealed.length=nx at *
 clear hd h rc hby
 go_enter Tryz.func119,Tryz.ntmps119
 go_wp2_with fail
 refine (HO.out _).mono ?_
 rintro e w1 ⟨rfl,hb1⟩
 have hs1:(w.alloc (.cells #[.int .i64 0,.int .i64 0,.int .i64 0,.string ⟨#[]⟩] 168)).heap.size=w.heap.size + 1:=by simp
 have HRB:=Lib.hid ((Blk.new w 168 #[.int .i64 0,.int .i64 0,.int .i64 0,.string ⟨#[]⟩]).below hb1 (by omega))
 have HBB:=Lib.hid ((below_new w (.cells #[.int .i64 0,.int .i64 0,.int .i64 0,.string ⟨#[]⟩] 168)).trans (hb1.mono (by omega)))
 clear hb1 HO hs1
 go_wp2_with fail
 refine (read_in _ ⟨by_.toArray⟩ (by show by_.toArray.size≤maxLen;unfold maxLen;simp;omega)).mono ?_
 rintro e w2 ⟨rfl,h3,h4⟩
 rw [show (⟨by_.toArray⟩:ByteArray).data.toList=by_ from by simp] at h3
 have hlr:=HRB.out.lt
 obtain ⟨gi,hgi⟩:∃ x,w1.heap.size=x:=⟨_,rfl⟩
 have HRB:=Lib.hid (HRB.out.below h4 hlr)
 have HBB:=Lib.hid (HBB.out.trans (h4.mono (by omega)))
 rw [hgi] at h3 ⊢
 have HI:=Lib.hid h3
 clear h3 h4
 go_wp2_with fail
 refine (num_in 4 HI.out).mono ?_
 rintro e w3 ⟨rfl,h3,h4⟩
 rw [e1] at h3 ⊢
 have hr2:=HRB.out.keeps h4 (by omega)
 have HI:=Lib.hid h3
 have HRB:=Lib.hid hr2
 have HBB:=Lib.hid (HBB.out.trans (h4.below (B:=w.heap.size) (fun i hi e=>by omega) (by have:=HBB.out.size;omega)))
 clear h3 hr2 h4
 go_wp2_with fail
 refine (num_in 1099511627776 HI.out).mono ?_
 rintro e w4 ⟨rfl,h3,h4⟩
 rw [e2] at h3 ⊢
 have hr2:=HRB.out.keeps h4 (by omega)
 have HI:=Lib.hid h3
 have HRB:=Lib.hid hr2
 have HBB:=Lib.hid (HBB.out.trans (h4.below (B:=w.heap.size) (fun i hi e=>by omega) (by have:=HBB.out.size;omega)))
 clear h3 hr2 h4
 go_wp2_with fail
 refine (num_in 1099511627776 HI.out).mono ?_
 rintro e w5 ⟨rfl,h3,h4⟩
 rw [e3] at h3 ⊢
 have hr2:=HRB.out.keeps h4 (by omega)
 have HI:=Lib.hid h3
 have HRB:=Lib.hid hr2
 have HBB:=Lib.hid (HBB.out.trans (h4.below (B:=w.heap.size) (fun i hi e=>by omega) (by have:=HBB.out.size;omega)))
 clear h3 hr2 h4
 go_wp2_with fail
 obtain ⟨wb,hwb⟩:∃ x,w5.heap.size=x:=⟨_,rfl⟩
 have hgb:gi < wb:=by have:=HI.out.lt;omega
 have HWn:=Lib.hid (Blk.new w5 168 #[.int .i64 p.kind,.int .i64 p.gen,.int .i64 p.place,.string ⟨#[]⟩])
 have HIn:=Lib.hid (HI.out.below (below_new w5 (.cells #[.int .i64 p.kind,.int .i64 p.gen,.int .i64 p.place,.string ⟨#[]⟩] 168)))
 have HRn:=Lib.hid (HRB.out.alloc (.cells #[.int .i64 p.kind,.int .i64 p.gen,.int .i64 p.place,.string ⟨#[]⟩] 168))
 have HBn:=Lib.hid (below_alloc HBB.out (.cells #[.int .i64 p.kind,.int .i64 p.gen,.int .i64 p.place,.string ⟨#[]⟩] 168))
 clear HI HRB HBB
 rw [hwb] at HWn ⊢
 generalize w5.alloc (.cells #[.int .i64 p.kind,.int .i64 p.gen,.int .i64 p.place,.string ⟨#[]⟩] 168)=w6 at *
 have HI:=HIn
 have HRB:=HRn
 have HBB:=HBn
 clear HIn HRn HBn
 refine (text_in 4096 HI.out).mono ?_
 rintro e w7 ⟨rfl,h3,h4⟩
 rw [e4] at h3 ⊢
 have hw2:=HWn.out.keeps h4 (by omega)
 have hr2:=HRB.out.keeps h4 (by omega)
 have hb2:=HBB.out.trans (h4.below (B:=w.heap.size) (fun i hi e=>by omega) (by have:=HBB.out.size;omega))
 have c3:w7.cell? ⟨wb,3,none⟩=_:=hw2.cell 3
 have f3:=hw2.frozen 3
 have hwl:=hw2.lt
 simp at c3
 have hi3:=inb_setP (st:=some []) h3 hw2 (by omega) 3 (.string (str p.text))
 have hw3:Blk (w7.setCell ⟨wb,3,none⟩ (.string (str p.text))) wb 168 (pcells p).toArray:=hw2.set_ 3 (.string (str p.text))
 have hr3:=hr2.far (p:=⟨wb,3,none⟩) (by simp;omega) (.string (str p.text))
 have hb3:=hb2.trans ((Keeps.set1 w7 wb 3 (.string (str p.text))).below (B:=w.heap.size) (fun i hi e=>by omega) (by have:=hb2.size;omega))
 have HI:=Lib.hid hi3
 have HW:=Lib.hid hw3
 have HRB:=Lib.hid hr3
 have HBB:=Lib.hid hb3
 clear h3 h4 hw2 hr2 hb2 hi3 hw3 hr3 hb3 HWn
 go_wp2_with fail
 clear c3 f3 hwl
 have es:(⟨p.text.toArray⟩:ByteArray)=str p.text:=rfl
 rw [es]
 generalize w7.setCell ⟨wb,3,none⟩ (.string (str p.text))=w8 at *
 refine (end_in HI.out).mono ?_
 rintro ee w9 ⟨er,rfl,heo,hb9⟩
 obtain rfl:er=.nilIface:=by
  rcases heo with ⟨_,h⟩|⟨h,_⟩
  ·exact h
  ·exact absurd rfl h
 have HW:=Lib.hid (HW.out.below hb9 HW.out.lt)
 have HRB:=Lib.hid (HRB.out.below hb9 HRB.out.lt)
 have HBB:=Lib.hid (HBB.out.trans (hb9.mono HBB.out.size))
 clear heo hb9 HI
 obtain ⟨p0,p1,p2,p3⟩:=cells4 HW.out
 have dk:decide ((p.kind:Int) < 1)=false:=decide_eq_false (by omega)
 have dg:decide ((p.gen:Int) < 1)=false:=decide_eq_false (by omega)
 have n1:¬ p.kind=0:=by omega
 have n2:¬ p.gen=0:=by omega
 by_cases hk2:p.kind=2
 ·have d2:((p.kind:Int) != 2)=false:=by simp;omega
  clear hk2
  go_wp2_with (refine wpList_store_blk rfl 168 (.tmp 4) (.tmp 60) rfl w.heap.size (pcells p) rfl rfl HRB.out (by kernel_rfl) rfl rfl ?_;intro w10 ho4 hk4 hs4)
  clear p0 p1 p2 p3
  obtain ⟨p0,p1,p2,p3⟩:=cells4 ho4
  have HR:=Lib.hid (show PartR p nx w (.returned (.tuple #[.agg ⟨pcells p⟩,.int .i64 nx,.bool true])) w10 from ⟨rfl,HBB.out.trans (hk4.below (fun i hi e=>by omega) HBB.out.size)⟩)
  clear ho4 hk4
  exact bodyPost_ret (v:=.tuple #[.agg ⟨pcells p⟩,.int .i64 nx,.bool true]) (by unfold pcells;simp [results,Tryz.results119,go_sem,p0,p1,p2,p3]) rfl HR.out
 ·have d2:((p.kind:Int) != 2)=true:=by simp;omega
  have ht:=HRC.out hk2
  have hpc:pcells p=[.int .i64 p.kind,.int .i64 p.gen,.int .i64 p.place,.string ⟨#[]⟩]:=by unfold pcells;rw [ht]
  have HPC:=Lib.hid hpc
  rw [ht] at p3
  clear hk2 ht hpc
  go_wp2_with (refine wpList_store_blk rfl 168 (.tmp 4) (.tmp 60) rfl w.heap.size [.int .i64 p.kind,.int .i64 p.gen,.int .i64 p.place,.string ⟨#[]⟩] rfl rfl HRB.out (by kernel_rfl) rfl rfl ?_;intro w10 ho4 hk4 hs4)
  clear p0 p1 p2 p3
  obtain ⟨p0,p1,p2,p3⟩:=cells4 ho4
  have HR:=Lib.hid (show PartR p nx w (.returned (.tuple #[.agg #[.int .i64 p.kind,.int .i64 p.gen,.int .i64 p.place,.string ⟨#[]⟩],.int .i64 nx,.bool true])) w10 from ⟨by rw [HPC.out],HBB.out.trans (hk4.below (fun i hi e=>by omega) HBB.out.size)⟩)
  clear ho4 hk4
  exact bodyPost_ret (v:=.tuple #[.agg #[.int .i64 p.kind,.int .i64 p.gen,.int .i64 p.place,.string ⟨#[]⟩],.int .i64 nx,.bool true]) (by simp [results,Tryz.results119,go_sem,p0,p1,p2,p3]) rfl HR.out
end Go.Proofs.YtlingaebpfdhgaaGreatDoor.jrn
namespace Go.Proofs.YtlingaebpfdhgaaGreatDoor.jrn
open Go Go.RowKit Go.Lib base rowe err rowc wireb jrnp
theorem plen (p:Part):(pcells p).length=4:=rfl
def pZ:Part:=⟨0,0,0,[]⟩
theorem part_at {w:World} {A:Option Addr} {m B:Nat} {l:List Part} (h:Reads w B 4 A m (l.flatMap pcells)) (hl:l.length=m) {k:Nat} (hk:k < m):∃ b off,A=some ⟨b,off,none⟩∧b < B∧∀ q v,(pcells (l.getD k pZ))[q]?=some v→w.cell? ⟨b,off + k * 4 + q,none⟩=some v:=by
 obtain ⟨b,off,rfl,hb⟩:=h.at_some (by omega)
 refine ⟨b,off,rfl,hb,fun q v hq=>?_⟩
 have hq2:q < 4:=by
  have:=(List.getElem?_eq_some_iff.1 hq).1
  rwa [plen] at this
 have h5:=Reads.thing pcells plen h (k:=k) (x:=l.getD k pZ) (by omega) (by rw [List.getD_eq_getElem?_getD,List.getElem?_eq_getElem (by omega)];rfl) q hq2
 rw [h5,hq]
theorem four_of {w:World} {b off:Nat} {p:Part} (h:∀ q v,(pcells p)[q]?=some v→w.cell? ⟨b,off + q,none⟩=some v) :
  w.cell? ⟨b,off,none⟩=some (.int .i64 p.kind)∧w.cell? ⟨b,off + 1,none⟩=some (.int .i64 p.gen)∧w.cell? ⟨b,off + 2,none⟩=some (.int .i64 p.place)∧w.cell? ⟨b,off + 3,none⟩=some (.string (str p.text)) :=
 ⟨h 0 _ rfl,h 1 _ rfl,h 2 _ rfl,h 3 _ rfl⟩
theorem drop_at {l:List Part} {k:Nat} (h:k < l.length):l.drop k=l.getD k pZ :: l.drop (k + 1):=by
 rw [List.drop_eq_getElem_cons h,List.getD_eq_getElem?_getD,List.getElem?_eq_getElem h]
 rfl
def OrdR (l:List Part) (w:World) (e:Ending) (w':World):Prop:=e=.returned (.bool (ordered l))∧Below w.heap.size w w'
set_option maxRecDepth 10000 in
set_option maxHeartbeats 3200000 in
theorem ordered_w (A : Option Addr) (n c : Nat) (l : List Part) (w : World) (hl : l.length = n) (hn : n ≤ 1048576) (hr : Reads w w.heap.size 4 A n (l.flatMap pcells)) : Calls Tryz.prog 121 #[.slice A n c] w (OrdR l w) := by
  have HR := Lib.hid hr
  by_cases h0 : n = 0
  · subst h0
    have : l = [] := List.eq_nil_of_length_eq_zero hl
    subst this
    clear hr HR
    go_enter Tryz.func121, Tryz.ntmps121
    go_wp2_with fail
    go_ret
    exact ⟨rfl, Below.refl _ _⟩
  · obtain ⟨b, off, rfl, hbb, hc⟩ := part_at hr hl (k := 0) (by omega)
    have h1 := four_of hc
    rw [Nat.zero_mul, Nat.add_zero] at h1
    obtain ⟨x0, x1, x2, x3⟩ := h1
    have hcons : l = l.getD 0 pZ :: l.drop 1 := by have := drop_at (l := l) (k := 0) (by omega); simpa using this
    generalize hf : l.getD 0 pZ = f at *
    have hord : ordered l = (decide (f.kind = 1) && ordB f.gen false (l.drop 1)) := by rw [hcons]; rfl
    have HORD := Lib.hid hord
    have hne : (n == 0) = false := by simp; omega
    have hnz : ¬ n = 0 := h0
    clear hr hc x1 x2 x3 hcons hord
    by_cases hk : f.kind = 1
    · have hk1 : ((f.kind : Int) != 1) = false := by simp; omega
      have hrd : ordered l = ordB f.gen false (l.drop 1) := by rw [HORD.out, decide_eq_true hk, Bool.true_and]
      generalize hR : ordered l = R at *
      go_enter Tryz.func121, Tryz.ntmps121
      go_wp2_with fail
      have HOR := Lib.hid hR
      clear HORD hR x0
      go_loopw [3, 18, 4, 5, 23] (fun e i _ _ _ wr' => ∃ (k : Nat) (en : Bool), e = .bool en ∧ i = .int .i64 k ∧ k ≤ n ∧ Below w.heap.size w wr' ∧ ((k = 0 ∧ en = false) ∨ (0 < k ∧ R = ordB f.gen en (l.drop k)))) (fun _ i _ _ _ _ => n - (intOf i).toNat)
      case atStart => exact ⟨0, false, rfl, rfl, by omega, Below.refl _ _, .inl ⟨rfl, rfl⟩⟩
      case round =>
        obtain ⟨k, en, rfl, rfl, hkn, hbw, hcase⟩ := hrel
        have hsz := hbw.size
        by_cases hlt : k < n
        · obtain ⟨b', off', hbo, _, hc⟩ := part_at (HR.out.below hbw) hl hlt
          simp only [Option.some.injEq, Addr.mk.injEq, and_true] at hbo
          obtain ⟨rfl, rfl⟩ := hbo
          obtain ⟨b', off', hbo, _, hc0⟩ := part_at (HR.out.below hbw) hl (k := 0) (by omega)
          simp only [Option.some.injEq, Addr.mk.injEq, and_true] at hbo
          obtain ⟨rfl, rfl⟩ := hbo
          rw [hf, Nat.zero_mul, Nat.add_zero] at hc0
          have g1 : wr.cell? ⟨b, off + 1, none⟩ = some (.int .i64 f.gen) := hc0 1 _ rfl
          obtain ⟨e0, e1, e2, e3⟩ := four_of hc
          have hbl : b < wr.heap.size := by omega
          rcases hcase with ⟨rfl, rfl⟩ | ⟨hk0, hre⟩
          · rw [hf] at e0 e1 e2 e3
            rw [Nat.zero_mul, Nat.add_zero] at e0 e1 e2 e3
            have d1 : ((f.kind : Int) == 1) = true := by simp; omega
            have d3 : ((f.kind : Int) == 3) = false := by simp; omega
            have d4 : ((f.kind : Int) == 4) = false := by simp; omega
            have HBX := Lib.hid (below_alloc hbw (.cells #[.int .i64 f.kind, .int .i64 f.gen, .int .i64 f.place, .string (str f.text)] 168))
            have HRN := Lib.hid hrd
            clear hrd hc hc0 hk hbw
            go_wp2_with fail
            go_quiet (fail)
            go_wp2_with fail
            refine ⟨?rel, ?measure⟩
            case rel => exact ⟨1, false, rfl, by go_num, by omega, below_drewN HBX.out _, .inr ⟨by omega, HRN.out⟩⟩
            case measure => simp [intOf]; omega
          · have hd := drop_at (l := l) (k := k) (by omega)
            generalize l.getD k pZ = p at *
            rw [hd, ordB] at hre
            have HBX := Lib.hid (below_alloc hbw (.cells #[.int .i64 p.kind, .int .i64 p.gen, .int .i64 p.place, .string (str p.text)] 168))
            clear hrd hc hc0 hk hbw hd hf hk1
            have hk0' : 0 < k := hk0
            by_cases hg : p.gen = f.gen
            · have dg : ((p.gen : Int) != (f.gen : Int)) = false := by simp; omega
              by_cases h1 : p.kind = 1
              · have d1 : ((p.kind : Int) == 1) = true := by simp; omega
                have HRN := Lib.hid (show R = false from by rw [hre, if_pos (.inr (.inl h1))])
                clear hre h1 hg
                go_wp2_with fail
                go_quiet (fail)
                go_wp2_with fail
                go_ret
                exact ⟨by rw [HOR.out, HRN.out]; rfl, below_drewN HBX.out _⟩
              · have d1 : ((p.kind : Int) == 1) = false := by simp; omega
                by_cases h3 : p.kind = 3
                · have d3 : ((p.kind : Int) == 3) = true := by simp; omega
                  have d4 : ((p.kind : Int) == 4) = false := by simp; omega
                  cases en with
                  | true =>
                    have HRN := Lib.hid (show R = false from by rw [hre, if_pos (.inr (.inr (.inl ⟨h3, rfl⟩)))])
                    clear hre h1 h3 hg
                    go_wp2_with fail
                    go_quiet (fail)
                    go_wp2_with fail
                    go_ret
                    exact ⟨by rw [HOR.out, HRN.out]; rfl, below_drewN HBX.out _⟩
                  | false =>
                    have HRN := Lib.hid (show R = ordB f.gen true (l.drop (k + 1)) from by
                      rw [hre, if_neg (by rintro (h | h | ⟨_, h⟩ | ⟨h, _⟩); · exact h hg
                                          · exact h1 h
                                          · cases h
                                          · omega), Bool.false_or, decide_eq_true h3])
                    clear hre h1 h3 hg
                    go_wp2_with fail
                    go_quiet (fail)
                    go_wp2_with fail
                    refine ⟨?rel, ?measure⟩
                    case rel => exact ⟨k + 1, true, rfl, by go_num, by omega, below_drewN HBX.out _, .inr ⟨by omega, HRN.out⟩⟩
                    case measure => simp [intOf]; omega
                · have d3 : ((p.kind : Int) == 3) = false := by simp; omega
                  by_cases h4 : p.kind = 4 ∧ en = false
                  · obtain ⟨h4, rfl⟩ := h4
                    have d4 : ((p.kind : Int) == 4) = true := by simp; omega
                    have HRN := Lib.hid (show R = false from by rw [hre, if_pos (.inr (.inr (.inr ⟨h4, rfl⟩)))])
                    clear hre h1 h3 hg h4
                    go_wp2_with fail
                    go_quiet (fail)
                    go_wp2_with fail
                    go_ret
                    exact ⟨by rw [HOR.out, HRN.out]; rfl, below_drewN HBX.out _⟩
                  · have HRN := Lib.hid (show R = ordB f.gen en (l.drop (k + 1)) from by
                      rw [hre, if_neg (by rintro (h | h | ⟨h, _⟩ | h); · exact h hg
                                          · exact h1 h
                                          · exact h3 h
                                          · exact h4 h), decide_eq_false h3, Bool.or_false])
                    by_cases hk4 : p.kind = 4
                    · have d4 : ((p.kind : Int) == 4) = true := by simp; omega
                      obtain rfl : en = true := by
                        cases en with
                        | true => rfl
                        | false => exact absurd ⟨hk4, rfl⟩ h4
                      clear hre h1 h3 hg h4 hk4
                      go_wp2_with fail
                      go_quiet (fail)
                      go_wp2_with fail
                      refine ⟨?rel, ?measure⟩
                      case rel => exact ⟨k + 1, true, rfl, by go_num, by omega, below_drewN HBX.out _, .inr ⟨by omega, HRN.out⟩⟩
                      case measure => simp [intOf]; omega
                    · have d4 : ((p.kind : Int) == 4) = false := by simp; omega
                      clear hre h1 h3 hg h4 hk4
                      go_wp2_with fail
                      go_quiet (fail)
                      go_wp2_with fail
                      refine ⟨?rel, ?measure⟩
                      case rel => exact ⟨k + 1, en, rfl, by go_num, by omega, below_drewN HBX.out _, .inr ⟨by omega, HRN.out⟩⟩
                      case measure => simp [intOf]; omega
            · have dg : ((p.gen : Int) != (f.gen : Int)) = true := by simp; omega
              have HRN := Lib.hid (show R = false from by rw [hre, if_pos (.inl hg)])
              clear hre hg
              go_wp2_with fail
              go_quiet (fail)
              go_wp2_with fail
              go_ret
              exact ⟨by rw [HOR.out, HRN.out]; rfl, below_drewN HBX.out _⟩
        · obtain rfl : n = k := by omega
          have HRN := Lib.hid (show R = en from by
            rcases hcase with ⟨h, _⟩ | ⟨_, h⟩
            · omega
            · rw [h, List.drop_eq_nil_of_le (by omega)]; rfl)
          have HBW := Lib.hid hbw
          clear hbw hcase hrd hk hf
          go_wp2_with fail
          go_ret
          exact ⟨by rw [HOR.out, HRN.out]; rfl, HBW.out⟩
    · have hk1 : ((f.kind : Int) != 1) = true := by simp; omega
      have HF := Lib.hid (show ordered l = false from by rw [HORD.out, decide_eq_false hk, Bool.false_and])
      clear hk
      go_enter Tryz.func121, Tryz.ntmps121
      go_wp2_with fail
      go_ret
      exact ⟨by rw [HF.out]; rfl, Below.refl _ _⟩
end Go.Proofs.YtlingaebpfdhgaaGreatDoor.jrn
namespace Go.Proofs.YtlingaebpfdhgaaGreatDoor.jrn
open Go Go.RowKit Go.Lib base rowe err rowc wireb jrnp diskp disk monok
theorem part_info:(Tryz.prog.info? 168).map (fun i=>(i.zero,i.size,i.bytes))=some (some (.agg #[.int .i64 0,.int .i64 0,.int .i64 0,.string ⟨#[]⟩]),4,40):=by kernel_rfl
def ends (l:List Part) (k:Nat):List Nat:=(List.range k).map fun i=>(dev (l.take (i + 1))).length
theorem ends_next (l:List Part) (k:Nat):ends l (k + 1)=ends l k ++ [(dev (l.take (k + 1))).length]:=by
 unfold ends
 rw [List.range_succ,List.map_append]
 rfl
theorem ends_len (l:List Part) (k:Nat):(ends l k).length=k:=by simp [ends]
def OwnP (w:World) (base:Nat) (v:Value) (l:List Part):Prop:=w.ownsRow base 168 4 v l.length (l.flatMap pcells)
theorem OwnP.none (w:World) (base:Nat):OwnP w base (.slice none 0 0) []:=⟨rfl,.inl ⟨rfl,rfl⟩⟩
theorem OwnP.form {w:World} {base:Nat} {v:Value} {l:List Part} (h:OwnP w base v l):∃ A c,v=.slice A l.length c:=ownsRow_slice h
theorem pcells_one (l:List Part):∀ u ∈ l.flatMap pcells,u.oneCell'=true:=by
 intro u hu
 obtain ⟨p,_,hu⟩:=List.mem_flatMap.1 hu
 simp only [pcells,List.mem_cons,List.not_mem_nil,or_false] at hu
 rcases hu with rfl|rfl|rfl|rfl <;> rfl
structure LookS (w:World) (B g:Nat) (l:List Part) (k:Nat) (vp ve:Value):Prop where
 blk:Blk w g 161 #[vp,ve,.int .i64 (dev (l.take k)).length,.bool false,.bool false]
 parts:OwnP w B vp (l.take k)
 ends_:OwnN w B ve (ends l k)
 lo:g < B
def endOf (w:World) (g:Nat):Nat:=match w.cell? ⟨g,2,none⟩ with
 | some v=>(intOf v).toNat
 | none=>0
theorem LookS.at_ {w:World} {B g:Nat} {l:List Part} {k:Nat} {vp ve:Value} (h:LookS w B g l k vp ve):endOf w g=(dev (l.take k)).length:=by
 unfold endOf
 rw [h.blk.cell 2]
 simp [intOf]
theorem own_low' {w:World} {base base':Nat} {e:TypeId} {size n:Nat} {v:Value} {xs:List Value} (h:w.ownsRow base' e size v n xs) (hb:base≤base'):w.ownsRow base e size v n xs :=
 ⟨h.1,h.2.imp id fun ⟨g,cap,cur,e,h1,r⟩=>⟨g,cap,cur,e,Nat.le_trans hb h1,r⟩⟩
theorem reads_blk' {w:World} {g:Nat} {t:TypeId} {cs:List Value} (h:Blk w g t cs.toArray):Reads w w.heap.size cs.length (some ⟨g,0,none⟩) 1 cs :=
 ⟨by simp,fun _=>⟨g,0,rfl,h.lt,fun j _=>by rw [Nat.zero_add,h.cell j];simp⟩⟩
theorem pone (p:Part):∀ u ∈ pcells p,u.oneCell'=true:=by
 have:=pcells_one [p]
 simpa using this
theorem rows_ne {w:World} {b b':Nat} {e e':TypeId} {s s':Nat} {v v':Value} {n n':Nat} {xs xs':List Value} (h:w.ownsRow b e s v n xs) (h':w.ownsRow b' e' s' v' n' xs') (hne:e ≠ e'):v.ownBlock=none ∨ v.ownBlock ≠ v'.ownBlock:=by
 rcases h.2 with ⟨rfl,_⟩|⟨g,cap,cur,rfl,_,h1,_⟩
 ·exact .inl rfl
 ·right
  intro he
  rcases h'.2 with ⟨rfl,_⟩|⟨g',cap',cur',rfl,_,h2,_⟩
  ·cases he
  ·have:g=g':=by simpa [Value.ownBlock] using he
   subst this
   rw [h1] at h2
   injection h2 with h2
   injection h2 with _ h2
   exact hne h2
def zL:Array Value:=#[.slice none 0 0,.slice none 0 0,.int .i64 0,.bool false,.bool false]
structure Mid (w V:World) (cs:Array Value) (vp:Value) (lp:List Part) (ve:Value) (le:List Nat):Prop where
 blk:Blk V (w.heap.size + 1) 161 cs
 zero:Blk V w.heap.size 161 zL
 parts:OwnP V (w.heap.size + 2) vp lp
 ends_:OwnN V (w.heap.size + 2) ve le
 bw:Below w.heap.size w V
section
variable {w V V':World} {cs:Array Value} {vp ve:Value} {lp:List Part} {le:List Nat}
theorem Mid.big (h:Mid w V cs vp lp ve le):w.heap.size + 2≤V.heap.size:=h.blk.lt
theorem Mid.below (h:Mid w V cs vp lp ve le) (hb:Below V.heap.size V V'):Mid w V' cs vp lp ve le :=
 ⟨h.blk.below hb h.blk.lt,h.zero.below hb h.zero.lt,own_below h.parts hb,own_below h.ends_ hb,h.bw.trans (hb.mono (by have:=h.big;omega))⟩
theorem Mid.alloc (h:Mid w V cs vp lp ve le) (o:Obj):Mid w (V.alloc o) cs vp lp ve le:=h.below (below_new _ _)
theorem Mid.drew (h:Mid w V cs vp lp ve le):Mid w V.drew cs vp lp ve le:=h.below (Below.refl _ _).drew
theorem below_grown {v:Value} {B:Nat} {e:TypeId} {s n:Nat} {xs:List Value} (hb:Below w.heap.size w V) (hg:V.grownBy V' v.ownBlock) (ho:V.ownsRow B e s v n xs) (hB:w.heap.size≤B):Below w.heap.size w V' :=
 hb.trans ((Keeps.grown (X:=fun i=>w.heap.size≤i) hg fun i hi=>.inl (Nat.le_trans hB (ho.lt i hi).1)).below (fun i hi e=>by omega) hb.size)
theorem Mid.app4 {v6:Value} {p:Part} (h:Mid w V cs vp lp ve le) (ho:V'.ownsRow (w.heap.size + 2) 168 4 v6 (lp.length + 1) (lp.flatMap pcells ++ pcells p)) (hg:V.grownBy V' vp.ownBlock):Mid w V' cs v6 (lp ++ [p]) ve le :=
  ⟨h.blk.grown hg (fun e=>by have:=(h.parts.lt _ e.symm).1;omega),h.zero.grown hg (fun e=>by have:=(h.parts.lt _ e.symm).1;omega),
   by unfold OwnP;rw [List.length_append,List.flatMap_append];simpa using ho,h.ends_.kept hg (rows_ne h.ends_ h.parts (by decide)),below_grown h.bw hg h.parts (by omega)⟩
theorem Mid.app9 {v9:Value} {n:Nat} (h:Mid w V cs vp lp ve le) (ho:V'.ownsRow (w.heap.size + 2) 3 1 v9 (le.length + 1) (encN le ++ [.int .i64 (n:Nat)])) (hg:V.grownBy V' ve.ownBlock):Mid w V' cs vp lp v9 (le ++ [n]) :=
  ⟨h.blk.grown hg (fun e=>by have:=(h.ends_.lt _ e.symm).1;omega),h.zero.grown hg (fun e=>by have:=(h.ends_.lt _ e.symm).1;omega),
   h.parts.kept hg (rows_ne h.parts h.ends_ (by decide)),OwnN.push ho rfl,below_grown h.bw hg h.ends_ (by omega)⟩
theorem Mid.put (h:Mid w V cs vp lp ve le) (i:Nat) (u:Value):Mid w (V.setCell ⟨w.heap.size + 1,i,none⟩ u) (cs.setIfInBounds i u) vp lp ve le :=
  ⟨h.blk.set_ i u,h.zero.far (by simp) u,own_keeps h.parts (Keeps.set1 V _ i u) (fun g hg e=>by omega),own_keeps h.ends_ (Keeps.set1 V _ i u) (fun g hg e=>by omega),
   h.bw.trans ((Keeps.set1 V (w.heap.size + 1) i u).below (fun i hi e=>by omega) h.bw.size)⟩
end
theorem few_dev (l:List Part):l.length≤(dev l).length:=by
 induction l with
 | nil=>simp
 | cons p l ih=>rw [dev_cons,List.length_append,List.length_cons];have:=seal_pos p;omega
theorem lt_dev {l:List Part} {k:Nat} (h:k < l.length):(dev (l.take k)).length < (dev l).length:=by
 have h1:dev l=dev (l.take k) ++ dev (l.drop k):=by rw [← dev_app,List.take_append_drop]
 rw [h1,List.length_append,List.drop_eq_getElem_cons h,dev_cons,List.length_append]
 have:=seal_pos l[k]
 omega
def ScanR (l:List Part) (w:World) (e:Ending) (w':World):Prop:=∃ vp ve,e=.returned (.tuple #[.agg #[vp,ve,.int .i64 (dev l).length,.bool false,.bool (ordered l)],.nilIface])∧OwnP w' w.heap.size vp l∧OwnN w' w.heap.size ve (endsL l)∧Below w.heap.size w w'
set_option maxRecDepth 10000 in
set_option maxHeartbeats 3200000 in
theorem scan_w {S : Nat → Prop} {g : Nat} {d : Dk} (l : List Part) (w : World) (hd : DiskS w S g d) (hw : Well d l) : Calls Tryz.prog 67 #[.pointer (some ⟨g, 0, none⟩)] w (ScanR l w) := by
  have hd0 := hd.below (below_new w (.cells #[.slice none 0 0, .slice none 0 0, .int .i64 0, .bool false, .bool false] 161))
  have HB0 := Lib.hid (below_new w (.cells #[.slice none 0 0, .slice none 0 0, .int .i64 0, .bool false, .bool false] 161))
  have HZ0 := Lib.hid (Blk.new w 161 #[.slice none 0 0, .slice none 0 0, .int .i64 0, .bool false, .bool false])
  have hsz0 : (w.alloc (.cells #[.slice none 0 0, .slice none 0 0, .int .i64 0, .bool false, .bool false] 161)).heap.size = w.heap.size + 1 := by simp
  have HLN := Lib.hid (len_any hd0)
  have HRD := Lib.hid (read_all hd0 hw.down)
  rw [hw.down] at HLN
  have hb := hw.b
  have hfew := hw.few
  have HOK := Lib.hid hw.ok
  have hls : (⟨d.b.toArray⟩ : ByteArray).size = (dev l).length := by rw [← hb]; rfl
  have hll : (⟨d.b.toArray⟩ : ByteArray).data.toList = dev l := by rw [← hb]
  have hdl : (dev l).length ≤ 1048576 := by rw [← hb]; exact hfew
  have hz : Tryz.prog.cellsOf 161 = 5 := by kernel_rfl
  rw [hb] at HLN HRD hls hll
  have HLL := Lib.hid hll
  have HLS := Lib.hid hls
  clear hb hd hd0 hw hz hls hll hfew
  obtain ⟨s, hs⟩ : ∃ s, (⟨(dev l).toArray⟩ : ByteArray) = s := ⟨_, rfl⟩
  rw [hs] at HRD HLL HLS
  obtain ⟨L, hL⟩ : ∃ n, (dev l).length = n := ⟨_, rfl⟩
  rw [hL] at HRD HLS hdl HLN
  clear hs
  have hls := HLS.out
  have hlen : l.length ≤ L := by rw [← hL]; exact few_dev l
  obtain ⟨i0, hi0, hz⟩ := Option.map_eq_some_iff.1 part_info
  simp only [Prod.mk.injEq] at hz
  obtain ⟨hz0, hz1, hz2⟩ := hz
  obtain ⟨j0, hj0, hy⟩ := Option.map_eq_some_iff.1 int_info
  simp only [Prod.mk.injEq] at hy
  obtain ⟨hy0, hy1, hy2⟩ := hy
  go_enter Tryz.func67, Tryz.ntmps67
  go_wp2_with fail
  generalize w.alloc (.cells #[.slice none 0 0, .slice none 0 0, .int .i64 0, .bool false, .bool false] 161) = w0 at *
  refine HLN.out.mono ?_
  rintro e w1 ⟨rfl, rfl⟩
  go_wp2_with fail
  refine HRD.out.mono ?_
  rintro e w1 ⟨rfl, rfl⟩
  clear HRD HLN
  go_wp2_with fail
  have HZ1 := Lib.hid (HZ0.out.alloc (.cells #[.slice none 0 0, .slice none 0 0, .int .i64 0, .bool false, .bool false] 161))
  have HB1 := Lib.hid (below_alloc HB0.out (.cells #[.slice none 0 0, .slice none 0 0, .int .i64 0, .bool false, .bool false] 161))
  have HX1 := Lib.hid (show LookS (w1.alloc (.cells #[.slice none 0 0, .slice none 0 0, .int .i64 0, .bool false, .bool false] 161)) (w.heap.size + 2) (w.heap.size + 1) l 0 (.slice none 0 0) (.slice none 0 0) from
    ⟨by rw [← hsz0]; exact Blk.new _ _ _, OwnP.none _ _, OwnN.none _ _, by omega⟩)
  clear HZ0 HB0
  go_loopw [7, 8, 9] (fun _ _ _ wr => ∃ (k : Nat) (vp ve : Value), k ≤ l.length ∧ LookS wr (w.heap.size + 2) (w.heap.size + 1) l k vp ve ∧ Blk wr w.heap.size 161 #[.slice none 0 0, .slice none 0 0, .int .i64 0, .bool false, .bool false] ∧ Below w.heap.size w wr) (fun _ _ _ wr => L - endOf wr (w.heap.size + 1))
  case atStart => exact ⟨0, _, _, by omega, HX1.out, HZ1.out, HB1.out⟩
  case round =>
    clear HX1 HZ1 HB1
    obtain ⟨k, vp, ve, hk, hx, hz, hbw⟩ := hrel
    obtain ⟨x0, x1, x2, x3, x4⟩ := (show wr.cell? ⟨w.heap.size + 1, 0, none⟩ = some vp ∧ wr.cell? ⟨w.heap.size + 1, 1, none⟩ = some ve ∧ wr.cell? ⟨w.heap.size + 1, 2, none⟩ = some (.int .i64 (dev (l.take k)).length) ∧ wr.cell? ⟨w.heap.size + 1, 3, none⟩ = some (.bool false) ∧ wr.cell? ⟨w.heap.size + 1, 4, none⟩ = some (.bool false) from ⟨hx.blk.cell 0, hx.blk.cell 1, hx.blk.cell 2, hx.blk.cell 3, hx.blk.cell 4⟩)
    have hxl := hx.blk.lt
    have Hat := Lib.hid hx.at_
    by_cases hkl : k < l.length
    · have hde : (dev (l.take k)).length < L := by rw [← hL]; exact lt_dev hkl
      have hok := HOK.out l[k] (List.getElem_mem hkl)
      have hdr : s.data.toList.drop (dev (l.take k)).length = l[k].sealed ++ dev (l.drop (k + 1)) := by rw [HLL.out, dev_drop, List.drop_eq_getElem_cons hkl, dev_cons]
      have hnx : (dev (l.take k)).length + l[k].sealed.length = (dev (l.take (k + 1))).length := by rw [dev_take l k hkl, List.length_append]
      have HPO := Lib.hid (part_open s (dev (l.take k)).length l[k] (dev (l.drop (k + 1))) hok (by omega) hdr)
      rw [hnx] at HPO
      have htk : l.take (k + 1) = l.take k ++ [l[k]] := List.take_succ_eq_append_getElem hkl
      have hen := ends_next l k
      have HX := Lib.hid hx.blk
      have HPR := Lib.hid hx.parts
      have HEN := Lib.hid hx.ends_
      have HZ := Lib.hid hz
      have HB := Lib.hid hbw
      generalize l[k] = p at *
      generalize (dev (l.take k)).length = e0 at *
      generalize hnxe : (dev (l.take (k + 1))).length = nx at *
      clear hok hdr hx hz hbw x3 x4
      have dlt : decide ((e0 : Int) < (L : Int)) = true := decide_eq_true (by omega)
      go_wp2_with fail
      refine (HPO.out _).mono ?_
      rintro e w2 ⟨rfl, hb2⟩
      have HM2 := Lib.hid (show Mid w w2 #[vp, ve, .int .i64 e0, .bool false, .bool false] vp (l.take k) ve (ends l k) from Mid.below ⟨HX.out, HZ.out, HPR.out, HEN.out, HB.out⟩ hb2)
      clear hb2 HX HZ HPR HEN HB HPO
      unfold pcells
      go_wp2_with fail
      obtain ⟨gp, hgp⟩ : ∃ x, w2.heap.size = x := ⟨_, rfl⟩
      have hgpl : w.heap.size + 1 < gp := by have := HM2.out.big; omega
      have HM := Lib.hid (HM2.out.alloc (.cells #[.int .i64 p.kind, .int .i64 p.gen, .int .i64 p.place, .string (str p.text)] 168))
      have HP := Lib.hid (Blk.new w2 168 #[.int .i64 p.kind, .int .i64 p.gen, .int .i64 p.place, .string (str p.text)])
      have hvp : ∀ i, vp.ownBlock = some i → i ≠ gp := fun i hi => by have := (HM2.out.parts.lt i hi).2; omega
      have hve : ∀ i, ve.ownBlock = some i → i ≠ gp := fun i hi => by have := (HM2.out.ends_.lt i hi).2; omega
      rw [hgp] at HP ⊢
      clear HM2 x0 x1 x2
      generalize w2.alloc (.cells #[.int .i64 p.kind, .int .i64 p.gen, .int .i64 p.place, .string (str p.text)] 168) = w3 at *
      have x0 : w3.cell? ⟨w.heap.size + 1, 0, none⟩ = _ := HM.out.blk.cell 0
      have x1 : w3.cell? ⟨w.heap.size + 1, 1, none⟩ = _ := HM.out.blk.cell 1
      have xl := HM.out.blk.lt
      simp at x0 x1
      refine wp_region_monoK (fun b => w.heap.size + 1 < b ∧ b ≠ gp) [4, 9] (fun b => b = w.heap.size + 1) [12, 14, 16] (by kernel_rfl) ?_
      refine wpMonoK_take' 0 (v := ?_) rfl (by kernel_rfl) (by kernel_rfl) (by kernel_rfl) (fun _ _ _ h => h) (by rfl) ?_ ?_
      rotate_left
      · (intro W hSw; (first | (have hxW := HM.out.blk.drew.keeps hSw (by omega); have y0 : W.cell? ⟨w.heap.size + 1, 0, none⟩ = some vp := hxW.cell 0; have y1 : W.cell? ⟨w.heap.size + 1, 1, none⟩ = some ve := hxW.cell 1; have exl := hxW.lt) | (have hxW := HP.out.drew.keeps hSw (by omega); obtain ⟨p0, p1, p2, p3⟩ := cells4 hxW; have exl := hxW.lt) | skip); go_simp <;> rfl)
      try simp only [qPA]
      refine wpMonoK_read' 1 [4, 9, 11, 12, 13, 14, 15, 16] (v := ?_) rfl (by kernel_rfl) (by kernel_rfl) (by kernel_rfl) (by kernel_rfl) (by rfl) (fun _ _ _ h => h) (by rfl) ?_ ?_
      rotate_left
      · (intro W hSw; (first | (have hxW := HM.out.blk.drew.keeps hSw (by omega); have y0 : W.cell? ⟨w.heap.size + 1, 0, none⟩ = some vp := hxW.cell 0; have y1 : W.cell? ⟨w.heap.size + 1, 1, none⟩ = some ve := hxW.cell 1; have exl := hxW.lt) | (have hxW := HP.out.drew.keeps hSw (by omega); obtain ⟨p0, p1, p2, p3⟩ := cells4 hxW; have exl := hxW.lt) | skip); go_simp <;> rfl)
      try simp only [qPA]
      refine wpMonoK_take' 2 (v := ?_) rfl (by kernel_rfl) (by kernel_rfl) (by kernel_rfl) (fun _ _ _ h => h) (by rfl) ?_ ?_
      rotate_left
      · (intro W hSw; (first | (have hxW := HM.out.blk.drew.keeps hSw (by omega); have y0 : W.cell? ⟨w.heap.size + 1, 0, none⟩ = some vp := hxW.cell 0; have y1 : W.cell? ⟨w.heap.size + 1, 1, none⟩ = some ve := hxW.cell 1; have exl := hxW.lt) | (have hxW := HP.out.drew.keeps hSw (by omega); obtain ⟨p0, p1, p2, p3⟩ := cells4 hxW; have exl := hxW.lt) | skip); go_simp <;> rfl)
      try simp only [qPA]
      refine wpMonoK_take' 5 (v := ?_) rfl (by kernel_rfl) (by kernel_rfl) (by kernel_rfl) (fun _ _ _ h => h) (by rfl) ?_ ?_
      rotate_left
      · (intro W hSw; (first | (have hxW := HM.out.blk.drew.keeps hSw (by omega); have y0 : W.cell? ⟨w.heap.size + 1, 0, none⟩ = some vp := hxW.cell 0; have y1 : W.cell? ⟨w.heap.size + 1, 1, none⟩ = some ve := hxW.cell 1; have exl := hxW.lt) | (have hxW := HP.out.drew.keeps hSw (by omega); obtain ⟨p0, p1, p2, p3⟩ := cells4 hxW; have exl := hxW.lt) | skip); go_simp <;> rfl)
      try simp only [qPA]
      refine wpMonoK_read' 6 [9, 11, 12, 13, 14, 15, 16] (v := ?_) rfl (by kernel_rfl) (by kernel_rfl) (by kernel_rfl) (by kernel_rfl) (by rfl) (fun _ _ _ h => h) (by rfl) ?_ ?_
      rotate_left
      · (intro W hSw; (first | (have hxW := HM.out.blk.drew.keeps hSw (by omega); have y0 : W.cell? ⟨w.heap.size + 1, 0, none⟩ = some vp := hxW.cell 0; have y1 : W.cell? ⟨w.heap.size + 1, 1, none⟩ = some ve := hxW.cell 1; have exl := hxW.lt) | (have hxW := HP.out.drew.keeps hSw (by omega); obtain ⟨p0, p1, p2, p3⟩ := cells4 hxW; have exl := hxW.lt) | skip); go_simp <;> rfl)
      try simp only [qPA]
      refine wpMonoK_take' 7 (v := ?_) rfl (by kernel_rfl) (by kernel_rfl) (by kernel_rfl) (fun _ _ _ h => h) (by rfl) ?_ ?_
      rotate_left
      · (intro W hSw; (first | (have hxW := HM.out.blk.drew.keeps hSw (by omega); have y0 : W.cell? ⟨w.heap.size + 1, 0, none⟩ = some vp := hxW.cell 0; have y1 : W.cell? ⟨w.heap.size + 1, 1, none⟩ = some ve := hxW.cell 1; have exl := hxW.lt) | (have hxW := HP.out.drew.keeps hSw (by omega); obtain ⟨p0, p1, p2, p3⟩ := cells4 hxW; have exl := hxW.lt) | skip); go_simp <;> rfl)
      try simp only [qPA]
      refine wpMonoK_take' 10 (v := ?_) rfl (by kernel_rfl) (by kernel_rfl) (by kernel_rfl) (fun _ _ _ h => h) (by rfl) ?_ ?_
      rotate_left
      · (intro W hSw; (first | (have hxW := HM.out.blk.drew.keeps hSw (by omega); have y0 : W.cell? ⟨w.heap.size + 1, 0, none⟩ = some vp := hxW.cell 0; have y1 : W.cell? ⟨w.heap.size + 1, 1, none⟩ = some ve := hxW.cell 1; have exl := hxW.lt) | (have hxW := HP.out.drew.keeps hSw (by omega); obtain ⟨p0, p1, p2, p3⟩ := cells4 hxW; have exl := hxW.lt) | skip); go_simp <;> rfl)
      try simp only [qPA]
      clear x0 x1
      refine wpMonoK_two' 3 8 (by kernel_rfl) rfl (by rfl) rfl (by rfl) (fun K hK => ?_) (fun K hK => ?_)
      · skip
        go_simp
        refine hK.out _ _ (Go.Proofs.YtlingaebpfdhgaaGreatDoor.monok.stays (Keeps.alloc _)) ?_
        clear hK K
        try simp only [qPA]
        have hm3 := (HM.out.alloc (.cells #[.int .i64 p.kind, .int .i64 p.gen, .int .i64 p.place, .string (str p.text)] 168)).drew
        have h3 : Blk ((w3).alloc (.cells #[.int .i64 p.kind, .int .i64 p.gen, .int .i64 p.place, .string (str p.text)] 168)).drew (w3).heap.size 168 (pcells p).toArray := (Blk.new w3 168 (pcells p).toArray).drew
        (try have h8 := (H8.out.alloc (.cells #[.int .i64 p.kind, .int .i64 p.gen, .int .i64 p.place, .string (str p.text)] 168)).drew)
        obtain ⟨g3, hg3⟩ : ∃ x, (w3).heap.size = x := ⟨_, rfl⟩
        (try rw [World.size_drew])
        rw [hg3] at h3 ⊢
        clear HM
        generalize ((w3).alloc (.cells #[.int .i64 p.kind, .int .i64 p.gen, .int .i64 p.place, .string (str p.text)] 168)).drew = w4 at *
        have HM := Lib.hid hm3
        have H3 := Lib.hid h3
        (try have H8 := Lib.hid h8)
        clear hm3 h3
        refine wpMonoK_two' 4 8 (by kernel_rfl) rfl (by rfl) rfl (by rfl) (fun K hK => ?_) (fun K hK => ?_)
        · skip
          refine wp_append_any _ (.tmp 41) (.tmp 43) _ (by rfl) (w.heap.size + 2) 168 i0 _ 4 40 Tryz.underlying159 hi0 hz0 hz1 hz2 rfl (by omega) vp (l.take k).length _ (by rfl) HM.out.parts _ (some ⟨g3, 0, none⟩) 1 1 (pcells p) (by rfl) (reads_blk' H3.out) (pone p) (by rw [List.length_take]; unfold maxLen; omega) (by rw [List.length_take]; omega) HM.out.big fun v6 w5 ho6 hg6 _ => ?_
          have hm6 := HM.out.app4 (p := p) ho6 hg6
          (try have H8 := Lib.hid (H8.out.grown hg6 (fun e => own_blk_ne HM.out.parts H8.out (by decide) e.symm)))
          refine hK.out _ _ (Go.Proofs.YtlingaebpfdhgaaGreatDoor.monok.moved (.grown hg6 fun i hi => .inl ⟨by have := (HM.out.parts.lt i hi).1; omega, hvp i hi⟩) (by decide)) ?_
          clear hK K
          try simp only [qPA]
          obtain ⟨A6, c6, hv6⟩ := hm6.parts.form
          have hl6 : (l.take k ++ [p]).length = k + 1 := by rw [List.length_append, List.length_take]; simp; omega
          rw [hl6] at hv6
          subst hv6
          clear HM ho6 hg6 hl6
          have HM := Lib.hid hm6
          clear hm6
          refine wpMonoK_take' 11 (v := ?_) rfl (by kernel_rfl) (by kernel_rfl) (by kernel_rfl) (fun _ _ _ h => h) (by rfl) ?_ ?_
          rotate_left
          · (intro W hSw
             go_simp; first | done | rfl)
          try simp only [qPA]
          refine wpMonoK_one' 8 (by kernel_rfl) rfl (by rfl) (fun K hK => ?_)
          go_simp
          refine hK.out _ _ (Go.Proofs.YtlingaebpfdhgaaGreatDoor.monok.stays (Keeps.alloc _)) ?_
          clear hK K
          try simp only [qPA]
          have hm8 := (HM.out.alloc (.cells #[.int .i64 nx] 3)) 
          have h8 : Blk ((w5).alloc (.cells #[.int .i64 nx] 3))  (w5).heap.size 3 #[.int .i64 nx] := (Blk.new w5 3 #[.int .i64 nx]) 
          (try have h3 := (H3.out.alloc (.cells #[.int .i64 nx] 3)) )
          obtain ⟨g8, hg8⟩ : ∃ x, (w5).heap.size = x := ⟨_, rfl⟩
          (try rw [World.size_drew])
          rw [hg8] at h8 ⊢
          clear HM
          generalize ((w5).alloc (.cells #[.int .i64 nx] 3))  = w6 at *
          have HM := Lib.hid hm8
          have H8 := Lib.hid h8
          (try have H3 := Lib.hid h3)
          clear hm8 h8
          refine wpMonoK_one' 9 (by kernel_rfl) rfl (by rfl) (fun K hK => ?_)
          refine wp_append_any _ (.tmp 46) (.tmp 48) _ (by rfl) (w.heap.size + 2) 3 j0 _ 1 8 Tryz.underlying23 hj0 hy0 hy1 hy2 rfl (by omega) ve (ends l k).length _ (by rfl) HM.out.ends_ _ (some ⟨g8, 0, none⟩) 1 1 [.int .i64 nx] (by rfl) (reads_blk' H8.out) (by simp [Value.oneCell']) (by rw [ends_len]; unfold maxLen; omega) (by rw [ends_len]; omega) HM.out.big fun v9 w9 ho9 hg9 _ => ?_
          have hm9 := HM.out.app9 (n := nx) ho9 hg9
          refine hK.out _ _ (Go.Proofs.YtlingaebpfdhgaaGreatDoor.monok.moved (.grown hg9 fun i hi => .inl ⟨by have := (HM.out.ends_.lt i hi).1; omega, hve i hi⟩) (by decide)) ?_
          clear hK K
          try simp only [qPA]
          rw [← hen] at hm9
          obtain ⟨A9, c9, hv9⟩ := hm9.ends_.form
          rw [ends_len] at hv9
          subst hv9
          clear HM ho9 hg9
          have HM := Lib.hid hm9
          have q0 : w9.cell? ⟨w.heap.size + 1, 0, none⟩ = _ := hm9.blk.cell 0
          have q1 : w9.cell? ⟨w.heap.size + 1, 1, none⟩ = _ := hm9.blk.cell 1
          have q2 : w9.cell? ⟨w.heap.size + 1, 2, none⟩ = _ := hm9.blk.cell 2
          have f0 := hm9.blk.frozen 0
          have f1 := hm9.blk.frozen 1
          have f2 := hm9.blk.frozen 2
          have ql := hm9.blk.lt
          simp at q0 q1 q2
          clear hm9
          refine wpMonoK_one' 12 (by kernel_rfl) rfl (by rfl) (fun K hK => ?_)
          go_simp
          refine hK.out _ _ (Go.Proofs.YtlingaebpfdhgaaGreatDoor.monok.movedL (Keeps.set1 _ _ _ _) (by decide)) ?_
          clear hK K
          try simp only [qPA]
          refine wpMonoK_take' 13 (v := ?_) rfl (by kernel_rfl) (by kernel_rfl) (by kernel_rfl) (fun _ _ _ h => h) (by rfl) ?_ ?_
          rotate_left
          · (intro W hSw
             go_simp; first | done | rfl)
          try simp only [qPA]
          refine wpMonoK_one' 14 (by kernel_rfl) rfl (by rfl) (fun K hK => ?_)
          go_simp
          refine hK.out _ _ (Go.Proofs.YtlingaebpfdhgaaGreatDoor.monok.movedL (Keeps.set1 _ _ _ _) (by decide)) ?_
          clear hK K
          try simp only [qPA]
          refine wpMonoK_take' 15 (v := ?_) rfl (by kernel_rfl) (by kernel_rfl) (by kernel_rfl) (fun _ _ _ h => h) (by rfl) ?_ ?_
          rotate_left
          · (intro W hSw
             go_simp; first | done | rfl)
          try simp only [qPA]
          refine wpMonoK_one' 16 (by kernel_rfl) rfl (by rfl) (fun K hK => ?_)
          go_simp
          refine hK.out _ _ (Go.Proofs.YtlingaebpfdhgaaGreatDoor.monok.movedL (Keeps.set1 _ _ _ _) (by decide)) ?_
          clear hK K
          try simp only [qPA]
          refine wpMonoK_done (by kernel_rfl) ?_ _
          have hm10 := ((HM.out.put 0 (.slice A6 (k + 1) c6)).put 1 (.slice A9 (k + 1) c9)).put 2 (.int .i64 (nx : Nat))
          simp only [List.setIfInBounds_toArray, List.set_cons_zero, List.set_cons_succ] at hm10
          rw [← htk] at hm10
          have HM := Lib.hid hm10
          clear hm10
          generalize ((w9.setCell ⟨w.heap.size + 1, 0, none⟩ (.slice A6 (k + 1) c6)).setCell ⟨w.heap.size + 1, 1, none⟩ (.slice A9 (k + 1) c9)).setCell ⟨w.heap.size + 1, 2, none⟩ (.int .i64 (nx : Nat)) = w10 at *
          go_wp2_with fail
          have hl10 : LookS w10 (w.heap.size + 2) (w.heap.size + 1) l (k + 1) (.slice A6 (k + 1) c6) (.slice A9 (k + 1) c9) := ⟨by rw [hnxe]; exact HM.out.blk, HM.out.parts, HM.out.ends_, by omega⟩
          refine ⟨⟨k + 1, _, _, by omega, hl10, HM.out.zero, HM.out.bw⟩, ?_⟩
          rw [hl10.at_, Hat.out, hnxe]
          have := seal_pos p
          omega
        · skip
          go_simp
          refine hK.out _ _ (Go.Proofs.YtlingaebpfdhgaaGreatDoor.monok.stays (Keeps.alloc _)) ?_
          clear hK K
          try simp only [qPA]
          have hm8 := (HM.out.alloc (.cells #[.int .i64 nx] 3)) 
          have h8 : Blk ((w4).alloc (.cells #[.int .i64 nx] 3))  (w4).heap.size 3 #[.int .i64 nx] := (Blk.new w4 3 #[.int .i64 nx]) 
          (try have h3 := (H3.out.alloc (.cells #[.int .i64 nx] 3)) )
          obtain ⟨g8, hg8⟩ : ∃ x, (w4).heap.size = x := ⟨_, rfl⟩
          (try rw [World.size_drew])
          rw [hg8] at h8 ⊢
          clear HM
          generalize ((w4).alloc (.cells #[.int .i64 nx] 3))  = w5 at *
          have HM := Lib.hid hm8
          have H8 := Lib.hid h8
          (try have H3 := Lib.hid h3)
          clear hm8 h8
          refine wpMonoK_one' 4 (by kernel_rfl) rfl (by rfl) (fun K hK => ?_)
          refine wp_append_any _ (.tmp 41) (.tmp 43) _ (by rfl) (w.heap.size + 2) 168 i0 _ 4 40 Tryz.underlying159 hi0 hz0 hz1 hz2 rfl (by omega) vp (l.take k).length _ (by rfl) HM.out.parts _ (some ⟨g3, 0, none⟩) 1 1 (pcells p) (by rfl) (reads_blk' H3.out) (pone p) (by rw [List.length_take]; unfold maxLen; omega) (by rw [List.length_take]; omega) HM.out.big fun v6 w6 ho6 hg6 _ => ?_
          have hm6 := HM.out.app4 (p := p) ho6 hg6
          (try have H8 := Lib.hid (H8.out.grown hg6 (fun e => own_blk_ne HM.out.parts H8.out (by decide) e.symm)))
          refine hK.out _ _ (Go.Proofs.YtlingaebpfdhgaaGreatDoor.monok.moved (.grown hg6 fun i hi => .inl ⟨by have := (HM.out.parts.lt i hi).1; omega, hvp i hi⟩) (by decide)) ?_
          clear hK K
          try simp only [qPA]
          obtain ⟨A6, c6, hv6⟩ := hm6.parts.form
          have hl6 : (l.take k ++ [p]).length = k + 1 := by rw [List.length_append, List.length_take]; simp; omega
          rw [hl6] at hv6
          subst hv6
          clear HM ho6 hg6 hl6
          have HM := Lib.hid hm6
          clear hm6
          refine wpMonoK_take' 11 (v := ?_) rfl (by kernel_rfl) (by kernel_rfl) (by kernel_rfl) (fun _ _ _ h => h) (by rfl) ?_ ?_
          rotate_left
          · (intro W hSw
             go_simp; first | done | rfl)
          try simp only [qPA]
          refine wpMonoK_one' 9 (by kernel_rfl) rfl (by rfl) (fun K hK => ?_)
          refine wp_append_any _ (.tmp 46) (.tmp 48) _ (by rfl) (w.heap.size + 2) 3 j0 _ 1 8 Tryz.underlying23 hj0 hy0 hy1 hy2 rfl (by omega) ve (ends l k).length _ (by rfl) HM.out.ends_ _ (some ⟨g8, 0, none⟩) 1 1 [.int .i64 nx] (by rfl) (reads_blk' H8.out) (by simp [Value.oneCell']) (by rw [ends_len]; unfold maxLen; omega) (by rw [ends_len]; omega) HM.out.big fun v9 w9 ho9 hg9 _ => ?_
          have hm9 := HM.out.app9 (n := nx) ho9 hg9
          refine hK.out _ _ (Go.Proofs.YtlingaebpfdhgaaGreatDoor.monok.moved (.grown hg9 fun i hi => .inl ⟨by have := (HM.out.ends_.lt i hi).1; omega, hve i hi⟩) (by decide)) ?_
          clear hK K
          try simp only [qPA]
          rw [← hen] at hm9
          obtain ⟨A9, c9, hv9⟩ := hm9.ends_.form
          rw [ends_len] at hv9
          subst hv9
          clear HM ho9 hg9
          have HM := Lib.hid hm9
          have q0 : w9.cell? ⟨w.heap.size + 1, 0, none⟩ = _ := hm9.blk.cell 0
          have q1 : w9.cell? ⟨w.heap.size + 1, 1, none⟩ = _ := hm9.blk.cell 1
          have q2 : w9.cell? ⟨w.heap.size + 1, 2, none⟩ = _ := hm9.blk.cell 2
          have f0 := hm9.blk.frozen 0
          have f1 := hm9.blk.frozen 1
          have f2 := hm9.blk.frozen 2
          have ql := hm9.blk.lt
          simp at q0 q1 q2
          clear hm9
          refine wpMonoK_one' 12 (by kernel_rfl) rfl (by rfl) (fun K hK => ?_)
          go_simp
          refine hK.out _ _ (Go.Proofs.YtlingaebpfdhgaaGreatDoor.monok.movedL (Keeps.set1 _ _ _ _) (by decide)) ?_
          clear hK K
          try simp only [qPA]
          refine wpMonoK_take' 13 (v := ?_) rfl (by kernel_rfl) (by kernel_rfl) (by kernel_rfl) (fun _ _ _ h => h) (by rfl) ?_ ?_
          rotate_left
          · (intro W hSw
             go_simp; first | done | rfl)
          try simp only [qPA]
          refine wpMonoK_one' 14 (by kernel_rfl) rfl (by rfl) (fun K hK => ?_)
          go_simp
          refine hK.out _ _ (Go.Proofs.YtlingaebpfdhgaaGreatDoor.monok.movedL (Keeps.set1 _ _ _ _) (by decide)) ?_
          clear hK K
          try simp only [qPA]
          refine wpMonoK_take' 15 (v := ?_) rfl (by kernel_rfl) (by kernel_rfl) (by kernel_rfl) (fun _ _ _ h => h) (by rfl) ?_ ?_
          rotate_left
          · (intro W hSw
             go_simp; first | done | rfl)
          try simp only [qPA]
          refine wpMonoK_one' 16 (by kernel_rfl) rfl (by rfl) (fun K hK => ?_)
          go_simp
          refine hK.out _ _ (Go.Proofs.YtlingaebpfdhgaaGreatDoor.monok.movedL (Keeps.set1 _ _ _ _) (by decide)) ?_
          clear hK K
          try simp only [qPA]
          refine wpMonoK_done (by kernel_rfl) ?_ _
          have hm10 := ((HM.out.put 0 (.slice A6 (k + 1) c6)).put 1 (.slice A9 (k + 1) c9)).put 2 (.int .i64 (nx : Nat))
          simp only [List.setIfInBounds_toArray, List.set_cons_zero, List.set_cons_succ] at hm10
          rw [← htk] at hm10
          have HM := Lib.hid hm10
          clear hm10
          generalize ((w9.setCell ⟨w.heap.size + 1, 0, none⟩ (.slice A6 (k + 1) c6)).setCell ⟨w.heap.size + 1, 1, none⟩ (.slice A9 (k + 1) c9)).setCell ⟨w.heap.size + 1, 2, none⟩ (.int .i64 (nx : Nat)) = w10 at *
          go_wp2_with fail
          have hl10 : LookS w10 (w.heap.size + 2) (w.heap.size + 1) l (k + 1) (.slice A6 (k + 1) c6) (.slice A9 (k + 1) c9) := ⟨by rw [hnxe]; exact HM.out.blk, HM.out.parts, HM.out.ends_, by omega⟩
          refine ⟨⟨k + 1, _, _, by omega, hl10, HM.out.zero, HM.out.bw⟩, ?_⟩
          rw [hl10.at_, Hat.out, hnxe]
          have := seal_pos p
          omega
      · skip
        go_simp
        refine hK.out _ _ (Go.Proofs.YtlingaebpfdhgaaGreatDoor.monok.stays (Keeps.alloc _)) ?_
        clear hK K
        try simp only [qPA]
        have hm8 := (HM.out.alloc (.cells #[.int .i64 nx] 3)).drew
        have h8 : Blk ((w3).alloc (.cells #[.int .i64 nx] 3)).drew (w3).heap.size 3 #[.int .i64 nx] := (Blk.new w3 3 #[.int .i64 nx]).drew
        (try have h3 := (H3.out.alloc (.cells #[.int .i64 nx] 3)).drew)
        obtain ⟨g8, hg8⟩ : ∃ x, (w3).heap.size = x := ⟨_, rfl⟩
        (try rw [World.size_drew])
        rw [hg8] at h8 ⊢
        clear HM
        generalize ((w3).alloc (.cells #[.int .i64 nx] 3)).drew = w4 at *
        have HM := Lib.hid hm8
        have H8 := Lib.hid h8
        (try have H3 := Lib.hid h3)
        clear hm8 h8
        refine wpMonoK_one' 3 (by kernel_rfl) rfl (by rfl) (fun K hK => ?_)
        go_simp
        refine hK.out _ _ (Go.Proofs.YtlingaebpfdhgaaGreatDoor.monok.stays (Keeps.alloc _)) ?_
        clear hK K
        try simp only [qPA]
        have hm3 := (HM.out.alloc (.cells #[.int .i64 p.kind, .int .i64 p.gen, .int .i64 p.place, .string (str p.text)] 168)) 
        have h3 : Blk ((w4).alloc (.cells #[.int .i64 p.kind, .int .i64 p.gen, .int .i64 p.place, .string (str p.text)] 168))  (w4).heap.size 168 (pcells p).toArray := (Blk.new w4 168 (pcells p).toArray) 
        (try have h8 := (H8.out.alloc (.cells #[.int .i64 p.kind, .int .i64 p.gen, .int .i64 p.place, .string (str p.text)] 168)) )
        obtain ⟨g3, hg3⟩ : ∃ x, (w4).heap.size = x := ⟨_, rfl⟩
        (try rw [World.size_drew])
        rw [hg3] at h3 ⊢
        clear HM
        generalize ((w4).alloc (.cells #[.int .i64 p.kind, .int .i64 p.gen, .int .i64 p.place, .string (str p.text)] 168))  = w5 at *
        have HM := Lib.hid hm3
        have H3 := Lib.hid h3
        (try have H8 := Lib.hid h8)
        clear hm3 h3
        refine wpMonoK_one' 4 (by kernel_rfl) rfl (by rfl) (fun K hK => ?_)
        refine wp_append_any _ (.tmp 41) (.tmp 43) _ (by rfl) (w.heap.size + 2) 168 i0 _ 4 40 Tryz.underlying159 hi0 hz0 hz1 hz2 rfl (by omega) vp (l.take k).length _ (by rfl) HM.out.parts _ (some ⟨g3, 0, none⟩) 1 1 (pcells p) (by rfl) (reads_blk' H3.out) (pone p) (by rw [List.length_take]; unfold maxLen; omega) (by rw [List.length_take]; omega) HM.out.big fun v6 w6 ho6 hg6 _ => ?_
        have hm6 := HM.out.app4 (p := p) ho6 hg6
        (try have H8 := Lib.hid (H8.out.grown hg6 (fun e => own_blk_ne HM.out.parts H8.out (by decide) e.symm)))
        refine hK.out _ _ (Go.Proofs.YtlingaebpfdhgaaGreatDoor.monok.moved (.grown hg6 fun i hi => .inl ⟨by have := (HM.out.parts.lt i hi).1; omega, hvp i hi⟩) (by decide)) ?_
        clear hK K
        try simp only [qPA]
        obtain ⟨A6, c6, hv6⟩ := hm6.parts.form
        have hl6 : (l.take k ++ [p]).length = k + 1 := by rw [List.length_append, List.length_take]; simp; omega
        rw [hl6] at hv6
        subst hv6
        clear HM ho6 hg6 hl6
        have HM := Lib.hid hm6
        clear hm6
        refine wpMonoK_take' 11 (v := ?_) rfl (by kernel_rfl) (by kernel_rfl) (by kernel_rfl) (fun _ _ _ h => h) (by rfl) ?_ ?_
        rotate_left
        · (intro W hSw
           go_simp; first | done | rfl)
        try simp only [qPA]
        refine wpMonoK_one' 9 (by kernel_rfl) rfl (by rfl) (fun K hK => ?_)
        refine wp_append_any _ (.tmp 46) (.tmp 48) _ (by rfl) (w.heap.size + 2) 3 j0 _ 1 8 Tryz.underlying23 hj0 hy0 hy1 hy2 rfl (by omega) ve (ends l k).length _ (by rfl) HM.out.ends_ _ (some ⟨g8, 0, none⟩) 1 1 [.int .i64 nx] (by rfl) (reads_blk' H8.out) (by simp [Value.oneCell']) (by rw [ends_len]; unfold maxLen; omega) (by rw [ends_len]; omega) HM.out.big fun v9 w9 ho9 hg9 _ => ?_
        have hm9 := HM.out.app9 (n := nx) ho9 hg9
        refine hK.out _ _ (Go.Proofs.YtlingaebpfdhgaaGreatDoor.monok.moved (.grown hg9 fun i hi => .inl ⟨by have := (HM.out.ends_.lt i hi).1; omega, hve i hi⟩) (by decide)) ?_
        clear hK K
        try simp only [qPA]
        rw [← hen] at hm9
        obtain ⟨A9, c9, hv9⟩ := hm9.ends_.form
        rw [ends_len] at hv9
        subst hv9
        clear HM ho9 hg9
        have HM := Lib.hid hm9
        have q0 : w9.cell? ⟨w.heap.size + 1, 0, none⟩ = _ := hm9.blk.cell 0
        have q1 : w9.cell? ⟨w.heap.size + 1, 1, none⟩ = _ := hm9.blk.cell 1
        have q2 : w9.cell? ⟨w.heap.size + 1, 2, none⟩ = _ := hm9.blk.cell 2
        have f0 := hm9.blk.frozen 0
        have f1 := hm9.blk.frozen 1
        have f2 := hm9.blk.frozen 2
        have ql := hm9.blk.lt
        simp at q0 q1 q2
        clear hm9
        refine wpMonoK_one' 12 (by kernel_rfl) rfl (by rfl) (fun K hK => ?_)
        go_simp
        refine hK.out _ _ (Go.Proofs.YtlingaebpfdhgaaGreatDoor.monok.movedL (Keeps.set1 _ _ _ _) (by decide)) ?_
        clear hK K
        try simp only [qPA]
        refine wpMonoK_take' 13 (v := ?_) rfl (by kernel_rfl) (by kernel_rfl) (by kernel_rfl) (fun _ _ _ h => h) (by rfl) ?_ ?_
        rotate_left
        · (intro W hSw
           go_simp; first | done | rfl)
        try simp only [qPA]
        refine wpMonoK_one' 14 (by kernel_rfl) rfl (by rfl) (fun K hK => ?_)
        go_simp
        refine hK.out _ _ (Go.Proofs.YtlingaebpfdhgaaGreatDoor.monok.movedL (Keeps.set1 _ _ _ _) (by decide)) ?_
        clear hK K
        try simp only [qPA]
        refine wpMonoK_take' 15 (v := ?_) rfl (by kernel_rfl) (by kernel_rfl) (by kernel_rfl) (fun _ _ _ h => h) (by rfl) ?_ ?_
        rotate_left
        · (intro W hSw
           go_simp; first | done | rfl)
        try simp only [qPA]
        refine wpMonoK_one' 16 (by kernel_rfl) rfl (by rfl) (fun K hK => ?_)
        go_simp
        refine hK.out _ _ (Go.Proofs.YtlingaebpfdhgaaGreatDoor.monok.movedL (Keeps.set1 _ _ _ _) (by decide)) ?_
        clear hK K
        try simp only [qPA]
        refine wpMonoK_done (by kernel_rfl) ?_ _
        have hm10 := ((HM.out.put 0 (.slice A6 (k + 1) c6)).put 1 (.slice A9 (k + 1) c9)).put 2 (.int .i64 (nx : Nat))
        simp only [List.setIfInBounds_toArray, List.set_cons_zero, List.set_cons_succ] at hm10
        rw [← htk] at hm10
        have HM := Lib.hid hm10
        clear hm10
        generalize ((w9.setCell ⟨w.heap.size + 1, 0, none⟩ (.slice A6 (k + 1) c6)).setCell ⟨w.heap.size + 1, 1, none⟩ (.slice A9 (k + 1) c9)).setCell ⟨w.heap.size + 1, 2, none⟩ (.int .i64 (nx : Nat)) = w10 at *
        go_wp2_with fail
        have hl10 : LookS w10 (w.heap.size + 2) (w.heap.size + 1) l (k + 1) (.slice A6 (k + 1) c6) (.slice A9 (k + 1) c9) := ⟨by rw [hnxe]; exact HM.out.blk, HM.out.parts, HM.out.ends_, by omega⟩
        refine ⟨⟨k + 1, _, _, by omega, hl10, HM.out.zero, HM.out.bw⟩, ?_⟩
        rw [hl10.at_, Hat.out, hnxe]
        have := seal_pos p
        omega
    · obtain rfl : k = l.length := by omega
      obtain ⟨Ap, cp, rfl⟩ := hx.parts.form
      obtain ⟨Ae, ce, rfl⟩ := hx.ends_.form
      rw [ends_len] at hx x1
      rw [List.take_length] at hx x0 x2
      rw [hL] at x2
      have hbx := hx.blk
      rw [List.take_length, hL] at hbx
      have hpx := hx.parts
      rw [List.take_length] at hpx
      have HM := Lib.hid (show Mid w wr #[.slice Ap l.length cp, .slice Ae l.length ce, .int .i64 L, .bool false, .bool false] (.slice Ap l.length cp) l (.slice Ae l.length ce) (ends l l.length) from ⟨hbx, hz, hpx, hx.ends_, hbw⟩)
      have HRD := Lib.hid (Reads.of_own hpx)
      have dlt : decide ((L : Int) < (L : Int)) = false := by simp
      clear hx hz hbw hbx hpx Hat
      go_wp2_with fail
      refine (ordered_w Ap l.length cp l _ rfl (by omega) HRD.out).mono ?_
      rintro e w2 ⟨rfl, hb2⟩
      have hm2 := HM.out.below hb2
      have q4 : w2.cell? ⟨w.heap.size + 1, 4, none⟩ = _ := hm2.blk.cell 4
      have f4 := hm2.blk.frozen 4
      have ql := hm2.blk.lt
      simp at q4
      have hm3 := hm2.put 4 (.bool (ordered l))
      simp only [List.setIfInBounds_toArray, List.set_cons_zero, List.set_cons_succ] at hm3
      have HM := Lib.hid hm3
      have HZ := Lib.hid hm3.zero
      have y0 : (w2.setCell ⟨w.heap.size + 1, 4, none⟩ (.bool (ordered l))).cell? ⟨w.heap.size + 1, 0, none⟩ = _ := hm3.blk.cell 0
      have y1 : (w2.setCell ⟨w.heap.size + 1, 4, none⟩ (.bool (ordered l))).cell? ⟨w.heap.size + 1, 1, none⟩ = _ := hm3.blk.cell 1
      have y2 : (w2.setCell ⟨w.heap.size + 1, 4, none⟩ (.bool (ordered l))).cell? ⟨w.heap.size + 1, 2, none⟩ = _ := hm3.blk.cell 2
      have y3 : (w2.setCell ⟨w.heap.size + 1, 4, none⟩ (.bool (ordered l))).cell? ⟨w.heap.size + 1, 3, none⟩ = _ := hm3.blk.cell 3
      have y4 : (w2.setCell ⟨w.heap.size + 1, 4, none⟩ (.bool (ordered l))).cell? ⟨w.heap.size + 1, 4, none⟩ = _ := hm3.blk.cell 4
      simp at y0 y1 y2 y3 y4
      clear hb2 hm2 hm3 x0 x1 x2 x3 x4
      generalize hob : ordered l = ob at *
      go_wp2_with (refine wpList_store_blk rfl 161 (.tmp 2) (.tmp 95) rfl w.heap.size [.slice Ap l.length cp, .slice Ae l.length ce, .int .i64 L, .bool false, .bool ob] rfl rfl HZ.out (by kernel_rfl) rfl rfl ?_; intro w10 ho4 hk4 hs4)
      have HR := Lib.hid (show ScanR l w (.returned (.tuple #[.agg #[.slice Ap l.length cp, .slice Ae l.length ce, .int .i64 L, .bool false, .bool ob], .nilIface])) w10 from by
        have hp := own_keeps HM.out.parts hk4 (fun i hi e => by omega)
        have he := own_keeps HM.out.ends_ hk4 (fun i hi e => by omega)
        exact ⟨_, _, by rw [hob, hL], own_low' hp (by omega), own_low' he (by omega), HM.out.bw.trans (hk4.below (fun i hi e => by omega) HM.out.bw.size)⟩)
      clear y0 y1 y2 y3 y4 hk4
      have p0 : w10.cell? ⟨w.heap.size, 0, none⟩ = _ := ho4.cell 0
      have p1 : w10.cell? ⟨w.heap.size, 1, none⟩ = _ := ho4.cell 1
      have p2 : w10.cell? ⟨w.heap.size, 2, none⟩ = _ := ho4.cell 2
      have p3 : w10.cell? ⟨w.heap.size, 3, none⟩ = _ := ho4.cell 3
      have p4 : w10.cell? ⟨w.heap.size, 4, none⟩ = _ := ho4.cell 4
      simp at p0 p1 p2 p3 p4
      clear ho4
      exact bodyPost_ret (v := .tuple #[.agg #[.slice Ap l.length cp, .slice Ae l.length ce, .int .i64 L, .bool false, .bool ob], .nilIface]) (by simp [results, Tryz.results67, go_sem, p0, p1, p2, p3, p4]) rfl HR.out
end Go.Proofs.YtlingaebpfdhgaaGreatDoor.jrn
namespace Go.Proofs.YtlingaebpfdhgaaGreatDoor.regn
open Go Go.RowKit base err wireb wirep
section
variable {w:World}
theorem numclo (g c n:Nat) (l:List UInt8) (w:World) (h:OutB w g l) (hc:w.cell? ⟨c,0,none⟩=some (.int .i64 n)) (hn:n≤4611686018427387903) (hr:l.length + 9≤65536) :
  Calls Tryz.prog 112 #[.pointer (some ⟨g,0,none⟩),.pointer (some ⟨c,0,none⟩)] w (PutB g (l ++ numW n) w):=by
 have H:=Lib.hid h
 have hlt:=h.lt
 clear h
 go_enter Tryz.func112,Tryz.ntmps112
 go_wp2_with fail
 refine (num_b g n l _ H.out hn hr).mono ?_
 rintro e w1 h1
 obtain ⟨rfl,h2⟩:=h1
 have HR:=Lib.hid (show PutB g (l ++ numW n) w (.returned noResult) w1 from ⟨rfl,h2⟩)
 clear h2
 go_wp2_with fail
 refine bodyPost_end (results_none rfl _ _ _) rfl ?_
 exact HR.out
theorem record_num (c k n:Nat) (w:World) (hc:w.cell? ⟨c,0,none⟩=some (.int .i64 n)) (hcl:c < w.heap.size) (hk:k≤100) (hn:n≤4611686018427387903) :
  Calls Tryz.prog 111 #[.int .i64 k,.func (.func 112) #[] #[.pointer (some ⟨c,0,none⟩)]] w fun e w'=>e=.returned (.string (str (numW k ++ numW n)))∧Below w.heap.size w w':=by
 have hnl:(numW k).length≤9:=by
  have:=numW_len 0 k (by omega)
  omega
 go_enter Tryz.func111,Tryz.ntmps111
 go_wp2_with fail
 have ho:OutB (w.alloc (.cells #[.slice none 0 0,.nilIface] 81)) w.heap.size []:=⟨.slice none 0 0,_,Blk.new _ _ _,⟨rfl,.inl ⟨rfl,rfl⟩⟩⟩
 have hb:Below w.heap.size w (w.alloc (.cells #[.slice none 0 0,.nilIface] 81)):=below_new _ _
 have HO:=Lib.hid ho
 have HB:=Lib.hid hb
 clear ho hb
 refine (num_b w.heap.size k [] _ HO.out (by omega) (by simp)).mono ?_
 rintro e w1 ⟨rfl,ho1,hb1⟩
 have HO1:=Lib.hid (show OutB w1 w.heap.size (numW k) from ho1)
 have hb1':=HB.out.trans hb1
 have HB1:=Lib.hid hb1'
 have hc1:w1.cell? ⟨c,0,none⟩=some (.int .i64 n):=(hb1'.cell (p:=⟨c,0,none⟩) hcl).trans hc
 clear hb1 ho1 hb1'
 go_wp2_with fail
 refine (numclo w.heap.size c n (numW k) w1 HO1.out hc1 hn (by omega)).mono ?_
 rintro e w2 ⟨rfl,ho2,hb2⟩
 have HO2:=Lib.hid ho2
 have HB2:=Lib.hid (HB1.out.trans hb2)
 clear ho2 hb2
 go_wp2_with fail
 refine (done_b w.heap.size _ w2 HO2.out).mono ?_
 rintro e w3 ⟨rfl,rfl⟩
 go_wp2_with fail
 go_ret
 exact ⟨rfl,HB2.out⟩
theorem num_record (k n:Nat) (w:World) (hk:k≤100) (hn:n≤4611686018427387903) :
  Calls Tryz.prog 53 #[.int .i64 k,.int .i64 n] w fun e w'=>e=.returned (.string (str (numW k ++ numW n)))∧Below w.heap.size w w':=by
 go_enter Tryz.func53,Tryz.ntmps53
 go_wp2_with fail
 have hb:Below w.heap.size w (w.alloc (.cells #[.int .i64 n] 3)):=below_new _ _
 have HB:=Lib.hid hb
 refine (record_num w.heap.size k n _ (Blk.cell (Blk.new w 3 #[.int .i64 n]) 0) (by simp) hk hn).mono ?_
 rintro e w1 ⟨rfl,hb1⟩
 have HB1:=Lib.hid (HB.out.trans (hb1.mono hb.size))
 clear hb hb1
 go_wp2_with fail
 go_ret
 exact ⟨rfl,HB1.out⟩
end
end Go.Proofs.YtlingaebpfdhgaaGreatDoor.regn
namespace Go.Proofs.YtlingaebpfdhgaaGreatDoor.regn
open Go Go.RowKit base err wireb wirep writep
section
variable {w:World}
theorem textclo (g c:Nat) (s:ByteArray) (l:List UInt8) (w:World) (h:OutB w g l) (hc:w.cell? ⟨c,0,none⟩=some (.string s)) (hn:s.size≤8192) (hr:l.length + s.size + 9≤65536) :
  Calls Tryz.prog 182 #[.pointer (some ⟨g,0,none⟩),.pointer (some ⟨c,0,none⟩)] w (PutB g (l ++ textW s.data.toList) w):=by
 have H:=Lib.hid h
 have hlt:=h.lt
 clear h
 go_enter Tryz.func182,Tryz.ntmps182
 go_wp2_with fail
 refine (text_b g s l _ H.out hn hr).mono ?_
 rintro e w1 h1
 obtain ⟨rfl,h2⟩:=h1
 have HR:=Lib.hid (show PutB g (l ++ textW s.data.toList) w (.returned noResult) w1 from ⟨rfl,h2⟩)
 clear h2
 go_wp2_with fail
 refine bodyPost_end (results_none rfl _ _ _) rfl ?_
 exact HR.out
theorem record_text (c k:Nat) (s:ByteArray) (w:World) (hc:w.cell? ⟨c,0,none⟩=some (.string s)) (hcl:c < w.heap.size) (hk:k≤100) (hn:s.size≤8192) :
  Calls Tryz.prog 111 #[.int .i64 k,.func (.func 182) #[] #[.pointer (some ⟨c,0,none⟩)]] w fun e w'=>e=.returned (.string (str (numW k ++ textW s.data.toList)))∧Below w.heap.size w w':=by
 have hnl:(numW k).length≤9:=by
  have:=numW_len 0 k (by omega)
  omega
 go_enter Tryz.func111,Tryz.ntmps111
 go_wp2_with fail
 have ho:OutB (w.alloc (.cells #[.slice none 0 0,.nilIface] 81)) w.heap.size []:=⟨.slice none 0 0,_,Blk.new _ _ _,⟨rfl,.inl ⟨rfl,rfl⟩⟩⟩
 have hb:Below w.heap.size w (w.alloc (.cells #[.slice none 0 0,.nilIface] 81)):=below_new _ _
 have HO:=Lib.hid ho
 have HB:=Lib.hid hb
 clear ho hb
 refine (num_b w.heap.size k [] _ HO.out (by omega) (by simp)).mono ?_
 rintro e w1 ⟨rfl,ho1,hb1⟩
 have HO1:=Lib.hid (show OutB w1 w.heap.size (numW k) from ho1)
 have hb1':=HB.out.trans hb1
 have HB1:=Lib.hid hb1'
 have hc1:w1.cell? ⟨c,0,none⟩=some (.string s):=(hb1'.cell (p:=⟨c,0,none⟩) hcl).trans hc
 clear hb1 ho1 hb1'
 go_wp2_with fail
 refine (textclo w.heap.size c s (numW k) w1 HO1.out hc1 hn (by omega)).mono ?_
 rintro e w2 ⟨rfl,ho2,hb2⟩
 have HO2:=Lib.hid ho2
 have HB2:=Lib.hid (HB1.out.trans hb2)
 clear ho2 hb2
 go_wp2_with fail
 refine (done_b w.heap.size _ w2 HO2.out).mono ?_
 rintro e w3 ⟨rfl,rfl⟩
 go_wp2_with fail
 go_ret
 exact ⟨rfl,HB2.out⟩
set_option maxRecDepth 10000 in
theorem write_record (x:PW) (d:Value) (k:Nat) (w:World) (hd:wire.Nums w w.heap.size d (natI x.d)) (hx:x.Ok) (hk:k≤100) (hl:x.bytes.length≤8192) :
  Calls Tryz.prog 149 #[.int .i64 k,.agg ⟨(x.wr d).cells⟩] w fun e w'=>e=.returned (.string (str (numW k ++ textW x.bytes)))∧Below w.heap.size w w':=by
 have HE:=Lib.hid (encode_b x d (w.alloc (.cells (x.wr d).cells.toArray 34)) ((hd.below (below_new _ _)).more (by simp)))
 have HB:=Lib.hid (below_new w (.cells (x.wr d).cells.toArray 34))
 have HX:=Lib.hid hx
 clear hd hx
 have hes:(x.wr d).cells=(x.wr d).cells:=rfl
 generalize hcs:(x.wr d).cells=cs at *
 unfold wire.Wr.cells at hcs
 subst hcs
 clear hes
 go_enter Tryz.func149,Tryz.ntmps149
 go_wp2_with fail
 refine HE.out.mono ?_
 rintro e w1 ⟨s,er,rfl,h1,hb1⟩
 rcases h1 with ⟨_,rfl,rfl⟩|⟨hno,_⟩
 rotate_left
 ·exact absurd HX.out hno
 have HB1:=Lib.hid (HB.out.trans (hb1.mono HB.out.size))
 have hs1:=HB1.out.size
 clear hb1
 go_wp2_with fail
 refine (record_text w1.heap.size k (str x.bytes) _ (Blk.cell (Blk.new w1 9 #[.string (str x.bytes)]) 0) (by simp) hk (by rw [str_size];exact hl)).mono ?_
 rintro e w2 ⟨rfl,hb2⟩
 have HB2:=Lib.hid (HB1.out.trans (((below_new w1 _).trans (hb2.mono (below_new w1 _).size)).mono hs1))
 clear hb2
 rw [str_list]
 go_wp2_with fail
 go_ret
 exact ⟨rfl,HB2.out⟩
end
end Go.Proofs.YtlingaebpfdhgaaGreatDoor.regn
namespace Go.Proofs.YtlingaebpfdhgaaGreatDoor.wireb
open Go Go.RowKit base rowe err rowc wirep writep inp monok
theorem InB.set {w:World} {g b:Nat} {s:ByteArray} {st:Rd} {cs:Array Value} (h:InB w g s st) (hb:Blk w b 34 cs) (hg:g ≠ b) (i:Nat) (v:Value):InB (w.setCell ⟨b,i,none⟩ v) g s st :=
 h.keepsE (Keeps.set1 w b i v) (fun e=>hg e) (fun k cs _ hk e=>by have h1:=hb.ne_ hk (by decide);have h2:k=b:=e;omega)
theorem cellsW {w:World} {g:Nat} {T:TypeId} {a0 a1 a2 a3 a4 a5 a6 a7 a8 a9:Value} (h:Blk w g T #[a0,a1,a2,a3,a4,a5,a6,a7,a8,a9]) :
  w.cell? ⟨g,0,none⟩=some a0∧w.cell? ⟨g,1,none⟩=some a1∧w.cell? ⟨g,2,none⟩=some a2∧w.cell? ⟨g,3,none⟩=some a3∧w.cell? ⟨g,4,none⟩=some a4∧w.cell? ⟨g,5,none⟩=some a5∧w.cell? ⟨g,6,none⟩=some a6∧w.cell? ⟨g,7,none⟩=some a7∧w.cell? ⟨g,8,none⟩=some a8∧w.cell? ⟨g,9,none⟩=some a9 :=
 ⟨h.cell 0,h.cell 1,h.cell 2,h.cell 3,h.cell 4,h.cell 5,h.cell 6,h.cell 7,h.cell 8,h.cell 9⟩
theorem OwnN.few {w:World} {base:Nat} {v:Value} {l:List Nat} (h:OwnN w base v l):l.length≤maxLen:=by
 rcases h.2 with ⟨_,h0⟩|⟨g,cap,cur,_,_,_,h3,h4,_⟩
 ·omega
 ·omega
theorem OwnN.nums {w:World} {base:Nat} {A:Option Addr} {c:Nat} {l:List Nat} (h:OwnN w base (.slice A l.length c) l):wire.Nums w w.heap.size (.slice A l.length c) (natI l) :=
 ⟨A,_,c,rfl,natI_len l,h.few,Reads.of_own h⟩
theorem own_low' {w:World} {base base':Nat} {e:TypeId} {size n:Nat} {v:Value} {xs:List Value} (h:w.ownsRow base' e size v n xs) (hb:base≤base'):w.ownsRow base e size v n xs :=
 ⟨h.1,h.2.imp id fun ⟨g,cap,cur,e,h1,r⟩=>⟨g,cap,cur,e,Nat.le_trans hb h1,r⟩⟩
def zeroW:List Value:=[.int .i64 0,.int .i64 0,.int .i64 0,.int .i64 0,.slice none 0 0,.string ⟨#[]⟩,.string ⟨#[]⟩,.string ⟨#[]⟩,.bool false,.int .i64 0]
def DecR (r:Option PW) (w:World) (e:Ending) (w':World):Prop:=∃ cs er,e=.returned (.tuple #[.agg ⟨cs⟩,er])∧Below w.heap.size w w' ∧
 match r with
 | some x=>er=.nilIface∧∃ d,cs=(x.wr d).cells∧OwnN w' w.heap.size d x.d
 | none=>cs=zeroW∧EO w' er 2
set_option maxRecDepth 100000 in
set_option maxHeartbeats 4000000 in
theorem decode_b (s:ByteArray) (hs:s.size≤maxLen) (w:World):Calls Tryz.prog 81 #[.string s] w (DecR (readW s.data.toList) w):=by
 obtain ⟨a,ha⟩:∃ x,numI 16 (some s.data.toList)=x:=⟨_,rfl⟩
 obtain ⟨b,hb⟩:∃ x,numI 1099511627776 a.2=x:=⟨_,rfl⟩
 obtain ⟨c,hc⟩:∃ x,numI 1099511627776 b.2=x:=⟨_,rfl⟩
 obtain ⟨d,hd⟩:∃ x,vecI c.2=x:=⟨_,rfl⟩
 obtain ⟨e,he⟩:∃ x,textI 64 d.2=x:=⟨_,rfl⟩
 obtain ⟨f,hf⟩:∃ x,textI 32 e.2=x:=⟨_,rfl⟩
 obtain ⟨g,hg⟩:∃ x,numI 1 f.2=x:=⟨_,rfl⟩
 obtain ⟨h,hh⟩:∃ x,textI 128 g.2=x:=⟨_,rfl⟩
 obtain ⟨i,hi⟩:∃ x,numI 1099511627776 h.2=x:=⟨_,rfl⟩
 have HRD:=Lib.hid (show readW s.data.toList=if i.2=some []∧(PW.mk a.1 b.1 c.1 d.1 e.1 f.1 h.1 (decide (g.1=1)) i.1).right=true then some (PW.mk a.1 b.1 c.1 d.1 e.1 f.1 h.1 (decide (g.1=1)) i.1) else none from by
  unfold readW maxNum
  dsimp only
  rw [ha,hb,hc,hd,he,hf,hg,hh,hi])
 generalize readW s.data.toList=R at *
 go_enter Tryz.func81,Tryz.ntmps81
 go_wp2_with fail
 refine (read_in _ s hs).mono ?_
 rintro e w1 ⟨rfl,h3,h4⟩
 have hs1:(w.alloc (.cells zeroW.toArray 34)).heap.size=w.heap.size + 1:=by simp
 unfold zeroW at hs1
 rw [hs1] at h3 h4
 have HRB:=Lib.hid ((Blk.new w 34 zeroW.toArray).below (w':=w1) h4 (by omega))
 have HBB:=Lib.hid ((below_new w (.cells zeroW.toArray 34)).trans (h4.mono (by omega)))
 have HI:=Lib.hid h3
 clear h3 h4
 rw [hs1]
 clear hs1
 obtain ⟨gi,hgi⟩:∃ x,w.heap.size + 1=x:=⟨_,rfl⟩
 rw [hgi] at HI ⊢
 go_wp2_with fail
 refine (num_in 16 HI.out).mono ?_
 rintro e w2 ⟨rfl,h3,h4⟩
 rw [ha] at h3
 (try rw [ha])
 have hr2:=HRB.out.keeps h4 (by omega)
 have HI:=Lib.hid h3
 have HRB:=Lib.hid hr2
 have HBB:=Lib.hid (HBB.out.trans (h4.below (B:=w.heap.size) (fun i hi e=>by omega) (by have:=HBB.out.size;omega)))
 clear h3 hr2 h4
 go_wp2_with fail
 refine (num_in 1099511627776 HI.out).mono ?_
 rintro e w3 ⟨rfl,h3,h4⟩
 rw [hb] at h3
 (try rw [hb])
 have hr2:=HRB.out.keeps h4 (by omega)
 have HI:=Lib.hid h3
 have HRB:=Lib.hid hr2
 have HBB:=Lib.hid (HBB.out.trans (h4.below (B:=w.heap.size) (fun i hi e=>by omega) (by have:=HBB.out.size;omega)))
 clear h3 hr2 h4
 go_wp2_with fail
 obtain ⟨wb,hwb⟩:∃ x,w3.heap.size=x:=⟨_,rfl⟩
 have hgb:gi < wb:=by have:=HI.out.lt;omega
 have HWn:=Lib.hid (Blk.new w3 34 #[.int .i64 a.1,.int .i64 b.1,.int .i64 0,.int .i64 0,.slice none 0 0,.string ⟨#[]⟩,.string ⟨#[]⟩,.string ⟨#[]⟩,.bool false,.int .i64 0])
 have HIn:=Lib.hid (HI.out.below (below_new w3 (.cells #[.int .i64 a.1,.int .i64 b.1,.int .i64 0,.int .i64 0,.slice none 0 0,.string ⟨#[]⟩,.string ⟨#[]⟩,.string ⟨#[]⟩,.bool false,.int .i64 0] 34)))
 have HRn:=Lib.hid (HRB.out.alloc (.cells #[.int .i64 a.1,.int .i64 b.1,.int .i64 0,.int .i64 0,.slice none 0 0,.string ⟨#[]⟩,.string ⟨#[]⟩,.string ⟨#[]⟩,.bool false,.int .i64 0] 34))
 have HBn:=Lib.hid (below_alloc HBB.out (.cells #[.int .i64 a.1,.int .i64 b.1,.int .i64 0,.int .i64 0,.slice none 0 0,.string ⟨#[]⟩,.string ⟨#[]⟩,.string ⟨#[]⟩,.bool false,.int .i64 0] 34))
 clear HI HRB HBB
 rw [hwb] at HWn ⊢
 generalize w3.alloc (.cells #[.int .i64 a.1,.int .i64 b.1,.int .i64 0,.int .i64 0,.slice none 0 0,.string ⟨#[]⟩,.string ⟨#[]⟩,.string ⟨#[]⟩,.bool false,.int .i64 0] 34)=w4 at *
 have HW:=HWn
 have HI:=HIn
 have HRB:=HRn
 have HBB:=HBn
 clear HWn HIn HRn HBn
 refine wp_region_monoK (fun i=>i=gi) [1] (fun i=>i=wb) [6] (by kernel_rfl) ?_
 refine wpMonoK_take' 0 (v:=?_) rfl (by kernel_rfl) (by kernel_rfl) (by kernel_rfl) (fun _ _ _ h=>h) (by rfl) ?_ ?_
 rotate_left
 ·(intro W hSw;((first|(have hg:=HW.out.drew.keeps (X:=fun i=>i=gi) hSw (by omega);have k0:W.cell? ⟨wb,0,none⟩=some (.int .i64 a.1):=hg.cell 0;have gl:=hg.lt)|skip));go_simp <;> rfl)
 try simp only [qPA]
 refine wpMonoK_take' 2 (v:=?_) rfl (by kernel_rfl) (by kernel_rfl) (by kernel_rfl) (fun _ _ _ h=>h) (by rfl) ?_ ?_
 rotate_left
 ·(intro W hSw;((first|(have hg:=HW.out.drew.keeps (X:=fun i=>i=gi) hSw (by omega);have k0:W.cell? ⟨wb,0,none⟩=some (.int .i64 a.1):=hg.cell 0;have gl:=hg.lt)|skip));go_simp <;> rfl)
 try simp only [qPA]
 refine wpMonoK_read' 3 [4,5,6] (v:=?_) rfl (by kernel_rfl) (by kernel_rfl) (by kernel_rfl) (by kernel_rfl) (by rfl) (fun _ _ _ h=>h) (by rfl) ?_ ?_
 rotate_left
 ·(intro W hSw;((first|(have hg:=HW.out.drew.keeps (X:=fun i=>i=gi) hSw (by omega);have k0:W.cell? ⟨wb,0,none⟩=some (.int .i64 a.1):=hg.cell 0;have gl:=hg.lt)|skip));go_simp <;> rfl)
 try simp only [qPA]
 refine wpMonoK_one' 1 (by kernel_rfl) rfl (by rfl) (fun K hK=>?_)
 go_simp
 have HRB:=Lib.hid HRB.out.drew
 have HW:=Lib.hid HW.out.drew
 have HBB:=Lib.hid HBB.out.drew
 refine (num_in 1099511627776 HI.out.drew).mono ?_
 rintro e w5 ⟨rfl,h3,h4⟩
 rw [hc] at h3
 (try rw [hc])
 have hr2:=HRB.out.keeps h4 (by omega)
 have hw2:=HW.out.keeps h4 (by omega)
 have HI:=Lib.hid h3
 have HRB:=Lib.hid hr2
 have HW:=Lib.hid hw2
 have HBB:=Lib.hid (HBB.out.trans (h4.below (B:=w.heap.size) (fun i hi e=>by omega) (by have:=HBB.out.size;omega)))
 (try (have hd2:=HD.out.keeps h4 (fun i hi e=>by omega);clear HD;have HD:=Lib.hid hd2;clear hd2))
 have Hk:=Lib.hid h4
 clear h3 hr2 h4 hw2
 refine hK.out _ _ ?_ ?_
 ·exact Go.Proofs.YtlingaebpfdhgaaGreatDoor.monok.moved Hk.out (by decide)
 clear hK K
 try simp only [qPA]
 refine wpMonoK_take' 4 (v:=?_) rfl (by kernel_rfl) (by kernel_rfl) (by kernel_rfl) (fun _ _ _ h=>h) (by rfl) ?_ ?_
 rotate_left
 ·(intro W hSw;((first|(have hg:=HW.out.drew.keeps (X:=fun i=>i=gi) hSw (by omega);have k0:W.cell? ⟨wb,0,none⟩=some (.int .i64 a.1):=hg.cell 0;have gl:=hg.lt)|skip));go_simp <;> rfl)
 try simp only [qPA]
 refine wpMonoK_take' 5 (v:=?_) rfl (by kernel_rfl) (by kernel_rfl) (by kernel_rfl) (fun _ _ _ h=>h) (by rfl) ?_ ?_
 rotate_left
 ·(intro W hSw;((first|(have hg:=HW.out.drew.keeps (X:=fun i=>i=gi) hSw (by omega);have k0:W.cell? ⟨wb,0,none⟩=some (.int .i64 a.1):=hg.cell 0;have gl:=hg.lt)|skip));go_simp <;> rfl)
 try simp only [qPA]
 refine wpMonoK_one' 6 (by kernel_rfl) rfl (by rfl) (fun K hK=>?_)
 refine wp_store_at 32 (.tmp 19) (.tmp 18) rfl wb 2 [.int .i64 c.1,.int .i64 a.1] rfl rfl HW.out rfl (by simp) rfl (fun w6 hq1 hq2 hq3=>?_)
 refine hK.out _ _ ?_ ?_
 ·exact Go.Proofs.YtlingaebpfdhgaaGreatDoor.monok.movedL hq2 (by decide)
 clear hK K
 try simp only [Act.put]
 refine wpMonoK_done (by kernel_rfl) ?_ _
 have HW7:=Lib.hid (show Blk w6 wb 34 #[.int .i64 a.1,.int .i64 b.1,.int .i64 c.1,.int .i64 a.1,.slice none 0 0,.string ⟨#[]⟩,.string ⟨#[]⟩,.string ⟨#[]⟩,.bool false,.int .i64 0] from hq1)
 have HI7:=Lib.hid (HI.out.keepsE hq2 (by omega) (fun k cs _ hk e=>by have h1:=HW.out.ne_ hk (by decide);have h2:k=wb:=e;omega))
 have HR7:=Lib.hid (HRB.out.keeps hq2 (by omega))
 have HB7:=Lib.hid (HBB.out.trans (hq2.below (B:=w.heap.size) (fun i hi e=>by omega) (by have:=HBB.out.size;omega)))
 clear HW HI HRB HBB Hk hq1 hq2 hq3
 have HW:=HW7
 have HI:=HI7
 have HRB:=HR7
 have HBB:=HB7
 clear HW7 HI7 HR7 HB7
 go_wp2_with fail
 refine (vec_in HI.out).mono ?_
 rintro e w7 ⟨vd,rfl,hd1,h3,h4⟩
 rw [hd] at hd1 h3
 obtain ⟨Ad,cd,rfl⟩:=hd1.form
 have hr2:=HRB.out.keeps h4 (by omega)
 have hw2:=HW.out.keeps h4 (by omega)
 have hgB:wb < w6.heap.size:=HW.out.lt
 obtain ⟨B,hB⟩:∃ x,w6.heap.size=x:=⟨_,rfl⟩
 rw [hB] at hd1 hgB
 have hwB:w.heap.size≤B:=by omega
 have HI:=Lib.hid h3
 have HRB:=Lib.hid hr2
 have HW:=Lib.hid hw2
 have HD:=Lib.hid hd1
 have HBB:=Lib.hid (HBB.out.trans (h4.below (B:=w.heap.size) (fun i hi e=>by omega) (by have:=HBB.out.size;omega)))
 clear h3 hr2 h4 hw2 hd1
 have c4:(w7).cell? ⟨wb,4,none⟩=_:=HW.out.cell 4
 have f4:=HW.out.frozen 4
 have hwl:=HW.out.lt
 simp at c4
 go_wp2_with fail
 clear c4 f4 hwl
 have hw2:=HW.out.set_ 4 (.slice Ad d.1.length cd)
 have hi2:=HI.out.set HW.out (by omega) 4 (.slice Ad d.1.length cd)
 have hr2:=HRB.out.far (p:=⟨wb,4,none⟩) (by simp;omega) (.slice Ad d.1.length cd)
 have hb2:=HBB.out.trans ((Keeps.set1 w7 wb 4 (.slice Ad d.1.length cd)).below (B:=w.heap.size) (fun i hi e=>by omega) (by have:=HBB.out.size;omega))
 simp only [List.setIfInBounds_toArray,List.set_cons_zero,List.set_cons_succ] at hw2
 have hd2:=HD.out.keeps (Keeps.set1 w7 wb 4 (.slice Ad d.1.length cd)) (fun i hi e=>by omega)
 clear HW HI HRB HBB HD
 generalize (w7).setCell ⟨wb,4,none⟩ (.slice Ad d.1.length cd)=w8 at *
 have HW:=Lib.hid hw2
 have HI:=Lib.hid hi2
 have HRB:=Lib.hid hr2
 have HBB:=Lib.hid hb2
 have HD:=Lib.hid hd2
 clear hw2 hi2 hr2 hb2 hd2
 refine (text_in 64 HI.out).mono ?_
 rintro e w9 ⟨rfl,h3,h4⟩
 rw [he] at h3
 (try rw [he])
 have hr2:=HRB.out.keeps h4 (by omega)
 have hw2:=HW.out.keeps h4 (by omega)
 have HI:=Lib.hid h3
 have HRB:=Lib.hid hr2
 have HW:=Lib.hid hw2
 have HBB:=Lib.hid (HBB.out.trans (h4.below (B:=w.heap.size) (fun i hi e=>by omega) (by have:=HBB.out.size;omega)))
 (try (have hd2:=HD.out.keeps h4 (fun i hi e=>by omega);clear HD;have HD:=Lib.hid hd2;clear hd2))
 have Hk:=Lib.hid h4
 clear h3 hr2 h4 hw2
 go_wp2_with fail
 refine (text_in 32 HI.out).mono ?_
 rintro e w10 ⟨rfl,h3,h4⟩
 rw [hf] at h3
 (try rw [hf])
 have hr2:=HRB.out.keeps h4 (by omega)
 have hw2:=HW.out.keeps h4 (by omega)
 have HI:=Lib.hid h3
 have HRB:=Lib.hid hr2
 have HW:=Lib.hid hw2
 have HBB:=Lib.hid (HBB.out.trans (h4.below (B:=w.heap.size) (fun i hi e=>by omega) (by have:=HBB.out.size;omega)))
 (try (have hd2:=HD.out.keeps h4 (fun i hi e=>by omega);clear HD;have HD:=Lib.hid hd2;clear hd2))
 have Hk:=Lib.hid h4
 clear h3 hr2 h4 hw2
 have c5:(w10).cell? ⟨wb,5,none⟩=_:=HW.out.cell 5
 have f5:=HW.out.frozen 5
 have hwl:=HW.out.lt
 simp at c5
 have c6:(w10).cell? ⟨wb,6,none⟩=_:=HW.out.cell 6
 have f6:=HW.out.frozen 6
 have hwl:=HW.out.lt
 simp at c6
 go_wp2_with fail
 clear c5 f5 c6 f6 hwl
 have hw2:=HW.out.set_ 5 (.string ⟨e.1.toArray⟩)
 have hi2:=HI.out.set HW.out (by omega) 5 (.string ⟨e.1.toArray⟩)
 have hr2:=HRB.out.far (p:=⟨wb,5,none⟩) (by simp;omega) (.string ⟨e.1.toArray⟩)
 have hb2:=HBB.out.trans ((Keeps.set1 w10 wb 5 (.string ⟨e.1.toArray⟩)).below (B:=w.heap.size) (fun i hi e=>by omega) (by have:=HBB.out.size;omega))
 simp only [List.setIfInBounds_toArray,List.set_cons_zero,List.set_cons_succ] at hw2
 have hd2:=HD.out.keeps (Keeps.set1 w10 wb 5 (.string ⟨e.1.toArray⟩)) (fun i hi e=>by omega)
 clear HW HI HRB HBB HD
 generalize (w10).setCell ⟨wb,5,none⟩ (.string ⟨e.1.toArray⟩)=w11 at *
 have HW:=Lib.hid hw2
 have HI:=Lib.hid hi2
 have HRB:=Lib.hid hr2
 have HBB:=Lib.hid hb2
 have HD:=Lib.hid hd2
 clear hw2 hi2 hr2 hb2 hd2
 have hw2:=HW.out.set_ 6 (.string ⟨f.1.toArray⟩)
 have hi2:=HI.out.set HW.out (by omega) 6 (.string ⟨f.1.toArray⟩)
 have hr2:=HRB.out.far (p:=⟨wb,6,none⟩) (by simp;omega) (.string ⟨f.1.toArray⟩)
 have hb2:=HBB.out.trans ((Keeps.set1 w11 wb 6 (.string ⟨f.1.toArray⟩)).below (B:=w.heap.size) (fun i hi e=>by omega) (by have:=HBB.out.size;omega))
 simp only [List.setIfInBounds_toArray,List.set_cons_zero,List.set_cons_succ] at hw2
 have hd2:=HD.out.keeps (Keeps.set1 w11 wb 6 (.string ⟨f.1.toArray⟩)) (fun i hi e=>by omega)
 clear HW HI HRB HBB HD
 generalize (w11).setCell ⟨wb,6,none⟩ (.string ⟨f.1.toArray⟩)=w12 at *
 have HW:=Lib.hid hw2
 have HI:=Lib.hid hi2
 have HRB:=Lib.hid hr2
 have HBB:=Lib.hid hb2
 have HD:=Lib.hid hd2
 clear hw2 hi2 hr2 hb2 hd2
 refine (flag_in HI.out).mono ?_
 rintro e w13 ⟨rfl,h3,h4⟩
 rw [hg] at h3
 (try rw [hg])
 have hr2:=HRB.out.keeps h4 (by omega)
 have hw2:=HW.out.keeps h4 (by omega)
 have HI:=Lib.hid h3
 have HRB:=Lib.hid hr2
 have HW:=Lib.hid hw2
 have HBB:=Lib.hid (HBB.out.trans (h4.below (B:=w.heap.size) (fun i hi e=>by omega) (by have:=HBB.out.size;omega)))
 (try (have hd2:=HD.out.keeps h4 (fun i hi e=>by omega);clear HD;have HD:=Lib.hid hd2;clear hd2))
 have Hk:=Lib.hid h4
 clear h3 hr2 h4 hw2
 go_wp2_with fail
 refine (text_in 128 HI.out).mono ?_
 rintro e w14 ⟨rfl,h3,h4⟩
 rw [hh] at h3
 (try rw [hh])
 have hr2:=HRB.out.keeps h4 (by omega)
 have hw2:=HW.out.keeps h4 (by omega)
 have HI:=Lib.hid h3
 have HRB:=Lib.hid hr2
 have HW:=Lib.hid hw2
 have HBB:=Lib.hid (HBB.out.trans (h4.below (B:=w.heap.size) (fun i hi e=>by omega) (by have:=HBB.out.size;omega)))
 (try (have hd2:=HD.out.keeps h4 (fun i hi e=>by omega);clear HD;have HD:=Lib.hid hd2;clear hd2))
 have Hk:=Lib.hid h4
 clear h3 hr2 h4 hw2
 have c5:(w14).cell? ⟨wb,8,none⟩=_:=HW.out.cell 8
 have f5:=HW.out.frozen 8
 have hwl:=HW.out.lt
 simp at c5
 have c6:(w14).cell? ⟨wb,7,none⟩=_:=HW.out.cell 7
 have f6:=HW.out.frozen 7
 have hwl:=HW.out.lt
 simp at c6
 go_wp2_with fail
 clear c5 f5 c6 f6 hwl
 have hw2:=HW.out.set_ 8 (.bool (decide (g.1=1)))
 have hi2:=HI.out.set HW.out (by omega) 8 (.bool (decide (g.1=1)))
 have hr2:=HRB.out.far (p:=⟨wb,8,none⟩) (by simp;omega) (.bool (decide (g.1=1)))
 have hb2:=HBB.out.trans ((Keeps.set1 w14 wb 8 (.bool (decide (g.1=1)))).below (B:=w.heap.size) (fun i hi e=>by omega) (by have:=HBB.out.size;omega))
 simp only [List.setIfInBounds_toArray,List.set_cons_zero,List.set_cons_succ] at hw2
 have hd2:=HD.out.keeps (Keeps.set1 w14 wb 8 (.bool (decide (g.1=1)))) (fun i hi e=>by omega)
 clear HW HI HRB HBB HD
 generalize (w14).setCell ⟨wb,8,none⟩ (.bool (decide (g.1=1)))=w15 at *
 have HW:=Lib.hid hw2
 have HI:=Lib.hid hi2
 have HRB:=Lib.hid hr2
 have HBB:=Lib.hid hb2
 have HD:=Lib.hid hd2
 clear hw2 hi2 hr2 hb2 hd2
 have hw2:=HW.out.set_ 7 (.string ⟨h.1.toArray⟩)
 have hi2:=HI.out.set HW.out (by omega) 7 (.string ⟨h.1.toArray⟩)
 have hr2:=HRB.out.far (p:=⟨wb,7,none⟩) (by simp;omega) (.string ⟨h.1.toArray⟩)
 have hb2:=HBB.out.trans ((Keeps.set1 w15 wb 7 (.string ⟨h.1.toArray⟩)).below (B:=w.heap.size) (fun i hi e=>by omega) (by have:=HBB.out.size;omega))
 simp only [List.setIfInBounds_toArray,List.set_cons_zero,List.set_cons_succ] at hw2
 have hd2:=HD.out.keeps (Keeps.set1 w15 wb 7 (.string ⟨h.1.toArray⟩)) (fun i hi e=>by omega)
 clear HW HI HRB HBB HD
 generalize (w15).setCell ⟨wb,7,none⟩ (.string ⟨h.1.toArray⟩)=w16 at *
 have HW:=Lib.hid hw2
 have HI:=Lib.hid hi2
 have HRB:=Lib.hid hr2
 have HBB:=Lib.hid hb2
 have HD:=Lib.hid hd2
 clear hw2 hi2 hr2 hb2 hd2
 refine (num_in 1099511627776 HI.out).mono ?_
 rintro e w17 ⟨rfl,h3,h4⟩
 rw [hi] at h3
 (try rw [hi])
 have hr2:=HRB.out.keeps h4 (by omega)
 have hw2:=HW.out.keeps h4 (by omega)
 have HI:=Lib.hid h3
 have HRB:=Lib.hid hr2
 have HW:=Lib.hid hw2
 have HBB:=Lib.hid (HBB.out.trans (h4.below (B:=w.heap.size) (fun i hi e=>by omega) (by have:=HBB.out.size;omega)))
 (try (have hd2:=HD.out.keeps h4 (fun i hi e=>by omega);clear HD;have HD:=Lib.hid hd2;clear hd2))
 have Hk:=Lib.hid h4
 clear h3 hr2 h4 hw2
 have c5:(w17).cell? ⟨wb,9,none⟩=_:=HW.out.cell 9
 have f5:=HW.out.frozen 9
 have hwl:=HW.out.lt
 simp at c5
 go_wp2_with fail
 clear c5 f5 hwl
 have hw2:=HW.out.set_ 9 (.int .i64 i.1)
 have hi2:=HI.out.set HW.out (by omega) 9 (.int .i64 i.1)
 have hr2:=HRB.out.far (p:=⟨wb,9,none⟩) (by simp;omega) (.int .i64 i.1)
 have hb2:=HBB.out.trans ((Keeps.set1 w17 wb 9 (.int .i64 i.1)).below (B:=w.heap.size) (fun i hi e=>by omega) (by have:=HBB.out.size;omega))
 simp only [List.setIfInBounds_toArray,List.set_cons_zero,List.set_cons_succ] at hw2
 have hd2:=HD.out.keeps (Keeps.set1 w17 wb 9 (.int .i64 i.1)) (fun i hi e=>by omega)
 clear HW HI HRB HBB HD
 generalize (w17).setCell ⟨wb,9,none⟩ (.int .i64 i.1)=w19 at *
 have HW:=Lib.hid hw2
 have HI:=Lib.hid hi2
 have HRB:=Lib.hid hr2
 have HBB:=Lib.hid hb2
 have HD:=Lib.hid hd2
 clear hw2 hi2 hr2 hb2 hd2
 refine (end_in HI.out).mono ?_
 rintro ee w20 ⟨er,rfl,heo,hb20⟩
 have hr2:=HRB.out.below hb20 (by have:=HRB.out.lt;omega)
 have hw2:=HW.out.below hb20 (by have:=HW.out.lt;omega)
 have hd2:=HD.out.keeps (X:=nobody) (.of_below hb20) (fun _ _ h=>h)
 have HBB:=Lib.hid (HBB.out.trans (hb20.mono HBB.out.size))
 have HEK:=Lib.hid (show ∀ k,er=.iface 153 (.pointer (some ⟨k,0,none⟩))→¬ k=w.heap.size from by
  rintro k rfl rfl
  rcases heo with ⟨_,h⟩|⟨_,⟨k,hk,_,hc⟩,_⟩
  ·cases h
  ·have:=ptr_inj hk
   subst this
   rw [hr2.cell 2] at hc
   cases hc)
 have HRB:=Lib.hid hr2
 have HW:=Lib.hid hw2
 have HD:=Lib.hid hd2
 have HE:=Lib.hid heo
 clear hr2 hw2 hd2 hb20 HI Hk
 by_cases hend:i.2=some []
 ·have h0:endC i.2=0:=by rw [hend];rfl
  rw [h0] at heo
  obtain rfl:er=.nilIface:=by
   rcases heo with ⟨_,h⟩|⟨h,_⟩
   ·exact h
   ·exact absurd rfl h
  clear heo HE HEK
  obtain ⟨p0,p1,p2,p3,p4,p5,p6,p7,p8,p9⟩:=cellsW HW.out
  go_wp2_with fail
  have hrt:=right_pw ⟨a.1,b.1,c.1,d.1,e.1,f.1,h.1,decide (g.1=1),i.1⟩ (.slice Ad d.1.length cd)
  refine (wire.right_any ⟨a.1,b.1,c.1,a.1,.slice Ad d.1.length cd,natI d.1,⟨e.1.toArray⟩,⟨f.1.toArray⟩,⟨h.1.toArray⟩,decide (g.1=1),i.1⟩ _ HD.out.nums).mono ?_
  rintro ee w21 ⟨rfl,hb21⟩
  rw [show wire.rightB ⟨a.1,b.1,c.1,a.1,.slice Ad d.1.length cd,natI d.1,⟨e.1.toArray⟩,⟨f.1.toArray⟩,⟨h.1.toArray⟩,decide (g.1=1),i.1⟩=_ from hrt]
  clear hrt p0 p1 p2 p3 p4 p5 p6 p7 p8 p9
  have hr2:=HRB.out.below hb21 (by have:=HRB.out.lt;omega)
  have hw2:=HW.out.below hb21 (by have:=HW.out.lt;omega)
  have hd2:=HD.out.keeps (X:=nobody) (.of_below hb21) (fun _ _ h=>h)
  have HBB:=Lib.hid (HBB.out.trans (hb21.mono HBB.out.size))
  have HRB:=Lib.hid hr2
  have HW:=Lib.hid hw2
  have HD:=Lib.hid hd2
  clear hr2 hw2 hd2 hb21
  cases hrt:PW.right ⟨a.1,b.1,c.1,d.1,e.1,f.1,h.1,decide (g.1=1),i.1⟩ with
  | true =>
   obtain ⟨p0,p1,p2,p3,p4,p5,p6,p7,p8,p9⟩:=cellsW HW.out
   go_wp2_with (refine wpList_store_blk rfl 34 (.tmp 2) (.tmp 50) rfl w.heap.size (PW.wr ⟨a.1,b.1,c.1,d.1,e.1,f.1,h.1,decide (g.1=1),i.1⟩ (.slice Ad d.1.length cd)).cells rfl rfl HRB.out (by kernel_rfl) rfl rfl ?_;intro w22 ho4 hk4 hs4)
   clear p0 p1 p2 p3 p4 p5 p6 p7 p8 p9
   obtain ⟨p0,p1,p2,p3,p4,p5,p6,p7,p8,p9⟩:=cellsW ho4
   have HRN:=HRD.out
   rw [if_pos ⟨hend,hrt⟩] at HRN
   have HFIN:=Lib.hid (show DecR R w (.returned (.tuple #[.agg ⟨(PW.wr ⟨a.1,b.1,c.1,d.1,e.1,f.1,h.1,decide (g.1=1),i.1⟩ (.slice Ad d.1.length cd)).cells⟩,.nilIface])) w22 from by
    rw [HRN]
    refine ⟨_,_,rfl,HBB.out.trans (hk4.below (fun i hi e=>by omega) HBB.out.size),rfl,_,rfl,?_⟩
    have h1:=HD.out.keeps hk4 (fun i hi e=>by omega)
    unfold OwnN at h1 ⊢
    exact own_low' h1 hwB)
   clear ho4 hk4
   exact bodyPost_ret (v:=.tuple #[.agg ⟨(PW.wr ⟨a.1,b.1,c.1,d.1,e.1,f.1,h.1,decide (g.1=1),i.1⟩ (.slice Ad d.1.length cd)).cells⟩,.nilIface]) (by unfold wire.Wr.cells;simp [results,Tryz.results81,go_sem,p0,p1,p2,p3,p4,p5,p6,p7,p8,p9]) rfl HFIN.out
  | false =>
   go_wp2_with fail
   refine (at_blk _ _ 2 _).mono ?_
   rintro ee w22 ⟨er,k,rfl,he,hk,hb22⟩
   have hr2:=HRB.out.below hb22 (by have:=HRB.out.lt;omega)
   have hlr:=HRB.out.lt
   have HBB:=Lib.hid (HBB.out.trans (hb22.mono HBB.out.size))
   have HRB:=Lib.hid hr2
   have HE:=Lib.hid (show EO w22 er 2 from .inr ⟨by decide,he.err,by obtain ⟨rfl,_⟩:=he;simp⟩)
   obtain ⟨rfl,he⟩:=he
   have HEK:=Lib.hid (show ∀ j,Value.iface 153 (.pointer (some ⟨k,0,none⟩))=.iface 153 (.pointer (some ⟨j,0,none⟩))→¬ j=w.heap.size from fun j hj e=>by have:=ptr_inj hj;omega)
   clear he hb22 hr2
   go_wp2_with (refine wpList_store_blk rfl 34 (.tmp 2) (.tmp 47) rfl w.heap.size zeroW rfl rfl HRB.out (by kernel_rfl) rfl rfl ?_;intro w18 ho4 hk4 hs4)
   obtain ⟨p0,p1,p2,p3,p4,p5,p6,p7,p8,p9⟩:=cellsW ho4
   have HRN:=HRD.out
   rw [if_neg ((fun h=>(by have h2:=h.2;rw [hrt] at h2;cases h2)))] at HRN
   exact bodyPost_ret (v:=.tuple #[.agg ⟨zeroW⟩,.iface 153 (.pointer (some ⟨k,0,none⟩))]) (by unfold zeroW;simp [results,Tryz.results81,go_sem,p0,p1,p2,p3,p4,p5,p6,p7,p8,p9]) rfl (by rw [HRN];exact ⟨_,.iface 153 (.pointer (some ⟨k,0,none⟩)),rfl,HBB.out.trans (hk4.below (fun i hi e=>by omega) HBB.out.size),rfl,HE.out.keeps hk4 (fun k hk=>HEK.out k hk)⟩)
 ·rcases heo with ⟨h,_⟩|⟨_,he,hnn⟩
  ·exfalso
   apply hend
   generalize i.2=q at h
   cases q with
   | none=>cases h
   | some l=>cases l with
    | nil=>rfl
    | cons x l=>cases h
  ·have he2:endC i.2=2:=by
    generalize i.2=q at hend
    cases q with
    | none=>rfl
    | some l=>cases l with
     | nil=>exact absurd rfl hend
     | cons x l=>rfl
   rw [he2] at HE
   obtain ⟨k,rfl⟩:=he.form
   clear he hnn
   go_wp2_with (refine wpList_store_blk rfl 34 (.tmp 2) (.tmp 42) rfl w.heap.size zeroW rfl rfl HRB.out (by kernel_rfl) rfl rfl ?_;intro w18 ho4 hk4 hs4)
   obtain ⟨p0,p1,p2,p3,p4,p5,p6,p7,p8,p9⟩:=cellsW ho4
   have HRN:=HRD.out
   rw [if_neg (fun h=>hend h.1)] at HRN
   exact bodyPost_ret (v:=.tuple #[.agg ⟨zeroW⟩,.iface 153 (.pointer (some ⟨k,0,none⟩))]) (by unfold zeroW;simp [results,Tryz.results81,go_sem,p0,p1,p2,p3,p4,p5,p6,p7,p8,p9]) rfl (by rw [HRN];exact ⟨_,.iface 153 (.pointer (some ⟨k,0,none⟩)),rfl,HBB.out.trans (hk4.below (fun i hi e=>by omega) HBB.out.size),rfl,HE.out.keeps hk4 (fun k hk=>HEK.out k hk)⟩)
end Go.Proofs.YtlingaebpfdhgaaGreatDoor.wireb
namespace Go.Proofs.YtlingaebpfdhgaaGreatDoor.regn
open Go Go.RowKit base err list new tab
theorem is_num (n:Int) (w:World):Calls Tryz.prog 57 #[.int .i64 n] w fun e w'=>e=.returned (.bool (decide (0≤n) && decide (n≤1099511627776)))∧w'=w:=by
 by_cases h1:0≤n
 ·by_cases h2:n≤1099511627776
  ·have d1:decide (0≤n)=true:=decide_eq_true h1
   have d2:decide (n≤1099511627776)=true:=decide_eq_true h2
   rw [d1,d2]
   go_enter Tryz.func57,Tryz.ntmps57
   go_wp2_with fail
   go_ret
   exact ⟨rfl,rfl⟩
  ·have d1:decide (0≤n)=true:=decide_eq_true h1
   have d2:decide (n≤1099511627776)=false:=decide_eq_false h2
   rw [d1,d2]
   go_enter Tryz.func57,Tryz.ntmps57
   go_wp2_with fail
   go_ret
   exact ⟨rfl,rfl⟩
 ·have d1:decide (0≤n)=false:=decide_eq_false h1
  rw [d1]
  go_enter Tryz.func57,Tryz.ntmps57
  go_wp2_with fail
  go_ret
  exact ⟨rfl,rfl⟩
def BeatB (nw nh:Nat) (ck tm:Int) (L:List Ep) (key:Int):Prop:=nw=0∧nh=0∧ck=0∧GoodL L∧(0≤key∧key≤1099511627776)∧0≤tm∧tm≤1099511627776
def RightB (nw nh:Nat) (ck tm:Int) (L:List Ep) (key:Int) (w:World) (e:Ending) (w':World):Prop :=
 ∃ b,e=.returned (.bool b)∧(b=true ↔ BeatB nw nh ck tm L key)∧Below w.heap.size w w'
set_option maxRecDepth 20000 in
set_option maxHeartbeats 4000000 in
theorem right_beat (A1 A2 A:Option Addr) (nw nh c1 c2 len cap:Nat) (ck tm key:Int) (L:List Ep) (w:World) (h:Eps w w.heap.size A len cap L) (hl:len≤100000) (hu:∀ e ∈ L,e.u.size≤maxLen) :
  Calls Tryz.prog 19 #[.agg #[.int .i64 4,.slice A1 nw c1,.slice A2 nh c2,.int .i64 ck,.int .i64 tm,.slice A len cap,.int .i64 key]] w (RightB nw nh ck tm L key w):=by
 have hb0:=below_new w (.cells #[.int .i64 4,.slice A1 nw c1,.slice A2 nh c2,.int .i64 ck,.int .i64 tm,.slice A len cap,.int .i64 key] 27)
 have HB0:=Lib.hid hb0
 have HB:=Lib.hid (Blk.new w 27 #[.int .i64 4,.slice A1 nw c1,.slice A2 nh c2,.int .i64 ck,.int .i64 tm,.slice A len cap,.int .i64 key])
 have HE:=Lib.hid ((h.below hb0).more hb0.size)
 have HU:=Lib.hid hu
 clear h hu hb0
 by_cases h1:0 < nw
 ·have d1:decide ((0:Int) < (nw:Int))=true:=decide_eq_true (by omega)
  go_enter Tryz.func19,Tryz.ntmps19
  go_wp2_with fail
  go_ret
  exact ⟨false,rfl,⟨fun e=>(by cases e),fun e=>by have:=e.1;omega⟩,HB0.out⟩
 have d1:decide ((0:Int) < (nw:Int))=false:=decide_eq_false (by omega)
 by_cases h2:0 < nh
 ·have d2:decide ((0:Int) < (nh:Int))=true:=decide_eq_true (by omega)
  go_enter Tryz.func19,Tryz.ntmps19
  go_wp2_with fail
  go_ret
  exact ⟨false,rfl,⟨fun e=>(by cases e),fun e=>by have:=e.2.1;omega⟩,HB0.out⟩
 have d2:decide ((0:Int) < (nh:Int))=false:=decide_eq_false (by omega)
 by_cases h3:ck=0
 rotate_left
 ·have d3:(ck != 0)=true:=by simpa using h3
  go_enter Tryz.func19,Tryz.ntmps19
  go_wp2_with fail
  go_ret
  exact ⟨false,rfl,⟨fun e=>(by cases e),fun e=>absurd e.2.2.1 h3⟩,HB0.out⟩
 subst h3
 obtain rfl:nw=0:=by omega
 obtain rfl:nh=0:=by omega
 go_enter Tryz.func19,Tryz.ntmps19
 go_wp2_with fail
 generalize w.alloc (.cells #[.int .i64 4,.slice A1 0 c1,.slice A2 0 c2,.int .i64 0,.int .i64 tm,.slice A len cap,.int .i64 key] 27)=w0 at *
 obtain ⟨g,hg⟩:∃ g,w.heap.size=g:=⟨_,rfl⟩
 refine (new_any A len cap L w0 HE.out hl HU.out).mono ?_
 rintro e w1 h1
 rw [hg] at HB ⊢
 rcases h1 with ⟨hG,_,_,rfl,_,_,_,hb1⟩|⟨hG,v,rfl,he,_,hb1⟩
 rotate_left
 ·have HM:=Lib.hid (HB.out.below hb1 HB.out.lt)
  have HB1:=Lib.hid (HB0.out.trans (hb1.mono HB0.out.size))
  obtain ⟨ge,rfl,_⟩:=he
  have v0:w1.cell? ⟨g,0,none⟩=some (.int .i64 4):=HM.out.cell 0
  have hlt:=HM.out.lt
  clear hb1
  go_wp2_with fail
  go_ret
  exact ⟨false,rfl,⟨fun e=>(by cases e),fun e=>absurd e.2.2.2.1 hG⟩,HB1.out⟩
 have HM:=Lib.hid (HB.out.below hb1 HB.out.lt)
 have HB1:=Lib.hid (HB0.out.trans (hb1.mono HB0.out.size))
 have v0:w1.cell? ⟨g,0,none⟩=some (.int .i64 4):=HM.out.cell 0
 have v4:w1.cell? ⟨g,4,none⟩=some (.int .i64 tm):=HM.out.cell 4
 have v5:w1.cell? ⟨g,5,none⟩=some (.slice A len cap):=HM.out.cell 5
 have v6:w1.cell? ⟨g,6,none⟩=some (.int .i64 key):=HM.out.cell 6
 have z5:=HM.out.frozen 5
 have z6:=HM.out.frozen 6
 have hlt:=HM.out.lt
 have HG:=Lib.hid hG
 clear hb1 hG HB HE HU
 go_wp2_with fail
 refine (is_num key w1).mono ?_
 rintro e w2 ⟨rfl,rfl⟩
 by_cases hk:0≤key∧key≤1099511627776
 rotate_left
 ·have dk:(decide (0≤key) && decide (key≤1099511627776))=false:=by
   rw [Bool.and_eq_false_iff]
   by_cases h1:0≤key
   ·exact .inr (decide_eq_false (fun h2=>hk ⟨h1,h2⟩))
   ·exact .inl (decide_eq_false h1)
  rw [dk]
  go_wp2_with fail
  go_ret
  exact ⟨false,rfl,⟨fun e=>(by cases e),fun e=>absurd e.2.2.2.2.1 hk⟩,HB1.out⟩
 have dk:(decide (0≤key) && decide (key≤1099511627776))=true:=by rw [decide_eq_true hk.1,decide_eq_true hk.2];rfl
 rw [dk]
 go_wp2_with fail
 refine (is_num tm _).mono ?_
 rintro e w3 ⟨rfl,rfl⟩
 obtain ⟨b,hb⟩:∃ b,(decide (0≤tm) && decide (tm≤1099511627776))=b:=⟨_,rfl⟩
 have hbq:b=true ↔ 0≤tm∧tm≤1099511627776:=by rw [← hb,Bool.and_eq_true,decide_eq_true_eq,decide_eq_true_eq]
 have HBQ:=Lib.hid hbq
 rw [hb]
 clear hb hbq
 have HK:=Lib.hid hk
 have HB3:=Lib.hid (show Below w.heap.size w ((w2.setCell ⟨g,5,none⟩ (.slice none 0 0)).setCell ⟨g,6,none⟩ (.int .i64 0)) from (HB1.out.setCell (by show w.heap.size≤g;omega) _).setCell (by show w.heap.size≤g;omega) _)
 go_wp2_with fail
 go_ret
 exact ⟨b,rfl,⟨fun e=>⟨rfl,rfl,rfl,HG.out,HK.out,HBQ.out.1 e⟩,fun e=>HBQ.out.2 e.2.2.2.2.2⟩,HB3.out⟩
end Go.Proofs.YtlingaebpfdhgaaGreatDoor.regn
namespace Go.Proofs.YtlingaebpfdhgaaGreatDoor.regn
open Go Go.RowKit base err list new tab wireb wirep monoj
def epW (e:Ep):List UInt8:=textW e.u.data.toList ++ numW e.n.toNat
def epsW (L:List Ep):List UInt8:=numW L.length ++ L.flatMap epW
theorem epW_le {e:Ep} (h:right e.u e.n=true):(epW e).length≤60:=by
 have h1:=of_decide_eq_true h
 unfold epW textW
 have hs:e.u.data.toList.length=e.u.size:=Array.length_toList
 have h2:=numW_len 8 e.u.data.toList.length (by omega)
 have h3:=numW_len 8 e.n.toNat (by omega)
 simp only [List.length_append]
 omega
theorem eps_le {L:List Ep} (h:∀ e ∈ L,right e.u e.n=true) (k:Nat) (hk:k≤64):((L.take k).flatMap epW).length≤k * 60:=by
 induction k with
 | zero=>simp
 | succ k ih =>
  have h1:=ih (by omega)
  by_cases hk2:k < L.length
  ·rw [List.take_succ_eq_append_getElem hk2,List.flatMap_append,List.length_append]
   have h2:=epW_le (h L[k] (List.getElem_mem hk2))
   simp only [List.flatMap_cons,List.flatMap_nil,List.append_nil]
   omega
  ·rw [List.take_of_length_le (by omega)]
   rw [List.take_of_length_le (by omega)] at h1
   omega
theorem OutB.val {w:World} {g:Nat} {l:List UInt8} (h:OutB w g l):∃ v,w.cell? ⟨g,0,none⟩=some v∧∀ i,v.ownBlock=some i→g < i∧i < w.heap.size:=by
 obtain ⟨v,t,hb,hx⟩:=h
 exact ⟨v,hb.cell 0,fun i hi=>by have:=hx.lt i hi;omega⟩
set_option maxRecDepth 20000 in
set_option maxHeartbeats 2000000 in
theorem epochs_b (g len cap:Nat) (A:Option Addr) (L:List Ep) (l0:List UInt8) (w:World) (h:OutB w g l0) (hE:Eps w g A len cap L) (hG:GoodL L) (hr:l0.length≤1000) :
  Calls Tryz.prog 25 #[.pointer (some ⟨g,0,none⟩),.slice A len cap] w (PutB g (l0 ++ epsW L) w):=by
 have hlL:=hE.1
 have h64:=hG.2.1
 have hlt:=h.lt
 have H:=Lib.hid h
 have HE:=Lib.hid hE
 have HG:=Lib.hid hG
 have HL:=Lib.hid hlL
 have hnl:=numW_len 8 len (by omega)
 have hl64:len≤64:=by omega
 clear h hE hG hlL h64
 go_enter Tryz.func25,Tryz.ntmps25
 go_wp2_with fail
 refine (num_b g len l0 w H.out (by omega) (by omega)).mono ?_
 rintro e w1 ⟨rfl,ho1,hb1⟩
 have HO1:=Lib.hid ho1
 have HB1:=Lib.hid hb1
 clear ho1 hb1
 go_wp2_with fail
 go_loopw [14,5] (fun i _ wr=>∃ k:Nat,i=.int .i64 k∧k≤len∧OutB wr g (l0 ++ numW len ++ (L.take k).flatMap epW)∧Below g w wr) (fun i _ _=>len - (intOf i).toNat)
 case atStart=>exact ⟨0,rfl,by omega,by simpa using HO1.out,HB1.out⟩
 case round =>
  clear HO1 HB1
  obtain ⟨k,rfl,hk,ho,hb⟩:=hrel
  have hle:=eps_le HG.out.2.2 k (by omega)
  by_cases hkn:k < len
  ·have dk:decide ((k:Int) < (len:Int))=true:=decide_eq_true (by omega)
   obtain ⟨b,off,rfl,hbb⟩:=HE.out.at_some (by omega)
   have hkl:k < L.length:=by rw [HL.out];exact hkn
   obtain ⟨hx0,hx1⟩:=(HE.out.below hb).cell hkn (List.getElem?_eq_getElem hkl)
   have hrt:=HG.out.2.2 _ (List.getElem_mem hkl)
   have hew:=epW_le hrt
   have htk:(L.take (k + 1)).flatMap epW=(L.take k).flatMap epW ++ epW L[k]:=by rw [List.take_succ_eq_append_getElem hkl,List.flatMap_append];simp
   have HTK:=Lib.hid htk
   generalize L[k]=x at *
   obtain ⟨u,n⟩:=x
   obtain ⟨n',hn'⟩:∃ n':Nat,n=(n':Int):=⟨n.toNat,by have:=of_decide_eq_true hrt;dsimp only at this;omega⟩
   subst hn'
   have hrt2:u.size≤32∧n'≤1099511627776:=by have:=of_decide_eq_true hrt;dsimp only at this;omega
   dsimp only at hx0 hx1
   obtain ⟨q,hq⟩:∃ q,l0 ++ numW len ++ (L.take k).flatMap epW=q:=⟨_,rfl⟩
   have hql:q.length≤1000 + 9 + 3840:=by rw [← hq];simp only [List.length_append];omega
   rw [hq] at ho
   have HQ:=Lib.hid hq
   have HO:=Lib.hid ho
   have HB:=Lib.hid hb
   have hlo:=ho.lt
   clear ho hb htk hrt hew hle hq
   go_wp2_with fail
   have hb5:=below_new wr (.cells #[.string u,.int .i64 n'] 36)
   have HO5:=Lib.hid (HO.out.below hb5)
   have HE5:=Lib.hid (Blk.new wr 36 #[.string u,.int .i64 n'])
   have HB5:=Lib.hid (HB.out.trans (hb5.mono (Nat.le_of_lt hlo)))
   obtain ⟨v0,hv0,hv1⟩:=OutB.val HO.out
   obtain ⟨e5,he5⟩:∃ x,wr.heap.size=x:=⟨_,rfl⟩
   have HV0:=Lib.hid ((hb5.cell (p:=⟨g,0,none⟩) hlo).trans hv0)
   have hne5:¬ (e5=g ∨ v0.ownBlock=some e5):=by
    rintro (e|e)
    ·omega
    ·have:=hv1 e5 e;omega
   have HNE:=Lib.hid hne5
   have HVG:=Lib.hid (show ∀ i,v0.ownBlock=some i→g < i from fun i hi=>(hv1 i hi).1)
   rw [he5] at HE5 hlo ⊢
   clear hb5 HO HB hv0 hv1 hne5
   generalize wr.alloc (.cells #[.string u,.int .i64 n'] 36)=w5 at *
   refine wp_region_monoJ (fun i=>i=g ∨ v0.ownBlock=some i) [5] (by kernel_rfl) ?_
   iterate 5
    first|refine qJ 0 (v:=?_) ?_ ?_|refine qJ 1 (v:=?_) ?_ ?_|refine qJ 2 (v:=?_) ?_ ?_|refine qJ 3 (v:=?_) ?_ ?_|refine qJ 4 (v:=?_) ?_ ?_
    rotate_left
    ·(intro W hSw;(first|(have hxW:=Blk.keeps (Blk.drew HE5.out) hSw HNE.out;have y0:W.cell? ⟨e5,0,none⟩=some (.string u):=hxW.cell 0;have exl:=hxW.lt)|skip);go_simp <;> rfl)
    try simp only [qPA]
   refine wpMonoJ_one' 5 (by kernel_rfl) rfl (by rfl) (fun K hK=>?_)
   go_simp
   refine (text_k v0 g u q w5.drew (HO5.out.below (Below.refl _ _).drew) HV0.out (by omega) (by omega)).mono ?_
   rintro e w6 ⟨rfl,ho6,hk6⟩
   have HO6:=Lib.hid ho6
   have HK6:=Lib.hid hk6
   clear ho6 hk6
   refine hK.out _ _ ?_ ?_
   ·exact moved HK6.out (by decide)
   clear hK K
   try simp only [qPA]
   refine wpMonoJ_done (by kernel_rfl) ?_ _
   have hk56:Keeps (fun i=>i=g ∨ v0.ownBlock=some i) w5 w6:=Keeps.drew.trans HK6.out
   have HE6:=Lib.hid (Blk.keeps HE5.out hk56 HNE.out)
   have hs56:=hk56.size
   have hlt5:=HO5.out.lt
   have HB6:=Lib.hid (HB5.out.trans (hk56.below (B:=g) (fun i hi e=>by rcases e with e|e;omega;have:=HVG.out i e;omega) (by omega)))
   have hql2:(q ++ textW u.data.toList).length≤1000 + 9 + 3840 + 50:=by
    have h1:=numW_len 8 u.data.toList.length (by have:u.data.toList.length=u.size:=Array.length_toList;omega)
    have h2:u.data.toList.length=u.size:=Array.length_toList
    unfold textW
    simp only [List.length_append]
    omega
   have hlt6:=HO6.out.lt
   clear hk56 HO5 HE5 HB5 HK6 HV0 HNE HVG
   obtain ⟨v6,hv6,hv7⟩:=OutB.val HO6.out
   have HV6:=Lib.hid hv6
   have HV7:=Lib.hid hv7
   have y1:w6.cell? ⟨e5,1,none⟩=some (.int .i64 n'):=HE6.out.cell 1
   have hle6:=HE6.out.lt
   clear hv6 hv7 hlt5
   go_wp2_with fail
   refine wp_region_monoJ (fun i=>i=g ∨ v6.ownBlock=some i) [5] (by kernel_rfl) ?_
   iterate 4
    first|refine qJ 0 (v:=?_) ?_ ?_|refine qJ 1 (v:=?_) ?_ ?_|refine qJ 2 (v:=?_) ?_ ?_|refine qJ 3 (v:=?_) ?_ ?_
    rotate_left
    ·(intro W hSw;(first|(have hcW:=hSw.cells;try simp only [qSd] at hcW)|skip);go_simp <;> rfl)
    try simp only [qPA]
   refine wpMonoJ_read' 4 [5] (v:=?_) rfl (by kernel_rfl) (by kernel_rfl) (by kernel_rfl) (by rfl) (by kernel_rfl) (by rfl) (fun _ _ _ h=>h) (by rfl) ?_ ?_
   rotate_left
   ·(intro W hSw;(first|(have hcW:=hSw.cells;try simp only [qSd] at hcW)|skip);go_simp <;> rfl)
   try simp only [qPA]
   refine wpMonoJ_one' 5 (by kernel_rfl) rfl (by rfl) (fun K hK=>?_)
   go_simp
   refine (num_k v6 g n' _ w6.drew (HO6.out.below (Below.refl _ _).drew) HV6.out (by omega) (by omega)).mono ?_
   rintro e w7 ⟨rfl,ho7,hk7⟩
   have HO7:=Lib.hid ho7
   have HK7:=Lib.hid hk7
   clear ho7 hk7
   refine hK.out _ _ ?_ ?_
   ·exact moved HK7.out (by decide)
   clear hK K
   try simp only [qPA]
   refine wpMonoJ_done (by kernel_rfl) ?_ _
   have hk67:Keeps (fun i=>i=g ∨ v6.ownBlock=some i) w6 w7:=Keeps.drew.trans HK7.out
   have HB7:=Lib.hid (HB6.out.trans (hk67.below (B:=g) (fun i hi e=>by rcases e with e|e;omega;have:=(HV7.out i e).1;omega) (by omega)))
   have HO8:=Lib.hid (show OutB w7 g (l0 ++ numW len ++ (L.take (k + 1)).flatMap epW) from by
    have h:=HO7.out
    rw [← HQ.out] at h
    rw [HTK.out,← List.append_assoc,show epW ⟨u,(n':Int)⟩=textW u.data.toList ++ numW n' from rfl]
    simpa [List.append_assoc] using h)
   clear hk67 HO6 HE6 HB6 HO7 HK7 HV6 HV7 y1 hle6
   go_wp2_with fail
   go_roundw
   case rel=>exact ⟨k + 1,by go_num,by omega,HO8.out,HB7.out⟩
   case measure=>simp [intOf];omega
  ·obtain rfl:len=k:=by omega
   have dk:decide ((len:Int) < (len:Int))=false:=by simp
   have htk:L.take len=L:=by rw [← HL.out];exact List.take_length
   rw [htk] at ho
   have HQ:=Lib.hid (show PutB g (l0 ++ epsW L) w (.returned noResult) wr from ⟨rfl,by unfold epsW;rw [HL.out,← List.append_assoc];exact ho,hb⟩)
   clear ho hb htk hle
   go_wp2_with fail
   refine bodyPost_end (results_none rfl _ _ _) rfl ?_
   exact HQ.out
end Go.Proofs.YtlingaebpfdhgaaGreatDoor.regn
namespace Go.Proofs.YtlingaebpfdhgaaGreatDoor.regn
open Go Go.RowKit base list tab home
def upE (n f:Int) (T:List Ep) (e:Ep):Bool:=decide (homeI e.u n=f) && decide (getL T e.u < e.n)
def stepE (n f:Int) (s:List Ep × List Ep) (e:Ep):List Ep × List Ep:=if upE n f s.1 e then (putL s.1 e.u e.n,s.2 ++ [e]) else s
def newsE (n f:Int) (T:List Ep) (L:List Ep):List Ep × List Ep:=L.foldl (stepE n f) (T,[])
def Fits (n f:Int) (T:List Ep) (L:List Ep):Prop:=∀ k e,L[k]?=some e→homeI e.u n=f→canC (newsE n f T (L.take k)).1 e.u e.n=0
section
variable {n f:Int} {T L:List Ep}
theorem newsE_zero:newsE n f T (L.take 0)=(T,[]):=by simp [newsE]
theorem newsE_step {k:Nat} {e:Ep} (h:L[k]?=some e):newsE n f T (L.take (k + 1))=stepE n f (newsE n f T (L.take k)) e:=by
 obtain ⟨hk,rfl⟩:=List.getElem?_eq_some_iff.1 h
 unfold newsE
 rw [List.take_succ_eq_append_getElem hk,List.foldl_append]
 rfl
theorem newsE_good (hT:GoodL T) (hF:Fits n f T L):∀ k,k≤L.length→GoodL (newsE n f T (L.take k)).1
 | 0,_=>by rw [newsE_zero];exact hT
 | k + 1,h=>by
  have h1:=newsE_good hT hF k (by omega)
  have hk:k < L.length:=by omega
  have he:L[k]?=some L[k]:=List.getElem?_eq_getElem hk
  rw [newsE_step he]
  unfold stepE
  by_cases hu:upE n f (newsE n f T (L.take k)).1 L[k]=true
  ·rw [if_pos hu]
   unfold upE at hu
   rw [Bool.and_eq_true,decide_eq_true_eq] at hu
   exact (good_put h1 (hF k _ he hu.1)).1
  ·rw [if_neg hu];exact h1
theorem newsE_le:∀ k,(newsE n f T (L.take k)).2.length≤k
 | 0=>by rw [newsE_zero];simp
 | k + 1=>by
  have h1:=newsE_le k
  by_cases hk:k < L.length
  ·have he:L[k]?=some L[k]:=List.getElem?_eq_getElem hk
   rw [newsE_step he]
   unfold stepE
   split
   ·simp only [List.length_append,List.length_cons,List.length_nil];omega
   ·omega
  ·rw [List.take_of_length_le (by omega)]
   rw [List.take_of_length_le (by omega)] at h1
   omega
theorem newsE_fold:∀ k,(newsE n f T (L.take k)).2.foldl (fun t e=>putL t e.u e.n) T=(newsE n f T (L.take k)).1
 | 0=>by rw [newsE_zero];rfl
 | k + 1=>by
  have h1:=newsE_fold k
  by_cases hk:k < L.length
  ·have he:L[k]?=some L[k]:=List.getElem?_eq_getElem hk
   rw [newsE_step he]
   unfold stepE
   split
   ·rw [List.foldl_append,h1];rfl
   ·exact h1
  ·rw [List.take_of_length_le (by omega)]
   rw [List.take_of_length_le (by omega)] at h1
   exact h1
theorem newsE_at:∀ k j x,(newsE n f T (L.take k)).2[j]?=some x→∃ i,i < k∧L[i]?=some x∧(newsE n f T (L.take k)).2.take j=(newsE n f T (L.take i)).2∧upE n f (newsE n f T (L.take i)).1 x=true
 | 0,j,x,h=>by rw [newsE_zero] at h;simp at h
 | k + 1,j,x,h=>by
  by_cases hk:k < L.length
  ·have he:L[k]?=some L[k]:=List.getElem?_eq_getElem hk
   rw [newsE_step he] at h ⊢
   unfold stepE at h ⊢
   by_cases hu:upE n f (newsE n f T (L.take k)).1 L[k]=true
   ·rw [if_pos hu] at h ⊢
    by_cases hj:j < (newsE n f T (L.take k)).2.length
    ·rw [List.getElem?_append_left hj] at h
     obtain ⟨i,h1,h2,h3,h4⟩:=newsE_at k j x h
     exact ⟨i,by omega,h2,by rw [← h3];exact List.take_append_of_le_length (by omega),h4⟩
    ·rw [List.getElem?_append_right (by omega)] at h
     have hj2:j=(newsE n f T (L.take k)).2.length:=by
      have:=(List.getElem?_eq_some_iff.1 h).1
      simp at this
      omega
     subst hj2
     simp at h
     subst h
     exact ⟨k,by omega,he,by simp,hu⟩
   ·rw [if_neg hu] at h ⊢
    obtain ⟨i,h1,h2,h3,h4⟩:=newsE_at k j x h
    exact ⟨i,by omega,h2,h3,h4⟩
  ·have e1:L.take (k + 1)=L.take k:=by rw [List.take_of_length_le (by omega),List.take_of_length_le (by omega)]
   rw [e1] at h ⊢
   obtain ⟨i,h1,h2,h3,h4⟩:=newsE_at k j x h
   exact ⟨i,by omega,h2,h3,h4⟩
def putE (T N:List Ep):List Ep:=N.foldl (fun t e=>putL t e.u e.n) T
theorem putE_step {N:List Ep} {j:Nat} {x:Ep} (h:N[j]?=some x):putE T (N.take (j + 1))=putL (putE T (N.take j)) x.u x.n:=by
 obtain ⟨hk,rfl⟩:=List.getElem?_eq_some_iff.1 h
 unfold putE
 rw [List.take_succ_eq_append_getElem hk,List.foldl_append]
 rfl
theorem putE_new (hT:GoodL T) (hF:Fits n f T L) {j:Nat} {x:Ep} (h:(newsE n f T L).2[j]?=some x) :
  GoodL (putE T ((newsE n f T L).2.take j))∧canC (putE T ((newsE n f T L).2.take j)) x.u x.n=0∧¬ x.n≤getL (putE T ((newsE n f T L).2.take j)) x.u∧x ∈ L:=by
 have e0:L.take L.length=L:=List.take_length
 have h':(newsE n f T (L.take L.length)).2[j]?=some x:=by rw [e0];exact h
 obtain ⟨i,h1,h2,h3,h4⟩:=newsE_at L.length j x h'
 rw [e0] at h3
 rw [h3]
 have h5:putE T (newsE n f T (L.take i)).2=(newsE n f T (L.take i)).1:=newsE_fold i
 rw [h5]
 unfold upE at h4
 rw [Bool.and_eq_true,decide_eq_true_eq,decide_eq_true_eq] at h4
 exact ⟨newsE_good hT hF i (by omega),hF i x h2 h4.1,by omega,List.mem_of_getElem? h2⟩
theorem putE_all:putE T (newsE n f T L).2=(newsE n f T L).1:=by
 have:=newsE_fold (n:=n) (f:=f) (T:=T) (L:=L) L.length
 rw [List.take_length] at this
 exact this
end
end Go.Proofs.YtlingaebpfdhgaaGreatDoor.regn
namespace Go.Proofs.YtlingaebpfdhgaaGreatDoor.regn
open Go Go.RowKit base list tab new home jrnp diskp wireb wirep lease
def ofHome (n f:Int) (L:List Ep):List Ep:=L.filter fun e=>decide (homeI e.u n=f)
theorem rising_filter (P:Ep→Bool):∀ {L:List Ep},Rising L→Rising (L.filter P)
 | [],_=>trivial
 | e :: L,h=>by
  rw [List.filter_cons]
  split
  ·exact ⟨fun f hf=>h.1 f (List.mem_filter.1 hf).1,rising_filter P h.2⟩
  ·exact rising_filter P h.2
theorem news_nil {n f:Int} {L:List Ep} (hG:GoodL L):∀ k,k≤L.length→newsE n f [] (L.take k)=(ofHome n f (L.take k),ofHome n f (L.take k))
 | 0,_=>by rw [newsE_zero];rfl
 | k + 1,h=>by
  have ih:=news_nil (n:=n) (f:=f) hG k (by omega)
  have hk:k < L.length:=by omega
  have he:L[k]?=some L[k]:=List.getElem?_eq_getElem hk
  rw [newsE_step he,ih]
  have hab:∀ e ∈ ofHome n f (L.take k),bl e.u L[k].u=true:=fun e h=>by
   have h1:=(good_take (k + 1) hG).1
   rw [take_last he] at h1
   exact ((rising_app _ _).1 h1).2 e (List.mem_filter.1 h).1
  have hr:=of_decide_eq_true (hG.2.2 _ (List.getElem_mem hk))
  have h0:=get_none _ _ hab
  have hup:upE n f (ofHome n f (L.take k)) L[k]=decide (homeI L[k].u n=f):=by
   unfold upE
   rw [h0,decide_eq_true (show (0:Int) < L[k].n by omega),Bool.and_true]
  unfold stepE
  dsimp only
  rw [hup,put_last _ _ _ hab]
  unfold ofHome at *
  rw [take_last he,List.filter_append,List.filter_cons,List.filter_nil]
  by_cases hh:homeI L[k].u n=f
  ·rw [if_pos (decide_eq_true hh),if_pos (decide_eq_true hh)]
  ·rw [if_neg (by simpa using hh),if_neg (by simpa using hh),List.append_nil]
theorem ofHome_len {n f:Int} {L:List Ep}:(ofHome n f L).length≤L.length:=List.length_filter_le _ _
theorem fits_nil {n f:Int} {L:List Ep} (hG:GoodL L):Fits n f [] L:=fun k e he _=>by
 have hk:=(List.getElem?_eq_some_iff.1 he).1
 rw [news_nil hG k (by omega)]
 unfold canC
 rw [if_pos (hG.2.2 e (List.mem_of_getElem? he)),if_neg]
 rintro ⟨_,h⟩
 have h1:=ofHome_len (n:=n) (f:=f) (L:=L.take k)
 have h2:=hG.2.1
 dsimp only at h
 rw [List.length_take] at h1
 omega
theorem news_all {n f:Int} {L:List Ep} (hG:GoodL L):newsE n f [] L=(ofHome n f L,ofHome n f L):=by
 have:=news_nil (n:=n) (f:=f) hG L.length (Nat.le_refl _)
 rw [List.take_length] at this
 exact this
theorem get_other {u:ByteArray}:∀ {L:List Ep},(∀ e ∈ L,e.u ≠ u)→getL L u=0
 | [],_=>rfl
 | e :: L,h=>by
  unfold getL
  rw [eqb_false (h e (by simp)),if_neg (by decide)]
  exact get_other fun e he=>h e (by simp [he])
theorem get_mem {x:Ep}:∀ {L:List Ep},Rising L→x ∈ L→getL L x.u=x.n
 | [],_,h=>by cases h
 | e :: L,hr,h=>by
  unfold getL
  rcases List.mem_cons.1 h with rfl|h
  ·rw [eqb_self,if_pos rfl]
  ·have:=hr.1 x h
   rw [eqb_false (fun he:e.u=x.u=>by rw [he,bl_irr] at this;cases this),if_neg (by decide)]
   exact get_mem hr.2 h
theorem get_home {n f:Int} {L:List Ep} (hG:GoodL L) {x:Ep} (hx:x ∈ L):getL (ofHome n f L) x.u=if homeI x.u n=f then x.n else 0:=by
 by_cases h:homeI x.u n=f
 ·rw [if_pos h]
  exact get_mem (rising_filter _ hG.1) (List.mem_filter.2 ⟨hx,decide_eq_true h⟩)
 ·rw [if_neg h]
  refine get_other fun e he hu=>?_
  have h2:=of_decide_eq_true (List.mem_filter.1 he).2
  rw [hu] at h2
  exact h h2
theorem mark_short {g pl:Nat} (h1:1≤g) (h2:g≤1099511627776) (hp:pl≤1099511627776):(Part.mk 4 g pl []).sealed.length≤121:=by
 have:=seal_le (Part.mk 4 g pl []) ⟨by show 1≤4;omega,by show 4≤4;omega,h1,h2,hp,by show 0≤4096;omega,.inr rfl⟩ 0 (by show 0≤0;omega)
 omega
def beatR (N:List Ep) (k key:Nat):List (List UInt8):=N.map (fun e=>numW 2 ++ epW e) ++ if k < key then [numW 3 ++ numW key] else []
theorem beatR_small {N:List Ep} {k key:Nat} (hN:∀ e ∈ N,right e.u e.n=true) (hk:key≤1099511627776):∀ s ∈ beatR N k key,s.length≤70:=by
 intro s hs
 unfold beatR at hs
 have h2:=numW_len 0 2 (by omega)
 have h3:=numW_len 0 3 (by omega)
 have h4:=numW_len 8 key (by omega)
 rcases List.mem_append.1 hs with h|h
 ·obtain ⟨e,he,rfl⟩:=List.mem_map.1 h
  have:=epW_le (hN e he)
  rw [List.length_append]
  omega
 ·split at h
  ·simp only [List.mem_singleton] at h
   subst h
   rw [List.length_append]
   omega
  ·cases h
theorem beatR_len {N:List Ep} {k key:Nat}:(beatR N k key).length≤N.length + 1:=by
 unfold beatR
 rw [List.length_append,List.length_map]
 split <;> simp
theorem put_fits {g K:Nat} {l:List Part} {rs:List (List UInt8)} (h1:1≤g) (h2:g≤1099511627776) (hl:(dev l).length≤K) (hK:K≤100000) (hn:rs.length≤100) (hrs:∀ s ∈ rs,s.length≤1000):(dev (putL g l rs)).length≤K + rs.length * 2121 + 121:=by
 rw [jrnp.put_len]
 have h3:=jrnp.recs_le g (dev l).length 1000 rs h1 h2 (by omega) (by omega) hrs
 have h4:(dev (l ++ recsL g (dev l).length rs)).length≤K + rs.length * 2121:=by rw [dev_app,List.length_append];omega
 have h5:=mark_short (g:=g) (pl:=(dev (l ++ recsL g (dev l).length rs)).length) h1 h2 (by omega)
 omega
theorem lapse_two (u:Nat→Int) (now:Nat):(∀ i,i < 17→lapse 1 2 u now i=false) ↔ (now:Int) < u 2:=by
 constructor
 ·intro h
  have h2:=h 2 (by omega)
  unfold lapse at h2
  rw [show isL 1 2 2=true from by decide,Bool.true_and] at h2
  have:=of_decide_eq_false h2
  omega
 ·intro h i hi
  unfold lapse
  by_cases h2:i=2
  ·subst h2
   rw [decide_eq_false (by omega),Bool.and_false]
  ·have:isL 1 2 i=false:=by
    revert h2 hi
    revert i
    decide
   rw [this,Bool.false_and]
theorem grant_two {t now:Nat}:grantU (fun _=>0) 2 t now 2=if t≤now then (t:Int) + 12 else 0:=by
 unfold grantU
 by_cases h:t≤now
 ·rw [if_pos ⟨h,by dsimp only;omega⟩,if_pos h]
  unfold upd
  rw [if_pos rfl]
 ·rw [if_neg (fun e=>h e.1),if_neg h]
end Go.Proofs.YtlingaebpfdhgaaGreatDoor.regn
namespace Go.Proofs.YtlingaebpfdhgaaGreatDoor.regn
open Go Go.RowKit base err list new tab wireb wirep monoj
def beatW (L:List Ep) (key tm:Int):List UInt8:=numW 4 ++ epsW L ++ numW key.toNat ++ numW tm.toNat
theorem talk_bad (c:Int) (w:World):Calls Tryz.prog 20 #[.int .i64 c] w fun e w'=>∃ v,e=.returned v∧Err w' v c∧Below w.heap.size w w':=by
 go_enter Tryz.func20,Tryz.ntmps20
 go_wp2_with fail
 refine (at_any _ _ c _).mono ?_
 rintro e w1 ⟨v,rfl,he,_,hb,_⟩
 have HE:=Lib.hid he
 have HB:=Lib.hid hb
 obtain ⟨g,rfl,_⟩:=he
 clear hb
 go_wp2_with fail
 go_ret
 exact ⟨_,rfl,HE.out,HB.out⟩
theorem Below.keepsG {g:Nat} {w w':World} (hb:Below g w w'):Keeps (fun i=>g≤i) w w':=⟨hb.os,hb.tape,hb.output,hb.size,fun i _ hx=>hb.block i (by omega)⟩
def EncR (nw nh:Nat) (ck tm:Int) (L:List Ep) (key:Int) (w:World) (e:Ending) (w':World):Prop :=
 ∃ s er,e=.returned (.tuple #[.string s,er])∧((BeatB nw nh ck tm L key∧s=str (beatW L key tm)∧er=.nilIface) ∨ (¬ BeatB nw nh ck tm L key∧s=⟨#[]⟩∧Err w' er 1))∧Below w.heap.size w w'
set_option maxRecDepth 20000 in
set_option maxHeartbeats 4000000 in
theorem encode_beat (A1 A2 A:Option Addr) (nw nh c1 c2 len cap:Nat) (ck tm key:Int) (L:List Ep) (w:World) (h:Eps w w.heap.size A len cap L) (hl:len≤100000) (hu:∀ e ∈ L,e.u.size≤maxLen) :
  Calls Tryz.prog 6 #[.agg #[.int .i64 4,.slice A1 nw c1,.slice A2 nh c2,.int .i64 ck,.int .i64 tm,.slice A len cap,.int .i64 key]] w (EncR nw nh ck tm L key w):=by
 have hb0:=below_new w (.cells #[.int .i64 4,.slice A1 nw c1,.slice A2 nh c2,.int .i64 ck,.int .i64 tm,.slice A len cap,.int .i64 key] 27)
 have HB0:=Lib.hid hb0
 have HM:=Lib.hid (Blk.new w 27 #[.int .i64 4,.slice A1 nw c1,.slice A2 nh c2,.int .i64 ck,.int .i64 tm,.slice A len cap,.int .i64 key])
 have HE:=Lib.hid (h.below hb0)
 have hE0:=(h.below hb0).more hb0.size
 have HU:=Lib.hid hu
 clear h hu hb0
 go_enter Tryz.func6,Tryz.ntmps6
 go_wp2_with fail
 generalize w.alloc (.cells #[.int .i64 4,.slice A1 nw c1,.slice A2 nh c2,.int .i64 ck,.int .i64 tm,.slice A len cap,.int .i64 key] 27)=w0 at *
 obtain ⟨mb,hmb⟩:∃ g,w.heap.size=g:=⟨_,rfl⟩
 refine (right_beat A1 A2 A nw nh c1 c2 len cap ck tm key L w0 hE0 hl HU.out).mono ?_
 rintro e w1 ⟨b,rfl,hbb,hb1⟩
 rw [hmb] at HM HE ⊢
 have HM1:=Lib.hid (HM.out.below hb1 HM.out.lt)
 have HB1:=Lib.hid (HB0.out.trans (hb1.mono HB0.out.size))
 have HE1:=Lib.hid (HE.out.below (hb1.mono (Nat.le_of_lt HM.out.lt)))
 have hlt:=HM1.out.lt
 clear hE0 hb1 HB0 HM HE HU
 cases b with
 | false =>
  have HNB:=Lib.hid (show ¬ BeatB nw nh ck tm L key from fun e=>by have:=hbb.2 e;cases this)
  clear hbb
  go_wp2_with fail
  refine (talk_bad 1 w1).mono ?_
  rintro e w2 ⟨v,rfl,he,hb2⟩
  have HQ:=Lib.hid (show EncR nw nh ck tm L key w (.returned (.tuple #[.string ⟨#[]⟩,v])) w2 from ⟨_,_,rfl,.inr ⟨HNB.out,rfl,he⟩,HB1.out.trans (hb2.mono HB1.out.size)⟩)
  obtain ⟨g,rfl,_⟩:=he
  clear hb2
  go_wp2_with fail
  go_ret2
  exact HQ.out
 | true =>
  have HBB:=Lib.hid (hbb.1 rfl)
  obtain ⟨h1,h2,h3,hG,⟨k1,k2⟩,t1,t2⟩:=hbb.1 rfl
  subst h1 h2 h3
  obtain ⟨key',rfl⟩:∃ k:Nat,key=(k:Int):=⟨key.toNat,by omega⟩
  obtain ⟨tm',rfl⟩:∃ k:Nat,tm=(k:Int):=⟨tm.toNat,by omega⟩
  have HG:=Lib.hid hG
  have v0:w1.cell? ⟨mb,0,none⟩=some (.int .i64 4):=HM1.out.cell 0
  clear hbb hG
  go_wp2_with fail
  have hb2:=below_new w1 (.cells #[.slice none 0 0,.nilIface] 83)
  have HO2:=Lib.hid (show OutB (w1.alloc (.cells #[.slice none 0 0,.nilIface] 83)) w1.heap.size [] from ⟨_,_,Blk.new w1 83 _,OwnB.none _ _⟩)
  have HM2:=Lib.hid (HM1.out.below hb2 hlt)
  have HB2:=Lib.hid (HB1.out.trans (hb2.mono HB1.out.size))
  have HE2:=Lib.hid (HE1.out.below (hb2.mono (Nat.le_of_lt hlt)))
  have hwg:=HB1.out.size
  obtain ⟨g,hg⟩:∃ g,w1.heap.size=g:=⟨_,rfl⟩
  rw [hg] at HO2 hlt hwg ⊢
  have hmg:¬ g≤mb:=by omega
  have hlt2:=HO2.out.lt
  clear hb2 HM1 HB1 HE1 v0
  generalize w1.alloc (.cells #[.slice none 0 0,.nilIface] 83)=w2 at *
  have hn4:=numW_len 8 4 (by omega)
  refine wp_region_monoJ (fun i=>g≤i) [5] (by kernel_rfl) ?_
  iterate 5
   first|refine qJ 0 (v:=?_) ?_ ?_|refine qJ 1 (v:=?_) ?_ ?_|refine qJ 2 (v:=?_) ?_ ?_|refine qJ 3 (v:=?_) ?_ ?_|refine qJ 4 (v:=?_) ?_ ?_
   rotate_left
   ·(intro W hSw;(first|(have hxW:=Blk.keeps (Blk.drew HM2.out) hSw hmg;have y0:W.cell? ⟨mb,0,none⟩=some (.int .i64 4):=hxW.cell 0;have exl:=hxW.lt)|skip);go_simp <;> rfl)
   try simp only [qPA]
  refine wpMonoJ_one' 5 (by kernel_rfl) rfl (by rfl) (fun K hK=>?_)
  go_simp
  refine (num_b g 4 [] w2.drew (HO2.out.below (Below.refl _ _).drew) (by omega) (by simp)).mono ?_
  rintro e w3 ⟨rfl,ho3,hb3⟩
  have HO3:=Lib.hid (show OutB w3 g (numW 4) from ho3)
  have HK3:=Lib.hid (Below.keepsG hb3)
  have HW3:=Lib.hid hb3
  clear ho3 hb3
  refine hK.out _ _ ?_ ?_
  ·exact moved HK3.out (by decide)
  clear hK K
  try simp only [qPA]
  refine wpMonoJ_done (by kernel_rfl) ?_ _
  have hg3:Below g w2 w3:=((Below.refl _ _).drew).trans HW3.out
  have HM3:=Lib.hid (Blk.keeps HM2.out (Below.keepsG hg3) hmg)
  have HB3:=Lib.hid (HB2.out.trans (hg3.mono hwg))
  have HE3:=Lib.hid (HE2.out.below (hg3.mono (by omega)))
  have hlt3:=HO3.out.lt
  have hml3:=HM3.out.lt
  clear hg3 HK3 HW3 HO2 HM2 HB2 HE2
  have v0:w3.cell? ⟨mb,0,none⟩=some (.int .i64 4):=HM3.out.cell 0
  have v5:w3.cell? ⟨mb,5,none⟩=some (.slice A len cap):=HM3.out.cell 5
  go_wp2_with fail
  refine (epochs_b g len cap A L (numW 4) w3 HO3.out (HE3.out.more (by omega)) HG.out (by omega)).mono ?_
  rintro e w4 ⟨rfl,ho4,hb4⟩
  have HO4:=Lib.hid ho4
  have HM4:=Lib.hid (Blk.keeps HM3.out (Below.keepsG hb4) hmg)
  have HB4:=Lib.hid (HB3.out.trans (hb4.mono hwg))
  have HE4:=Lib.hid (HE3.out.below (hb4.mono (by omega)))
  have hlt4:=HO4.out.lt
  have hml4:=HM4.out.lt
  have hel:(numW 4 ++ epsW L).length≤4000:=by
   have h1:=eps_le HG.out.2.2 64 (by omega)
   rw [List.take_of_length_le HG.out.2.1] at h1
   have h2:=numW_len 8 L.length (by have:=HG.out.2.1;omega)
   unfold epsW
   simp only [List.length_append]
   omega
  obtain ⟨q,hq⟩:∃ q,numW 4 ++ epsW L=q:=⟨_,rfl⟩
  rw [hq] at HO4 hel
  have HQ:=Lib.hid hq
  clear hb4 HO3 HM3 HB3 HE3 v0 v5 hq
  go_wp2_with fail
  refine wp_region_monoJ (fun i=>g≤i) [5] (by kernel_rfl) ?_
  iterate 5
   first|refine qJ 0 (v:=?_) ?_ ?_|refine qJ 1 (v:=?_) ?_ ?_|refine qJ 2 (v:=?_) ?_ ?_|refine qJ 3 (v:=?_) ?_ ?_|refine qJ 4 (v:=?_) ?_ ?_
   rotate_left
   ·(intro W hSw;(first|(have hxW:=Blk.keeps (Blk.drew HM4.out) hSw hmg;have y0:W.cell? ⟨mb,6,none⟩=some (.int .i64 key'):=hxW.cell 6;have exl:=hxW.lt)|skip);go_simp <;> rfl)
   try simp only [qPA]
  refine wpMonoJ_one' 5 (by kernel_rfl) rfl (by rfl) (fun K hK=>?_)
  go_simp
  refine (num_b g key' q w4.drew (HO4.out.below (Below.refl _ _).drew) (by omega) (by omega)).mono ?_
  rintro e w5 ⟨rfl,ho5,hb5⟩
  have HO5:=Lib.hid (show OutB w5 g (q ++ numW key') from ho5)
  have HK5:=Lib.hid (Below.keepsG hb5)
  have HW5:=Lib.hid hb5
  clear ho5 hb5
  refine hK.out _ _ ?_ ?_
  ·exact moved HK5.out (by decide)
  clear hK K
  try simp only [qPA]
  refine wpMonoJ_done (by kernel_rfl) ?_ _
  have hg5:Below g w4 w5:=((Below.refl _ _).drew).trans HW5.out
  have HM5:=Lib.hid (Blk.keeps HM4.out (Below.keepsG hg5) hmg)
  have HB5:=Lib.hid (HB4.out.trans (hg5.mono hwg))
  have HE5:=Lib.hid (HE4.out.below (hg5.mono (by omega)))
  have hlt5:=HO5.out.lt
  have hml5:=HM5.out.lt
  clear hg5 HK5 HW5 HO4 HM4 HB4 HE4
  have hnk:=numW_len 8 key' (by omega)
  have hkl:(q ++ numW key').length≤4010:=by rw [List.length_append];omega
  go_wp2_with fail
  refine wp_region_monoJ (fun i=>g≤i) [5] (by kernel_rfl) ?_
  iterate 5
   first|refine qJ 0 (v:=?_) ?_ ?_|refine qJ 1 (v:=?_) ?_ ?_|refine qJ 2 (v:=?_) ?_ ?_|refine qJ 3 (v:=?_) ?_ ?_|refine qJ 4 (v:=?_) ?_ ?_
   rotate_left
   ·(intro W hSw;(first|(have hxW:=Blk.keeps (Blk.drew HM5.out) hSw hmg;have y0:W.cell? ⟨mb,4,none⟩=some (.int .i64 tm'):=hxW.cell 4;have exl:=hxW.lt)|skip);go_simp <;> rfl)
   try simp only [qPA]
  refine wpMonoJ_one' 5 (by kernel_rfl) rfl (by rfl) (fun K hK=>?_)
  go_simp
  refine (num_b g tm' (q ++ numW key') w5.drew (HO5.out.below (Below.refl _ _).drew) (by omega) (by omega)).mono ?_
  rintro e w6 ⟨rfl,ho6,hb6⟩
  have HO6:=Lib.hid (show OutB w6 g (q ++ numW key' ++ numW tm') from ho6)
  have HK6:=Lib.hid (Below.keepsG hb6)
  have HW6:=Lib.hid hb6
  clear ho6 hb6
  refine hK.out _ _ ?_ ?_
  ·exact moved HK6.out (by decide)
  clear hK K
  try simp only [qPA]
  refine wpMonoJ_done (by kernel_rfl) ?_ _
  have hg6:Below g w5 w6:=((Below.refl _ _).drew).trans HW6.out
  have HM6:=Lib.hid (Blk.keeps HM5.out (Below.keepsG hg6) hmg)
  have HB6:=Lib.hid (HB5.out.trans (hg6.mono hwg))
  have HE6:=Lib.hid (HE5.out.below (hg6.mono (by omega)))
  have hlt6:=HO6.out.lt
  have hml6:=HM6.out.lt
  clear hg6 HK6 HW6 HO5 HM5 HB5 HE5
  go_wp2_with fail
  refine (done_b g _ w6 HO6.out).mono ?_
  rintro e w7 ⟨rfl,rfl⟩
  have HR:=Lib.hid (show EncR 0 0 0 tm' L key' w (.returned (.tuple #[.string (str (beatW L key' tm')),.nilIface])) w7 from ⟨_,_,rfl,.inl ⟨HBB.out,rfl,rfl⟩,HB6.out⟩)
  have HL:(⟨(q ++ numW key' ++ numW tm').toArray⟩:ByteArray)=str (beatW L key' tm'):=by rw [← HQ.out];rfl
  rw [HL]
  clear HL
  go_wp2_with fail
  go_ret2
  exact HR.out
end Go.Proofs.YtlingaebpfdhgaaGreatDoor.regn
namespace Go.Proofs.YtlingaebpfdhgaaGreatDoor.regn
open Go Go.RowKit base err list tab wireb wirep
theorem epclo (g c:Nat) (u:ByteArray) (n:Nat) (l:List UInt8) (w:World) (h:OutB w g l) (hc:Blk w c 36 #[.string u,.int .i64 n]) (hcg:¬ g≤c) (hu:u.size≤8192) (hn:n≤4611686018427387903) (hr:l.length + u.size + 100≤65536) :
  Calls Tryz.prog 156 #[.pointer (some ⟨g,0,none⟩),.pointer (some ⟨c,0,none⟩)] w (PutB g (l ++ (textW u.data.toList ++ numW n)) w):=by
 have H:=Lib.hid h
 have HC:=Lib.hid hc
 have hlt:=h.lt
 have hcl:=hc.lt
 have c0:w.cell? ⟨c,0,none⟩=some (.string u):=hc.cell 0
 clear h hc
 go_enter Tryz.func156,Tryz.ntmps156
 go_wp2_with fail
 refine (text_b g u l _ H.out hu (by omega)).mono ?_
 rintro e w1 ⟨rfl,ho1,hb1⟩
 have HO1:=Lib.hid ho1
 have HC1:=Lib.hid (Blk.keeps HC.out (Below.keepsG hb1) hcg)
 have HB1:=Lib.hid hb1
 have c1:w1.cell? ⟨c,1,none⟩=some (.int .i64 n):=HC1.out.cell 1
 have hcl1:=HC1.out.lt
 have hlt1:=HO1.out.lt
 have htl:(l ++ textW u.data.toList).length + 9≤65536:=by
  have hs:u.data.toList.length=u.size:=Array.length_toList
  have:=numW_len 8 u.data.toList.length (by omega)
  unfold textW
  simp only [List.length_append]
  omega
 clear ho1 hb1 c0
 go_wp2_with fail
 refine (num_b g n _ _ HO1.out hn htl).mono ?_
 rintro e w2 ⟨rfl,ho2,hb2⟩
 have HR:=Lib.hid (show PutB g (l ++ (textW u.data.toList ++ numW n)) w (.returned noResult) w2 from ⟨rfl,by rw [← List.append_assoc];exact ho2,HB1.out.trans hb2⟩)
 clear ho2 hb2
 go_wp2_with fail
 refine bodyPost_end (results_none rfl _ _ _) rfl ?_
 exact HR.out
theorem record_ep (c k:Nat) (u:ByteArray) (n:Nat) (w:World) (hc:Blk w c 36 #[.string u,.int .i64 n]) (hk:k≤100) (hu:u.size≤8192) (hn:n≤4611686018427387903) :
  Calls Tryz.prog 111 #[.int .i64 k,.func (.func 156) #[] #[.pointer (some ⟨c,0,none⟩)]] w fun e w'=>e=.returned (.string (str (numW k ++ (textW u.data.toList ++ numW n))))∧Below w.heap.size w w':=by
 have hnl:(numW k).length≤9:=by
  have:=numW_len 0 k (by omega)
  omega
 have HC:=Lib.hid hc
 clear hc
 go_enter Tryz.func111,Tryz.ntmps111
 go_wp2_with fail
 have ho:OutB (w.alloc (.cells #[.slice none 0 0,.nilIface] 81)) w.heap.size []:=⟨.slice none 0 0,_,Blk.new _ _ _,⟨rfl,.inl ⟨rfl,rfl⟩⟩⟩
 have hb:Below w.heap.size w (w.alloc (.cells #[.slice none 0 0,.nilIface] 81)):=below_new _ _
 have HO:=Lib.hid ho
 have HB:=Lib.hid hb
 clear ho hb
 refine (num_b w.heap.size k [] _ HO.out (by omega) (by simp)).mono ?_
 rintro e w1 ⟨rfl,ho1,hb1⟩
 have HO1:=Lib.hid (show OutB w1 w.heap.size (numW k) from ho1)
 have HB1:=Lib.hid (HB.out.trans hb1)
 have HC1:=Lib.hid (HC.out.below HB1.out HC.out.lt)
 have hcw:=HC.out.lt
 clear hb1 ho1
 go_wp2_with fail
 refine (epclo w.heap.size c u n (numW k) w1 HO1.out HC1.out (by omega) hu hn (by omega)).mono ?_
 rintro e w2 ⟨rfl,ho2,hb2⟩
 have HO2:=Lib.hid ho2
 have HB2:=Lib.hid (HB1.out.trans hb2)
 clear ho2 hb2
 go_wp2_with fail
 refine (done_b w.heap.size _ w2 HO2.out).mono ?_
 rintro e w3 ⟨rfl,rfl⟩
 go_wp2_with fail
 go_ret
 exact ⟨rfl,HB2.out⟩
theorem epoch_record (u:ByteArray) (n:Nat) (w:World) (hu:u.size≤8192) (hn:n≤4611686018427387903) :
  Calls Tryz.prog 99 #[.agg #[.string u,.int .i64 n]] w fun e w'=>e=.returned (.string (str (numW 2 ++ epW ⟨u,(n:Int)⟩)))∧Below w.heap.size w w':=by
 have hb0:=below_new w (.cells #[.string u,.int .i64 n] 36)
 have HB:=Lib.hid hb0
 have HK:=Lib.hid (Blk.new w 36 #[.string u,.int .i64 n])
 clear hb0
 go_enter Tryz.func99,Tryz.ntmps99
 go_wp2_with fail
 refine (record_ep w.heap.size 2 u n _ HK.out (by omega) hu hn).mono ?_
 rintro e w2 ⟨rfl,hb2⟩
 have HB2:=Lib.hid (HB.out.trans (hb2.mono HB.out.size))
 clear hb2
 rw [show textW u.data.toList ++ numW n=epW ⟨u,(n:Int)⟩ from rfl]
 go_wp2_with fail
 go_ret
 exact ⟨rfl,HB2.out⟩
end Go.Proofs.YtlingaebpfdhgaaGreatDoor.regn
namespace Go.Proofs.YtlingaebpfdhgaaGreatDoor.regn
open Go Go.RowKit base list tab wireb wirep inp writep
end Go.Proofs.YtlingaebpfdhgaaGreatDoor.regn
