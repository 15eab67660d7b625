/- Part of GateRetires. -/
import Derived.Test.YthlahcnglacekaaGreatDoorB43
import Derived.Test.YthlahcnglacekaaGreatDoorB45
import Derived.Test.YthlahcnglacekaaGreatDoorB42
set_option maxRecDepth 100000
set_option maxHeartbeats 16000000
namespace Go.Proofs.YthlahcnglacekaaGreatDoor
namespace quota
open Go Go.RowKit base dec err above law merge rows store
def Short (L:List R):Prop:=∀ p ∈ L,p.1.1.size≤1000000
theorem text_atQ {w:World} {b off B n:Nat} {l:List ByteArray} (h:Reads w B 1 (some ⟨b,off,none⟩) n (l.map Value.string)) (hl:l.length=n) {k:Nat} (hk:k<n):w.cell? ⟨b,off+k,none⟩=some (.string (l.getD k ⟨#[]⟩)):=by
 obtain ⟨b',off',e,_,hc⟩:=h.2 (by omega);injection e with e;injection e with e1 e2 _;subst e1 e2;rw [hc k (by simp;omega),List.getElem?_map,List.getElem?_eq_getElem (by omega),List.getD_eq_getElem?_getD,List.getElem?_eq_getElem (by omega)];rfl
theorem ofB_yes {r:Int} {s:ByteArray} {a b:Nat} (h:OkN a b) (e:s.data.toList=nm a b):ofB r s=((a:Int)==r):=by
 have ha:a≠0:=by unfold OkN at h;omega
 unfold ofB;rw [regOf_yes h e,decide_eq_true ha,Bool.true_and];exact Bool.eq_iff_iff.2 (by simp)
theorem ofB_no {r:Int} {s:ByteArray} (h:∀ a b,OkN a b→s.data.toList≠nm a b):ofB r s=false:=by
 unfold ofB;rw [regOf_no h];rfl
theorem filter_next {l:List ByteArray} (p:ByteArray→Bool) {k:Nat} (hk:k<l.length):((l.take (k+1)).filter p).length=((l.take k).filter p).length+(p (l.getD k ⟨#[]⟩)).toNat:=by
 rw [List.take_succ_eq_append_getElem hk,List.filter_append,List.length_append,List.getD_eq_getElem?_getD,List.getElem?_eq_getElem hk]
 congr 1
 show ([l[k]].filter p).length=(p l[k]).toNat;rw [List.filter_cons]
 cases p l[k] <;> rfl
theorem lives_short {L:List R} (h:Short L) {k:Nat} (hk:k<(livesL L).length):((livesL L).getD k ⟨#[]⟩).size≤1000000:=by
 rw [List.getD_eq_getElem?_getD,List.getElem?_eq_getElem hk];show (livesL L)[k].size≤1000000;have hm:(livesL L)[k] ∈ livesL L:=List.getElem_mem hk;unfold livesL at hm;obtain ⟨x,hx,e⟩:=List.mem_map.1 hm;have:=h x (List.mem_filter.1 hx).1;have e2:(livesL L)[k]=x.1.1:=by unfold livesL;exact e.symm
 rw [e2];exact this
theorem lives_le (L:List R):(livesL L).length≤L.length:=by unfold livesL;rw [List.length_map];exact List.length_filter_le _ _
theorem opens_any (g bm:Nat) (L:List R) (r:Int) (w:World) (h:StI w g bm L) (hl:L.length≤1000000) (hs:Short L) (ht:Tabs w) :
  Calls Tryz.prog 155 #[.pointer (some ⟨g,0,none⟩),.int .i64 r] w fun e w'=>e=.returned (.int .i64 (opensL L r:Nat))∧Below w.heap.size w w':=by
 have H:=qH h;have Hs:=qH hs;have Ht:=qH ht;clear h hs ht;go_enter Tryz.func155,Tryz.ntmps155;go_wp2_with fail;refine (lives_any g bm L w H.out hl).mono ?_;rintro e w1 ⟨v,rfl,hv,hb1⟩;obtain ⟨A,c,rfl⟩:=ownsRow_slice hv;have HRL:=qH (Reads.of_own hv);have HB1:=qH hb1;have HT1:=qH (Ht.out.below hb1);have hll:=lives_le L;obtain ⟨nl,hnl⟩:∃ nl,(livesL L).length=nl:=⟨_,rfl⟩;rw [hnl] at HRL hll ⊢;have HNL:=qH hnl;clear hv hb1 hnl;go_wp2_with fail
 go_loopw [5,14] (fun sn si wr=>∃ k:Nat,k≤nl∧si=.int .i64 k∧sn=.int .i64 (((livesL L).take k).filter (ofB r)).length∧Below w1.heap.size w1 wr) (fun _ si _=>nl-(intOf si).toNat)
 case atStart=>exact ⟨0,by omega,rfl,rfl,Below.refl _ _⟩
 case round =>
  obtain ⟨k,hk,rfl,rfl,i1⟩:=hrel;have hle:(((livesL L).take k).filter (ofB r)).length≤k:=by have:=List.length_filter_le (ofB r) ((livesL L).take k);have:=List.length_take_le k (livesL L);omega
  by_cases hlt:k<nl
  ·obtain ⟨gl,off,rfl,hgl⟩:=HRL.out.at_some (by omega)
   have hcell:=text_atQ (HRL.out.below i1) HNL.out hlt;have hgl2:gl<wr.heap.size:=by have:=i1.size;omega
   have HSH:=qH (lives_short Hs.out (show k<(livesL L).length by rw [HNL.out];exact hlt));have HNX:=qH (filter_next (ofB r) (show k<(livesL L).length by rw [HNL.out];exact hlt));obtain ⟨s,hsn⟩:∃ s,(livesL L).getD k ⟨#[]⟩=s:=⟨_,rfl⟩;rw [hsn] at hcell HSH HNX;have HTr:=qH (HT1.out.below i1);have I1:=qH i1;generalize hq:(((livesL L).take k).filter (ofB r)).length=q at *;clear i1 hsn;go_wp2_with fail;refine (parse_any s wr HSH.out HTr.out).mono ?_;rintro e w2 (⟨a,b,hok,hs2,rfl,hb2⟩|⟨hno,v,rfl,herr,hnn,hb2⟩)
   ·have I2:=qH (below_step I1.out hb2)
    have hof:=ofB_yes (r:=r) hok hs2
    cases har:((a:Int)==r) with
    | true =>
     have HV:=qH (show (((livesL L).take (k+1)).filter (ofB r)).length=q+1 by rw [HNX.out,hof,har];rfl);clear hof hok hs2 hb2;go_wp2;go_roundw
     case rel=>exact ⟨k+1,by omega,by go_num,by rw [HV.out];go_num,I2.out⟩
     case measure=>simp [intOf];omega
    | false =>
     have HV:=qH (show (((livesL L).take (k+1)).filter (ofB r)).length=q by rw [HNX.out,hof,har];rfl);clear hof hok hs2 hb2;go_wp2;go_roundw
     case rel=>exact ⟨k+1,by omega,by go_num,by rw [HV.out],I2.out⟩
     case measure=>simp [intOf];omega
   ·have I2:=qH (below_step I1.out hb2)
    have HV:=qH (show (((livesL L).take (k+1)).filter (ofB r)).length=q by rw [HNX.out,ofB_no hno];rfl);obtain ⟨ge,rfl⟩:=herr.form;clear hno herr hnn hb2;go_wp2;go_roundw
    case rel=>exact ⟨k+1,by omega,by go_num,by rw [HV.out],I2.out⟩
    case measure=>simp [intOf];omega
  ·obtain rfl:nl=k:=by omega
   have HR:=qH (show (((livesL L).take nl).filter (ofB r)).length=opensL L r by unfold opensL;rw [List.take_of_length_le (by rw [HNL.out];omega)]);have HB:=qH (below_step HB1.out i1);clear i1;go_wp2;go_ret
   exact ⟨by rw [HR.out];rfl,HB.out⟩
def RoomR (n:Nat) (w:World) (e:Ending) (w':World):Prop:=∃ v,e=.returned v∧Below w.heap.size w w'∧((n<32∧v=.nilIface)∨(32≤n∧Err w' v 4∧v≠.nilIface))
theorem room_any (g bm:Nat) (L:List R) (r:Int) (w:World) (h:StI w g bm L) (hl:L.length≤1000000) (hs:Short L) (ht:Tabs w) :
  Calls Tryz.prog 95 #[.pointer (some ⟨g,0,none⟩),.int .i64 r] w (RoomR (opensL L r) w):=by
 have H:=qH h;have Hs:=qH hs;have Ht:=qH ht;clear h hs ht;have hle:=opens_le L r;go_enter Tryz.func95,Tryz.ntmps95;go_wp2_with fail;refine (opens_any g bm L r w H.out hl Hs.out Ht.out).mono ?_;rintro e w1 ⟨rfl,hb1⟩;have HB1:=qH hb1;clear hb1;generalize opensL L r=n at *
 by_cases hn:32≤n
 ·go_wp2_with fail
  refine (bad_any 4 w1).mono ?_;rintro e w2 ⟨v,rfl,h1,h2,h3,_⟩;have HF:=qH (show RoomR n w (.returned v) w2 from ⟨v,rfl,below_step HB1.out h3,.inr ⟨hn,h1,h2⟩⟩);clear h1 h2 h3;go_wp2;go_ret
  exact HF.out
 ·have HF:=qH (show RoomR n w (.returned .nilIface) w1 from ⟨_,rfl,HB1.out,.inl ⟨by omega,rfl⟩⟩)
  go_wp2;go_ret
  exact HF.out
end quota
namespace regn
open Go Go.RowKit base err cmp wire dep vec jrnp jrn writep wireb framew wirep monoj
section
variable {w:World} {own:Nat→Nat} {p:RP} {x:RX}
theorem write_one (cs:List Ch) (A:Option Addr) (n c:Nat) (lp:List Part) (h:RegI w own p x) (hok:x.Ok lp) (hl:cs.length=n) (hn:n≤1000) (hr:Reads w w.heap.size 5 A n (cs.flatMap Ch.cells)) (hLf:x.Lf.length≤800000) (h1:x.id=1) (h2:x.n=1) :
  Calls Tryz.prog 106 #[.pointer (some ⟨p.r,0,none⟩),.slice A n c] w (MakeI own p x lp (.slice none 0 0) [] cs w):=by
 have HD:=qH (down_any h.reg);have HM:=qH (make_one (w:=w) cs A n c (.slice none 0 0) [] lp h hok (OwnS.none _ _) (by simp) (by simp) (fun i hi=>by cases hi) hl hn hr hLf h1 h2);have hlt:=h.reg.lt;clear h hok hr;go_enter Tryz.func106,Tryz.ntmps106;go_wp2_with fail;refine HD.out.mono ?_;rintro e w1 ⟨rfl,hw⟩;subst hw;rw [show (rgOf p x).down=false from rfl];go_wp2_with fail;refine HM.out.mono ?_;rintro e w2 h3;have HQ:=qH h3;obtain ⟨v,v2,o2,rfl,_,_,h5⟩:=h3
 rcases h5 with ⟨rfl,gi,v7,v8,x',o1,_,_,hv⟩|⟨rfl,k,c2,_,_,⟨g,_,rfl,_⟩,_⟩
 ·have hv:=hv h2
  subst hv;go_wp2_with fail;go_ret2
  exact HQ.out
 ·go_wp2_with fail
  go_ret2
  exact HQ.out
def recN (k n:Nat):List UInt8:=numW k++numW n
theorem recN_len (k n:Nat) (hk:k≤100) (hn:n≤4611686018427387903):(recN k n).length≤1000:=by
 unfold recN;have h1:=numW_len 8 k (by omega);have h2:=numW_len 8 n (by omega);rw [List.length_append];omega
theorem applyL_made (L:List Wr):∀ x:RX,(applyL x L).made=x.made∧(applyL x L).se=x.se:=by
 induction L with
 | nil=>intro x;exact ⟨rfl,rfl⟩
 | cons y L ih=>intro x;exact ih (applyX x y)
theorem MadeX.made {x x':RX} {l:List Part} {rs0:List (List UInt8)} {cs:List Ch} {o:List Wr} (h:MadeX x l rs0 cs x' o):x'.made=x.made∧x'.se=x.se:=by
 obtain ⟨_,_,_,_,_,ps,_,_,_,_,rfl,_⟩:=h;exact applyL_made (ps.map pabs) (putX x l _)
def BeginI (own:Nat→Nat) (p:RP) (x:RX) (l:List Part) (m:Nat) (u:ByteArray) (life:Int) (w:World) (e:Ending) (w':World):Prop :=
 ∃ s v v2 own',e=.returned (.tuple #[.string s,v,v2])∧Grown own own' w∧Keeps (tags own [1,4,6,9,10]) w w' ∧
  ((v2=.nilIface∧v=.slice none 0 0∧s=quota.str (dec.nm x.id m)∧∃ (gi:Nat) (v7 v8:Value) (x':RX) (o1:List Wr),RegI w' own' { p with gi:=gi,va:=v7,vw:=v8 } { x' with made:=m,se:=x'.se } ∧
    MadeX x l [recN 4 m] [⟨s,⟨#[]⟩,u,false,life⟩] x' o1) ∨
   (s=⟨#[]⟩∧v=.slice none 0 0∧∃ k c,NoMake x l [recN 4 m] [⟨quota.str (dec.nm x.id m),⟨#[]⟩,u,false,life⟩] c∧k≤2∧ErrD w' (k+1) v2 c∧RegI w' own' p x))
theorem begin_one (m:Nat) (u:ByteArray) (life:Int) (lp:List Part) (h:RegI w own p x) (hok:x.Ok lp) (hu:u.size≤maxLen) (hT:quota.Tabs w) (hLf:x.Lf.length≤800000) (hL:x.L.length≤1000000) (hS:quota.Short x.L) (hE:x.ep.length≤1000000) (h1:x.id=1) (h2:x.n=1)
  (hcan:tab.canC x.ep u 1=0) (hl1:0≤life) (hl2:life≤1099511627776) (hop:quota.opensL x.L x.id<32) (hm:x.made+1=m) (hm2:m≤1099511627776) :
  Calls Tryz.prog 38 #[.pointer (some ⟨p.r,0,none⟩),.string u,.int .i64 life] w (BeginI own p x lp m u life w):=by
 have HD:=qH (down_any h.reg);have HC:=qH (tab.can_any p.gt p.bt x.ep u 1 w h.tab hu hE);have c8:w.cell? ⟨p.r,8,none⟩=some (.pointer (some ⟨p.gt,0,none⟩)):=h.reg.c8;have hlt:=h.reg.lt;have HR:=qH h;have HOK:=qH hok;have HT:=qH hT;have HS:=qH hS;have HCAN:=qH hcan;have HOP:=qH hop;have d1:decide (life<0)=false:=decide_eq_false (by omega);have d2:decide ((1099511627776:Int)<life)=false:=decide_eq_false (by omega);have H1:=qH h1;have H2:=qH h2;have HM:=qH hm;clear h hok hT hS hcan hop h1 h2 hm;go_enter Tryz.func38,Tryz.ntmps38;go_wp2_with fail;refine HD.out.mono ?_;rintro e w1 ⟨rfl,hw⟩;subst hw;rw [show (rgOf p x).down=false from rfl];go_wp2_with fail;refine HC.out.mono ?_;rintro e w1 ⟨v,rfl,heo,hb1⟩;rw [HCAN.out] at heo
 obtain rfl:v=.nilIface:=by
  rcases heo with ⟨_,h⟩|⟨h,_⟩
  ·exact h
  ·exact absurd rfl h
 have HR1:=qH (HR.out.below hb1);have HT1:=qH (HT.out.below hb1);have HB1:=qH hb1;have hs1:=hb1.size;clear heo hb1 c8 HC HD;have c0:w1.cell? ⟨p.r,0,none⟩=some (.int .i64 x.id):=HR1.out.reg.c0;have c6:w1.cell? ⟨p.r,6,none⟩=some (.pointer (some ⟨p.st,0,none⟩)):=HR1.out.reg.c6;have hlt1:p.r<w1.heap.size:=by omega
 go_wp2_with fail;refine wp_region_mono nobody (by kernel_rfl) ?_
 iterate 9
  first|refine qT 0 (v:=?_) ?_ ?_|refine qT 1 (v:=?_) ?_ ?_|refine qT 2 (v:=?_) ?_ ?_|refine qT 3 (v:=?_) ?_ ?_|refine qT 4 (v:=?_) ?_ ?_|refine qT 5 (v:=?_) ?_ ?_|refine qT 6 (v:=?_) ?_ ?_|refine qT 7 (v:=?_) ?_ ?_|refine qT 8 (v:=?_) ?_ ?_
  rotate_left
  ·(intro W hSw;(have hcW:=hSw.cells;try simp only [qSd] at hcW);go_simp <;> rfl)
  try simp only [qPA]
 refine wpMono_one' 9 (by kernel_rfl) rfl (by rfl) (fun K hK=>?_)
 go_simp
 refine (quota.room_any p.st p.sb x.L x.id w1.drew HR1.out.drew.sto hL HS.out (HT1.out.below (Below.refl _ _).drew)).mono ?_;rintro e w2 ⟨v,rfl,hb2,hv⟩
 obtain rfl:v=.nilIface:=by
  rcases hv with ⟨_,h⟩|⟨h,_⟩
  ·exact h
  ·have:=HOP.out;omega
 have HB2:=qH hb2;clear hb2 hv;refine hK.out _ _ ?_ ?_
 ·exact .of_below HB2.out
 clear hK K
 try simp only [qPA]
 refine qT 10 (v:=?_) ?_ ?_;rotate_left
 ·(intro W hSw;(have hcW:=hSw.cells;try simp only [qSd] at hcW);go_simp <;> rfl)
 try simp only [qPA]
 refine wpMono_done (by kernel_rfl) ?_ _;have hb12:Below w1.heap.size w1 w2:=((Below.refl _ _).drew).trans HB2.out;have HR2:=qH (HR1.out.below hb12);have HT2:=qH (HT1.out.below hb12);have HBw2:=qH (HB1.out.trans (hb12.mono hs1));have hs2:=HBw2.out.size;clear hb12 HB2 HB1 HR1 HT1 c0 c6 hlt1;have c0:w2.cell? ⟨p.r,0,none⟩=some (.int .i64 x.id):=HR2.out.reg.c0;have c11:w2.cell? ⟨p.r,11,none⟩=some (.int .i64 x.made):=HR2.out.reg.c11;have hlt2:p.r<w2.heap.size:=by omega
 have hd1:=HOK.out.d1;have hw1:IntKind.i64.wrap (x.made+1)=(m:Int):=by have:=HM.out;rw [IntKind.wrap_i64];omega
 go_wp2_with fail;refine wp_region_mono nobody (by kernel_rfl) ?_
 iterate 10
  first|refine qT 0 (v:=?_) ?_ ?_|refine qT 1 (v:=?_) ?_ ?_|refine qT 2 (v:=?_) ?_ ?_|refine qT 3 (v:=?_) ?_ ?_|refine qT 4 (v:=?_) ?_ ?_|refine qT 5 (v:=?_) ?_ ?_|refine qT 6 (v:=?_) ?_ ?_|refine qT 7 (v:=?_) ?_ ?_|refine qT 8 (v:=?_) ?_ ?_|refine qT 9 (v:=?_) ?_ ?_
  rotate_left
  ·(intro W hSw;(have hcW:=hSw.cells;try simp only [qSd] at hcW);go_simp <;> rfl)
  try simp only [qPA]
  (try rw [hw1])
 refine wpMono_one' 10 (by kernel_rfl) rfl (by rfl) (fun K hK=>?_)
 go_simp
 refine (quota.name_any x.id m w2.drew (HT2.out.below (Below.refl _ _).drew)).mono ?_;rintro e w3 h3
 rcases h3 with ⟨a3,b3,ha3,hb3,_,rfl,hb3b⟩|⟨hbad,_⟩
 rotate_left
 ·exfalso
  have:=HOK.out.i1;have:=HOK.out.i2;have:=HOK.out.i3;have:=HM.out
  rcases hbad with h|h|h|h <;> omega
 obtain rfl:a3=x.id:=by omega
 obtain rfl:m=b3:=by omega
 have HB3:=qH hb3b;clear ha3 hb3 hb3b;refine hK.out _ _ ?_ ?_
 ·exact .of_below HB3.out
 clear hK K
 try simp only [qPA]
 (try rw [hw1])
 iterate 5
  first|refine qT 11 (v:=?_) ?_ ?_|refine qT 12 (v:=?_) ?_ ?_|refine qT 13 (v:=?_) ?_ ?_|refine qT 14 (v:=?_) ?_ ?_|refine qT 15 (v:=?_) ?_ ?_
  rotate_left
  ·(intro W hSw;(have hcW:=hSw.cells;try simp only [qSd] at hcW);go_simp <;> rfl)
  try simp only [qPA]
  (try rw [hw1])
 refine wpMono_done (by kernel_rfl) ?_ _;have hb23:Below w2.heap.size w2 w3:=((Below.refl _ _).drew).trans HB3.out;have HR3:=qH (HR2.out.below hb23);have HBw3:=qH (HBw2.out.trans (hb23.mono hs2));have hs3:=HBw3.out.size;clear hb23 HB3 HBw2 HR2 HT2 c0 c11 hlt2;obtain ⟨s,hs⟩:∃ s,quota.str (dec.nm x.id m)=s:=⟨_,rfl⟩;rw [hs];have HNM:=qH hs;clear hs;have c11:w3.cell? ⟨p.r,11,none⟩=some (.int .i64 x.made):=HR3.out.reg.c11;have hlt3:p.r<w3.heap.size:=by omega
 go_wp2_with fail;refine (num_record 4 m w3 (by omega) (by omega)).mono ?_;rintro e w4 ⟨rfl,hb4⟩;have HR4:=qH (HR3.out.below hb4);have HBw4:=qH (HBw3.out.trans (hb4.mono hs3));have hs4:=HBw4.out.size;clear hb4 HBw3 HR3 c11 hlt3;rw [show numW 4++numW m=recN 4 m from rfl];have hrl:=recN_len 4 m (by omega) (by omega);obtain ⟨rc,hrc⟩:∃ rc,recN 4 m=rc:=⟨_,rfl⟩;rw [hrc] at hrl ⊢;have HRC:=qH hrc;clear hrc;go_wp2_with fail;have hb5:=below_alloc (below_new w4 (.cells #[.string (str rc)] 9)) (.cells #[.string s,.string ⟨#[]⟩,.string u,.bool false,.int .i64 life] 210);have HR5:=qH (HR4.out.below hb5)
 have HA5:=qH (show OwnS ((w4.alloc (.cells #[.string (str rc)] 9)).alloc (.cells #[.string s,.string ⟨#[]⟩,.string u,.bool false,.int .i64 life] 210)) 0 (.slice (some ⟨w4.heap.size,0,none⟩) 1 1) [rc] from
  ⟨rfl,.inr ⟨w4.heap.size,1,#[.string (str rc)],rfl,Nat.zero_le _,Blk.alloc (Blk.new w4 9 #[.string (str rc)]) _,Nat.le_refl _,by unfold maxLen;omega,rfl,rfl⟩⟩)
 have HC5:=qH (show Reads ((w4.alloc (.cells #[.string (str rc)] 9)).alloc (.cells #[.string s,.string ⟨#[]⟩,.string u,.bool false,.int .i64 life] 210)) ((w4.alloc (.cells #[.string (str rc)] 9)).alloc (.cells #[.string s,.string ⟨#[]⟩,.string u,.bool false,.int .i64 life] 210)).heap.size 5 (some ⟨w4.heap.size+1,0,none⟩) 1 ([(⟨s,⟨#[]⟩,u,false,life⟩:Ch)].flatMap Ch.cells) from by
  have:=Reads.newAt (w4.alloc (.cells #[.string (str rc)] 9)) #[.string s,.string ⟨#[]⟩,.string u,.bool false,.int .i64 life] 210 (0,0) (g:=w4.heap.size+1) (n:=1) (size:=5) (by simp) rfl
  simpa [Ch.cells] using this)
 have HBw5:=qH (HBw4.out.trans (hb5.mono hs4));have hz4:own w4.heap.size=0:=HR4.out.zero (Nat.le_refl _);clear hb5;generalize (w4.alloc (.cells #[.string (str rc)] 9)).alloc (.cells #[.string s,.string ⟨#[]⟩,.string u,.bool false,.int .i64 life] 210)=w5 at *;refine (make_one (w:=w5) [⟨s,⟨#[]⟩,u,false,life⟩] _ 1 1 _ [rc] lp HR5.out HOK.out HA5.out (by simpa using hrl) (by simp) (fun i hi=>by injection hi with hi;rw [←hi];exact hz4) rfl (by omega) HC5.out hLf H1.out H2.out).mono ?_;rintro e w6 ⟨v,v2,o6,rfl,hg6,hk6,h6⟩;have HG6:=qH (hg6.later HBw5.out.size);have HK6:=qH (show Keeps (tags own [1,4,6,9,10]) _ w6 from ((Keeps.of_below HBw5.out).trans hk6).more (fun i hi h=>h.elim id fun h=>by injection h with h;simp only at h;omega));clear hg6 hk6
 rcases h6 with ⟨rfl,gi,v7,v8,x',o1,hr6,hmx,hv⟩|⟨rfl,k,c,hc,hk3,he6,hr6⟩
 ·obtain rfl:=hv H2.out
  have hmade:x'.made=x.made:=hmx.made.1;have HR6:=qH hr6;have HMX:=qH hmx;have c11:w6.cell? ⟨p.r,11,none⟩=some (.int .i64 x.made):=by rw [←hmade];exact hr6.reg.c11
  have z11:=hr6.reg.frozen 11;have hl6:p.r<w6.heap.size:=hr6.reg.lt;clear hr6 hmx hv;go_wp2_with fail;have hks:Keeps (· = p.r) w6 (w6.setCell ⟨p.r,11,none⟩ (.int .i64 m)):=Keeps.set1 _ _ _ _;have ho1:=HR6.out.o1;have hset:=HR6.out.setReg (md:=m) (s:=x'.se) (HR6.out.reg.s11 m) hks (fun i (e:i=p.r)=>by rw [e];exact ho1)
  have HQ:=qH (show BeginI own p x lp m u life _ (.returned (.tuple #[.string s,.slice none 0 0,.nilIface])) (w6.setCell ⟨p.r,11,none⟩ (.int .i64 m)) from
   ⟨s,_,_,o6,rfl,HG6.out,Keeps.tags HK6.out HG6.out (l2:=[1]) (hks.more (fun i _ e=>by have e:i=p.r:=e;rw [e];exact ⟨by rw [ho1];decide,by rw [ho1];decide⟩)) (fun _ h=>h) (by decide),
    .inl ⟨rfl,rfl,HNM.out.symm,gi,v7,v8,x',o1,hset,by rw [HRC.out];exact HMX.out⟩⟩)
  clear hset hks;exact bodyPost_ret (v:=.tuple #[.string s,.slice none 0 0,.nilIface]) (by simp [results,Tryz.results38,go_sem]) rfl HQ.out
 ·have HQ:=qH (show BeginI own p x lp m u life _ (.returned (.tuple #[.string ⟨#[]⟩,.slice none 0 0,v2])) w6 from ⟨_,_,_,o6,rfl,HG6.out,HK6.out,.inr ⟨rfl,rfl,k,c,by rw [HRC.out,HNM.out];exact hc,hk3,he6,hr6⟩⟩)
  obtain ⟨g0,v',rfl,_⟩:=he6;clear hr6;go_wp2_with fail;exact bodyPost_ret (v:=.tuple #[.string ⟨#[]⟩,.slice none 0 0,.iface 121 (.pointer (some ⟨g0,0,none⟩))]) (by simp [results,Tryz.results38,go_sem]) rfl HQ.out
end
end regn
namespace regn
open Go Go.RowKit base err rowe rows store fold monoj monok wireb wirep writep inp
end regn
namespace regn
open Go Go.RowKit base err wire dep vec with_ jrnp diskp jrn writep wireb wirep
theorem steps_nil {ap a:List Int} {l out:List Wr} (h:dep.Steps ap [] a l out):a=ap∧l=[]∧out=[]:=by
 induction h with
 | zero=>exact ⟨rfl,rfl,rfl⟩
 | one h k hk hr hn ih =>
  obtain ⟨_,h2,_⟩:=ih;rw [h2] at hk;simp at hk
theorem plan_zero {id ck0:Int} {ap0:List Int} {ws0 own all:List Wr} {ck:Int} {a:List Int} {ws:List Wr} (h:Plan id ck0 ap0 ws0 [] own all ck a ws):own=[]∧all=[]∧ck=ck0∧a=ap0∧ws=ws0:=by
 generalize hcs:([]:List Ch)=cs at h
 cases h with
 | zero=>exact ⟨rfl,rfl,rfl,rfl,rfl⟩
 | one=>simp at hcs
theorem plan_single {id ck0:Int} {ap0:List Int} {c:Ch} {own all:List Wr} {ck:Int} {a:List Int} {ws:List Wr} (h:Plan id ck0 ap0 [] [c] own all ck a ws) :
  own=[mkW id c ck0 ap0 (.slice none 0 0)]∧all=[mkW id c ck0 ap0 (.slice none 0 0)]∧ck=ck0+1∧a=withL ap0 id (atV ap0 id+1)∧ws=[]:=by
 generalize hcs:[c]=cs at h
 cases h with
 | zero=>simp at hcs
 | one h c' hck hr hst hno =>
  rename_i cs1 own1 all1 ck1 a1 ws1 out
  obtain ⟨e1,e2⟩:cs1=[]∧c'=c:=by
   cases cs1 with
   | nil=>simp at hcs;exact ⟨rfl,hcs.symm⟩
   | cons y l=>simp at hcs
  subst e1 e2;obtain ⟨h1,h2,h3,h4,h5⟩:=plan_zero h;subst h1 h2 h3 h4 h5;obtain ⟨s1,s2,s3⟩:=steps_nil hst;subst s1 s2 s3;exact ⟨rfl,rfl,rfl,rfl,rfl⟩
theorem natI_inj:∀ {v u:List Nat},natI v=natI u→v=u
 | [],[],_=>rfl
 | [],_ :: _,h=>by simp [natI] at h
 | _ :: _,[],h=>by simp [natI] at h
 | a :: v,b :: u,h=>by
  unfold natI at h;rw [List.map_cons,List.map_cons] at h;injection h with h1 h2;rw [show a=b by omega,natI_inj (v:=v) (u:=u) h2]
theorem str_inj {a b:List UInt8} (h:wireb.str a=wireb.str b):a=b:=by
 rw [←wireb.str_list a,←wireb.str_list b,h]
theorem pabs_inj {q q':PW} (h:pabs q=pabs q'):q=q':=by
 obtain ⟨r,n,t,d,se,k,v,g,l⟩:=q;obtain ⟨r',n',t',d',se',k',v',g',l'⟩:=q';simp only [pabs,PW.wr,Wr.mk.injEq] at h;obtain ⟨a,b,c,_,_,e,f,g,i,j,k⟩:=h;rw [PW.mk.injEq];exact ⟨by omega,by omega,by omega,natI_inj e,str_inj f,str_inj g,str_inj i,j,by omega⟩
theorem map_one {ps:List PW} {q:PW} (h:[pabs q]=ps.map pabs):ps=[q]:=by
 match ps,h with
 | [],h=>simp at h
 | [p],h =>
  simp only [List.map_cons,List.map_nil,List.cons.injEq,and_true] at h;rw [pabs_inj h]
 | _ :: _ :: _,h=>simp at h
theorem map_nil {ws1 ws:List Wr} (h:ws1.map Wr.abs=ws.map Wr.abs) (hw:ws=[]):ws1=[]:=by
 subst hw
 simpa using h
theorem nomake_one {x:RX} {l:List Part} {rs0:List (List UInt8)} {ch:Ch} {c:Int} {q:PW} (hws:x.ws=[]) (hck:x.ck<1099511627776) (hq:mkW x.id ch x.ck x.ap (.slice none 0 0)=pabs q) (hr:q.Ok) (hn:rs0.length≤300)
  (hp:(dev (putL x.gen l (rs0++[recW q]))).length≤x.dn.room):¬ NoMake x l rs0 [ch] c:=by
 rintro (h|h)
 ·obtain ⟨ws1,cs1,c0,cs2,own,all,ck,a,ws,hab,hcs,hpl,hh⟩:=h
  have e:=map_nil hab hws
  obtain ⟨e1,e2⟩:cs1=[]∧c0=ch:=by
   cases cs1 with
   | nil=>simp at hcs;exact ⟨rfl,hcs.1.symm⟩
   | cons y l=>simp at hcs
  subst e1 e2 e;obtain ⟨_,_,h3,h4,_⟩:=plan_zero hpl;subst h3 h4
  rcases hh with ⟨_,h⟩|⟨_,_,h⟩
  ·omega
  ·rw [hq] at h
   have h2:rightB (pabs q)=true:=by
    have:=wireb.right_pw q (.slice none 0 0);exact this.trans ((PW.right_iff q).2 hr)
   rw [h2] at h
   cases h
 ·obtain ⟨ws1,o,all,ck,a,ws,ps,hab,hpl,hps,hok,hne,h⟩:=h
  have e:=map_nil hab hws;subst e;obtain ⟨_,h2,_⟩:=plan_single hpl;rw [hps,hq] at h2;have:=map_one h2.symm;subst this;simp only [List.map_cons,List.map_nil] at h
  rcases h with ⟨_,h⟩|⟨_,_,h⟩
  ·simp at h;omega
  ·exact h hp
theorem made_one {x x':RX} {l:List Part} {rs0:List (List UInt8)} {ch:Ch} {o:List Wr} {q:PW} (h:MadeX x l rs0 [ch] x' o) (hws:x.ws=[]) (hq:mkW x.id ch x.ck x.ap (.slice none 0 0)=pabs q) :
  x'=takesX x l (rs0++[recW q]) [q] (withL x.ap x.id (atV x.ap x.id+1)) []:=by
 obtain ⟨ws1,all,ck,a,ws,ps,hab,hpl,hps,hok,hx,_⟩:=h;have e:=map_nil hab hws;subst e;obtain ⟨_,h2,_,h4,h5⟩:=plan_single hpl;rw [hps,hq] at h2;have:=map_one h2.symm;subst this h4 h5;exact hx
theorem mark_le {g pl:Nat} (h1:1≤g) (h2:g≤1099511627776) (hp:pl≤1099511627776):(Part.mk 4 g pl []).sealed.length≤121:=by
 have:=seal_le (Part.mk 4 g pl []) ⟨by show 1≤4;omega,by show 4≤4;omega,h1,h2,hp,by show 0≤4096;omega,.inr rfl⟩ 0 (by show 0≤0;omega);omega
theorem put_few {g K:Nat} {l:List Part} {rs:List (List UInt8)} (h1:1≤g) (h2:g≤1099511627776) (hl:(dev l).length≤K) (hK:K≤100000) (hn:rs.length≤10) (hrs:∀ s ∈ rs,s.length≤1000):(dev (putL g l rs)).length≤K+rs.length*2121+121:=by
 rw [put_len];have h3:=jrnp.recs_le g (dev l).length 1000 rs h1 h2 (by omega) (by omega) hrs;have h4:(dev (l++recsL g (dev l).length rs)).length≤K+rs.length*2121:=by rw [dev_app,List.length_append];omega
 have h5:=mark_le (g:=g) (pl:=(dev (l++recsL g (dev l).length rs)).length) h1 h2 (by omega);omega
end regn
namespace quota
open Go Go.RowKit base dec err above law merge rows store
def fullB (L:List R) (s k:ByteArray):Bool:=decide (16≤(keysL L s).length)&&!(keysL L s).any (fun t=>t.toList==k.toList)
def fitsC (L:List R) (s k:ByteArray):Int :=
 if k.toList.isEmpty=true∨32<k.size then 1 else if visC (atL L (s,⟨#[]⟩))=false then 14 else if fullB L s k=true then 4 else 0
end quota
namespace quota
open Go Go.RowKit base dec err above law merge rows store
def hasB (l:List ByteArray) (k:ByteArray):Bool:=l.any fun t=>t.toList==k.toList
theorem beq_comm' (a b:List UInt8):(a==b)=(b==a):=by rw [Bool.eq_iff_iff,beq_iff_eq,beq_iff_eq];exact eq_comm
def IndexR (l:List ByteArray) (k:ByteArray) (e:Ending):Prop:=(hasB l k=true∧∃ i:Nat,e=.returned (.int .i64 i))∨(hasB l k=false∧e=.returned (.int .i64 (-1)))
theorem index_any (A:Option Addr) (n c:Nat) (l:List ByteArray) (k:ByteArray) (w:World) (hl:l.length=n) (hn:n≤1000000) (hr:Reads w w.heap.size 1 A n (l.map Value.string)) :
  Calls Tryz.prog 245 #[.slice A n c,.string k] w fun e w'=>IndexR l k e∧w'=w:=by
 have Hl:=qH hl;have Hr:=qH hr;clear hl hr;go_enter Tryz.func245,Tryz.ntmps245;go_wp2
 go_loopw [8] (fun si wr=>∃ i:Nat,i≤n∧si=.int .i64 i∧hasB l k=hasB (l.drop i) k∧wr=w) (fun si _=>n-(intOf si).toNat)
 case atStart=>exact ⟨0,by omega,rfl,rfl,rfl⟩
 case round =>
  obtain ⟨i,hi,rfl,hb,rfl⟩:=hrel
  by_cases hlt:i<n
  ·obtain ⟨g,off,rfl,hg⟩:=Hr.out.at_some (by omega)
   have hcell:=text_atQ Hr.out Hl.out hlt
   have hdr:l.drop i=l.getD i ⟨#[]⟩ :: l.drop (i+1):=by
    rw [List.drop_eq_getElem_cons (by rw [Hl.out];exact hlt),List.getD_eq_getElem?_getD,List.getElem?_eq_getElem (by rw [Hl.out];exact hlt)];rfl
   rw [hdr] at hb;generalize l.getD i ⟨#[]⟩=t at *;have hb2:hasB l k=((k.toList==t.toList) || hasB (l.drop (i+1)) k):=by rw [hb,beq_comm'];rfl
   clear hdr hb
   cases q:(k.toList==t.toList) with
   | true =>
    have HV:=qH (show hasB l k=true by rw [hb2,q];rfl);clear hb2;go_wp2;go_ret
    exact ⟨.inl ⟨HV.out,i,rfl⟩,rfl⟩
   | false =>
    have HV:=qH (show hasB l k=hasB (l.drop (i+1)) k by rw [hb2,q];rfl);clear hb2;go_wp2;go_roundw
    case rel=>exact ⟨i+1,by omega,by go_num,HV.out,trivial⟩
    case measure=>simp [intOf];omega
  ·obtain rfl:n=i:=by omega
   have HV:=qH (show hasB l k=false by rw [hb,List.drop_eq_nil_of_le (by rw [Hl.out];omega)];rfl);clear hb;go_wp2;go_ret
   exact ⟨.inr ⟨HV.out,rfl⟩,rfl⟩
theorem contains_any (A:Option Addr) (n c:Nat) (l:List ByteArray) (k:ByteArray) (w:World) (hl:l.length=n) (hn:n≤1000000) (hr:Reads w w.heap.size 1 A n (l.map Value.string)) :
  Calls Tryz.prog 217 #[.slice A n c,.string k] w fun e w'=>e=.returned (.bool (hasB l k))∧w'=w:=by
 go_enter Tryz.func217,Tryz.ntmps217;go_wp2_with fail;refine (index_any A n c l k w hl hn hr).mono ?_;rintro e w1 ⟨⟨hb,i,rfl⟩|⟨hb,rfl⟩,rfl⟩
 ·have d0:decide ((0:Int)≤(i:Int))=true:=by simp
  have HB:=qH hb;clear hb;go_wp2;go_ret
  exact ⟨by rw [HB.out];rfl,rfl⟩
 ·have HB:=qH hb
  clear hb;go_wp2;go_ret
  exact ⟨by rw [HB.out];rfl,rfl⟩
def FitsR (c:Int) (w:World) (e:Ending) (w':World):Prop:=∃ v,e=.returned v∧EO w' v c∧Below w.heap.size w w'
theorem fits_any (g bm:Nat) (L:List R) (s k:ByteArray) (w:World) (h:StI w g bm L) (hl:L.length≤1000000) (hs:s.size≤maxLen) :
  Calls Tryz.prog 169 #[.pointer (some ⟨g,0,none⟩),.string s,.string k] w (FitsR (fitsC L s k) w):=by
 have H:=qH h;clear h;go_enter Tryz.func169,Tryz.ntmps169;go_wp2_with fail;refine (keys_any g bm L s w H.out hl).mono ?_;rintro e w1 ⟨v,rfl,hv,hb1⟩;obtain ⟨A,c,rfl⟩:=ownsRow_slice hv;have HRL:=qH (Reads.of_own hv);have HB1:=qH hb1;have H1:=qH (H.out.below hb1);have hll:(keysL L s).length≤L.length:=by unfold keysL;rw [List.length_map];exact List.length_filter_le _ _
 obtain ⟨n,hn⟩:∃ n,(keysL L s).length=n:=⟨_,rfl⟩;rw [hn] at HRL hll ⊢;have HN:=qH hn;clear hv hb1 hn
 by_cases h1:k.toList.isEmpty=true∨32<k.size
 ·have HF:=qH (show fitsC L s k=1 by unfold fitsC;rw [if_pos h1])
  by_cases h2:k.toList.isEmpty=true
  ·have q:k.toList.isEmpty=true:=h2
   clear h1;go_wp2_with fail;refine (bad_any 1 w1).mono ?_;rintro e w4 ⟨v,rfl,h1,h2,h3,_⟩;have HR:=qH (show FitsR (fitsC L s k) w (.returned v) w4 from ⟨v,rfl,.inr ⟨by rw [HF.out];decide,by rw [HF.out];exact h1,h2⟩,(below_step HB1.out h3)⟩);clear h1 h2 h3;go_wp2;go_ret
   exact HR.out
  ·have q:k.toList.isEmpty=false:=by simpa using h2
   have d:decide ((32:Int)<(k.size:Int))=true:=by rcases h1 with h|h;exact absurd h h2;simp;omega
   clear h1;go_wp2_with fail;refine (bad_any 1 w1).mono ?_;rintro e w4 ⟨v,rfl,h1,h2,h3,_⟩;have HR:=qH (show FitsR (fitsC L s k) w (.returned v) w4 from ⟨v,rfl,.inr ⟨by rw [HF.out];decide,by rw [HF.out];exact h1,h2⟩,(below_step HB1.out h3)⟩);clear h1 h2 h3;go_wp2;go_ret
   exact HR.out
 ·have q:k.toList.isEmpty=false:=by simp only [not_or] at h1;simpa using h1.1
  have d:decide ((32:Int)<(k.size:Int))=false:=by simp only [not_or] at h1;simp;omega
  have HH1:=qH h1;clear h1;go_wp2_with fail;refine (head_any g bm L s w1 H1.out hs).mono ?_;rintro e w2 ⟨rfl,hb2⟩;have HB2:=qH (below_step HB1.out hb2);have HRL2:=qH ((HRL.out.below hb2).more hb2.size);clear hb2 HRL HB1;obtain ⟨x,hx⟩:∃ x,atL L (s,⟨#[]⟩)=x:=⟨_,rfl⟩;rw [hx];have HX:=qH hx;clear hx;obtain ⟨t,r,v,gn,lf⟩:=x;unfold cval;dsimp only;go_wp2_with fail;refine (visible_any t r v gn lf w2).mono ?_;rintro e w3 ⟨rfl,hb3⟩;have HB3:=qH (below_step HB2.out hb3);have HRL3:=qH ((HRL2.out.below hb3).more hb3.size);clear hb3 HRL2 HB2
  cases hvs:(decide (0<t)&&!gn) with
  | false =>
   have HF:=qH (show fitsC L s k=14 by unfold fitsC;rw [if_neg HH1.out,if_pos (by rw [HX.out];exact hvs)]);clear hvs;go_wp2_with fail;refine (bad_any 14 w3).mono ?_;rintro e w4 ⟨v,rfl,h1,h2,h3,_⟩;have HR:=qH (show FitsR (fitsC L s k) w (.returned v) w4 from ⟨v,rfl,.inr ⟨by rw [HF.out];decide,by rw [HF.out];exact h1,h2⟩,(below_step HB3.out h3)⟩);clear h1 h2 h3;go_wp2;go_ret
   exact HR.out
  | true =>
   have HG:=qH (show fitsC L s k=if fullB L s k=true then 4 else 0 by unfold fitsC;rw [if_neg HH1.out,if_neg (by rw [HX.out];unfold visC;dsimp only;rw [hvs];decide)]);clear hvs
   by_cases h16:16≤n
   ·have d16:decide ((16:Int)≤(n:Int))=true:=by simp;omega
    go_wp2_with fail;refine (contains_any A n c (keysL L s) k w3 HN.out (by omega) HRL3.out).mono ?_;rintro e w5 ⟨rfl,rfl⟩
    cases hh:hasB (keysL L s) k with
    | true =>
     have HR:=qH (show FitsR (fitsC L s k) w (.returned .nilIface) w5 from ⟨_,rfl,.inl ⟨by
      rw [HG.out,if_neg];unfold fullB;unfold hasB at hh;rw [hh];simp,rfl⟩,HB3.out⟩)
     clear hh;go_wp2;go_ret
     exact HR.out
    | false =>
     have HF:=qH (show fitsC L s k=4 by
      rw [HG.out,if_pos];unfold fullB;unfold hasB at hh;rw [hh,HN.out];simpa using h16)
     clear hh;go_wp2_with fail;refine (bad_any 4 w5).mono ?_;rintro e w4 ⟨v,rfl,h1,h2,h3,_⟩;have HR:=qH (show FitsR (fitsC L s k) w (.returned v) w4 from ⟨v,rfl,.inr ⟨by rw [HF.out];decide,by rw [HF.out];exact h1,h2⟩,(below_step HB3.out h3)⟩);clear h1 h2 h3;go_wp2;go_ret
     exact HR.out
   ·have d16:decide ((16:Int)≤(n:Int))=false:=by simp;omega
    have HR:=qH (show FitsR (fitsC L s k) w (.returned .nilIface) w3 from ⟨_,rfl,.inl ⟨by
     rw [HG.out,if_neg];unfold fullB;rw [HN.out,decide_eq_false h16];simp,rfl⟩,HB3.out⟩)
    go_wp2;go_ret
    exact HR.out
end quota
namespace regn
open Go Go.RowKit base err fold store rows merge
section
variable {w:World} {r:Nat} {x:Rg}
theorem applied_r {gi:Nat} {S:Nat→Prop} {rg:Int} {ap:List Int} {ws:List wire.Wr} {va vw:Value} (h:RegB w r x) (hd:x.down=false) (hp:x.ib=.pointer (some ⟨gi,0,none⟩)) (hi:dep.InF w S gi rg ap ws va vw) :
  Calls Tryz.prog 50 #[.pointer (some ⟨r,0,none⟩)] w (vec.OwnL w (vec.trimL ap)):=by
 have c5:=h.c5;have hlt:=h.lt;have HD:=qH (down_any h);have HA:=qH (dep.applied_any gi rg S ap ws va vw w hi);rw [hp] at c5;rw [hd] at HD;clear h hd hp hi;go_enter Tryz.func50,Tryz.ntmps50;go_wp2_with fail;refine HD.out.mono ?_;rintro e w1 ⟨rfl,hw⟩;subst hw;go_wp2_with fail;refine HA.out.mono ?_;rintro e w2 ⟨v,rfl,ho,hb⟩;have HO:=qH ho;have HB:=qH hb;clear ho hb;go_wp2_with fail;go_ret
 exact ⟨v,rfl,HO.out,HB.out⟩
theorem fits_r {gs bs:Nat} {L:List R} (s k:ByteArray) (h:RegB w r x) (hd:x.down=false) (hp:x.st=.pointer (some ⟨gs,0,none⟩)) (hs:StI w gs bs L) (hl:L.length≤1000000) (h1:s.size≤maxLen) (hf:quota.fitsC L s k=0) :
  Calls Tryz.prog 104 #[.pointer (some ⟨r,0,none⟩),.string s,.string k] w fun e w'=>e=.returned .nilIface∧Below w.heap.size w w':=by
 have c6:=h.c6;have hlt:=h.lt;have HR:=qH h;have HD:=qH (down_any h);have HH:=qH (quota.fits_any gs bs L s k w hs hl h1);rw [hp] at c6;rw [hd] at HD;rw [hf] at HH;clear h hd hp hs h1;go_enter Tryz.func104,Tryz.ntmps104;go_wp2_with fail;refine HD.out.mono ?_;rintro e w1 ⟨rfl,hw⟩;subst hw;go_wp2_with fail;refine HH.out.mono ?_;rintro e w2 ⟨v,rfl,ho,hb⟩
 obtain rfl:v=.nilIface:=by
  rcases ho with ⟨_,h⟩|⟨h,_⟩
  ·exact h
  ·exact absurd rfl h
 have HB:=qH hb;have HR2:=qH (show RegB w2 r x from Blk.below HR.out hb hlt);clear ho hb;go_wp2_with fail;refine (rat_nil HR2.out).mono ?_;rintro e w3 ⟨rfl,hw⟩;subst hw;go_wp2_with fail;go_ret
 exact ⟨rfl,HB.out⟩
end
end regn
namespace regn
open Go Go.RowKit base err fold store rows merge rowe
section
variable {w:World} {r:Nat} {x:Rg}
theorem head_r {gs bs:Nat} {L:List R} (s:ByteArray) (h:RegB w r x) (hd:x.down=false) (hp:x.st=.pointer (some ⟨gs,0,none⟩)) (hs:StI w gs bs L) (h1:s.size≤maxLen) :
  Calls Tryz.prog 48 #[.pointer (some ⟨r,0,none⟩),.string s] w fun e w'=>e=.returned (cval (atL L (s,⟨#[]⟩)))∧Below w.heap.size w w':=by
 have hcb:=below_new w (.cells #[.int .i64 0,.int .i64 0,.string ⟨#[]⟩,.bool false,.int .i64 0] 130);have hr:RegB (w.alloc (.cells #[.int .i64 0,.int .i64 0,.string ⟨#[]⟩,.bool false,.int .i64 0] 130)) r x:=Blk.below h hcb h.lt;have HX:=qH (Blk.new w 130 #[.int .i64 0,.int .i64 0,.string ⟨#[]⟩,.bool false,.int .i64 0]);have HCB:=qH hcb;have hsz:(w.alloc (.cells #[.int .i64 0,.int .i64 0,.string ⟨#[]⟩,.bool false,.int .i64 0] 130)).heap.size=w.heap.size+1:=by simp
 have HD:=qH (down_any hr);have HH:=qH (head_any gs bs L s _ (hs.below hcb) h1);have c6:=hr.c6;have hlt:=hr.lt;rw [hp] at c6;rw [hd] at HD;clear h hs hcb hr hd hp;generalize hC:atL L (s,⟨#[]⟩)=C at *;obtain ⟨t,rg,v,gn,l⟩:=C;unfold cval at *;go_enter Tryz.func48,Tryz.ntmps48;go_wp2_with fail;generalize w.alloc _=w0 at *;refine HD.out.mono ?_;rintro e w1 ⟨rfl,hw⟩;subst hw;go_wp2_with fail;refine HH.out.mono ?_;rintro e w2 ⟨rfl,hb⟩;have HB:=qH hb;have HX2:=qH (HX.out.below hb (by omega));clear hb HX
 go_wp2_with (refine wpList_store_blk rfl 130 (.tmp 4) (.tmp 13) rfl w.heap.size [.int .i64 t,.int .i64 rg,.string v,.bool gn,.int .i64 l] rfl rfl HX2.out (by kernel_rfl) rfl rfl ?_;intro w3 ho hk hs3)
 have p0:w3.cell? ⟨w.heap.size,0,none⟩=some (.int .i64 t):=ho.cell 0;have p1:w3.cell? ⟨w.heap.size,1,none⟩=some (.int .i64 rg):=ho.cell 1;have p2:w3.cell? ⟨w.heap.size,2,none⟩=some (.string v):=ho.cell 2;have p3:w3.cell? ⟨w.heap.size,3,none⟩=some (.bool gn):=ho.cell 3;have p4:w3.cell? ⟨w.heap.size,4,none⟩=some (.int .i64 l):=ho.cell 4;have HFB:=qH ((HCB.out.trans (HB.out.mono (by omega))).trans (hk.below (B:=w.heap.size) (fun i hi e=>by omega) (by have:=HB.out.size;omega)));clear ho hk;exact bodyPost_ret (v:=.agg #[.int .i64 t,.int .i64 rg,.string v,.bool gn,.int .i64 l]) (by simp [results,Tryz.results48,go_sem,p0,p1,p2,p3,p4]) rfl ⟨rfl,HFB.out⟩
end
end regn
namespace gatew
open Go Go.RowKit Go.Lib base rowe wireb claimp tokw regn ringw monoj
theorem give_ok {own:Nat→Nat} {p:RP} {x:RX} (y:PC) (d:Value) (cx:List Nat) (now:Nat) (w:World) (h:RegI w own p x) (hT:bake.Tabs w) (hcx:vec.trimL x.ap=natI cx) (hok:({ y with is:=now,ke:=x.key,cx:=cx }:PC).Ok) (m1:1≤x.m.size) (m2:x.m.size≤64) (hk:x.key≤1099511627776) :
  Calls Tryz.prog 40 #[.pointer (some ⟨p.r,0,none⟩),.agg ⟨y.cells d⟩,.int .i64 now] w fun e w'=>e=.returned (.tuple #[.string (str (giveL x.m.data.toList { y with is:=now,ke:=x.key,cx:=cx })),.nilIface])∧Below w.heap.size w w':=by
 have hsm:∀ i,own i≠0→i<w.heap.size:=h.small;have hcb:=below_new w (.cells (y.cells d).toArray 37);have h0:=h.below hcb;have HT0:=qH hT;have HA:=qH (applied_r h0.reg rfl rfl h0.inb);rw [hcx] at HA;have HX0:=qH (Blk.new w 37 (y.cells d).toArray);have HCB:=qH hcb;have HR0:=qH h0;have hs0:(w.alloc (.cells (y.cells d).toArray 37)).heap.size=w.heap.size+1:=by simp
 have HOK:=qH hok;clear h hT hcb h0 hcx hok;unfold PC.cells at HX0 HCB HR0 HA hs0 ⊢;go_enter Tryz.func40,Tryz.ntmps40;go_wp2_with fail;generalize w.alloc _=w0 at *;refine HA.out.mono ?_;rintro e w1 ⟨v,rfl,ho,hb1⟩;rw [natI_len] at ho;obtain ⟨A,c,rfl⟩:=ownsRow_slice ho;have HX1:=qH (HX0.out.below hb1 (by omega));have HR1:=qH (HR0.out.below hb1);have HB1:=qH (HCB.out.trans (hb1.mono (by omega)));have hs1:=hb1.size;have HO1:=qH (show OwnN w1 w0.heap.size (.slice A cx.length c) cx from ho);have hx1:=HX1.out.lt;have f3:=HX1.out.frozen 3;have f5:=HX1.out.frozen 5;have p3:=HX1.out.cell 3;have p5:=HX1.out.cell 5;simp at p3 p5
 clear HX0 HR0 HCB hb1 HA ho;go_wp2_with fail;obtain ⟨W2,hW2⟩:∃ W2,(w1.setCell ⟨w.heap.size,3,none⟩ (.int .i64 now)).setCell ⟨w.heap.size,5,none⟩ (.slice A cx.length c)=W2:=⟨_,rfl⟩;have hk2:Keeps (fun i=>i=w.heap.size) w1 W2:=by rw [←hW2];exact (Keeps.set1 _ _ _ _).trans (Keeps.set1 _ _ _ _)
 have hx2:Blk W2 w.heap.size 37 #[.string (str y.se),.string (str y.us),.int .i64 y.ep,.int .i64 now,.int .i64 y.ke,.slice A cx.length c]:=by
  rw [←hW2];exact (HX1.out.set_ 3 (.int .i64 now)).set_ 5 (.slice A cx.length c)
 have hsz2:W2.heap.size=w1.heap.size:=by rw [←hW2];simp [World.setCell]
 rw [hW2];clear hW2 p3 p5 f3 f5 HX1;have HR2:=qH ((HR1.out.keeps hk2 (fun i hi e=>by have:=hsm i hi;omega)).drew);have HT2:=qH (show bake.Tabs W2 from HT0.out.below (HB1.out.trans (hk2.below (fun i hi e=>by omega) HB1.out.size)));have HN2:=qH (show wire.Nums W2 W2.heap.size (.slice A cx.length c) (natI cx) from nums_own HO1.out (by omega) (fun b o hb hlt=>hk2.cell o hlt (by omega)));have HB2:=qH (HB1.out.trans (hk2.below (fun i hi e=>by omega) HB1.out.size));have HX2:=qH hx2;obtain ⟨q0,q1,q2,q3,q4,q5⟩:=cells6 hx2;have hlt2:=hx2.lt;clear hx2 hk2 HR1 HT0 HB1 HO1;refine wp_region_mono nobody (by kernel_rfl) ?_
 iterate 2
  first|refine qT 0 (v:=?_) ?_ ?_|refine qT 2 (v:=?_) ?_ ?_
  rotate_left
  ·(intro W hSw;(have hcW:=hSw.cells;try simp only [qSd] at hcW);go_simp <;> rfl)
  try simp only [qPA]
 refine wpMono_one' 1 (by kernel_rfl) rfl (by rfl) (fun K hK=>?_)
 go_simp
 refine (ring_any HR2.out.reg rfl rfl HR2.out.ring m1 m2 hk).mono ?_;rintro e w3 ⟨g,rfl,hrb,hb3⟩;have HRB:=qH hrb;have HB3:=qH hb3;clear hrb hb3;refine hK.out _ _ ?_ ?_
 ·exact .of_below HB3.out
 clear hK K
 try simp only [qPA]
 refine wpMono_one' 3 (by kernel_rfl) rfl (by rfl) (fun K hK=>?_)
 go_simp
 refine (mint_ok g x.m x.key { y with is:=now,cx:=cx } (.slice A cx.length c) w3 HRB.out m2 hk ((HN2.out.below ((Below.refl _ _).drew.trans HB3.out)).more HB3.out.size) HOK.out).mono ?_;rintro e w4 ⟨rfl,hb4⟩;have HB4:=qH hb4;clear hb4;refine hK.out _ _ ?_ ?_
 ·exact .of_below HB4.out
 clear hK K
 iterate 5
  first|refine qT 4 (v:=?_) ?_ ?_|refine qT 5 (v:=?_) ?_ ?_|refine qT 6 (v:=?_) ?_ ?_|refine qT 7 (v:=?_) ?_ ?_|refine qT 8 (v:=?_) ?_ ?_
  rotate_left
  ·(intro W hSw;(have hcW:=hSw.cells;try simp only [qSd] at hcW);go_simp <;> rfl)
  try simp only [qPA]
 refine wpMono_done (by kernel_rfl) ?_ _;have hb24:Below W2.heap.size W2 w4:=(Below.refl _ W2).drew.trans (HB3.out.trans (HB4.out.mono HB3.out.size));have hb5:=HB2.out.trans (hb24.mono HB2.out.size);have HB5:=qH hb5;have HT5:=qH (show bake.Tabs w4 from HT2.out.below hb24);have hs5:=hb5.size;have htl:=tok_len (m:=x.m.data.toList) HOK.out;have hrg:=right_give x.m.data.toList { y with is:=now,ke:=x.key,cx:=cx };have HGV:=qH (show str (giveL x.m.data.toList { y with is:=now,ke:=x.key,cx:=cx })=bake.mkB (bake.headL nameB (str (tokL x.m.data.toList { y with is:=now,ke:=x.key,cx:=cx })) ⟨#[47]⟩ (-1) true true 2) from rfl);clear hb24 hb5 q0 q1 q2 q3 q4 q5 HX2 HR2 HN2 HB2 HT2 HB3 HB4 HRB;obtain ⟨TK,hTK⟩:∃ TK,str (tokL x.m.data.toList { y with is:=now,ke:=x.key,cx:=cx })=TK:=⟨_,rfl⟩;rw [hTK] at htl hrg HGV ⊢;go_wp2_with fail;have hW:=bake.write_any nameB TK ⟨#[47]⟩ (-1) true true 2 w4 (by decide) (by omega) (by decide) HT5.out;unfold bake.WriteR at hW;refine hW.mono ?_;rintro e w5 (⟨_,rfl,hb6⟩|⟨hf,_⟩);rotate_left
 ·rw [hrg] at hf;cases hf
 have HB6:=qH (HB5.out.trans (hb6.mono hs5));clear hb6 hW;rw [←HGV.out];go_wp2_with fail;go_ret2
 exact ⟨rfl,HB6.out⟩
end gatew
end Go.Proofs.YthlahcnglacekaaGreatDoor
