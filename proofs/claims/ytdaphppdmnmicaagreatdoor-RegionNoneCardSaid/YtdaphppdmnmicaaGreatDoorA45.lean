/- A part of the proof of RegionNone: OpenP, OpensQ. -/
import Derived.Test.YtdaphppdmnmicaaGreatDoorA22
import Derived.Test.YtdaphppdmnmicaaGreatDoorA42
namespace Go.Proofs.YtdaphppdmnmicaaGreatDoor.quota
open Go Go.RowKit base dec err above law merge rows store
def oldN (p:R→Bool) (L:List R) (x:Nm):Nat:=match getL L x with|none=>0|some d=>(p (x,d)).toNat
theorem filter_cons_len (p:R→Bool) (q:R) (L:List R):((q :: L).filter p).length=(p q).toNat + (L.filter p).length:=by
 rw [List.filter_cons]
 cases p q <;> simp <;> omega
theorem cnt_put {L:List R} (hr:Rising L) (p:R→Bool) (x:Nm) (c:C):((putL L x c).filter p).length + oldN p L x=(L.filter p).length + (p (x,c)).toNat:=by
 induction L with
 | nil=>unfold putL oldN getL;simp [List.filter_cons];cases p (x,c) <;> rfl
 | cons q L ih =>
  obtain ⟨h1,h2⟩:=List.pairwise_cons.1 hr
  have ih:=ih h2
  unfold putL
  by_cases hq:q.1=x
  ·rw [if_pos hq,filter_cons_len,filter_cons_len]
   unfold oldN
   rw [getL_cons,if_pos hq]
   have:(x,q.2)=q:=Prod.ext hq.symm rfl
   dsimp only
   rw [this]
   omega
  ·rw [if_neg hq]
   by_cases hlt:ltN x q.1=true
   ·rw [if_pos hlt,filter_cons_len]
    have:getL (q :: L) x=none:=getL_none.2 fun y hy=>by
     rcases List.mem_cons.1 hy with rfl|hy
     ·exact hq
     ·exact (ltN_ne (ltN_trans hlt (h1 y hy))).symm
    unfold oldN
    rw [this]
    dsimp only
    omega
   ·rw [if_neg hlt,filter_cons_len,filter_cons_len]
    have:oldN p (q :: L) x=oldN p L x:=by unfold oldN;rw [getL_cons,if_neg hq]
    rw [this]
    omega
open Classical in
noncomputable def regOf (s:ByteArray):Nat:=if h:∃ a,∃ b,OkN a b∧s.data.toList=nm a b then h.choose else 0
theorem regOf_yes {s:ByteArray} {a b:Nat} (h:OkN a b) (e:s.data.toList=nm a b):regOf s=a:=by
 have hx:∃ a,∃ b,OkN a b∧s.data.toList=nm a b:=⟨a,b,h,e⟩
 unfold regOf
 rw [dif_pos hx]
 obtain ⟨b',_,e'⟩:=hx.choose_spec
 exact (nm_inj (e.symm.trans e')).1.symm
theorem regOf_no {s:ByteArray} (h:∀ a b,OkN a b→s.data.toList ≠ nm a b):regOf s=0:=by
 unfold regOf
 rw [dif_neg]
 rintro ⟨a,b,h1,h2⟩
 exact h a b h1 h2
noncomputable def ofB (r:Int) (s:ByteArray):Bool:=decide (regOf s ≠ 0) && decide ((regOf s:Int)=r)
noncomputable def opensL (L:List R) (r:Int):Nat:=((livesL L).filter (ofB r)).length
noncomputable def openB (r:Int) (x:R):Bool:=liveB x && ofB r x.1.1
theorem opens_eq (L:List R) (r:Int):opensL L r=(L.filter (openB r)).length:=by
 unfold opensL livesL
 rw [List.filter_map,List.length_map,List.filter_filter]
 congr 1
 refine List.filter_congr fun x _=>?_
 unfold openB
 exact Bool.and_comm _ _
theorem opens_le (L:List R) (r:Int):opensL L r≤L.length:=by rw [opens_eq];exact List.length_filter_le _ _
theorem opens_take {L:List R} (hr:Rising L) (r:Int) (x:Nm) (c:C):opensL (takeL L x c) r + oldN (openB r) L x=opensL L r + (openB r (x,takeC (getL L x) c)).toNat:=by
 rw [opens_eq,opens_eq]
 exact cnt_put hr _ _ _
def nmB (a b:Nat):Nm:=(str (nm a b),⟨#[]⟩)
def beg (a t:Nat) (g:Bool):C:=⟨t,a,⟨#[]⟩,g,0⟩
structure RoomI (i j:Nat) (L:List R):Prop where
 at_:∀ a b,OkN a b→getL L (nmB a b)=if (a=3∧b≤i) ∨ (a=2∧b≤j) then some (beg a 1 false) else none
 o3:opensL L 3=i
 o2:opensL L 2=j
 len:L.length≤i + j
theorem str_inj {a b:List UInt8} (h:str a=str b):a=b:=by
 have:=congrArg (fun s:ByteArray=>s.data.toList) h
 exact this
theorem openB_nm {r:Int} {a b:Nat} (h:OkN a b) (c:C):openB r (nmB a b,c)=(visC c && decide ((a:Int)=r)):=by
 have e:regOf (str (nm a b))=a:=regOf_yes h rfl
 unfold openB liveB ofB nmB
 dsimp only
 rw [e]
 have ha:a ≠ 0:=by unfold OkN at h;omega
 simp [ha]
theorem RoomI.nil:RoomI 0 0 []:=⟨fun a b h=>by
 rw [if_neg (by unfold OkN at h;omega)];rfl,rfl,rfl,by simp⟩
theorem vis_beg (a:Nat):visC (beg a 1 false)=true:=rfl
theorem RoomI.over {i j b:Nat} {L:List R} (hr:Rising L) (h:RoomI i j L) (hb:1≤b) (hbi:b≤i) (hi:i≤40):opensL (takeL L (nmB 3 b) (beg 3 2 true)) 3=i - 1:=by
 have hok:OkN 3 b:=by unfold OkN;omega
 have hn:getL L (nmB 3 b)=some (beg 3 1 false):=by rw [h.at_ _ _ hok,if_pos (by omega)]
 have hc:takeC (getL L (nmB 3 b)) (beg 3 2 true)=beg 3 2 true:=by
  rw [hn]
  show (if above (beg 3 2 true) (beg 3 1 false)=true then beg 3 2 true else beg 3 1 false)=_
  rw [if_pos (by decide)]
 have h3:=opens_take hr 3 (nmB 3 b) (beg 3 2 true)
 have ho:oldN (openB 3) L (nmB 3 b)=1:=by
  unfold oldN
  rw [hn]
  dsimp only
  rw [openB_nm hok,vis_beg]
  rfl
 have hv:visC (beg 3 2 true)=false:=rfl
 rw [hc,openB_nm hok,hv,ho,h.o3] at h3
 simp at h3
 omega
end Go.Proofs.YtdaphppdmnmicaaGreatDoor.quota
namespace Go.Proofs.YtdaphppdmnmicaaGreatDoor.quota
open Go Go.RowKit base dec err above law merge rows store
def Short (L:List R):Prop:=∀ p ∈ L,p.1.1.size≤1000000
theorem text_atQ {w:World} {b off B n:Nat} {l:List ByteArray} (h:Reads w B 1 (some ⟨b,off,none⟩) n (l.map Value.string)) (hl:l.length=n) {k:Nat} (hk:k < n):w.cell? ⟨b,off + k,none⟩=some (.string (l.getD k ⟨#[]⟩)):=by
 obtain ⟨b',off',e,_,hc⟩:=h.2 (by omega)
 injection e with e;injection e with e1 e2 _
 subst e1 e2
 rw [hc k (by simp;omega),List.getElem?_map,List.getElem?_eq_getElem (by omega),List.getD_eq_getElem?_getD,List.getElem?_eq_getElem (by omega)]
 rfl
theorem ofB_yes {r:Int} {s:ByteArray} {a b:Nat} (h:OkN a b) (e:s.data.toList=nm a b):ofB r s=((a:Int) == r):=by
 have ha:a ≠ 0:=by unfold OkN at h;omega
 unfold ofB
 rw [regOf_yes h e,decide_eq_true ha,Bool.true_and]
 exact Bool.eq_iff_iff.2 (by simp)
theorem ofB_no {r:Int} {s:ByteArray} (h:∀ a b,OkN a b→s.data.toList ≠ nm a b):ofB r s=false:=by
 unfold ofB
 rw [regOf_no h]
 rfl
theorem filter_next {l:List ByteArray} (p:ByteArray→Bool) {k:Nat} (hk:k < l.length):((l.take (k + 1)).filter p).length=((l.take k).filter p).length + (p (l.getD k ⟨#[]⟩)).toNat:=by
 rw [List.take_succ_eq_append_getElem hk,List.filter_append,List.length_append,List.getD_eq_getElem?_getD,List.getElem?_eq_getElem hk]
 congr 1
 show ([l[k]].filter p).length=(p l[k]).toNat
 rw [List.filter_cons]
 cases p l[k] <;> rfl
theorem lives_short {L:List R} (h:Short L) {k:Nat} (hk:k < (livesL L).length):((livesL L).getD k ⟨#[]⟩).size≤1000000:=by
 rw [List.getD_eq_getElem?_getD,List.getElem?_eq_getElem hk]
 show (livesL L)[k].size≤1000000
 have hm:(livesL L)[k] ∈ livesL L:=List.getElem_mem hk
 unfold livesL at hm
 obtain ⟨x,hx,e⟩:=List.mem_map.1 hm
 have:=h x (List.mem_filter.1 hx).1
 have e2:(livesL L)[k]=x.1.1:=by unfold livesL;exact e.symm
 rw [e2];exact this
theorem lives_le (L:List R):(livesL L).length≤L.length:=by unfold livesL;rw [List.length_map];exact List.length_filter_le _ _
set_option maxRecDepth 100000 in
set_option maxHeartbeats 2000000 in
theorem opens_any (g bm:Nat) (L:List R) (r:Int) (w:World) (h:StI w g bm L) (hl:L.length≤1000000) (hs:Short L) (ht:Tabs w) :
  Calls Tryz.prog 114 #[.pointer (some ⟨g,0,none⟩),.int .i64 r] w fun e w'=>e=.returned (.int .i64 (opensL L r:Nat))∧Below w.heap.size w w':=by
 have H:=Lib.hid h
 have Hs:=Lib.hid hs
 have Ht:=Lib.hid ht
 clear h hs ht
 go_enter Tryz.func114,Tryz.ntmps114
 go_wp2_with fail
 refine (lives_any g bm L w H.out hl).mono ?_
 rintro e w1 ⟨v,rfl,hv,hb1⟩
 obtain ⟨A,c,rfl⟩:=ownsRow_slice hv
 have HRL:=Lib.hid (Reads.of_own hv)
 have HB1:=Lib.hid hb1
 have HT1:=Lib.hid (Ht.out.below hb1)
 have hll:=lives_le L
 obtain ⟨nl,hnl⟩:∃ nl,(livesL L).length=nl:=⟨_,rfl⟩
 rw [hnl] at HRL hll ⊢
 have HNL:=Lib.hid hnl
 clear hv hb1 hnl
 go_wp2_with fail
 go_loopw [5,14] (fun sn si wr=>∃ k:Nat,k≤nl∧si=.int .i64 k∧sn=.int .i64 (((livesL L).take k).filter (ofB r)).length∧Below w1.heap.size w1 wr) (fun _ si _=>nl - (intOf si).toNat)
 case atStart=>exact ⟨0,by omega,rfl,rfl,Below.refl _ _⟩
 case round =>
  obtain ⟨k,hk,rfl,rfl,i1⟩:=hrel
  have hle:(((livesL L).take k).filter (ofB r)).length≤k:=by have:=List.length_filter_le (ofB r) ((livesL L).take k);have:=List.length_take_le k (livesL L);omega
  by_cases hlt:k < nl
  ·obtain ⟨gl,off,rfl,hgl⟩:=HRL.out.at_some (by omega)
   have hcell:=text_atQ (HRL.out.below i1) HNL.out hlt
   have hgl2:gl < wr.heap.size:=by have:=i1.size;omega
   have HSH:=Lib.hid (lives_short Hs.out (show k < (livesL L).length by rw [HNL.out];exact hlt))
   have HNX:=Lib.hid (filter_next (ofB r) (show k < (livesL L).length by rw [HNL.out];exact hlt))
   obtain ⟨s,hsn⟩:∃ s,(livesL L).getD k ⟨#[]⟩=s:=⟨_,rfl⟩
   rw [hsn] at hcell HSH HNX
   have HTr:=Lib.hid (HT1.out.below i1)
   have I1:=Lib.hid i1
   generalize hq:(((livesL L).take k).filter (ofB r)).length=q at *
   clear i1 hsn
   go_wp2_with fail
   refine (parse_any s wr HSH.out HTr.out).mono ?_
   rintro e w2 (⟨a,b,hok,hs2,rfl,hb2⟩|⟨hno,v,rfl,herr,hnn,hb2⟩)
   ·have I2:=Lib.hid (below_step I1.out hb2)
    have hof:=ofB_yes (r:=r) hok hs2
    cases har:((a:Int) == r) with
    | true =>
     have HV:=Lib.hid (show (((livesL L).take (k + 1)).filter (ofB r)).length=q + 1 by rw [HNX.out,hof,har];rfl)
     clear hof hok hs2 hb2
     go_wp2
     go_roundw
     case rel=>exact ⟨k + 1,by omega,by go_num,by rw [HV.out];go_num,I2.out⟩
     case measure=>simp [intOf];omega
    | false =>
     have HV:=Lib.hid (show (((livesL L).take (k + 1)).filter (ofB r)).length=q by rw [HNX.out,hof,har];rfl)
     clear hof hok hs2 hb2
     go_wp2
     go_roundw
     case rel=>exact ⟨k + 1,by omega,by go_num,by rw [HV.out],I2.out⟩
     case measure=>simp [intOf];omega
   ·have I2:=Lib.hid (below_step I1.out hb2)
    have HV:=Lib.hid (show (((livesL L).take (k + 1)).filter (ofB r)).length=q by rw [HNX.out,ofB_no hno];rfl)
    obtain ⟨ge,rfl⟩:=herr.form
    clear hno herr hnn hb2
    go_wp2
    go_roundw
    case rel=>exact ⟨k + 1,by omega,by go_num,by rw [HV.out],I2.out⟩
    case measure=>simp [intOf];omega
  ·obtain rfl:nl=k:=by omega
   have HR:=Lib.hid (show (((livesL L).take nl).filter (ofB r)).length=opensL L r by unfold opensL;rw [List.take_of_length_le (by rw [HNL.out];omega)])
   have HB:=Lib.hid (below_step HB1.out i1)
   clear i1
   go_wp2
   go_ret
   exact ⟨by rw [HR.out];rfl,HB.out⟩
def RoomR (n:Nat) (w:World) (e:Ending) (w':World):Prop:=∃ v,e=.returned v∧Below w.heap.size w w'∧((n < 32∧v=.nilIface) ∨ (32≤n∧Err w' v 4∧v ≠ .nilIface))
set_option maxHeartbeats 1000000 in
theorem room_any (g bm:Nat) (L:List R) (r:Int) (w:World) (h:StI w g bm L) (hl:L.length≤1000000) (hs:Short L) (ht:Tabs w) :
  Calls Tryz.prog 44 #[.pointer (some ⟨g,0,none⟩),.int .i64 r] w (RoomR (opensL L r) w):=by
 have H:=Lib.hid h
 have Hs:=Lib.hid hs
 have Ht:=Lib.hid ht
 clear h hs ht
 have hle:=opens_le L r
 go_enter Tryz.func44,Tryz.ntmps44
 go_wp2_with fail
 refine (opens_any g bm L r w H.out hl Hs.out Ht.out).mono ?_
 rintro e w1 ⟨rfl,hb1⟩
 have HB1:=Lib.hid hb1
 clear hb1
 generalize opensL L r=n at *
 by_cases hn:32≤n
 ·go_wp2_with fail
  refine (bad_any 4 w1).mono ?_
  rintro e w2 ⟨v,rfl,h1,h2,h3,_⟩
  have HF:=Lib.hid (show RoomR n w (.returned v) w2 from ⟨v,rfl,below_step HB1.out h3,.inr ⟨hn,h1,h2⟩⟩)
  clear h1 h2 h3
  go_wp2
  go_ret
  exact HF.out
 ·have HF:=Lib.hid (show RoomR n w (.returned .nilIface) w1 from ⟨_,rfl,HB1.out,.inl ⟨by omega,rfl⟩⟩)
  go_wp2
  go_ret
  exact HF.out
end Go.Proofs.YtdaphppdmnmicaaGreatDoor.quota
