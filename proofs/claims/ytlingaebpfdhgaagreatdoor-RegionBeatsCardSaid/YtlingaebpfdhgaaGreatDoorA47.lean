/- A part of the proof of RegionBeats. -/
import Derived.Test.YtlingaebpfdhgaaGreatDoorA24
import Derived.Test.YtlingaebpfdhgaaGreatDoorA44
namespace Go.Proofs.YtlingaebpfdhgaaGreatDoor.quota
open Go Go.RowKit base dec err above law merge rows store
open Classical in
noncomputable def regOf (s:ByteArray):Nat:=if h:∃ a,∃ b,OkN a b∧s.data.toList=nm a b then h.choose else 0
theorem regOf_yes {s:ByteArray} {a b:Nat} (h:OkN a b) (e:s.data.toList=nm a b):regOf s=a:=by
 have hx:∃ a,∃ b,OkN a b∧s.data.toList=nm a b:=⟨a,b,h,e⟩
 unfold regOf
 rw [dif_pos hx]
 obtain ⟨b',_,e'⟩:=hx.choose_spec
 exact (nm_inj (e.symm.trans e')).1.symm
theorem regOf_no {s:ByteArray} (h:∀ a b,OkN a b→s.data.toList ≠ nm a b):regOf s=0:=by
 unfold regOf
 rw [dif_neg]
 rintro ⟨a,b,h1,h2⟩
 exact h a b h1 h2
noncomputable def ofB (r:Int) (s:ByteArray):Bool:=decide (regOf s ≠ 0) && decide ((regOf s:Int)=r)
noncomputable def opensL (L:List R) (r:Int):Nat:=((livesL L).filter (ofB r)).length
noncomputable def openB (r:Int) (x:R):Bool:=liveB x && ofB r x.1.1
theorem opens_eq (L:List R) (r:Int):opensL L r=(L.filter (openB r)).length:=by
 unfold opensL livesL
 rw [List.filter_map,List.length_map,List.filter_filter]
 congr 1
 refine List.filter_congr fun x _=>?_
 unfold openB
 exact Bool.and_comm _ _
theorem opens_le (L:List R) (r:Int):opensL L r≤L.length:=by rw [opens_eq];exact List.length_filter_le _ _
end Go.Proofs.YtlingaebpfdhgaaGreatDoor.quota
namespace Go.Proofs.YtlingaebpfdhgaaGreatDoor.quota
open Go Go.RowKit base dec err above law merge rows store
def Short (L:List R):Prop:=∀ p ∈ L,p.1.1.size≤1000000
theorem text_atQ {w:World} {b off B n:Nat} {l:List ByteArray} (h:Reads w B 1 (some ⟨b,off,none⟩) n (l.map Value.string)) (hl:l.length=n) {k:Nat} (hk:k < n):w.cell? ⟨b,off + k,none⟩=some (.string (l.getD k ⟨#[]⟩)):=by
 obtain ⟨b',off',e,_,hc⟩:=h.2 (by omega)
 injection e with e;injection e with e1 e2 _
 subst e1 e2
 rw [hc k (by simp;omega),List.getElem?_map,List.getElem?_eq_getElem (by omega),List.getD_eq_getElem?_getD,List.getElem?_eq_getElem (by omega)]
 rfl
theorem ofB_yes {r:Int} {s:ByteArray} {a b:Nat} (h:OkN a b) (e:s.data.toList=nm a b):ofB r s=((a:Int) == r):=by
 have ha:a ≠ 0:=by unfold OkN at h;omega
 unfold ofB
 rw [regOf_yes h e,decide_eq_true ha,Bool.true_and]
 exact Bool.eq_iff_iff.2 (by simp)
theorem ofB_no {r:Int} {s:ByteArray} (h:∀ a b,OkN a b→s.data.toList ≠ nm a b):ofB r s=false:=by
 unfold ofB
 rw [regOf_no h]
 rfl
theorem filter_next {l:List ByteArray} (p:ByteArray→Bool) {k:Nat} (hk:k < l.length):((l.take (k + 1)).filter p).length=((l.take k).filter p).length + (p (l.getD k ⟨#[]⟩)).toNat:=by
 rw [List.take_succ_eq_append_getElem hk,List.filter_append,List.length_append,List.getD_eq_getElem?_getD,List.getElem?_eq_getElem hk]
 congr 1
 show ([l[k]].filter p).length=(p l[k]).toNat
 rw [List.filter_cons]
 cases p l[k] <;> rfl
theorem lives_short {L:List R} (h:Short L) {k:Nat} (hk:k < (livesL L).length):((livesL L).getD k ⟨#[]⟩).size≤1000000:=by
 rw [List.getD_eq_getElem?_getD,List.getElem?_eq_getElem hk]
 show (livesL L)[k].size≤1000000
 have hm:(livesL L)[k] ∈ livesL L:=List.getElem_mem hk
 unfold livesL at hm
 obtain ⟨x,hx,e⟩:=List.mem_map.1 hm
 have:=h x (List.mem_filter.1 hx).1
 have e2:(livesL L)[k]=x.1.1:=by unfold livesL;exact e.symm
 rw [e2];exact this
theorem lives_le (L:List R):(livesL L).length≤L.length:=by unfold livesL;rw [List.length_map];exact List.length_filter_le _ _
set_option maxRecDepth 100000 in
set_option maxHeartbeats 2000000 in
theorem opens_any (g bm:Nat) (L:List R) (r:Int) (w:World) (h:StI w g bm L) (hl:L.length≤1000000) (hs:Short L) (ht:Tabs w) :
  Calls Tryz.prog 106 #[.pointer (some ⟨g,0,none⟩),.int .i64 r] w fun e w'=>e=.returned (.int .i64 (opensL L r:Nat))∧Below w.heap.size w w':=by
 have H:=Lib.hid h
 have Hs:=Lib.hid hs
 have Ht:=Lib.hid ht
 clear h hs ht
 go_enter Tryz.func106,Tryz.ntmps106
 go_wp2_with fail
 refine (lives_any g bm L w H.out hl).mono ?_
 rintro e w1 ⟨v,rfl,hv,hb1⟩
 obtain ⟨A,c,rfl⟩:=ownsRow_slice hv
 have HRL:=Lib.hid (Reads.of_own hv)
 have HB1:=Lib.hid hb1
 have HT1:=Lib.hid (Ht.out.below hb1)
 have hll:=lives_le L
 obtain ⟨nl,hnl⟩:∃ nl,(livesL L).length=nl:=⟨_,rfl⟩
 rw [hnl] at HRL hll ⊢
 have HNL:=Lib.hid hnl
 clear hv hb1 hnl
 go_wp2_with fail
 go_loopw [5,14] (fun sn si wr=>∃ k:Nat,k≤nl∧si=.int .i64 k∧sn=.int .i64 (((livesL L).take k).filter (ofB r)).length∧Below w1.heap.size w1 wr) (fun _ si _=>nl - (intOf si).toNat)
 case atStart=>exact ⟨0,by omega,rfl,rfl,Below.refl _ _⟩
 case round =>
  obtain ⟨k,hk,rfl,rfl,i1⟩:=hrel
  have hle:(((livesL L).take k).filter (ofB r)).length≤k:=by have:=List.length_filter_le (ofB r) ((livesL L).take k);have:=List.length_take_le k (livesL L);omega
  by_cases hlt:k < nl
  ·obtain ⟨gl,off,rfl,hgl⟩:=HRL.out.at_some (by omega)
   have hcell:=text_atQ (HRL.out.below i1) HNL.out hlt
   have hgl2:gl < wr.heap.size:=by have:=i1.size;omega
   have HSH:=Lib.hid (lives_short Hs.out (show k < (livesL L).length by rw [HNL.out];exact hlt))
   have HNX:=Lib.hid (filter_next (ofB r) (show k < (livesL L).length by rw [HNL.out];exact hlt))
   obtain ⟨s,hsn⟩:∃ s,(livesL L).getD k ⟨#[]⟩=s:=⟨_,rfl⟩
   rw [hsn] at hcell HSH HNX
   have HTr:=Lib.hid (HT1.out.below i1)
   have I1:=Lib.hid i1
   generalize hq:(((livesL L).take k).filter (ofB r)).length=q at *
   clear i1 hsn
   go_wp2_with fail
   refine (parse_any s wr HSH.out HTr.out).mono ?_
   rintro e w2 (⟨a,b,hok,hs2,rfl,hb2⟩|⟨hno,v,rfl,herr,hnn,hb2⟩)
   ·have I2:=Lib.hid (below_step I1.out hb2)
    have hof:=ofB_yes (r:=r) hok hs2
    cases har:((a:Int) == r) with
    | true =>
     have HV:=Lib.hid (show (((livesL L).take (k + 1)).filter (ofB r)).length=q + 1 by rw [HNX.out,hof,har];rfl)
     clear hof hok hs2 hb2
     go_wp2
     go_roundw
     case rel=>exact ⟨k + 1,by omega,by go_num,by rw [HV.out];go_num,I2.out⟩
     case measure=>simp [intOf];omega
    | false =>
     have HV:=Lib.hid (show (((livesL L).take (k + 1)).filter (ofB r)).length=q by rw [HNX.out,hof,har];rfl)
     clear hof hok hs2 hb2
     go_wp2
     go_roundw
     case rel=>exact ⟨k + 1,by omega,by go_num,by rw [HV.out],I2.out⟩
     case measure=>simp [intOf];omega
   ·have I2:=Lib.hid (below_step I1.out hb2)
    have HV:=Lib.hid (show (((livesL L).take (k + 1)).filter (ofB r)).length=q by rw [HNX.out,ofB_no hno];rfl)
    obtain ⟨ge,rfl⟩:=herr.form
    clear hno herr hnn hb2
    go_wp2
    go_roundw
    case rel=>exact ⟨k + 1,by omega,by go_num,by rw [HV.out],I2.out⟩
    case measure=>simp [intOf];omega
  ·obtain rfl:nl=k:=by omega
   have HR:=Lib.hid (show (((livesL L).take nl).filter (ofB r)).length=opensL L r by unfold opensL;rw [List.take_of_length_le (by rw [HNL.out];omega)])
   have HB:=Lib.hid (below_step HB1.out i1)
   clear i1
   go_wp2
   go_ret
   exact ⟨by rw [HR.out];rfl,HB.out⟩
def RoomR (n:Nat) (w:World) (e:Ending) (w':World):Prop:=∃ v,e=.returned v∧Below w.heap.size w w'∧((n < 32∧v=.nilIface) ∨ (32≤n∧Err w' v 4∧v ≠ .nilIface))
set_option maxHeartbeats 1000000 in
theorem room_any (g bm:Nat) (L:List R) (r:Int) (w:World) (h:StI w g bm L) (hl:L.length≤1000000) (hs:Short L) (ht:Tabs w) :
  Calls Tryz.prog 50 #[.pointer (some ⟨g,0,none⟩),.int .i64 r] w (RoomR (opensL L r) w):=by
 have H:=Lib.hid h
 have Hs:=Lib.hid hs
 have Ht:=Lib.hid ht
 clear h hs ht
 have hle:=opens_le L r
 go_enter Tryz.func50,Tryz.ntmps50
 go_wp2_with fail
 refine (opens_any g bm L r w H.out hl Hs.out Ht.out).mono ?_
 rintro e w1 ⟨rfl,hb1⟩
 have HB1:=Lib.hid hb1
 clear hb1
 generalize opensL L r=n at *
 by_cases hn:32≤n
 ·go_wp2_with fail
  refine (bad_any 4 w1).mono ?_
  rintro e w2 ⟨v,rfl,h1,h2,h3,_⟩
  have HF:=Lib.hid (show RoomR n w (.returned v) w2 from ⟨v,rfl,below_step HB1.out h3,.inr ⟨hn,h1,h2⟩⟩)
  clear h1 h2 h3
  go_wp2
  go_ret
  exact HF.out
 ·have HF:=Lib.hid (show RoomR n w (.returned .nilIface) w1 from ⟨_,rfl,HB1.out,.inl ⟨by omega,rfl⟩⟩)
  go_wp2
  go_ret
  exact HF.out
end Go.Proofs.YtlingaebpfdhgaaGreatDoor.quota
