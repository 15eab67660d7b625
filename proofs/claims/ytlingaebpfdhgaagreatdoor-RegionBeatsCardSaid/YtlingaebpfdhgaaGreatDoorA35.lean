/- A part of the proof of RegionBeats: DecBeat. -/
import Derived.Test.YtlingaebpfdhgaaGreatDoorA27
import Derived.Test.YtlingaebpfdhgaaGreatDoorA17
import Derived.Test.YtlingaebpfdhgaaGreatDoorA01
namespace Go.Proofs.YtlingaebpfdhgaaGreatDoor.regn
open Go Go.RowKit base err rowe list new tab wireb wirep writep inp monok
def msgC (k tm:Int) (v:Value) (key:Int):Array Value:=#[.int .i64 k,.slice none 0 0,.slice none 0 0,.int .i64 0,.int .i64 tm,v,.int .i64 key]
def DecR (L:List Ep) (key tm:Nat) (w:World) (e:Ending) (w':World):Prop :=
 ∃ A len cap,e=.returned (.tuple #[.agg (msgC 4 tm (.slice A len cap) key),.nilIface])∧Eps w' w'.heap.size A len cap L∧Below w.heap.size w w'
theorem in_keeps {w w':World} {g:Nat} {s:ByteArray} {l:List UInt8} {X:Nat→Prop} (h:InB w g s (some l)) (hk:Keeps X w w') (hx:¬ X g):InB w' g s (some l):=by
 obtain ⟨n,x,hb,h1,h2,h3⟩:=h
 rcases h3 with ⟨l',e,rfl,hl⟩|⟨h,_⟩
 ·exact ⟨n,_,Blk.keeps hb hk hx,h1,h2,.inl ⟨l',e,rfl,hl⟩⟩
 ·cases h
set_option maxRecDepth 20000 in
set_option maxHeartbeats 4000000 in
theorem decode_beat (L:List Ep) (key tm:Nat) (w:World) (hB:BeatB 0 0 0 tm L key):Calls Tryz.prog 40 #[.string (str (beatW L key tm))] w (DecR L key tm w):=by
 have HBE:=Lib.hid hB
 obtain ⟨_,_,_,hG,⟨_,hk2⟩,_,ht2⟩:=hB
 have h64:=hG.2.1
 have HG:=Lib.hid hG
 have HBW:=Lib.hid (show beatW L key tm=numW 4 ++ (numW L.length ++ (L.flatMap epW ++ (numW key ++ numW tm))) from by
  unfold beatW epsW
  simp only [List.append_assoc]
  rfl)
 have hlen:(beatW L key tm).length≤10000:=by
  have h1:=eps_le hG.2.2 64 (by omega)
  rw [List.take_of_length_le h64] at h1
  have h2:=numW_len 8 L.length (by omega)
  have h3:=numW_len 8 4 (by omega)
  have h4:=numW_len 8 key (by omega)
  have h5:=numW_len 8 tm (by omega)
  rw [HBW.out]
  simp only [List.length_append]
  omega
 have hss:(str (beatW L key tm)).size≤maxLen:=by rw [str_size];unfold maxLen;omega
 obtain ⟨n,hn⟩:∃ n,L.length=n:=⟨_,rfl⟩
 have HN:=Lib.hid hn
 rw [hn] at HBW h64
 have HSL:=Lib.hid (str_list (beatW L key tm))
 generalize str (beatW L key tm)=s at *
 obtain ⟨i0,hif,hz0,hz1,hz2⟩:=info_parts ep_info
 have Hi0:=Lib.hid hif
 have Hz0:=Lib.hid hz0
 have Hz1:=Lib.hid hz1
 have Hz2:=Lib.hid hz2
 clear hG hlen hn hif hz0 hz1 hz2
 go_enter Tryz.func40,Tryz.ntmps40
 go_wp2_with fail
 have hbA:=below_new w (.cells (msgC 0 0 (.slice none 0 0) 0) 27)
 have HRes:=Lib.hid (Blk.new w 27 (msgC 0 0 (.slice none 0 0) 0))
 have HBA:=Lib.hid hbA
 have hsA:=hbA.size
 clear hbA
 unfold msgC at *
 generalize w.alloc (.cells #[.int .i64 0,.slice none 0 0,.slice none 0 0,.int .i64 0,.int .i64 0,.slice none 0 0,.int .i64 0] 27)=w0 at *
 refine (read_in w0 s hss).mono ?_
 rintro e w1 ⟨rfl,hi1,hb1⟩
 rw [HSL.out,HBW.out] at hi1
 have HI1:=Lib.hid hi1
 have HR1:=Lib.hid (HRes.out.below hb1 HRes.out.lt)
 have HB1:=Lib.hid (HBA.out.trans (hb1.mono hsA))
 obtain ⟨gi,hgi⟩:∃ g,w0.heap.size=g:=⟨_,rfl⟩
 obtain ⟨gr,hgr⟩:∃ g,w.heap.size=g:=⟨_,rfl⟩
 have hgg:gr < gi:=by have:=HRes.out.lt;omega
 rw [hgi] at HI1 ⊢
 rw [hgr] at HR1 ⊢
 clear hi1 hb1 HRes HBA hsA
 go_wp2_with fail
 refine (num_in 4 HI1.out).mono ?_
 rw [numI_back _ (by omega) (by omega)]
 rintro e w2 ⟨rfl,hi2,hk2⟩
 have HI2:=Lib.hid hi2
 have HR2:=Lib.hid (Blk.keeps HR1.out hk2 (by omega))
 have HB2:=Lib.hid (HB1.out.trans (hk2.below (B:=w.heap.size) (fun i hi e=>by have e:i=gi:=e;omega) HB1.out.size))
 clear hi2 hk2 HI1 HR1 HB1
 go_wp2_with fail
 have hbM:=below_new w2 (.cells #[.int .i64 4,.slice none 0 0,.slice none 0 0,.int .i64 0,.int .i64 0,.slice none 0 0,.int .i64 0] 27)
 have HI3:=Lib.hid (HI2.out.below hbM)
 have HR3:=Lib.hid (HR2.out.below hbM HR2.out.lt)
 have HM3:=Lib.hid (Blk.new w2 27 #[.int .i64 4,.slice none 0 0,.slice none 0 0,.int .i64 0,.int .i64 0,.slice none 0 0,.int .i64 0])
 have HB3:=Lib.hid (HB2.out.trans (hbM.mono HB2.out.size))
 have hig:=HI2.out.lt
 obtain ⟨gm,hgm⟩:∃ g,w2.heap.size=g:=⟨_,rfl⟩
 have hrm:gr < gm:=by omega
 rw [hgm] at HM3 hig ⊢
 clear hbM HI2 HR2 HB2
 generalize w2.alloc (.cells #[.int .i64 4,.slice none 0 0,.slice none 0 0,.int .i64 0,.int .i64 0,.slice none 0 0,.int .i64 0] 27)=w3 at *
 refine (num_in 64 HI3.out).mono ?_
 rw [numI_back _ (by omega) (by omega)]
 rintro e w4 ⟨rfl,hi4,hk4⟩
 have HI4:=Lib.hid hi4
 have HR4:=Lib.hid (Blk.keeps HR3.out hk4 (by omega))
 have HM4:=Lib.hid (Blk.keeps HM3.out hk4 (by omega))
 have HB4:=Lib.hid (HB3.out.trans (hk4.below (B:=w.heap.size) (fun i hi e=>by have e:i=gi:=e;omega) HB3.out.size))
 have hml4:=HM4.out.lt
 clear hi4 hk4 HI3 HR3 HM3 HB3
 go_wp2_with fail
 go_loopw [9,10] (fun r _ wr=>∃ (k:Nat) (v:Value),k≤n∧r=.int .i64 (n - k:Nat)∧InB wr gi s (some ((L.drop k).flatMap epW ++ (numW key ++ numW tm)))∧Blk wr gr 27 #[.int .i64 0,.slice none 0 0,.slice none 0 0,.int .i64 0,.int .i64 0,.slice none 0 0,.int .i64 0] ∧
   Blk wr gm 27 #[.int .i64 4,.slice none 0 0,.slice none 0 0,.int .i64 0,.int .i64 0,v,.int .i64 0]∧wr.ownsRow (gm + 1) 36 2 v k ((L.take k).flatMap ep)∧Below w.heap.size w wr) (fun r _ _=>(intOf r).toNat)
 case atStart=>exact ⟨0,.slice none 0 0,by omega,rfl,by simpa using HI4.out,HR4.out,HM4.out,⟨rfl,.inl ⟨rfl,rfl⟩⟩,HB4.out⟩
 case round =>
  clear HI4 HR4 HM4 HB4
  obtain ⟨k,v,hk,rfl,hi,hr,hm,ho,hb⟩:=hrel
  obtain ⟨A,c,rfl⟩:=ownsRow_slice ho
  have HIk:=Lib.hid hi
  have HRk:=Lib.hid hr
  have HMk:=Lib.hid hm
  have HOk:=Lib.hid ho
  have HBk:=Lib.hid hb
  have hmlk:=hm.lt
  clear hi hr hm ho hb
  by_cases hkn:k < n
  ·have dk:decide ((0:Int) < ((n - k:Nat):Int))=true:=decide_eq_true (by omega)
   have hkl:k < L.length:=by rw [HN.out];exact hkn
   have hrt:=HG.out.2.2 _ (List.getElem_mem hkl)
   have hdk:L.drop k=L[k] :: L.drop (k + 1):=List.drop_eq_getElem_cons hkl
   have htk:(L.take (k + 1)).flatMap ep=(L.take k).flatMap ep ++ ep L[k]:=by rw [List.take_succ_eq_append_getElem hkl,List.flatMap_append];simp
   have HTK:=Lib.hid htk
   have hix:=HIk.out
   rw [hdk] at hix
   generalize L[k]=x at *
   obtain ⟨u,m⟩:=x
   have hrt:=of_decide_eq_true hrt
   dsimp only at hrt
   obtain ⟨m',rfl⟩:∃ k:Nat,m=(k:Int):=⟨m.toNat,by omega⟩
   have hul:u.data.toList.length=u.size:=Array.length_toList
   rw [List.flatMap_cons,show epW ⟨u,(m':Int)⟩=textW u.data.toList ++ numW m' from rfl,List.append_assoc,List.append_assoc] at hix
   have HIx:=Lib.hid hix
   clear hix hdk htk HIk
   go_wp2_with fail
   refine (text_in 32 HIx.out).mono ?_
   have ht:textI 32 (some (textW u.data.toList ++ (numW m' ++ ((L.drop (k + 1)).flatMap epW ++ (numW key ++ numW tm)))))=(u.data.toList,some (numW m' ++ ((L.drop (k + 1)).flatMap epW ++ (numW key ++ numW tm)))):=by
    unfold textI
    dsimp only
    rw [text_back _ (by omega) (by omega)]
   rw [ht]
   rintro e w5 ⟨rfl,hi5,hk5⟩
   have hus:(⟨u.data.toList.toArray⟩:ByteArray)=u:=wireb.str_of u
   rw [hus]
   have HI5:=Lib.hid hi5
   have HR5:=Lib.hid (Blk.keeps HRk.out hk5 (by omega))
   have HM5:=Lib.hid (Blk.keeps HMk.out hk5 (by omega))
   have HO5:=Lib.hid (own_keeps HOk.out hk5 (fun i hi e=>by have e:i=gi:=e;omega))
   have HB5:=Lib.hid (HBk.out.trans (hk5.below (B:=w.heap.size) (fun i hi e=>by have e:i=gi:=e;omega) HBk.out.size))
   clear hi5 hk5 ht hus HRk HMk HOk HBk HIx
   go_wp2_with fail
   have hml5:=HM5.out.lt
   have hnm:¬ (gm=gi ∨ (Value.slice A k c).ownBlock=some gm):=by
    rintro (e|e)
    ·omega
    ·have:=(HO5.out.lt _ e).1;omega
   have HNM:=Lib.hid hnm
   clear hnm
   refine wp_region_monoK (fun i=>i=gi ∨ (Value.slice A k c).ownBlock=some i) [4,7] (fun i=>i=gm) [9] (by kernel_rfl) ?_
   refine wpMonoK_take' 0 (v:=?_) rfl (by kernel_rfl) (by kernel_rfl) (by kernel_rfl) (fun _ _ _ h=>h) (by rfl) ?_ ?_
   rotate_left
   ·(intro W hSw;(first|(have hxW:=Blk.keeps (Blk.drew HM5.out) hSw HNM.out;have y0:W.cell? ⟨gm,5,none⟩=some (.slice A k c):=hxW.cell 5;have exl:=hxW.lt)|skip);go_simp <;> rfl)
   try simp only [qPA]
   refine wpMonoK_read' 1 [7,8,9] (v:=?_) rfl (by kernel_rfl) (by kernel_rfl) (by kernel_rfl) (by kernel_rfl) (by rfl) (fun _ _ _ h=>h) (by rfl) ?_ ?_
   rotate_left
   ·(intro W hSw;(first|(have hxW:=Blk.keeps (Blk.drew HM5.out) hSw HNM.out;have y0:W.cell? ⟨gm,5,none⟩=some (.slice A k c):=hxW.cell 5;have exl:=hxW.lt)|skip);go_simp <;> rfl)
   try simp only [qPA]
   refine wpMonoK_take' 2 (v:=?_) rfl (by kernel_rfl) (by kernel_rfl) (by kernel_rfl) (fun _ _ _ h=>h) (by rfl) ?_ ?_
   rotate_left
   ·(intro W hSw;(first|(have hxW:=Blk.keeps (Blk.drew HM5.out) hSw HNM.out;have y0:W.cell? ⟨gm,5,none⟩=some (.slice A k c):=hxW.cell 5;have exl:=hxW.lt)|skip);go_simp <;> rfl)
   try simp only [qPA]
   refine wpMonoK_take' 3 (v:=?_) rfl (by kernel_rfl) (by kernel_rfl) (by kernel_rfl) (fun _ _ _ h=>h) (by rfl) ?_ ?_
   rotate_left
   ·(intro W hSw;(first|(have hxW:=Blk.keeps (Blk.drew HM5.out) hSw HNM.out;have y0:W.cell? ⟨gm,5,none⟩=some (.slice A k c):=hxW.cell 5;have exl:=hxW.lt)|skip);go_simp <;> rfl)
   try simp only [qPA]
   refine wpMonoK_one' 4 (by kernel_rfl) rfl (by rfl) (fun K hK=>?_)
   go_simp
   refine (num_in 1099511627776 HI5.out.drew).mono ?_
   rw [numI_back _ (by omega) (by omega)]
   rintro e w6 ⟨rfl,hi6,hk6⟩
   have HI6:=Lib.hid hi6
   have HK6:=Lib.hid hk6
   have HR6:=Lib.hid (Blk.keeps (Blk.drew HR5.out) hk6 (by omega))
   have HM6:=Lib.hid (Blk.keeps (Blk.drew HM5.out) hk6 (by omega))
   have HO6:=Lib.hid (own_keeps (own_below HO5.out (Below.refl _ _).drew) hk6 (fun i hi e=>by have e:i=gi:=e;omega))
   clear hi6
   refine hK.out _ _ ?_ ?_
   ·exact Go.Proofs.YtlingaebpfdhgaaGreatDoor.monok.moved (hk6.more fun i _ e=>.inl e) (by decide)
   clear hK K
   refine wpMonoK_take' 5 (v:=?_) rfl (by kernel_rfl) (by kernel_rfl) (by kernel_rfl) (fun _ _ _ h=>h) (by rfl) ?_ ?_
   rotate_left
   ·(intro W hSw;(first|(have hxW:=Blk.keeps (Blk.drew HM5.out) hSw HNM.out;have y0:W.cell? ⟨gm,5,none⟩=some (.slice A k c):=hxW.cell 5;have exl:=hxW.lt)|skip);go_simp <;> rfl)
   try simp only [qPA]
   refine wpMonoK_one' 6 (by kernel_rfl) rfl (by rfl) (fun K hK=>?_)
   go_simp
   refine hK.out _ _ ?_ ?_
   ·exact Go.Proofs.YtlingaebpfdhgaaGreatDoor.monok.stays (Keeps.of_below (below_new _ _))
   clear hK K
   try simp only [qPA]
   refine wpMonoK_one' 7 (by kernel_rfl) rfl (by rfl) (fun K hK=>?_)
   have HRe:=Lib.hid (Reads.newAt w6 #[.string u,.int .i64 m'] 36 (0,0) (g:=w6.heap.size) (n:=1) (size:=2) (by simp) rfl)
   refine wp_append_any _ (.tmp 63) (.tmp 68) _ (by rfl) (gm + 1) 36 i0 _ 2 24 Tryz.underlying25 Hi0.out Hz0.out Hz1.out Hz2.out rfl (by omega) (.slice A k c) k _ (by rfl) (own_below HO6.out (below_new w6 (.cells #[.string u,.int .i64 m'] 36))) _ _ 1 _ _ (by rfl) HRe.out (fun u hu=>by simp at hu;rcases hu with rfl|rfl <;> rfl) (by unfold maxLen;omega) (by omega) (by have:=HM6.out.lt;simp;omega) fun v8 w8 ho8 hg8 hv8=>?_
   obtain ⟨A8,c8,rfl⟩:=ownsRow_slice ho8
   have HO8:=Lib.hid ho8
   have HG8:=Lib.hid hg8
   have hk8:Keeps (fun i=>i=gi ∨ (Value.slice A k c).ownBlock=some i) (w6.alloc (.cells #[.string u,.int .i64 m'] 36)) w8:=.grown hg8 fun i hi=>.inl (.inr hi)
   have HM8:=Lib.hid (Blk.keeps (Blk.alloc HM6.out (.cells #[.string u,.int .i64 m'] 36)) hk8 HNM.out)
   have y5:w8.cell? ⟨gm,5,none⟩=some (.slice A k c):=HM8.out.cell 5
   have z5:=HM8.out.frozen 5
   have l5:=HM8.out.lt
   refine hK.out _ _ ?_ ?_
   ·exact Go.Proofs.YtlingaebpfdhgaaGreatDoor.monok.moved hk8 (by decide)
   clear hK K
   try simp only [qPA]
   refine wpMonoK_take' 8 (v:=?_) rfl (by kernel_rfl) (by kernel_rfl) (by kernel_rfl) (fun _ _ _ h=>h) (by rfl) ?_ ?_
   rotate_left
   ·(intro W hSw;(first|(have hxW:=Blk.keeps (Blk.drew HM5.out) hSw HNM.out;have y0:W.cell? ⟨gm,5,none⟩=some (.slice A k c):=hxW.cell 5;have exl:=hxW.lt)|skip);go_simp <;> rfl)
   try simp only [qPA]
   refine wpMonoK_one' 9 (by kernel_rfl) rfl (by rfl) (fun K hK=>?_)
   go_simp
   refine hK.out _ _ ?_ ?_
   ·exact Go.Proofs.YtlingaebpfdhgaaGreatDoor.monok.movedL (Keeps.set1 w8 gm 5 _) (by decide)
   clear hK K
   try simp only [Act.put]
   refine wpMonoK_done (by kernel_rfl) ?_ _
   have hb6:Below w.heap.size w w6:=HB5.out.trans (((Below.refl w.heap.size w5).drew).trans (HK6.out.below (B:=w.heap.size) (fun i hi e=>by have e:i=gi:=e;omega) (by have:=HB5.out.size;simpa using this)))
   have hs6:=hb6.size
   have hk8':Keeps (fun i=>(Value.slice A k c).ownBlock=some i) (w6.alloc (.cells #[.string u,.int .i64 m'] 36)) w8:=.grown HG8.out fun i hi=>.inl hi
   have hov:∀ i,(Value.slice A k c).ownBlock=some i→gm < i:=fun i hi=>(HO5.out.lt i hi).1
   have hb8:Below w.heap.size w w8:=(hb6.trans ((below_new w6 _).mono hs6)).trans (hk8'.below (B:=w.heap.size) (fun i hi e=>by have:=hov i e;omega) (by simp;omega))
   have hk9:=Keeps.set1 w8 gm 5 (.slice A8 (k + 1) c8)
   have HI9:=Lib.hid (in_keeps (in_keeps (HI6.out.below (below_new w6 (.cells #[.string u,.int .i64 m'] 36))) hk8' (fun e=>by have:=hov _ e;omega)) hk9 (fun e=>by have e:gi=gm:=e;omega))
   have HR9:=Lib.hid (Blk.keeps (Blk.keeps (Blk.alloc HR6.out (.cells #[.string u,.int .i64 m'] 36)) hk8' (fun e=>by have:=hov _ e;omega)) hk9 (fun e=>by have e:gr=gm:=e;omega))
   have HM9:=Lib.hid (HM8.out.set_ 5 (.slice A8 (k + 1) c8))
   have HO9:=Lib.hid (own_keeps HO8.out hk9 (fun i hi e=>by have e:i=gm:=e;omega))
   have HB9:=Lib.hid (hb8.setCell (p:=⟨gm,5,none⟩) (by show w.heap.size≤gm;omega) (.slice A8 (k + 1) c8))
   have hwr:IntKind.i64.wrap (((n - k:Nat):Int) - 1)=((n - (k + 1):Nat):Int):=by rw [IntKind.wrap_i64];omega
   clear hb6 hs6 hk8' hov hb8 hk9 hk8 y5 z5 l5
   generalize w8.setCell ⟨gm,5,none⟩ (.slice A8 (k + 1) c8)=w9 at *
   go_wp2_with fail
   go_roundw
   case rel=>exact ⟨k + 1,.slice A8 (k + 1) c8,by omega,rfl,HI9.out,HR9.out,HM9.out,by rw [HTK.out];exact HO9.out,HB9.out⟩
   case measure=>simp [intOf];omega
  ·obtain rfl:n=k:=by omega
   have htk:L.take n=L:=by rw [← HN.out];exact List.take_length
   have hdk:L.drop n=[]:=by rw [← HN.out];exact List.drop_length
   have hix:=HIk.out
   have hok:=HOk.out
   rw [hdk,List.flatMap_nil,List.nil_append] at hix
   rw [htk] at hok
   have HIx:=Lib.hid hix
   have HOx:=Lib.hid hok
   have hz:n - n=0:=Nat.sub_self n
   rw [hz]
   clear hix hok HIk HOk htk hdk hz
   go_wp2_with fail
   refine (num_in 1099511627776 HIx.out).mono ?_
   rw [numI_back _ (by omega) (by omega)]
   rintro e w5 ⟨rfl,hi5,hk5⟩
   have HI5:=Lib.hid hi5
   have HR5:=Lib.hid (Blk.keeps HRk.out hk5 (by omega))
   have HM5:=Lib.hid (Blk.keeps HMk.out hk5 (by omega))
   have HO5:=Lib.hid (own_keeps HOx.out hk5 (fun i hi e=>by have e:i=gi:=e;omega))
   have HB5:=Lib.hid (HBk.out.trans (hk5.below (B:=w.heap.size) (fun i hi e=>by have e:i=gi:=e;omega) HBk.out.size))
   have y6:w5.cell? ⟨gm,6,none⟩=some (.int .i64 0):=HM5.out.cell 6
   have z6:=HM5.out.frozen 6
   have l6:=HM5.out.lt
   clear hi5 hk5 HIx HRk HMk HOx HBk
   go_wp2_with fail
   have hk6:=Keeps.set1 w5 gm 6 (.int .i64 key)
   have HI6:=Lib.hid (in_keeps HI5.out hk6 (fun e=>by have e:gi=gm:=e;omega))
   have HR6:=Lib.hid (Blk.keeps HR5.out hk6 (fun e=>by have e:gr=gm:=e;omega))
   have HM6:=Lib.hid (HM5.out.set_ 6 (.int .i64 key))
   have HO6:=Lib.hid (own_keeps HO5.out hk6 (fun i hi e=>by have e:i=gm:=e;omega))
   have HB6:=Lib.hid (HB5.out.setCell (p:=⟨gm,6,none⟩) (by show w.heap.size≤gm;omega) (.int .i64 key))
   clear hk6 y6 z6 l6 HI5 HR5 HM5 HO5 HB5
   generalize w5.setCell ⟨gm,6,none⟩ (.int .i64 key)=w6 at *
   rw [← List.append_nil (numW tm)] at HI6
   refine (num_in 1099511627776 HI6.out).mono ?_
   rw [numI_back _ (by omega) (by omega)]
   rintro e w7 ⟨rfl,hi7,hk7⟩
   have HI7:=Lib.hid hi7
   have HR7:=Lib.hid (Blk.keeps HR6.out hk7 (by omega))
   have HM7:=Lib.hid (Blk.keeps HM6.out hk7 (by omega))
   have HO7:=Lib.hid (own_keeps HO6.out hk7 (fun i hi e=>by have e:i=gi:=e;omega))
   have HB7:=Lib.hid (HB6.out.trans (hk7.below (B:=w.heap.size) (fun i hi e=>by have e:i=gi:=e;omega) HB6.out.size))
   have y4:w7.cell? ⟨gm,4,none⟩=some (.int .i64 0):=HM7.out.cell 4
   have z4:=HM7.out.frozen 4
   have l4:=HM7.out.lt
   clear hi7 hk7 HI6 HR6 HM6 HO6 HB6
   go_wp2_with fail
   have hk8:=Keeps.set1 w7 gm 4 (.int .i64 tm)
   have HI8:=Lib.hid (in_keeps HI7.out hk8 (fun e=>by have e:gi=gm:=e;omega))
   have HR8:=Lib.hid (Blk.keeps HR7.out hk8 (fun e=>by have e:gr=gm:=e;omega))
   have HM8:=Lib.hid (show Blk (w7.setCell ⟨gm,4,none⟩ (.int .i64 tm)) gm 27 #[.int .i64 4,.slice none 0 0,.slice none 0 0,.int .i64 0,.int .i64 tm,.slice A n c,.int .i64 key] from HM7.out.set_ 4 (.int .i64 tm))
   have HO8:=Lib.hid (own_keeps HO7.out hk8 (fun i hi e=>by have e:i=gm:=e;omega))
   have HB8:=Lib.hid (HB7.out.setCell (p:=⟨gm,4,none⟩) (by show w.heap.size≤gm;omega) (.int .i64 tm))
   clear hk8 y4 z4 l4 HI7 HR7 HM7 HO7 HB7
   generalize w7.setCell ⟨gm,4,none⟩ (.int .i64 tm)=w8 at *
   refine (end_in HI8.out).mono ?_
   rintro e w9 ⟨er,rfl,heo,hb9⟩
   obtain rfl:er=.nilIface:=by
    rcases heo with ⟨_,h⟩|⟨h,_⟩
    ·exact h
    ·exact absurd rfl h
   have HR9:=Lib.hid (HR8.out.below hb9 HR8.out.lt)
   have HM9:=Lib.hid (HM8.out.below hb9 HM8.out.lt)
   have HO9:=Lib.hid (own_below HO8.out hb9)
   have HB9:=Lib.hid (HB8.out.trans (hb9.mono HB8.out.size))
   have y0:w9.cell? ⟨gm,0,none⟩=some (.int .i64 4):=HM9.out.cell 0
   have y1:w9.cell? ⟨gm,1,none⟩=some (.slice none 0 0):=HM9.out.cell 1
   have y2:w9.cell? ⟨gm,2,none⟩=some (.slice none 0 0):=HM9.out.cell 2
   have y3:w9.cell? ⟨gm,3,none⟩=some (.int .i64 0):=HM9.out.cell 3
   have y4:w9.cell? ⟨gm,4,none⟩=some (.int .i64 tm):=HM9.out.cell 4
   have y5:w9.cell? ⟨gm,5,none⟩=some (.slice A n c):=HM9.out.cell 5
   have y6:w9.cell? ⟨gm,6,none⟩=some (.int .i64 key):=HM9.out.cell 6
   have l9:=HM9.out.lt
   clear heo hb9 HI8 HR8 HM8 HO8 HB8
   go_wp2_with fail
   have hep:Eps w9 w9.heap.size A n c L:=by
    obtain ⟨A',c',he,h⟩:=Eps.of_own HO9.out
    injection he with h1 _ h2
    subst h1 h2
    exact h
   have HEP:=Lib.hid hep
   refine (right_beat none none A 0 0 0 0 n c 0 tm key L w9 hep (by omega) (fun e he=>by have:=of_decide_eq_true (HG.out.2.2 e he);unfold maxLen;omega)).mono ?_
   rintro e w10 ⟨b,rfl,hbb,hb10⟩
   obtain rfl:b=true:=hbb.2 HBE.out
   have HR10:=Lib.hid (HR9.out.below hb10 HR9.out.lt)
   have HM10:=Lib.hid (HM9.out.below hb10 HM9.out.lt)
   have HE10:=Lib.hid (HEP.out.below hb10)
   have HO10:=Lib.hid (own_below HO9.out hb10)
   have HB10:=Lib.hid (HB9.out.trans (hb10.mono HB9.out.size))
   have x0:w10.cell? ⟨gm,0,none⟩=some (.int .i64 4):=HM10.out.cell 0
   have x1:w10.cell? ⟨gm,1,none⟩=some (.slice none 0 0):=HM10.out.cell 1
   have x2:w10.cell? ⟨gm,2,none⟩=some (.slice none 0 0):=HM10.out.cell 2
   have x3:w10.cell? ⟨gm,3,none⟩=some (.int .i64 0):=HM10.out.cell 3
   have x4:w10.cell? ⟨gm,4,none⟩=some (.int .i64 tm):=HM10.out.cell 4
   have x5:w10.cell? ⟨gm,5,none⟩=some (.slice A n c):=HM10.out.cell 5
   have x6:w10.cell? ⟨gm,6,none⟩=some (.int .i64 key):=HM10.out.cell 6
   have l10:=HM10.out.lt
   clear hep hbb hb10 y0 y1 y2 y3 y4 y5 y6 l9 HR9 HM9 HO9 HB9 HEP
   go_wp2_with (refine wpList_store_blk rfl 27 (.tmp 2) (.tmp 87) rfl gr [.int .i64 4,.slice none 0 0,.slice none 0 0,.int .i64 0,.int .i64 tm,.slice A n c,.int .i64 key] rfl rfl HR10.out (by kernel_rfl) rfl rfl ?_;intro w11 ho11 hk11 hs11)
   have p0:w11.cell? ⟨gr,0,none⟩=some (.int .i64 4):=ho11.cell 0
   have p1:w11.cell? ⟨gr,1,none⟩=some (.slice none 0 0):=ho11.cell 1
   have p2:w11.cell? ⟨gr,2,none⟩=some (.slice none 0 0):=ho11.cell 2
   have p3:w11.cell? ⟨gr,3,none⟩=some (.int .i64 0):=ho11.cell 3
   have p4:w11.cell? ⟨gr,4,none⟩=some (.int .i64 tm):=ho11.cell 4
   have p5:w11.cell? ⟨gr,5,none⟩=some (.slice A n c):=ho11.cell 5
   have p6:w11.cell? ⟨gr,6,none⟩=some (.int .i64 key):=ho11.cell 6
   have HFIN:=Lib.hid (show DecR L key tm w (.returned (.tuple #[.agg (msgC 4 tm (.slice A n c) key),.nilIface])) w11 from by
    have ho:=own_keeps HO10.out hk11 (fun i hi e=>by have e:i=gr:=e;omega)
    obtain ⟨A',c',he,h⟩:=Eps.of_own ho
    injection he with h1 _ h2
    subst h1 h2
    exact ⟨_,_,_,rfl,h,HB10.out.trans (hk11.below (B:=w.heap.size) (fun i hi e=>by have e:i=gr:=e;omega) HB10.out.size)⟩)
   unfold msgC at HFIN
   exact bodyPost_ret (v:=.tuple #[.agg #[.int .i64 4,.slice none 0 0,.slice none 0 0,.int .i64 0,.int .i64 tm,.slice A n c,.int .i64 key],.nilIface]) (by simp [results,Tryz.results40,go_sem,p0,p1,p2,p3,p4,p5,p6]) rfl HFIN.out
end Go.Proofs.YtlingaebpfdhgaaGreatDoor.regn
