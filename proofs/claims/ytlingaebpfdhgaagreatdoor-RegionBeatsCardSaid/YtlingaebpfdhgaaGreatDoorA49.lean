/- A part of the proof of RegionBeats. -/
import Derived.Test.YtlingaebpfdhgaaGreatDoorA50
import Derived.Test.YtlingaebpfdhgaaGreatDoorA46
import Derived.Test.YtlingaebpfdhgaaGreatDoorA15
namespace Go.Proofs.YtlingaebpfdhgaaGreatDoor.wRegionBeats
open Go Go.RowKit base err rowe list new tab home wireb jrnp jrn diskp disk lease fold regn
set_option maxRecDepth 20000 in
set_option maxHeartbeats 8000000 in
theorem walk (v0 v1:Value) (w:World) (a0:Arg Tryz.prog w 27 v0) (a1:Arg Tryz.prog w 3 v1) (hT:quota.Tabs w) :
  Calls Tryz.prog 3 #[v0,v1] w fun e w'=>e=.returned (.bool true)∧Below w.heap.size w w':=by
 obtain ⟨k,A1,nw,c1,Lw,A2,nh,c2,ck,tm,A,len,cap,L,key,rfl,hlw,hrw,hdp,_,_,_,_,hE,hU⟩:=msg_arg a0
 obtain ⟨now,rfl,_⟩:=a1.int Tryz.underlying3
 have hb0:=below_new w (.cells #[.int .i64 k,.slice A1 nw c1,.slice A2 nh c2,.int .i64 ck,.int .i64 tm,.slice A len cap,.int .i64 key] 27)
 have HM0:=Lib.hid (Blk.new w 27 #[.int .i64 k,.slice A1 nw c1,.slice A2 nh c2,.int .i64 ck,.int .i64 tm,.slice A len cap,.int .i64 key])
 have HB0:=Lib.hid hb0
 have HT0:=Lib.hid (hT.below hb0)
 have HE:=Lib.hid hE
 have HRW:=Lib.hid hrw
 have HDP:=Lib.hid hdp
 have HLW:=Lib.hid hlw
 have HU:=Lib.hid hU
 have hlL:=hE.1
 clear hb0 hT hE hrw hdp hlw hU a0 a1
 go_enter Tryz.func3,Tryz.ntmps3
 go_wp2_with fail
 generalize w.alloc (.cells #[.int .i64 k,.slice A1 nw c1,.slice A2 nh c2,.int .i64 ck,.int .i64 tm,.slice A len cap,.int .i64 key] 27)=w0 at *
 obtain ⟨mb,hmb⟩:∃ g,w.heap.size=g:=⟨_,rfl⟩
 rw [hmb] at HM0
 refine (awake_w w0 HT0.out).mono ?_
 rintro e w1 ⟨rfl,hb1⟩
 have HM1:=Lib.hid (HM0.out.below hb1 HM0.out.lt)
 have HB1:=Lib.hid (HB0.out.trans (hb1.mono HB0.out.size))
 have hml:=HM1.out.lt
 rw [hmb]
 clear hb1 HM0 HB0 HT0
 go_wp2_with (refine wpList_load_at rfl 27 (.tmp 2) rfl mb 0 [.int .i64 k,.slice A1 nw c1,.slice A2 nh c2,.int .i64 ck,.int .i64 tm,.slice A len cap,.int .i64 key] rfl Tryz.underlying27 rfl (by kernel_rfl) (blk_cells HM1.out) ?_)
 have hO:=Blk.new w1 44 (opM k ck tm key A1 A2 A nw c1 nh c2 len cap).toArray
 have hbO:=below_new w1 (.cells (opM k ck tm key A1 A2 A nw c1 nh c2 len cap).toArray 44)
 have HM2:=Lib.hid (HM1.out.below hbO hml)
 have HB2:=Lib.hid (HB1.out.trans (hbO.mono HB1.out.size))
 have HG:=Lib.hid (great_b w1.heap.size k ck tm key A1 A2 A nw c1 nh c2 len cap Lw L _ (blk_cells hO) (by simp) HLW.out ((HRW.out.below HB2.out).more HB2.out.size) HDP.out ((HE.out.below HB2.out).more HB2.out.size))
 unfold opM at HG HM2 HB2
 clear hO hbO HM1 HB1 HRW HLW HDP
 obtain ⟨g1,hg1⟩:∃ g,w1.heap.size=g:=⟨_,rfl⟩
 rw [hg1] at HG ⊢
 refine HG.out.mono ?_
 rintro e w3 ⟨b,rfl,hb70,hb3⟩
 have HM3:=Lib.hid (HM2.out.below hb3 HM2.out.lt)
 have HB3:=Lib.hid (HB2.out.trans (hb3.mono HB2.out.size))
 have H70:=Lib.hid hb70
 clear hb3 HG HM2 HB2 hb70 hg1
 cases b with
 | true =>
  go_wp2_with fail
  go_ret
  exact ⟨rfl,HB3.out⟩
 | false =>
 have hl70:=H70.out rfl
 have v0:=HM3.out.cell 0
 have z0:=HM3.out.frozen 0
 have hml3:=HM3.out.lt
 simp at v0
 have HM4:=Lib.hid (show Blk (w3.setCell ⟨mb,0,none⟩ (.int .i64 4)) mb 27 #[.int .i64 4,.slice A1 nw c1,.slice A2 nh c2,.int .i64 ck,.int .i64 tm,.slice A len cap,.int .i64 key] from HM3.out.set_ 0 (.int .i64 4))
 have HB4:=Lib.hid (show Below w.heap.size w (w3.setCell ⟨mb,0,none⟩ (.int .i64 4)) from HB3.out.setCell (by show w.heap.size≤mb;omega) _)
 clear HM3 HB3 H70
 go_wp2_with (refine wpList_load_at rfl 27 (.tmp 2) rfl mb 0 [.int .i64 4,.slice A1 nw c1,.slice A2 nh c2,.int .i64 ck,.int .i64 tm,.slice A len cap,.int .i64 key] rfl Tryz.underlying27 rfl (by kernel_rfl) (blk_cells HM4.out) ?_)
 generalize w3.setCell ⟨mb,0,none⟩ (.int .i64 4)=w4 at *
 have hE4:=(HE.out.below HB4.out).more HB4.out.size
 refine (encode_beat A1 A2 A nw nh c1 c2 len cap ck tm key L w4 hE4 (by omega) HU.out).mono ?_
 rintro e w5 ⟨s,er,rfl,hs,hb5⟩
 have HM5:=Lib.hid (HM4.out.below hb5 HM4.out.lt)
 have HB5:=Lib.hid (HB4.out.trans (hb5.mono HB4.out.size))
 have HS:=Lib.hid hs
 clear hE4 hb5 HM4 HB4 v0 z0 hml3 hs
 go_wp2_with fail
 refine (two_w 1048576 (by omega) w5).mono ?_
 rintro e w6 ⟨a,b,rfl,hda,hdb,hab1,hab2,hab3,hb6⟩
 have HDA:=Lib.hid (show DiskS w6 (· = a) a (newD 1048576) from hda)
 have HDB:=Lib.hid (show DiskS w6 (· = b) b (newD 1048576) from hdb)
 have HM6:=Lib.hid (HM5.out.below hb6 HM5.out.lt)
 have HB6:=Lib.hid (HB5.out.trans (hb6.mono HB5.out.size))
 have hs56:=HB5.out.size
 have hma:mb < a:=Nat.lt_of_lt_of_le HM5.out.lt hab1
 clear hda hdb hb6 HM5 HB5
 go_wp2_with fail
 have hst:=start_len
 refine (open_w (· = a) (· = b) a b (newD 1048576) (newD 1048576) 1 2 ⟨#[109]⟩ w6 HDA.out HDB.out (well_new _) (well_new _) (fun i e1 e2=>by omega) (by show _≤1048576;omega) (by omega) (by omega) (by omega) (by decide) (by decide)).mono ?_
 rintro e w7 h7
 obtain ⟨p,own,rfl,hr7,hpn,hps,ho5,hot,ho4,hk7⟩:=OpenR.regI h7 HDA.out (fun i e1 e2=>by have e1:i=a:=e1;have e2:i=b:=e2;omega) (fun i e=>by have e:i=b:=e;omega)
 have HR7:=Lib.hid hr7
 have HM7:=Lib.hid (Blk.keeps HM6.out hk7 (fun e=>by have e:mb=b:=e;omega))
 have HB7:=Lib.hid (HB6.out.trans (hk7.below (B:=w.heap.size) (fun i hi e=>by have e:i=b:=e;omega) HB6.out.size))
 have HOW:=Lib.hid (show ∀ i,own i ≠ 0→mb < i from fun i hi=>by
  rcases hot i hi with h|h|h
  ·have h:i=a:=h;omega
  ·have h:i=b:=h;omega
  ·have:=HM6.out.lt;omega)
 clear h7 hr7 hpn hps ho5 hot ho4 hk7 HDA HDB HM6 HB6 hab1 hab2 hab3 hst
 rcases HS.out with ⟨hBB,rfl,rfl⟩|⟨hnb,rfl,hErr⟩
 rotate_left
 ·obtain ⟨ge,rfl,_⟩:=hErr
  go_wp2_with fail
  go_ret
  exact ⟨rfl,HB7.out⟩
 have HBB:=Lib.hid hBB
 obtain ⟨h1,h2,h3,hG,⟨k1,k2⟩,t1,t2⟩:=hBB
 subst h1 h2 h3
 obtain ⟨key',rfl⟩:∃ k:Nat,key=(k:Int):=⟨key.toNat,by omega⟩
 obtain ⟨tm',rfl⟩:∃ k:Nat,tm=(k:Int):=⟨tm.toNat,by omega⟩
 have HG:=Lib.hid hG
 clear HS hG
 by_cases hn1:now < 0
 ·have d1:decide (now < 0)=true:=decide_eq_true hn1
  clear hn1
  go_wp2_with fail
  all_goals
   go_ret
   exact ⟨rfl,HB7.out⟩
 have d1:decide (now < 0)=false:=decide_eq_false hn1
 by_cases hn2:1099511627776 < now
 ·have d2:decide (1099511627776 < now)=true:=decide_eq_true hn2
  clear hn2
  go_wp2_with fail
  all_goals
   go_ret
   exact ⟨rfl,HB7.out⟩
 have d2:decide (1099511627776 < now)=false:=decide_eq_false hn2
 obtain ⟨now',rfl⟩:∃ k:Nat,now=(k:Int):=⟨now.toNat,by omega⟩
 go_wp2_with fail
 have hnews:=news_all (n:=2) (f:=2) HG.out
 have hN64:(ofHome 2 2 L).length≤64:=Nat.le_trans ofHome_len HG.out.2.1
 have hno:∀ c,¬ NoPut 1 (startL 1 []) (freshD (newD 1048576)) (beatR (newsE 2 2 [] L).2 0 key') c:=by
  rintro c ⟨_,h⟩
  rw [hnews] at h
  dsimp only at h
  have h1:=beatR_len (N:=ofHome 2 2 L) (k:=0) (key:=key')
  have h2:=beatR_small (N:=ofHome 2 2 L) (k:=0) (key:=key') (fun e he=>HG.out.2.2 e (List.mem_filter.1 he).1) (by omega)
  rcases h with ⟨_,h⟩|⟨_,_,h⟩
  ·omega
  ·refine h ?_
   have h3:=put_fits (g:=1) (K:=363) (l:=startL 1 []) (rs:=beatR (ofHome 2 2 L) 0 key') (by omega) (by omega) start_len (by omega) (by omega) (fun s hs=>by have:=h2 s hs;omega)
   show _≤1048576
   omega
 refine (recv_beat 2 key' tm' now' L (startL 1 []) HR7.out (well_fresh (well_new _)) (by show 1≤1;omega) (by show 1≤_;omega) (by show GoodL [];exact ⟨trivial,by simp,fun _ h=>by cases h⟩) HBB.out (fits_nil HG.out) rfl (by omega) (by omega) hno).mono ?_
 rintro e w8 ⟨own8,rfl,hg8,hk8,hr8⟩
 have hmo:own mb=0:=Classical.byContradiction fun h=>by have:=HOW.out mb h;omega
 have HM8:=Lib.hid (Blk.keeps HM7.out hk8 (tags_own hmo))
 have HB8:=Lib.hid (HB7.out.trans (hk8.below (B:=w.heap.size) (fun i hi e=>by have:=HOW.out i e.2;omega) HB7.out.size))
 obtain ⟨X8,hX8⟩:∃ X,beatX (newX 1 2 ⟨#[109]⟩ (newD 1048576) (newD 1048576)) (startL 1 []) 2 L key' tm' now'=X:=⟨_,rfl⟩
 have HXe:=Lib.hid (show X8.ep=ofHome 2 2 L from by rw [← hX8];exact congrArg Prod.fst hnews)
 have HXk:=Lib.hid (show X8.key=key' from by rw [← hX8];exact Nat.max_eq_right (Nat.zero_le _))
 have HXu:=Lib.hid (show X8.un 2=if tm'≤now' then (tm':Int) + 12 else 0 from by rw [← hX8];exact grant_two)
 have HXi:=Lib.hid (show X8.id=1∧X8.n=2∧X8.m=⟨#[109]⟩ from by rw [← hX8];exact ⟨rfl,rfl,rfl⟩)
 rw [hX8] at hr8
 have HR8:=Lib.hid hr8
 have m5:w8.cell? ⟨mb,5,none⟩=some (.slice A len cap):=HM8.out.cell 5
 have m5l:=HM8.out.lt
 clear hnews hno hg8 hk8 hr8 hX8 HR7 HM7 HB7 HOW hmo hma hs56 hN64
 go_wp2_with fail
 go_loopw [75,14,15] (fun i _ _ wr=>∃ j:Nat,i=.int .i64 j∧j≤len∧Below w8.heap.size w8 wr) (fun i _ _ _=>len - (intOf i).toNat)
 case atStart=>exact ⟨0,rfl,by omega,Below.refl _ _⟩
 case round =>
  obtain ⟨j,rfl,hj,hb⟩:=hrel
  have HBr:=Lib.hid (HB8.out.trans (hb.mono HB8.out.size))
  have hsr:=hb.size
  by_cases hjn:j < len
  ·have dj:decide ((j:Int) < (len:Int))=true:=decide_eq_true (by omega)
   obtain ⟨b1,off,rfl,hbb⟩:=HE.out.at_some (by omega)
   have hjl:j < L.length:=by omega
   obtain ⟨hx0,hx1⟩:=(HE.out.below HBr.out).cell hjn (List.getElem?_eq_getElem hjl)
   have hrt:=of_decide_eq_true (HG.out.2.2 _ (List.getElem_mem hjl))
   have hget:=get_home (n:=2) (f:=2) HG.out (List.getElem_mem hjl)
   generalize L[j]=y at *
   obtain ⟨u,m⟩:=y
   dsimp only at hx0 hx1 hrt hget
   have HGE:=Lib.hid hget
   have HBj:=Lib.hid hb
   have HRr:=Lib.hid (HR8.out.below hb)
   clear hget hb
   have hb9:=below_new wr (.cells #[.string u,.int .i64 m] 36)
   have HX9:=Lib.hid (Blk.new wr 36 #[.string u,.int .i64 m])
   have HR9:=Lib.hid (HRr.out.below hb9)
   have HB9:=Lib.hid (HBj.out.trans (hb9.mono hsr))
   have hs9:=HB9.out.size
   go_wp2_with fail
   generalize wr.alloc (.cells #[.string u,.int .i64 m] 36)=w9 at *
   obtain ⟨gx,hgx⟩:∃ g,wr.heap.size=g:=⟨_,rfl⟩
   rw [hgx] at HX9 ⊢
   clear hb9 HRr HBj
   refine (home_ref u 2 w9 (by omega)).mono ?_
   rintro e w10 ⟨rfl,hb10⟩
   have HX10:=Lib.hid (HX9.out.below hb10 HX9.out.lt)
   have HR10:=Lib.hid (HR9.out.below hb10)
   have HB10:=Lib.hid (HB9.out.trans (hb10.mono hs9))
   have y0:w10.cell? ⟨gx,0,none⟩=some (.string u):=HX10.out.cell 0
   have yl:=HX10.out.lt
   have HEP:=Lib.hid (epoch_any u HR10.out.reg rfl rfl HR10.out.tab (by unfold maxLen;omega))
   have hgl:getL X8.ep u=if homeI u 2=2 then m else 0:=by rw [HXe.out];exact HGE.out
   clear hb10 HX9 HR9 HB9 HGE
   by_cases hh:homeI u 2=2
   ·rw [if_pos hh] at hgl
    rw [hgl] at HEP
    rw [hh]
    clear hh hgl
    go_wp2_with fail
    refine HEP.out.mono ?_
    rintro e w11 ⟨rfl,hw11⟩
    subst hw11
    go_wp2_with fail
    go_roundw
    case rel=>exact ⟨j + 1,by go_num,by omega,HB10.out⟩
    case measure=>simp [intOf];omega
   ·rw [if_neg hh] at hgl
    rw [hgl] at HEP
    have d3:(homeI u 2 != 2)=true:=by simpa using hh
    clear hh hgl
    generalize homeI u 2=hm at *
    go_wp2_with fail
    refine HEP.out.mono ?_
    rintro e w11 ⟨rfl,hw11⟩
    subst hw11
    go_wp2_with fail
    go_roundw
    case rel=>exact ⟨j + 1,by go_num,by omega,HB10.out⟩
    case measure=>simp [intOf];omega
  ·obtain rfl:j=len:=by omega
   have dj:decide ((j:Int) < (j:Int))=false:=by simp
   have HRr:=Lib.hid (HR8.out.below hb)
   have HMr:=Lib.hid (HM8.out.below hb HM8.out.lt)
   have hls:LeaseB wr p.gl 1 2 X8.un:=by
    have h:=HRr.out.lease
    rw [HXi.out.1,HXi.out.2.1] at h
    exact h
   have HLS:=Lib.hid hls
   have HGQ:=Lib.hid (good_q now' X8.un HRr.out.reg rfl rfl hls)
   clear hb hls m5 m5l HE HM8 HR8 HB8
   go_wp2_with fail
   refine HGQ.out.mono ?_
   rintro e wg ⟨hbg,hq⟩
   have HRg:=Lib.hid (HRr.out.below hbg)
   have HMg:=Lib.hid (HMr.out.below hbg HMr.out.lt)
   have HBg:=Lib.hid (HBr.out.trans (hbg.mono HBr.out.size))
   have hlg:LeaseB wg p.gl 1 2 X8.un:=HLS.out.below hbg HLS.out.lt
   have y4:wg.cell? ⟨mb,4,none⟩=some (.int .i64 tm'):=HMg.out.cell 4
   have y6:wg.cell? ⟨mb,6,none⟩=some (.int .i64 key'):=HMg.out.cell 6
   have yl:=HMg.out.lt
   obtain ⟨t11,ht11⟩:∃ t,tm' + 11=t:=⟨_,rfl⟩
   obtain ⟨t12,ht12⟩:∃ t,tm' + 12=t:=⟨_,rfl⟩
   have hw11:IntKind.i64.wrap ((tm':Int) + 11)=(t11:Int):=by rw [IntWalk.i64_in _ (by omega),← ht11];omega
   have hw12:IntKind.i64.wrap ((tm':Int) + 12)=(t12:Int):=by rw [IntWalk.i64_in _ (by omega),← ht12];omega
   have hu:=HXu.out
   clear hbg HRr HMr HBr HLS HGQ
   rcases hq with ⟨hall,rfl⟩|⟨hex,ge,rfl⟩
   ·have h2:=(lapse_two X8.un now').1 hall
    have hle:tm'≤now':=Classical.byContradiction fun h=>by rw [if_neg h] at hu;omega
    rw [if_pos hle] at hu
    have hlt:now' < t12:=by omega
    have HU2:=Lib.hid (show X8.un 2=(t12:Int) from by rw [hu];omega)
    have H112:=Lib.hid (show t11 < t12 from by omega)
    clear hu h2 hall ht11 ht12
    go_wp2_with fail
    refine wp_region_mono nobody (by kernel_rfl) ?_
    have HRg:=Lib.hid (HRg.out.drew)
    have HMg:=Lib.hid (Blk.drew HMg.out)
    have HBg:=Lib.hid (HBg.out.drew)
    have hlg:LeaseB wg.drew p.gl 1 2 X8.un:=hlg
    have y4:wg.drew.cell? ⟨mb,4,none⟩=some (.int .i64 tm'):=y4
    have y6:wg.drew.cell? ⟨mb,6,none⟩=some (.int .i64 key'):=y6
    have yl:mb < wg.drew.heap.size:=yl
    generalize wg.drew=wd at *
    iterate 3
     first|refine qT 0 (v:=?_) ?_ ?_|refine qT 3 (v:=?_) ?_ ?_|refine qT 4 (v:=?_) ?_ ?_
     rotate_left
     ·(intro W hSw;(have hcW:=hSw.cells;try simp only [qSd] at hcW);go_simp <;> rfl)
     try simp only [qPA]
    refine wpMono_one' 1 (by kernel_rfl) rfl (by rfl) (fun K hK=>?_)
    go_simp
    refine (ring_any (n:=X8.key) HRg.out.reg rfl rfl HRg.out.ring (by show 1≤X8.m.size;rw [HXi.out.2.2];decide) (by show X8.m.size≤64;rw [HXi.out.2.2];decide) (by rw [HXk.out];omega)).mono ?_
    rintro e w3 ⟨g3,rfl,hr3,hb3⟩
    have HK:=Lib.hid hb3
    have HRI:=Lib.hid hr3
    have HRg:=Lib.hid (HRg.out.below hb3)
    have HMg:=Lib.hid (HMg.out.below hb3 HMg.out.lt)
    have HBg:=Lib.hid (HBg.out.trans (Below.mono hb3 HBg.out.size))
    have hlg:=Blk.below hlg hb3 (Blk.lt hlg)
    have y4:=((Below.cell hb3 (p:=⟨mb,4,none⟩) yl)).trans y4
    have y6:=((Below.cell hb3 (p:=⟨mb,6,none⟩) yl)).trans y6
    have yl:=Nat.lt_of_lt_of_le yl (Below.size hb3)
    clear hb3 hr3
    refine hK.out _ _ ?_ ?_
    ·exact .of_below HK.out
    clear hK K
    try simp only [qPA]
    refine wpMono_one' 2 (by kernel_rfl) rfl (by rfl) (fun K hK=>?_)
    go_simp
    refine (ringw.current_any g3 _ X8.key w3 HRI.out).mono ?_
    rintro e w4 ⟨rfl,rfl⟩
    rw [HXk.out]
    refine hK.out _ _ ?_ ?_
    ·exact .refl _ _
    clear hK K
    try simp only [qPA]
    iterate 24
     first|refine qT 5 (v:=?_) ?_ ?_|refine qT 6 (v:=?_) ?_ ?_|refine qT 7 (v:=?_) ?_ ?_|refine qT 8 (v:=?_) ?_ ?_|refine qT 9 (v:=?_) ?_ ?_|refine qT 10 (v:=?_) ?_ ?_|refine qT 11 (v:=?_) ?_ ?_|refine qT 12 (v:=?_) ?_ ?_|refine qT 13 (v:=?_) ?_ ?_|refine qT 14 (v:=?_) ?_ ?_|refine qT 15 (v:=?_) ?_ ?_|refine qT 16 (v:=?_) ?_ ?_|refine qT 17 (v:=?_) ?_ ?_|refine qT 18 (v:=?_) ?_ ?_|refine qT 19 (v:=?_) ?_ ?_|refine qT 20 (v:=?_) ?_ ?_|refine qT 21 (v:=?_) ?_ ?_|refine qT 22 (v:=?_) ?_ ?_|refine qT 23 (v:=?_) ?_ ?_|refine qT 24 (v:=?_) ?_ ?_|refine qT 25 (v:=?_) ?_ ?_|refine qT 26 (v:=?_) ?_ ?_|refine qT 27 (v:=?_) ?_ ?_|refine qT 28 (v:=?_) ?_ ?_
     rotate_left
     ·(intro W hSw;(have hcW:=hSw.cells;try simp only [qSd] at hcW);go_simp <;> rfl)
     try simp only [qPA]
    refine wpMono_one' 29 (by kernel_rfl) rfl (by rfl) (fun K hK=>?_)
    go_simp
    refine (good_q t11 X8.un HRg.out.reg rfl rfl hlg).mono ?_
    rintro e w5 ⟨hb5,hq5⟩
    obtain rfl:e=.returned .nilIface:=by
     rcases hq5 with ⟨_,h⟩|⟨⟨i,h1,h2⟩,_⟩
     ·exact h
     ·rw [(lapse_two X8.un t11).2 (by rw [HU2.out];have:=H112.out;omega) i h1] at h2
      cases h2
    have HK:=Lib.hid hb5
    have HRg:=Lib.hid (HRg.out.below hb5)
    have HMg:=Lib.hid (HMg.out.below hb5 HMg.out.lt)
    have HBg:=Lib.hid (HBg.out.trans (Below.mono hb5 HBg.out.size))
    have hlg:=Blk.below hlg hb5 (Blk.lt hlg)
    have y4:=((Below.cell hb5 (p:=⟨mb,4,none⟩) yl)).trans y4
    have y6:=((Below.cell hb5 (p:=⟨mb,6,none⟩) yl)).trans y6
    have yl:=Nat.lt_of_lt_of_le yl (Below.size hb5)
    clear hb5 hq5
    refine hK.out _ _ ?_ ?_
    ·exact .of_below HK.out
    clear hK K
    try simp only [qPA]
    iterate 6
     first|refine qT 30 (v:=?_) ?_ ?_|refine qT 31 (v:=?_) ?_ ?_|refine qT 32 (v:=?_) ?_ ?_|refine qT 33 (v:=?_) ?_ ?_|refine qT 34 (v:=?_) ?_ ?_|refine qT 35 (v:=?_) ?_ ?_
     rotate_left
     ·(intro W hSw;(have hcW:=hSw.cells;try simp only [qSd] at hcW);go_simp <;> rfl)
     try simp only [qPA]
    refine wpMono_one' 36 (by kernel_rfl) rfl (by rfl) (fun K hK=>?_)
    go_simp
    refine (good_q t12 X8.un HRg.out.reg rfl rfl hlg).mono ?_
    rintro e w6 ⟨hb6,hq6⟩
    obtain ⟨g6,rfl⟩:∃ g,e=.returned (.iface 153 (.pointer (some ⟨g,0,none⟩))):=by
     rcases hq6 with ⟨hall,_⟩|⟨_,h⟩
     ·have h1:=(lapse_two X8.un t12).1 hall
      rw [HU2.out] at h1
      omega
     ·exact h
    have HK:=Lib.hid hb6
    have HRg:=Lib.hid (HRg.out.below hb6)
    have HMg:=Lib.hid (HMg.out.below hb6 HMg.out.lt)
    have HBg:=Lib.hid (HBg.out.trans (Below.mono hb6 HBg.out.size))
    have hlg:=Blk.below hlg hb6 (Blk.lt hlg)
    have y4:=((Below.cell hb6 (p:=⟨mb,4,none⟩) yl)).trans y4
    have y6:=((Below.cell hb6 (p:=⟨mb,6,none⟩) yl)).trans y6
    have yl:=Nat.lt_of_lt_of_le yl (Below.size hb6)
    clear hb6 hq6
    refine hK.out _ _ ?_ ?_
    ·exact .of_below HK.out
    clear hK K
    try simp only [qPA]
    iterate 5
     first|refine qT 37 (v:=?_) ?_ ?_|refine qT 38 (v:=?_) ?_ ?_|refine qT 39 (v:=?_) ?_ ?_|refine qT 40 (v:=?_) ?_ ?_|refine qT 41 (v:=?_) ?_ ?_
     rotate_left
     ·(intro W hSw;(have hcW:=hSw.cells;try simp only [qSd] at hcW);go_simp <;> rfl)
     try simp only [qPA]
    refine wpMono_done (by kernel_rfl) ?_ _
    go_wp2_with fail
    go_ret
    exact ⟨rfl,HBg.out⟩
   ·have hng:¬ ((now':Int) < X8.un 2):=fun h=>by
     obtain ⟨i,h1,h2⟩:=hex
     rw [(lapse_two X8.un now').2 h i h1] at h2
     cases h2
    clear hex
    by_cases hle:tm'≤now'
    ·rw [if_pos hle] at hu
     have hge:¬ now' < t12:=by omega
     clear hu hng ht11 ht12
     go_wp2_with fail
     refine wp_region_mono nobody (by kernel_rfl) ?_
     have HRg:=Lib.hid (HRg.out.drew)
     have HMg:=Lib.hid (Blk.drew HMg.out)
     have HBg:=Lib.hid (HBg.out.drew)
     have hlg:LeaseB wg.drew p.gl 1 2 X8.un:=hlg
     have y4:wg.drew.cell? ⟨mb,4,none⟩=some (.int .i64 tm'):=y4
     have y6:wg.drew.cell? ⟨mb,6,none⟩=some (.int .i64 key'):=y6
     have yl:mb < wg.drew.heap.size:=yl
     generalize wg.drew=wd at *
     iterate 3
      first|refine qT 0 (v:=?_) ?_ ?_|refine qT 3 (v:=?_) ?_ ?_|refine qT 4 (v:=?_) ?_ ?_
      rotate_left
      ·(intro W hSw;(have hcW:=hSw.cells;try simp only [qSd] at hcW);go_simp <;> rfl)
      try simp only [qPA]
     refine wpMono_one' 1 (by kernel_rfl) rfl (by rfl) (fun K hK=>?_)
     go_simp
     refine (ring_any (n:=X8.key) HRg.out.reg rfl rfl HRg.out.ring (by show 1≤X8.m.size;rw [HXi.out.2.2];decide) (by show X8.m.size≤64;rw [HXi.out.2.2];decide) (by rw [HXk.out];omega)).mono ?_
     rintro e w3 ⟨g3,rfl,hr3,hb3⟩
     have HK:=Lib.hid hb3
     have HRI:=Lib.hid hr3
     have HRg:=Lib.hid (HRg.out.below hb3)
     have HMg:=Lib.hid (HMg.out.below hb3 HMg.out.lt)
     have HBg:=Lib.hid (HBg.out.trans (Below.mono hb3 HBg.out.size))
     have hlg:=Blk.below hlg hb3 (Blk.lt hlg)
     have y4:=((Below.cell hb3 (p:=⟨mb,4,none⟩) yl)).trans y4
     have y6:=((Below.cell hb3 (p:=⟨mb,6,none⟩) yl)).trans y6
     have yl:=Nat.lt_of_lt_of_le yl (Below.size hb3)
     clear hb3 hr3
     refine hK.out _ _ ?_ ?_
     ·exact .of_below HK.out
     clear hK K
     try simp only [qPA]
     refine wpMono_one' 2 (by kernel_rfl) rfl (by rfl) (fun K hK=>?_)
     go_simp
     refine (ringw.current_any g3 _ X8.key w3 HRI.out).mono ?_
     rintro e w4 ⟨rfl,rfl⟩
     rw [HXk.out]
     refine hK.out _ _ ?_ ?_
     ·exact .refl _ _
     clear hK K
     try simp only [qPA]
     iterate 20
      first|refine qT 5 (v:=?_) ?_ ?_|refine qT 6 (v:=?_) ?_ ?_|refine qT 7 (v:=?_) ?_ ?_|refine qT 8 (v:=?_) ?_ ?_|refine qT 9 (v:=?_) ?_ ?_|refine qT 10 (v:=?_) ?_ ?_|refine qT 11 (v:=?_) ?_ ?_|refine qT 12 (v:=?_) ?_ ?_|refine qT 13 (v:=?_) ?_ ?_|refine qT 14 (v:=?_) ?_ ?_|refine qT 15 (v:=?_) ?_ ?_|refine qT 16 (v:=?_) ?_ ?_|refine qT 17 (v:=?_) ?_ ?_|refine qT 18 (v:=?_) ?_ ?_|refine qT 19 (v:=?_) ?_ ?_|refine qT 20 (v:=?_) ?_ ?_|refine qT 21 (v:=?_) ?_ ?_|refine qT 22 (v:=?_) ?_ ?_|refine qT 23 (v:=?_) ?_ ?_|refine qT 24 (v:=?_) ?_ ?_
      rotate_left
      ·(intro W hSw;(have hcW:=hSw.cells;try simp only [qSd] at hcW);go_simp <;> rfl)
      try simp only [qPA]
     refine wpMono_skip' 25 rfl (by kernel_rfl) (by kernel_rfl) (by kernel_rfl) (fun _ _ _ h=>h) (by rfl) ?_
     try simp only [qPA]
     refine wpMono_skip' 26 rfl (by kernel_rfl) (by kernel_rfl) (by kernel_rfl) (fun _ _ _ h=>h) (by rfl) ?_
     try simp only [qPA]
     refine wpMono_skip' 27 rfl (by kernel_rfl) (by kernel_rfl) (by kernel_rfl) (fun _ _ _ h=>h) (by rfl) ?_
     try simp only [qPA]
     refine wpMono_skip' 28 rfl (by kernel_rfl) (by kernel_rfl) (by kernel_rfl) (fun _ _ _ h=>h) (by rfl) ?_
     try simp only [qPA]
     refine wpMono_skip' 29 rfl (by kernel_rfl) (by kernel_rfl) (by kernel_rfl) (fun _ _ _ h=>h) (by rfl) ?_
     try simp only [qPA]
     refine wpMono_skip' 30 rfl (by kernel_rfl) (by kernel_rfl) (by kernel_rfl) (fun _ _ _ h=>h) (by rfl) ?_
     try simp only [qPA]
     refine wpMono_skip' 31 rfl (by kernel_rfl) (by kernel_rfl) (by kernel_rfl) (fun _ _ _ h=>h) (by rfl) ?_
     try simp only [qPA]
     refine wpMono_skip' 32 rfl (by kernel_rfl) (by kernel_rfl) (by kernel_rfl) (fun _ _ _ h=>h) (by rfl) ?_
     try simp only [qPA]
     refine wpMono_skip' 33 rfl (by kernel_rfl) (by kernel_rfl) (by kernel_rfl) (fun _ _ _ h=>h) (by rfl) ?_
     try simp only [qPA]
     refine wpMono_skip' 34 rfl (by kernel_rfl) (by kernel_rfl) (by kernel_rfl) (fun _ _ _ h=>h) (by rfl) ?_
     try simp only [qPA]
     refine wpMono_skip' 35 rfl (by kernel_rfl) (by kernel_rfl) (by kernel_rfl) (fun _ _ _ h=>h) (by rfl) ?_
     try simp only [qPA]
     refine wpMono_skip' 36 rfl (by kernel_rfl) (by kernel_rfl) (by kernel_rfl) (fun _ _ _ h=>h) (by rfl) ?_
     try simp only [qPA]
     refine wpMono_skip' 37 rfl (by kernel_rfl) (by kernel_rfl) (by kernel_rfl) (fun _ _ _ h=>h) (by rfl) ?_
     try simp only [qPA]
     refine wpMono_skip' 38 rfl (by kernel_rfl) (by kernel_rfl) (by kernel_rfl) (fun _ _ _ h=>h) (by rfl) ?_
     try simp only [qPA]
     iterate 3
      first|refine qT 39 (v:=?_) ?_ ?_|refine qT 40 (v:=?_) ?_ ?_|refine qT 41 (v:=?_) ?_ ?_
      rotate_left
      ·(intro W hSw;(have hcW:=hSw.cells;try simp only [qSd] at hcW);go_simp <;> rfl)
      try simp only [qPA]
     refine wpMono_done (by kernel_rfl) ?_ _
     go_wp2_with fail
     go_ret
     exact ⟨rfl,HBg.out⟩
    ·clear hu hng ht11 ht12
     go_wp2_with fail
     refine wp_region_mono nobody (by kernel_rfl) ?_
     have HRg:=Lib.hid (HRg.out.drew)
     have HMg:=Lib.hid (Blk.drew HMg.out)
     have HBg:=Lib.hid (HBg.out.drew)
     have hlg:LeaseB wg.drew p.gl 1 2 X8.un:=hlg
     have y4:wg.drew.cell? ⟨mb,4,none⟩=some (.int .i64 tm'):=y4
     have y6:wg.drew.cell? ⟨mb,6,none⟩=some (.int .i64 key'):=y6
     have yl:mb < wg.drew.heap.size:=yl
     generalize wg.drew=wd at *
     iterate 3
      first|refine qT 0 (v:=?_) ?_ ?_|refine qT 3 (v:=?_) ?_ ?_|refine qT 4 (v:=?_) ?_ ?_
      rotate_left
      ·(intro W hSw;(have hcW:=hSw.cells;try simp only [qSd] at hcW);go_simp <;> rfl)
      try simp only [qPA]
     refine wpMono_one' 1 (by kernel_rfl) rfl (by rfl) (fun K hK=>?_)
     go_simp
     refine (ring_any (n:=X8.key) HRg.out.reg rfl rfl HRg.out.ring (by show 1≤X8.m.size;rw [HXi.out.2.2];decide) (by show X8.m.size≤64;rw [HXi.out.2.2];decide) (by rw [HXk.out];omega)).mono ?_
     rintro e w3 ⟨g3,rfl,hr3,hb3⟩
     have HK:=Lib.hid hb3
     have HRI:=Lib.hid hr3
     have HRg:=Lib.hid (HRg.out.below hb3)
     have HMg:=Lib.hid (HMg.out.below hb3 HMg.out.lt)
     have HBg:=Lib.hid (HBg.out.trans (Below.mono hb3 HBg.out.size))
     have hlg:=Blk.below hlg hb3 (Blk.lt hlg)
     have y4:=((Below.cell hb3 (p:=⟨mb,4,none⟩) yl)).trans y4
     have y6:=((Below.cell hb3 (p:=⟨mb,6,none⟩) yl)).trans y6
     have yl:=Nat.lt_of_lt_of_le yl (Below.size hb3)
     clear hb3 hr3
     refine hK.out _ _ ?_ ?_
     ·exact .of_below HK.out
     clear hK K
     try simp only [qPA]
     refine wpMono_one' 2 (by kernel_rfl) rfl (by rfl) (fun K hK=>?_)
     go_simp
     refine (ringw.current_any g3 _ X8.key w3 HRI.out).mono ?_
     rintro e w4 ⟨rfl,rfl⟩
     rw [HXk.out]
     refine hK.out _ _ ?_ ?_
     ·exact .refl _ _
     clear hK K
     try simp only [qPA]
     iterate 8
      first|refine qT 5 (v:=?_) ?_ ?_|refine qT 6 (v:=?_) ?_ ?_|refine qT 7 (v:=?_) ?_ ?_|refine qT 8 (v:=?_) ?_ ?_|refine qT 9 (v:=?_) ?_ ?_|refine qT 10 (v:=?_) ?_ ?_|refine qT 11 (v:=?_) ?_ ?_|refine qT 12 (v:=?_) ?_ ?_
      rotate_left
      ·(intro W hSw;(have hcW:=hSw.cells;try simp only [qSd] at hcW);go_simp <;> rfl)
      try simp only [qPA]
     refine wpMono_skip' 13 rfl (by kernel_rfl) (by kernel_rfl) (by kernel_rfl) (fun _ _ _ h=>h) (by rfl) ?_
     try simp only [qPA]
     refine wpMono_skip' 14 rfl (by kernel_rfl) (by kernel_rfl) (by kernel_rfl) (fun _ _ _ h=>h) (by rfl) ?_
     try simp only [qPA]
     refine wpMono_skip' 15 rfl (by kernel_rfl) (by kernel_rfl) (by kernel_rfl) (fun _ _ _ h=>h) (by rfl) ?_
     try simp only [qPA]
     refine wpMono_skip' 16 rfl (by kernel_rfl) (by kernel_rfl) (by kernel_rfl) (fun _ _ _ h=>h) (by rfl) ?_
     try simp only [qPA]
     refine wpMono_skip' 17 rfl (by kernel_rfl) (by kernel_rfl) (by kernel_rfl) (fun _ _ _ h=>h) (by rfl) ?_
     try simp only [qPA]
     iterate 7
      first|refine qT 18 (v:=?_) ?_ ?_|refine qT 19 (v:=?_) ?_ ?_|refine qT 20 (v:=?_) ?_ ?_|refine qT 21 (v:=?_) ?_ ?_|refine qT 22 (v:=?_) ?_ ?_|refine qT 23 (v:=?_) ?_ ?_|refine qT 24 (v:=?_) ?_ ?_
      rotate_left
      ·(intro W hSw;(have hcW:=hSw.cells;try simp only [qSd] at hcW);go_simp <;> rfl)
      try simp only [qPA]
     refine wpMono_skip' 25 rfl (by kernel_rfl) (by kernel_rfl) (by kernel_rfl) (fun _ _ _ h=>h) (by rfl) ?_
     try simp only [qPA]
     refine wpMono_skip' 26 rfl (by kernel_rfl) (by kernel_rfl) (by kernel_rfl) (fun _ _ _ h=>h) (by rfl) ?_
     try simp only [qPA]
     refine wpMono_skip' 27 rfl (by kernel_rfl) (by kernel_rfl) (by kernel_rfl) (fun _ _ _ h=>h) (by rfl) ?_
     try simp only [qPA]
     refine wpMono_skip' 28 rfl (by kernel_rfl) (by kernel_rfl) (by kernel_rfl) (fun _ _ _ h=>h) (by rfl) ?_
     try simp only [qPA]
     refine wpMono_skip' 29 rfl (by kernel_rfl) (by kernel_rfl) (by kernel_rfl) (fun _ _ _ h=>h) (by rfl) ?_
     try simp only [qPA]
     refine wpMono_skip' 30 rfl (by kernel_rfl) (by kernel_rfl) (by kernel_rfl) (fun _ _ _ h=>h) (by rfl) ?_
     try simp only [qPA]
     refine wpMono_skip' 31 rfl (by kernel_rfl) (by kernel_rfl) (by kernel_rfl) (fun _ _ _ h=>h) (by rfl) ?_
     try simp only [qPA]
     refine wpMono_skip' 32 rfl (by kernel_rfl) (by kernel_rfl) (by kernel_rfl) (fun _ _ _ h=>h) (by rfl) ?_
     try simp only [qPA]
     refine wpMono_skip' 33 rfl (by kernel_rfl) (by kernel_rfl) (by kernel_rfl) (fun _ _ _ h=>h) (by rfl) ?_
     try simp only [qPA]
     refine wpMono_skip' 34 rfl (by kernel_rfl) (by kernel_rfl) (by kernel_rfl) (fun _ _ _ h=>h) (by rfl) ?_
     try simp only [qPA]
     refine wpMono_skip' 35 rfl (by kernel_rfl) (by kernel_rfl) (by kernel_rfl) (fun _ _ _ h=>h) (by rfl) ?_
     try simp only [qPA]
     refine wpMono_skip' 36 rfl (by kernel_rfl) (by kernel_rfl) (by kernel_rfl) (fun _ _ _ h=>h) (by rfl) ?_
     try simp only [qPA]
     refine wpMono_skip' 37 rfl (by kernel_rfl) (by kernel_rfl) (by kernel_rfl) (fun _ _ _ h=>h) (by rfl) ?_
     try simp only [qPA]
     refine wpMono_skip' 38 rfl (by kernel_rfl) (by kernel_rfl) (by kernel_rfl) (fun _ _ _ h=>h) (by rfl) ?_
     try simp only [qPA]
     iterate 3
      first|refine qT 39 (v:=?_) ?_ ?_|refine qT 40 (v:=?_) ?_ ?_|refine qT 41 (v:=?_) ?_ ?_
      rotate_left
      ·(intro W hSw;(have hcW:=hSw.cells;try simp only [qSd] at hcW);go_simp <;> rfl)
      try simp only [qPA]
     refine wpMono_done (by kernel_rfl) ?_ _
     go_wp2_with fail
     go_ret
     exact ⟨rfl,HBg.out⟩
end Go.Proofs.YtlingaebpfdhgaaGreatDoor.wRegionBeats
