/- Part of GateRetires. -/
import Derived.Test.YthlahcnglacekaaGreatDoorB12
set_option maxRecDepth 100000
set_option maxHeartbeats 16000000
namespace Go.Proofs.YthlahcnglacekaaGreatDoor
namespace mac
open Go Go.RowKit base rowe macp monoj
theorem fold_any (v:W8) (b:List Nat) (bb off c:Nat) (w:World) (hv:v.Ok) (hb:∀ x ∈ b,x<256) (hl:b.length=64) (hc:64≤c) (hm:c≤maxLen) (hr:Reads w w.heap.size 1 (some ⟨bb,off,none⟩) 64 (u8s b)) :
  Calls Tryz.prog 242 #[.agg ⟨u32s v.list⟩,.slice (some ⟨bb,off,none⟩) 64 c] w fun e w'=>e=.returned (.agg ⟨u32s (fold v b).list⟩)∧Below w.heap.size w w':=by
 unfold maxLen at hm;have HV:=qH hv;have HB:=qH hb;have HR:=qH hr;have HL:=qH hl;clear hv hb hr hl;obtain ⟨va,vb,vc,vd,ve,vf,vg,vh⟩:=v;unfold W8.list u32s;dsimp only [List.map];go_enter Tryz.func242,Tryz.ntmps242;go_wp2_with fail;obtain ⟨gw,hgw⟩:∃ g,w.heap.size+1+1=g:=⟨_,rfl⟩;rw [hgw]
 go_loopw [19] (fun x wr=>∃ i:Nat,i≤64∧x=.int .i64 i∧(i<64→Blk wr gw 381 (u32s (schedA b i 0)).toArray)∧(i=64→Blk wr gw 381 (u32s (sched b 64)).toArray) ∧
   Blk wr w.heap.size 352 (u32s [va,vb,vc,vd,ve,vf,vg,vh]).toArray∧Blk wr (w.heap.size+1) 352 (u32s [0,0,0,0,0,0,0,0]).toArray∧Below w.heap.size w wr) (fun x _=>64-(intOf x).toNat)
 case atStart =>
  have hx:=(((below_new w (.cells (u32s [va,vb,vc,vd,ve,vf,vg,vh]).toArray 352)).alloc (by simp) (.cells (u32s [0,0,0,0,0,0,0,0]).toArray 352)).alloc (by simp;omega) (.cells (u32s (schedA b 0 0)).toArray 381));have h1:Blk (((w.alloc (.cells (u32s [va,vb,vc,vd,ve,vf,vg,vh]).toArray 352)).alloc (.cells (u32s [0,0,0,0,0,0,0,0]).toArray 352)).alloc (.cells (u32s (schedA b 0 0)).toArray 381)) gw 381 (u32s (schedA b 0 0)).toArray:=Blk.newAt _ _ _ (by simp;omega);have h2:Blk (((w.alloc (.cells (u32s [va,vb,vc,vd,ve,vf,vg,vh]).toArray 352)).alloc (.cells (u32s [0,0,0,0,0,0,0,0]).toArray 352)).alloc (.cells (u32s (schedA b 0 0)).toArray 381)) w.heap.size 352 (u32s [va,vb,vc,vd,ve,vf,vg,vh]).toArray:=((Blk.new _ _ _).alloc _).alloc _;have h3:Blk (((w.alloc (.cells (u32s [va,vb,vc,vd,ve,vf,vg,vh]).toArray 352)).alloc (.cells (u32s [0,0,0,0,0,0,0,0]).toArray 352)).alloc (.cells (u32s (schedA b 0 0)).toArray 381)) (w.heap.size+1) 352 (u32s [0,0,0,0,0,0,0,0]).toArray:=(Blk.newAt _ _ _ (by simp)).alloc _;exact ⟨0,by omega,rfl,fun _=>h1,fun h=>by omega,h2,h3,hx⟩
 case round =>
  obtain ⟨i,hi,rfl,h1,h2,hbh,hbz,hbw⟩:=hrel
  by_cases h64:i=64
  ·subst h64
   have HS:=qH (h2 rfl);have HBH:=qH hbh;have HBZ:=qH hbz;have HBW:=qH hbw;obtain ⟨a0,a1,a2,a3,a4,a5,a6,a7⟩:=cells8 hbh;have hlt:=hbh.lt;clear h1 h2 hbh hbz hbw;go_wp2_with fail;have HS2:=qH (HS.out.alloc (.cells (u32s [va,vb,vc,vd,ve,vf,vg,vh]).toArray 352));have HBH2:=qH (HBH.out.alloc (.cells (u32s [va,vb,vc,vd,ve,vf,vg,vh]).toArray 352));have HBZ2:=qH (HBZ.out.alloc (.cells (u32s [va,vb,vc,vd,ve,vf,vg,vh]).toArray 352));have HBW2:=qH (HBW.out.alloc HBW.out.size (.cells (u32s [va,vb,vc,vd,ve,vf,vg,vh]).toArray 352));have HV2:=qH (Blk.new wr 352 (u32s [va,vb,vc,vd,ve,vf,vg,vh]).toArray);obtain ⟨gv,hgv⟩:∃ g,wr.heap.size=g:=⟨_,rfl⟩;have hwv:w.heap.size+2<gv:=by have:=HS.out.lt;omega
   refine (turns_any _).mono ?_;rintro e w3 ⟨rfl,hb3⟩;have hlt3:gv<(wr.alloc (.cells (u32s [va,vb,vc,vd,ve,vf,vg,vh]).toArray 352)).heap.size:=by simp;omega
   rw [hgv] at HV2 ⊢;have HS3:=qH (HS2.out.below hb3 (Nat.lt_trans (show gw<gv by omega) hlt3));have HBH3:=qH (HBH2.out.below hb3 (Nat.lt_trans (show w.heap.size<gv by omega) hlt3));have HBZ3:=qH (HBZ2.out.below hb3 (Nat.lt_trans (show w.heap.size+1<gv by omega) hlt3));have HV3:=qH (HV2.out.below hb3 hlt3);have HBW3:=qH (HBW2.out.trans (hb3.mono HBW2.out.size));obtain ⟨TT,hTT⟩:∃ TT,u32s turns=TT:=⟨_,rfl⟩;have HTT:=qH hTT;rw [hTT];clear HS HBH HBZ HBW HS2 HBH2 HBZ2 HBW2 HV2 hb3 a0 a1 a2 a3 a4 a5 a6 a7 hlt hlt3 hgv hTT;go_wp2_with fail
   go_loopw [86] (fun x wr=>∃ i:Nat,i≤64∧x=.int .i64 i∧Blk wr gv 352 (u32s (rnds ⟨va,vb,vc,vd,ve,vf,vg,vh⟩ (sched b 64) i).list).toArray∧Blk wr gw 381 (u32s (sched b 64)).toArray ∧
     Blk wr w.heap.size 352 (u32s [va,vb,vc,vd,ve,vf,vg,vh]).toArray∧Blk wr (w.heap.size+1) 352 (u32s [0,0,0,0,0,0,0,0]).toArray∧Below w.heap.size w wr) (fun x _=>64-(intOf x).toNat)
   case atStart=>exact ⟨0,by omega,rfl,HV3.out,HS3.out,HBH3.out,HBZ3.out,HBW3.out⟩
   case round =>
    clear HV3 HS3 HBH3 HBZ3 HBW3;obtain ⟨i,hi,rfl,hv,hs,hbh,hbz,hbw⟩:=hrel;have hok:=rnds_ok HV.out (sched b 64) i
    by_cases h64:i=64
    ·subst h64
     obtain ⟨⟨ua,ub,uc,ud,ue,uf,ug,uh⟩,hU⟩:∃ U,rnds ⟨va,vb,vc,vd,ve,vf,vg,vh⟩ (sched b 64) 64=U:=⟨_,rfl⟩;have HF:=qH (show fold ⟨va,vb,vc,vd,ve,vf,vg,vh⟩ b=plus ⟨va,vb,vc,vd,ve,vf,vg,vh⟩ (rnds ⟨va,vb,vc,vd,ve,vf,vg,vh⟩ (sched b 64) 64) from rfl);rw [hU] at hv;rw [hU] at HF;unfold W8.list at hv;dsimp only at hv;have HVV:=qH hv;have HBH:=qH hbh;have HBZ:=qH hbz;have HBW:=qH hbw;have hvl:=hv.lt;clear hv hs hbh hbz hbw hU hok;go_wp2_with fail
     go_loopw [163] (fun x wr=>∃ i:Nat,i≤8∧x=.int .i64 i∧Blk wr gv 352 (u32s [ua,ub,uc,ud,ue,uf,ug,uh]).toArray∧Blk wr w.heap.size 352 (u32s ((sumL [va,vb,vc,vd,ve,vf,vg,vh] [ua,ub,uc,ud,ue,uf,ug,uh]).take i++[va,vb,vc,vd,ve,vf,vg,vh].drop i)).toArray ∧
       Blk wr (w.heap.size+1) 352 (u32s [0,0,0,0,0,0,0,0]).toArray∧Below w.heap.size w wr) (fun x _=>8-(intOf x).toNat)
     case atStart=>exact ⟨0,by omega,rfl,HVV.out,HBH.out,HBZ.out,HBW.out⟩
     case round =>
      clear HVV HBH HBZ HBW;obtain ⟨i,hi,rfl,hv,hbh,hbz,hbw⟩:=hrel;have hlt:=hbh.lt;have hltz:=hbz.lt;have hltv:=hv.lt
      by_cases h8:i=8
      ·subst h8
       have hw8:Blk wr w.heap.size 352 (u32s (plus ⟨va,vb,vc,vd,ve,vf,vg,vh⟩ ⟨ua,ub,uc,ud,ue,uf,ug,uh⟩).list).toArray:=hbh;clear hbh;generalize plus ⟨va,vb,vc,vd,ve,vf,vg,vh⟩ ⟨ua,ub,uc,ud,ue,uf,ug,uh⟩=r at *;obtain ⟨ra,rb,rc,rd,re,rf,rg,rh⟩:=r;unfold W8.list at hw8;dsimp only at hw8;obtain ⟨y0,y1,y2,y3,y4,y5,y6,y7⟩:=cells8 hw8;have HBZ:=qH hbz;have HBW:=qH hbw;clear hv hw8 hbz hbw
       go_wp2_with (refine wpList_store_blk rfl 352 (.tmp 4) (.tmp 175) rfl (w.heap.size+1) _ rfl rfl HBZ.out (by kernel_rfl) (by simp [u32s]) rfl ?_;intro w5 ho5 hk5 hs5)
       refine bodyPost_ret (v:=.agg ⟨u32s [ra,rb,rc,rd,re,rf,rg,rh]⟩) (results_cell_row rfl _ _ (w.heap.size+1) 352 (u32s [ra,rb,rc,rd,re,rf,rg,rh]).toArray (0,0) _ rfl ho5 Tryz.underlying352 rfl (by kernel_rfl)) rfl ⟨by rw [HF.out];rfl,?_⟩;exact HBW.out.trans (hk5.below (fun i hi e=>by omega) HBW.out.size)
      ·have hi8:(i:Int)<8:=by omega
       have hu:=blk_get (r:=[]) (l:=[ua,ub,uc,ud,ue,uf,ug,uh]) (k:=i) (by rw [List.append_nil];exact hv) (by show i<8;omega);rw [drop_next [va,vb,vc,vd,ve,vf,vg,vh] (i:=i) (by show i<8;omega)] at hbh;have hh:=blk_at (i:=i) hbh (by rw [List.length_take];show min i 8=i;omega);have hfz:=hbh.frozen i;have HN:=qH (fun v hv=>blk_put (i:=i) hbh (by rw [List.length_take];show min i 8=i;omega) ((sumL [va,vb,vc,vd,ve,vf,vg,vh] [ua,ub,uc,ud,ue,uf,ug,uh]).getD i 0) v hv);have HZ:=qH (take_next (sumL [va,vb,vc,vd,ve,vf,vg,vh] [ua,ub,uc,ud,ue,uf,ug,uh]) (i:=i) (by show i<8;omega));have HQ:=qH (sum_at [va,vb,vc,vd,ve,vf,vg,vh] [ua,ub,uc,ud,ue,uf,ug,uh] (i:=i) (by show i<8;omega) (by show i<8;omega));have HVV:=qH hv;have HBZ:=qH hbz;have HBW:=qH hbw;clear hv hbh hbz hbw;generalize [va,vb,vc,vd,ve,vf,vg,vh].getD i 0=p at *;generalize [ua,ub,uc,ud,ue,uf,ug,uh].getD i 0=q at *;go_wp2_with fail;refine wp_region_monoJ (fun i=>i=w.heap.size) [8] (by kernel_rfl) ?_
       iterate 2
        first|refine qJ 0 (v:=?_) ?_ ?_|refine qJ 1 (v:=?_) ?_ ?_
        rotate_left
        ·(intro W hSw;(first|(have hcW:=hSw.cells;try simp only [qSd] at hcW)|skip);go_simp <;> rfl)
        try simp only [qPA]
       refine wpMonoJ_read' 2 [6,7,8] (v:=?_) rfl (by kernel_rfl) (by kernel_rfl) (by kernel_rfl) (by rfl) (by kernel_rfl) (by rfl) (fun _ _ _ h=>h) (by rfl) ?_ ?_;rotate_left
       ·(intro W hSw;(first|(have hcW:=hSw.cells;try simp only [qSd] at hcW)|skip);go_simp <;> rfl)
       try simp only [qPA]
       iterate 2
        first|refine qJ 3 (v:=?_) ?_ ?_|refine qJ 4 (v:=?_) ?_ ?_
        rotate_left
        ·(intro W hSw;(first|(have hcW:=hSw.cells;try simp only [qSd] at hcW)|skip);go_simp <;> rfl)
        try simp only [qPA]
       refine wpMonoJ_read' 5 [6,7,8] (v:=?_) rfl (by kernel_rfl) (by kernel_rfl) (by kernel_rfl) (by rfl) (by kernel_rfl) (by rfl) (fun _ _ _ h=>h) (by rfl) ?_ ?_;rotate_left
       ·(intro W hSw;(first|(have hcW:=hSw.cells;try simp only [qSd] at hcW)|skip);go_simp <;> rfl)
       try simp only [qPA]
       iterate 2
        first|refine qJ 6 (v:=?_) ?_ ?_|refine qJ 7 (v:=?_) ?_ ?_
        rotate_left
        ·(intro W hSw;(first|(have hcW:=hSw.cells;try simp only [qSd] at hcW)|skip);go_simp <;> rfl)
        try simp only [qPA]
       refine wpMonoJ_one' 8 (by kernel_rfl) rfl (by rfl) (fun K hK=>?_)
       go_simp
       refine hK.out _ _ ?_ ?_
       ·exact moved (Keeps.set1 _ _ _ _) (by decide)
       clear hK K
       try simp only [Act.put]
       refine wpMonoJ_done (by kernel_rfl) ?_ _;go_wp2_with fail;go_roundw
       case rel =>
        have hz:((p:Int)+(q:Int)) % 4294967296=(((p+q) % 4294967296:Nat):Int):=by omega
        have hbk:=HN.out _ (val_int (hz.trans (by rw [HQ.out])))
        repeat apply Exists.intro
        refine ⟨⟨i+1,by omega,by go_num,(HVV.out.far (p:=⟨w.heap.size,i,none⟩) (by simp <;> omega) _),?_,(HBZ.out.far (p:=⟨w.heap.size,i,none⟩) (by simp <;> omega) _),(HBW.out.trans ((Keeps.set1 _ _ _ _).below (fun i hi e=>by omega) HBW.out.size)).drew⟩,rfl⟩;rw [HZ.out,List.append_assoc];exact hbk
       case measure=>simp [intOf];omega
    ·have hix:=fun w1=>idx_words 381 64 i turns w1 Tryz.underlying381 (by omega) rfl
     rw [HTT.out] at hix;have hgx:wr.cell? ⟨gw,i,none⟩=some (.int .u32 ((sched b 64).getD i 0:Nat)):=blk_get (r:=[]) (l:=sched b 64) (by rw [List.append_nil];exact hs) (by rw [sched_len];omega);have hi64:(i:Int)<64:=by omega
     have HNX:=qH (show rnds ⟨va,vb,vc,vd,ve,vf,vg,vh⟩ (sched b 64) (i+1)=rnd (rnds ⟨va,vb,vc,vd,ve,vf,vg,vh⟩ (sched b 64) i) (turns.getD i 0) ((sched b 64).getD i 0) from rfl);have HS:=qH hs;have HBH:=qH hbh;have HBZ:=qH hbz;have HBW:=qH hbw;generalize turns.getD i 0=tk at *;generalize (sched b 64).getD i 0=tw at *;generalize rnds ⟨va,vb,vc,vd,ve,vf,vg,vh⟩ (sched b 64) i=u at *;obtain ⟨ua,ub,uc,ud,ue,uf,ug,uh⟩:=u;obtain ⟨oa,ob,oc,od,oe,of_,og,oh⟩:=hok;dsimp only at oa ob oc od oe of_ og oh;unfold W8.list at hv;dsimp only at hv;obtain ⟨y0,y1,y2,y3,y4,y5,y6,y7⟩:=cells8 hv;have hvl:=hv.lt;have hsl:=hs.lt;have HVV:=qH hv;clear hv hs hbh hbz hbw;go_wp2_with fail
     go_quiet (fail)
     go_wp2_with fail;refine wp_region_mono nobody (by kernel_rfl) ?_
     iterate 19
      first|refine qT 0 (v:=?_) ?_ ?_|refine qT 1 (v:=?_) ?_ ?_|refine qT 2 (v:=?_) ?_ ?_|refine qT 4 (v:=?_) ?_ ?_|refine qT 7 (v:=?_) ?_ ?_|refine qT 11 (v:=?_) ?_ ?_|refine qT 12 (v:=?_) ?_ ?_|refine qT 13 (v:=?_) ?_ ?_|refine qT 14 (v:=?_) ?_ ?_|refine qT 15 (v:=?_) ?_ ?_|refine qT 16 (v:=?_) ?_ ?_|refine qT 17 (v:=?_) ?_ ?_|refine qT 18 (v:=?_) ?_ ?_|refine qT 19 (v:=?_) ?_ ?_|refine qT 20 (v:=?_) ?_ ?_|refine qT 22 (v:=?_) ?_ ?_|refine qT 24 (v:=?_) ?_ ?_|refine qT 25 (v:=?_) ?_ ?_|refine qT 26 (v:=?_) ?_ ?_
      rotate_left
      ·(intro W hSw;(first|(have hcW:=hSw.cells;(try simp only [sz_drewN,World.cell?_drewN] at hcW);(try simp only [qSd] at hcW);(try simp only [sz_drewN,World.cell?_drewN] at hcW))|skip);go_simp <;> rfl)
      try simp only [qPA]
     refine wpMono_one' 3 (by kernel_rfl) rfl (by rfl) (fun K hK=>?_)
     go_simp
     refine (rot_any ue 26 _ oe (by decide)).mono ?_;rintro e w2 ⟨rfl,hw⟩;subst hw;refine hK.out _ _ ?_ ?_
     ·exact Keeps.refl _ _
     clear hK K
     try simp only [qPA]
     refine wpMono_one' 5 (by kernel_rfl) rfl (by rfl) (fun K hK=>?_)
     go_simp
     refine (rot_any ue 21 _ oe (by decide)).mono ?_;rintro e w2 ⟨rfl,hw⟩;subst hw;refine hK.out _ _ ?_ ?_
     ·exact Keeps.refl _ _
     clear hK K
     try simp only [qPA]
     refine qT 6 (v:=?_) ?_ ?_;rotate_left
     ·(intro W hSw;(first|(have hcW:=hSw.cells;(try simp only [sz_drewN,World.cell?_drewN] at hcW);(try simp only [qSd] at hcW);(try simp only [sz_drewN,World.cell?_drewN] at hcW))|skip);go_simp <;> rfl)
     try simp only [qPA]
     refine wpMono_one' 8 (by kernel_rfl) rfl (by rfl) (fun K hK=>?_)
     go_simp
     refine (rot_any ue 7 _ oe (by decide)).mono ?_;rintro e w2 ⟨rfl,hw⟩;subst hw;refine hK.out _ _ ?_ ?_
     ·exact Keeps.refl _ _
     clear hK K
     try simp only [qPA]
     iterate 6
      first|refine qT 9 (v:=?_) ?_ ?_|refine qT 10 (v:=?_) ?_ ?_|refine qT 21 (v:=?_) ?_ ?_|refine qT 23 (v:=?_) ?_ ?_|refine qT 27 (v:=?_) ?_ ?_|refine qT 28 (v:=?_) ?_ ?_
      rotate_left
      ·(intro W hSw;(first|(have hcW:=hSw.cells;(try simp only [sz_drewN,World.cell?_drewN] at hcW);(try simp only [qSd] at hcW);(try simp only [sz_drewN,World.cell?_drewN] at hcW))|skip);go_simp <;> rfl)
      try simp only [qPA]
     refine wpMono_done (by kernel_rfl) ?_ _;rw [spell_xx oe of_ og ua ub uc ud];have HX:=qH (show xx ⟨ua,ub,uc,ud,ue,uf,ug,uh⟩ tk tw=xx ⟨ua,ub,uc,ud,ue,uf,ug,uh⟩ tk tw from rfl);generalize hxx:xx ⟨ua,ub,uc,ud,ue,uf,ug,uh⟩ tk tw=X at *;go_wp2_with fail;refine wp_region_mono nobody (by kernel_rfl) ?_
     iterate 16
      first|refine qT 0 (v:=?_) ?_ ?_|refine qT 2 (v:=?_) ?_ ?_|refine qT 5 (v:=?_) ?_ ?_|refine qT 8 (v:=?_) ?_ ?_|refine qT 9 (v:=?_) ?_ ?_|refine qT 10 (v:=?_) ?_ ?_|refine qT 11 (v:=?_) ?_ ?_|refine qT 12 (v:=?_) ?_ ?_|refine qT 13 (v:=?_) ?_ ?_|refine qT 14 (v:=?_) ?_ ?_|refine qT 15 (v:=?_) ?_ ?_|refine qT 16 (v:=?_) ?_ ?_|refine qT 17 (v:=?_) ?_ ?_|refine qT 18 (v:=?_) ?_ ?_|refine qT 19 (v:=?_) ?_ ?_|refine qT 20 (v:=?_) ?_ ?_
      rotate_left
      ·(intro W hSw;(first|(have hcW:=hSw.cells;(try simp only [sz_drewN,World.cell?_drewN] at hcW);(try simp only [qSd] at hcW);(try simp only [sz_drewN,World.cell?_drewN] at hcW))|skip);go_simp <;> rfl)
      try simp only [qPA]
     refine wpMono_one' 1 (by kernel_rfl) rfl (by rfl) (fun K hK=>?_)
     go_simp
     refine (rot_any ua 30 _ oa (by decide)).mono ?_;rintro e w2 ⟨rfl,hw⟩;subst hw;refine hK.out _ _ ?_ ?_
     ·exact Keeps.refl _ _
     clear hK K
     try simp only [qPA]
     refine wpMono_one' 3 (by kernel_rfl) rfl (by rfl) (fun K hK=>?_)
     go_simp
     refine (rot_any ua 19 _ oa (by decide)).mono ?_;rintro e w2 ⟨rfl,hw⟩;subst hw;refine hK.out _ _ ?_ ?_
     ·exact Keeps.refl _ _
     clear hK K
     try simp only [qPA]
     refine qT 4 (v:=?_) ?_ ?_;rotate_left
     ·(intro W hSw;(first|(have hcW:=hSw.cells;(try simp only [sz_drewN,World.cell?_drewN] at hcW);(try simp only [qSd] at hcW);(try simp only [sz_drewN,World.cell?_drewN] at hcW))|skip);go_simp <;> rfl)
     try simp only [qPA]
     refine wpMono_one' 6 (by kernel_rfl) rfl (by rfl) (fun K hK=>?_)
     go_simp
     refine (rot_any ua 10 _ oa (by decide)).mono ?_;rintro e w2 ⟨rfl,hw⟩;subst hw;refine hK.out _ _ ?_ ?_
     ·exact Keeps.refl _ _
     clear hK K
     try simp only [qPA]
     iterate 3
      first|refine qT 7 (v:=?_) ?_ ?_|refine qT 21 (v:=?_) ?_ ?_|refine qT 22 (v:=?_) ?_ ?_
      rotate_left
      ·(intro W hSw;(first|(have hcW:=hSw.cells;(try simp only [sz_drewN,World.cell?_drewN] at hcW);(try simp only [qSd] at hcW);(try simp only [sz_drewN,World.cell?_drewN] at hcW))|skip);go_simp <;> rfl)
      try simp only [qPA]
     refine wpMono_done (by kernel_rfl) ?_ _;rw [spell_yy oa ob oc ud ue uf ug uh];generalize hyy:yy ⟨ua,ub,uc,ud,ue,uf,ug,uh⟩=Y at *
     go_wp2_with (generalize hn1:((X:Int)+(Y:Int)) % 4294967296=n1;generalize hn2:((ud:Int)+(X:Int)) % 4294967296=n2;refine wpList_store_blk rfl 352 (.tmp 11) (.tmp 161) rfl gv _ rfl rfl (HVV.out.drewN _) (by kernel_rfl) (by simp [u32s]) rfl ?_;intro w5 ho5 hk5 hs5)
     have HQ:=qH (show Blk w5 gv 352 (u32s (rnds ⟨va,vb,vc,vd,ve,vf,vg,vh⟩ (sched b 64) (i+1)).list).toArray from by
      rw [HNX.out];unfold rnd;rw [hxx,hyy];have h6:=ho5;rw [show n1=(((X+Y) % 4294967296:Nat):Int) by omega,show n2=(((ud+X) % 4294967296:Nat):Int) by omega] at h6;exact h6)
     have hk5':Keeps (fun x=>x=gv) wr w5:=(Keeps.drewN _).trans hk5;have HQS:=qH (HS.out.keeps hk5' (by omega));have HQH:=qH (HBH.out.keeps hk5' (by omega));have HQZ:=qH (HBZ.out.keeps hk5' (by omega));have HQW:=qH (HBW.out.trans (hk5'.below (fun i hi e=>by omega) HBW.out.size));clear ho5 hk5 hk5' hs5;go_wp2_with fail;go_roundw
     case rel=>exact ⟨i+1,by omega,by go_num,HQ.out,HQS.out,HQH.out,HQZ.out,HQW.out⟩
     case measure=>simp [intOf];omega
  ·by_cases h16:i<16
   ·obtain ⟨q,hq⟩:∃ q,4*i=q:=⟨_,rfl⟩
    obtain ⟨q4,hq4⟩:∃ q4,q+4=q4:=⟨_,rfl⟩;have e1:IntKind.i64.wrap (4*(i:Int))=(q:Int):=by rw [IntKind.wrap_i64];omega
    have e2:IntKind.i64.wrap ((q:Int)+4)=(q4:Int):=by rw [IntKind.wrap_i64];omega
    have H1:=qH (h1 (by omega));have HBH:=qH hbh;have HBZ:=qH hbz;have HBW:=qH hbw;have HQ:=qH hq;have hqc:¬ c=q:=by omega
    have hq4c:q4≤c:=by omega
    have e5:q4-q=4:=by omega
    clear h1 h2 hbh hbz hbw hq;go_wp2_with fail
    go_loopw [32] (fun x wr=>∃ j:Nat,j≤4∧x=.int .i64 j∧Blk wr gw 381 (u32s (schedA b i (word (b.drop (4*i)) j))).toArray ∧
      Blk wr w.heap.size 352 (u32s [va,vb,vc,vd,ve,vf,vg,vh]).toArray∧Blk wr (w.heap.size+1) 352 (u32s [0,0,0,0,0,0,0,0]).toArray∧Below w.heap.size w wr) (fun x _=>4-(intOf x).toNat)
    case atStart=>exact ⟨0,by omega,rfl,H1.out,HBH.out,HBZ.out,HBW.out⟩
    case round =>
     obtain ⟨j,hj,rfl,h1,hbh,hbz,hbw⟩:=hrel
     by_cases hj4:j<4
     ·have hqj:q+j<b.length:=by have:=HL.out;have:=HQ.out;omega
      have hby:b[q+j]<256:=HB.out _ (List.getElem_mem hqj)
      have hbyte:wr.cell? ⟨bb,off+q+j,none⟩=some (.int .u8 (b[q+j]:Nat)):=by
       have h3:=(HR.out.below hbw).get (j:=q+j) (by omega) (v:=.int .u8 (b[q+j]:Nat)) (by simp [u8s,hqj]);rw [Nat.add_assoc];exact h3
      have hwl:=word_lt (b:=b.drop (4*i)) (fun x hx=>HB.out x (List.mem_of_mem_drop hx)) j
      have hwn:word (b.drop (4*i)) (j+1)=word (b.drop (4*i)) j*256 % 4294967296 ||| b[q+j]:=by
       rw [word,List.getD_eq_getElem?_getD,List.getElem?_drop,HQ.out,List.getElem?_eq_getElem hqj];rfl
      have hsp:=u32_or_nat (word (b.drop (4*i)) j*256 % 4294967296) b[q+j] (M_lt _) (by omega);have hcw:=blk_at (l:=sched b i) (i:=i) h1 (sched_len b i);have hfz:=h1.frozen i;have hlt:=h1.lt;have HN:=qH (fun v hv=>blk_put (l:=sched b i) (i:=i) h1 (sched_len b i) (word (b.drop (4*i)) (j+1)) v hv);have HBHr:=qH hbh;have HBZr:=qH hbz;have HBWr:=qH hbw;have HSP:=qH (hsp.trans (by rw [←hwn]));clear h1 hbh hbz hbw hwn hsp hqc hq4c H1 HBH HBZ HBW;generalize word (b.drop (4*i)) j=y at *;generalize b[q+j]=z at *;go_wp2_with fail;go_roundw
      case rel=>exact ⟨j+1,by omega,by go_num,HN.out _ (val_int HSP.out),HBHr.out.far (by simp <;> omega) _,HBZr.out.far (by simp <;> omega) _,HBWr.out.trans ((Keeps.set1 _ _ _ _).below (fun i hi e=>by omega) HBWr.out.size)⟩
      case measure=>simp [intOf];omega
     ·obtain rfl:j=4:=by omega
      have HN:=qH (show Blk wr gw 381 (u32s (schedA b (i+1) 0)).toArray from by
       rw [←schedA_next b (by omega:i<63),next,if_pos h16];exact h1)
      have HBHr:=qH hbh;have HBZr:=qH hbz;have HBWr:=qH hbw;clear h1 hbh hbz hbw hqc hq4c H1 HBH HBZ HBW;go_wp2_with fail;go_roundw
      case rel=>exact ⟨i+1,by omega,by go_num,fun _=>HN.out,fun h=>by omega,HBHr.out,HBZr.out,HBWr.out⟩
      case measure=>simp [intOf];omega
   ·obtain ⟨i15,h15⟩:∃ k,k+15=i:=⟨i-15,by omega⟩
    obtain ⟨i2,h2'⟩:∃ k,k+2=i:=⟨i-2,by omega⟩;obtain ⟨i16,h16'⟩:∃ k,k+16=i:=⟨i-16,by omega⟩;obtain ⟨i7,h7⟩:∃ k,k+7=i:=⟨i-7,by omega⟩;have e15:IntKind.i64.wrap ((i:Int)-15)=(i15:Int):=by rw [IntKind.wrap_i64];omega
    have e2:IntKind.i64.wrap ((i:Int)-2)=(i2:Int):=by rw [IntKind.wrap_i64];omega
    have e16:IntKind.i64.wrap ((i:Int)-16)=(i16:Int):=by rw [IntKind.wrap_i64];omega
    have e7:IntKind.i64.wrap ((i:Int)-7)=(i7:Int):=by rw [IntKind.wrap_i64];omega
    replace h1:Blk wr gw 381 (u32s (sched b i++0 :: List.replicate (63-i) 0)).toArray:=h1 (by omega)
    have b16:(i16:Int)<64:=by omega
    have b7:(i7:Int)<64:=by omega
    have hsl:=sched_len b i;have hsb:=sched_lt HB.out i;have q15:=blk_get h1 (k:=i15) (by omega);have q2:=blk_get h1 (k:=i2) (by omega);have q16:=blk_get h1 (k:=i16) (by omega);have q7:=blk_get h1 (k:=i7) (by omega);have qi:=blk_at (l:=sched b i) (i:=i) h1 hsl;have l15:=getD_lt hsb (by omega) i15;have l2:=getD_lt hsb (by omega) i2
    have hnx:next b (sched b i) i=((sched b i).getD i16 0+s0 ((sched b i).getD i15 0)+(sched b i).getD i7 0+s1 ((sched b i).getD i2 0)) % 4294967296:=by
     unfold next;rw [if_neg h16,show i-16=i16 by omega,show i-15=i15 by omega,show i-7=i7 by omega,show i-2=i2 by omega]
    have hfz:=h1.frozen i;have hlt:=h1.lt;have HN:=qH (fun v hv=>blk_put (l:=sched b i) (i:=i) h1 hsl (next b (sched b i) i) v hv);have HE:=qH (fun hx:i=63=>schedA_end b);have HS:=qH (fun hx:i<63=>schedA_next b hx);have HBH:=qH hbh;have HBZ:=qH hbz;have HBW:=qH hbw;rw [hnx] at HN;have HNX:=qH hnx;clear h1 h2 hbh hbz hbw hnx hsb hsl;generalize (sched b i).getD i15 0=p at *;generalize (sched b i).getD i2 0=q at *;generalize (sched b i).getD i16 0=x16 at *;generalize (sched b i).getD i7 0=x7 at *;go_wp2_with fail
    go_quiet (fail)
    go_wp2_with fail;refine wp_region_monoJ (fun i=>i=gw) [29] (by kernel_rfl) ?_
    iterate 4
     first|refine qJ 0 (v:=?_) ?_ ?_|refine qJ 1 (v:=?_) ?_ ?_|refine qJ 2 (v:=?_) ?_ ?_|refine qJ 3 (v:=?_) ?_ ?_
     rotate_left
     ·(intro W hSw;(first|(have hcW:=hSw.cells;(try simp only [sz_drewN,World.cell?_drewN] at hcW);(try simp only [qSd] at hcW);(try simp only [sz_drewN,World.cell?_drewN] at hcW))|skip);go_simp <;> rfl)
     try simp only [qPA]
    refine wpMonoJ_read' 4 [13,18,27,28,29] (v:=?_) rfl (by kernel_rfl) (by kernel_rfl) (by kernel_rfl) (by rfl) (by kernel_rfl) (by rfl) (fun _ _ _ h=>h) (by rfl) ?_ ?_;rotate_left
    ·(intro W hSw;(first|(have hcW:=hSw.cells;(try simp only [sz_drewN,World.cell?_drewN] at hcW);(try simp only [qSd] at hcW);(try simp only [sz_drewN,World.cell?_drewN] at hcW))|skip);go_simp <;> rfl)
    try simp only [qPA]
    iterate 7
     first|refine qJ 5 (v:=?_) ?_ ?_|refine qJ 7 (v:=?_) ?_ ?_|refine qJ 10 (v:=?_) ?_ ?_|refine qJ 11 (v:=?_) ?_ ?_|refine qJ 14 (v:=?_) ?_ ?_|refine qJ 15 (v:=?_) ?_ ?_|refine qJ 16 (v:=?_) ?_ ?_
     rotate_left
     ·(intro W hSw;(first|(have hcW:=hSw.cells;(try simp only [sz_drewN,World.cell?_drewN] at hcW);(try simp only [qSd] at hcW);(try simp only [sz_drewN,World.cell?_drewN] at hcW))|skip);go_simp <;> rfl)
     try simp only [qPA]
    refine wpMonoJ_read' 17 [18,27,28,29] (v:=?_) rfl (by kernel_rfl) (by kernel_rfl) (by kernel_rfl) (by rfl) (by kernel_rfl) (by rfl) (fun _ _ _ h=>h) (by rfl) ?_ ?_;rotate_left
    ·(intro W hSw;(first|(have hcW:=hSw.cells;(try simp only [sz_drewN,World.cell?_drewN] at hcW);(try simp only [qSd] at hcW);(try simp only [sz_drewN,World.cell?_drewN] at hcW))|skip);go_simp <;> rfl)
    try simp only [qPA]
    iterate 4
     first|refine qJ 19 (v:=?_) ?_ ?_|refine qJ 21 (v:=?_) ?_ ?_|refine qJ 24 (v:=?_) ?_ ?_|refine qJ 25 (v:=?_) ?_ ?_
     rotate_left
     ·(intro W hSw;(first|(have hcW:=hSw.cells;(try simp only [sz_drewN,World.cell?_drewN] at hcW);(try simp only [qSd] at hcW);(try simp only [sz_drewN,World.cell?_drewN] at hcW))|skip);go_simp <;> rfl)
     try simp only [qPA]
    refine wpMonoJ_one' 6 (by kernel_rfl) rfl (by rfl) (fun K hK=>?_)
    go_simp
    refine (rot_any p 25 _ l15 (by decide)).mono ?_;rintro e w2 ⟨rfl,hw⟩;subst hw;refine hK.out _ _ ?_ ?_
    ·exact Keeps.refl _ _
    clear hK K
    try simp only [qPA]
    refine wpMonoJ_one' 8 (by kernel_rfl) rfl (by rfl) (fun K hK=>?_)
    go_simp
    refine (rot_any p 14 _ l15 (by decide)).mono ?_;rintro e w2 ⟨rfl,hw⟩;subst hw;refine hK.out _ _ ?_ ?_
    ·exact Keeps.refl _ _
    clear hK K
    try simp only [qPA]
    iterate 4
     first|refine qJ 9 (v:=?_) ?_ ?_|refine qJ 12 (v:=?_) ?_ ?_|refine qJ 13 (v:=?_) ?_ ?_|refine qJ 18 (v:=?_) ?_ ?_
     rotate_left
     ·(intro W hSw;(first|(have hcW:=hSw.cells;(try simp only [sz_drewN,World.cell?_drewN] at hcW);(try simp only [qSd] at hcW);(try simp only [sz_drewN,World.cell?_drewN] at hcW))|skip);go_simp <;> rfl)
     try simp only [qPA]
    refine wpMonoJ_one' 20 (by kernel_rfl) rfl (by rfl) (fun K hK=>?_)
    go_simp
    refine (rot_any q 15 _ l2 (by decide)).mono ?_;rintro e w2 ⟨rfl,hw⟩;subst hw;refine hK.out _ _ ?_ ?_
    ·exact Keeps.refl _ _
    clear hK K
    try simp only [qPA]
    refine wpMonoJ_one' 22 (by kernel_rfl) rfl (by rfl) (fun K hK=>?_)
    go_simp
    refine (rot_any q 13 _ l2 (by decide)).mono ?_;rintro e w2 ⟨rfl,hw⟩;subst hw;refine hK.out _ _ ?_ ?_
    ·exact Keeps.refl _ _
    clear hK K
    try simp only [qPA]
    iterate 4
     first|refine qJ 23 (v:=?_) ?_ ?_|refine qJ 26 (v:=?_) ?_ ?_|refine qJ 27 (v:=?_) ?_ ?_|refine qJ 28 (v:=?_) ?_ ?_
     rotate_left
     ·(intro W hSw;(first|(have hcW:=hSw.cells;(try simp only [sz_drewN,World.cell?_drewN] at hcW);(try simp only [qSd] at hcW);(try simp only [sz_drewN,World.cell?_drewN] at hcW))|skip);go_simp <;> rfl)
     try simp only [qPA]
    refine wpMonoJ_one' 29 (by kernel_rfl) rfl (by rfl) (fun K hK=>?_)
    go_simp
    refine hK.out _ _ ?_ ?_
    ·exact moved (Keeps.set1 _ _ _ _) (by decide)
    clear hK K
    try simp only [Act.put]
    refine wpMonoJ_done (by kernel_rfl) ?_ _;go_wp2_with fail;go_roundw
    case rel =>
     have hbk:=HN.out _ (val_int (spell_next (x16:=x16) (x7:=x7) l15 l2));rw [←HNX.out] at hbk;refine ⟨i+1,by omega,by go_num,fun h=>?_,fun h=>?_,HBH.out.far (by simp;omega) _,HBZ.out.far (by simp;omega) _,(below_drewN HBW.out (nq+1)).trans ((Keeps.set1 _ _ _ _).below (fun i hi e=>by omega) HBW.out.size)⟩
     ·rw [←HS.out (by omega)];exact hbk
     ·rw [←HE.out (by omega)]
      have e63:i=63:=by omega
      subst e63;exact hbk
    case measure=>simp [intOf];omega
end mac
end Go.Proofs.YthlahcnglacekaaGreatDoor
