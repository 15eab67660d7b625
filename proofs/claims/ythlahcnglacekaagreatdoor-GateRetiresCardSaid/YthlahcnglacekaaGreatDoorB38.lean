/- Part of GateRetires. -/
import Derived.Test.YthlahcnglacekaaGreatDoorB28
set_option maxRecDepth 100000
set_option maxHeartbeats 16000000
namespace Go.Proofs.YthlahcnglacekaaGreatDoor
namespace dep
open Go Go.RowKit base rowe wire vec
def DrainM (w:World) (g:Nat) (M:Nat→Prop) (vo:Value) (wr:World):Prop :=
 (∀ i,vo.ownBlock=some i→w.heap.size≤i)∧Keeps M w wr∧g<wr.heap.size∧∀ v,wr.cell? ⟨g,2,none⟩=some v→∀ i,v.ownBlock=some i→M i∨w.heap.size≤i
section
variable {w wr w1:World} {S S':Nat→Prop} {g:Nat} {M M':Nat→Prop} {rg:Int} {ap:List Int} {ws:List Wr} {va vw vo:Value}
theorem DrainM.start (h:InF w S g rg ap ws va vw):DrainM w g (fun i=>i=g∨vw.ownBlock=some i) (.slice none 0 0) w :=
 ⟨fun i hi=>(by cases hi),Keeps.refl _ _,h.blk.lt,fun v hv i hi=>by
  have h2:w.cell? ⟨g,2,none⟩=some vw:=h.blk.cell 2;rw [h2] at hv;injection hv with hv;exact .inl (.inr (hv ▸ hi))⟩
theorem DrainM.below (h:DrainM w g M vo wr) (hb:Below wr.heap.size wr w1):DrainM w g M vo w1 :=
 ⟨h.1,h.2.1.trans (.of_below hb),Nat.lt_of_lt_of_le h.2.2.1 hb.size,fun v hv=>h.2.2.2 v ((hb.cell (p:=⟨g,2,none⟩) h.2.2.1).symm.trans hv)⟩
theorem DrainM.from {w0:World} (h:DrainM w g M' vo wr) (hk:Keeps M w0 w) (hM:∀ i,M' i→M i∨w0.heap.size≤i):DrainM w0 g M vo wr:=by
 obtain ⟨h1,h2,h3,h4⟩:=h;have hsz:=hk.size;have k1:Keeps (fun i=>M i∨w0.heap.size≤i) w0 w:=hk.more fun i _ h=>.inl h;have k2:Keeps (fun i=>M i∨w0.heap.size≤i) w wr:=h2.more fun i _ h=>hM i h;refine ⟨fun i hi=>Nat.le_trans hsz (h1 i hi),(k1.trans k2).more fun i hi h=>h.elim id fun h=>by omega,h3,fun v hv i hi=>?_⟩
 rcases h4 v hv i hi with h|h
 ·exact hM i h
 ·exact .inr (by omega)
theorem DrainM.next {S1:Nat→Prop} {a a':List Int} {l l':List Wr} {w13 w14 w15:World} {va' vw' v':Value} (hg:M g) (h:DrainM w g M vo wr) (hf:InF wr S' g rg a l va vw) (hap:∀ i,vo.ownBlock=some i→va.ownBlock≠some i∧vw.ownBlock≠some i∧i≠g∧∀ x ∈ l,x.d.ownBlock≠some i)
  (hk13:Keeps (fun i=>i=g∨vw.ownBlock=some i) wr w13) (hf13:InF w13 S1 g rg a' l' va' vw') (hvw:vw'.ownBlock=vw.ownBlock) (hb14:Below w13.heap.size w13 w14) (hg15:w14.grownBy w15 vo.ownBlock) (hv:v'.ownBlock=vo.ownBlock∨v'.ownBlock=some w14.heap.size):DrainM w g M v' w15:=by
 obtain ⟨h1,h2,h3,h4⟩:=h;have s0:=h2.size;have s13:=hk13.size;have s14:=hb14.size;have hvwM:∀ i,vw.ownBlock=some i→M i∨w.heap.size≤i:=h4 vw (hf.blk.cell 2);have hk15:Keeps (fun i=>vo.ownBlock=some i) w14 w15:=.grown hg15 fun g hg=>.inl hg;have k1:Keeps (fun i=>M i∨w.heap.size≤i) w wr:=h2.more fun i _ h=>.inl h;have k2:Keeps (fun i=>M i∨w.heap.size≤i) wr w13:=hk13.more fun i _ e=>e.elim (fun e=>.inl (e ▸ hg)) (hvwM i);have k3:Keeps (fun i=>M i∨w.heap.size≤i) w13 w14:=.of_below hb14;have k4:Keeps (fun i=>M i∨w.heap.size≤i) w14 w15:=hk15.more fun i _ e=>.inr (h1 i e);have hb15:Blk w15 g 261 #[.int .i64 rg,va',vw']:=(hf13.blk.below hb14 hf13.blk.lt).keeps hk15 (fun e=>(hap g e).2.2.1 rfl);refine ⟨fun i hi=>?_,(((k1.trans k2).trans k3).trans k4).more fun i hi h=>h.elim id fun h=>by omega,hb15.lt,fun v hv2 i hi=>?_⟩
 ·rcases hv with e|e
  ·exact h1 i (e ▸ hi)
  ·rw [e] at hi;injection hi with hi;omega
 ·have h5:w15.cell? ⟨g,2,none⟩=some vw':=hb15.cell 2
  rw [h5] at hv2;injection hv2 with hv2;exact hvwM i (by rw [←hvw,hv2];exact hi)
end
end dep
namespace dep
open Go Go.RowKit base rowe wire vec cmp with_ monoj
theorem drain_any (g:Nat) (rg:Int) (S:Nat→Prop) (ap:List Int) (ws:List Wr) (va vw:Value) (w:World) (h:InF w S g rg ap ws va vw) :
  Calls Tryz.prog 236 #[.pointer (some ⟨g,0,none⟩)] w fun e w'=>∃ vo a l out S',e=.returned vo∧DrainI w S g rg ap ws vo w' a l out S'∧(∀ j,j<l.length→readyB a (l.getD j wrZ)=false)∧DrainM w g (fun i=>i=g∨vw.ownBlock=some i) vo w':=by
 obtain ⟨M,hM⟩:∃ M:Nat→Prop,(fun i=>i=g∨vw.ownBlock=some i)=M:=⟨_,rfl⟩;have hMg:M g:=by rw [←hM];exact .inl rfl
 have hdm0:=DrainM.start h;rw [hM] at hdm0 ⊢;clear hM;have HDM0:=qH hdm0;have HMG:=qH hMg;clear hdm0 hMg;have H:=qH h;clear h;go_enter Tryz.func236,Tryz.ntmps236;go_wp2_with fail
 go_loopw [3,4,5] (fun vo _ _ wr=>∃ a l out S',DrainI w S g rg ap ws vo wr a l out S'∧DrainM w g M vo wr) (fun vo _ _ _=>ws.length+1-slen vo)
 case atStart=>exact ⟨ap,ws,[],S,⟨.zero,⟨va,vw,H.out,(fun i hi=>by cases hi)⟩,⟨rfl,.inl ⟨rfl,rfl⟩⟩,by simp,(fun i hi=>by cases hi),Keeps.refl _ _,fun i hi=>.inl hi⟩,HDM0.out⟩
 case round =>
  obtain ⟨a,l,out,S',⟨hst,⟨va1,vw1,hf,hap⟩,hrow,hnum,hvo,hk,hs'⟩,hdm⟩:=hrel;have HDM:=qH hdm;clear hdm;obtain ⟨A,c,rfl,hva⟩:=hf.vec;obtain ⟨A3,c3,rfl,hrd⟩:=hf.reads;have k1:u3=u3:=rfl;have b2:wr.cell? ⟨g,2,none⟩=_:=hf.blk.cell 2;have gl:=hf.blk.lt;simp at b2
  have HI:=qH (show DrainI w S g rg ap ws _ wr a l out S' from ⟨hst,⟨_,_,hf,hap⟩,hrow,hnum,hvo,hk,hs'⟩);have HAP:=qH hap;have HROW:=qH hrow;have HNUM:=qH hnum;have HVO:=qH hvo;have HK:=qH hk;have HS':=qH hs';have HST:=qH hst;have HF:=qH hf;have HVA:=qH hva;have HRD:=qH hrd;clear k1 hst hf hap hrow hnum hvo hk hs' hva hrd;go_wp2_with fail;refine (index_ready g rg A _ c a _ A3 _ c3 l wr HF.out.blk HVA.out (by have:=HF.out.afew;omega) HRD.out rfl (by have:=HF.out.wfew;omega) HF.out.wait).mono ?_;rintro e w1 ⟨hix,hb1⟩
  rcases hix with ⟨k,hkl,hkr,hkn,rfl⟩|⟨hno,rfl⟩
  ·have HI1:=qH (HI.out.below hb1)
   have HF1:=qH (HF.out.below hb1);obtain ⟨b,off,rfl,hbl⟩:=HRD.out.at_some (by omega)
   obtain rfl:off=0:=by
    rcases HF.out.row.2 with ⟨e,_⟩|⟨g',cap',cur,e,_⟩
    ·cases e
    ·injection e with e
     injection e with e;injection e
   have hmem:l.getD k wrZ ∈ l:=by rw [List.getD_eq_getElem?_getD,List.getElem?_eq_getElem hkl];exact List.getElem_mem hkl
   have HE:=qH (show ∀ q v,(l.getD k wrZ).cells[q]?=some v→w1.cell? ⟨b,k*10+q,none⟩=some v from fun q v hq=>by
    have hq2:q<10:=by
     have:=(List.getElem?_eq_some_iff.1 hq).1
     rwa [Wr.len] at this
    have h5:=Reads.thing Wr.cells Wr.len HRD.out (k:=k) (x:=l.getD k wrZ) (by omega) (by rw [List.getD_eq_getElem?_getD,List.getElem?_eq_getElem hkl];rfl) q hq2;rw [Nat.zero_add] at h5;rw [hb1.cell (p:=⟨b,k*10+q,none⟩) hbl,h5,hq])
   obtain ⟨y,hy⟩:∃ y,l.getD k wrZ=y:=⟨_,rfl⟩;rw [hy] at HE hkr hmem;have c2:w1.cell? ⟨g,2,none⟩=_:=HF1.out.blk.cell 2;have gl1:=HF1.out.blk.lt;simp at c2
   have HKR:=qH hkr;have HKN:=qH hkn;have HMEM:=qH hmem;have HY:=qH hy;have hkb:k<1000:=by have:=HF.out.wfew;omega
   have hone:y.d.oneCell'=true:=by
    obtain ⟨hn,_⟩:=HF.out.num y hmem;obtain ⟨_,_,e⟩:=ownsRow_slice hn;rw [e];rfl
   have HB1:=qH hb1;clear hkr hkn hmem hy b2 hb1
   go_wp2_with (first|(refine wpList_load_at rfl 188 (.tmp 21) rfl b (k*10) y.cells rfl Tryz.underlying188 rfl (by rw [Wr.len];kernel_rfl) HE.out ?_)|(refine wpList_store_blk rfl 188 (.tmp 5) (.tmp 22) rfl w1.heap.size y.cells rfl rfl (Blk.new w1 188 #[.int .i64 0,.int .i64 0,.int .i64 0,.int .i64 0,.slice none 0 0,.string ⟨#[]⟩,.string ⟨#[]⟩,.string ⟨#[]⟩,.bool false,.int .i64 0]) (by rw [Wr.len];kernel_rfl) rfl (oneAll y hone) ?_;intro w9 ho9 hk9 hs9;clear hs9;have hb9:Below w1.heap.size w1 w9:=(below_new w1 _).trans (hk9.below (fun i hi e=>by omega) (by simp));have c2n:w9.cell? ⟨g,2,none⟩=_:=(hb9.cell (p:=⟨g,2,none⟩) gl1).trans c2;have gl9:g<w9.heap.size:=Nat.lt_of_lt_of_le gl1 hb9.size;clear hk9))
   have HF9:=qH (HF1.out.below hb9);have HI9:=qH (HI1.out.below hb9);have HO9:=qH ho9;have HB9:=qH hb9;clear ho9 hb9
   refine (delete_w b l.length c3 0 k l w9 HF9.out.row rfl hkl (fun x hx=>by
    obtain ⟨_,_,e⟩:=ownsRow_slice (HF9.out.num x hx).1;rw [e];rfl)).mono ?_
   rintro e w10 ⟨rfl,hrow10,hk10⟩;have hel:(l.eraseIdx k).length=l.length-1:=List.length_eraseIdx_of_lt hkl;have hin:∀ x,x ∈ l.eraseIdx k→x ∈ l:=fun x hx=>List.mem_of_mem_eraseIdx hx;have hkb10:Keeps (fun i=>(Value.slice (some ⟨b,0,none⟩) l.length c3).ownBlock=some i) w9 w10:=hk10.more fun i _ e=>by rw [e];rfl
   have hnum10:∀ x ∈ l,NumsO w10 0 x.d x.z:=fun x hx=>(HF9.out.num x hx).keeps hkb10 fun i hi=>HF9.out.nw x hx i hi;have hb10:Blk w10 g 261 #[.int .i64 rg,.slice A a.length c,.slice (some ⟨b,0,none⟩) l.length c3]:=HF9.out.blk.keeps hkb10 HF9.out.gw;have HF10:=qH (HF9.out.putW (S':=S') (ws':=l.eraseIdx k) (vw':=.slice (some ⟨b,0,none⟩) (l.length-1) c3) hkb10 (by rw [hel];exact hrow10) (by rw [hel];have:=HF9.out.wfew;omega) (fun x hx=>hnum10 x (hin x hx)) (fun x hx=>HF9.out.rng x (hin x hx)) (fun _ h=>h) (fun i hi=>Nat.lt_of_lt_of_le (HF9.out.small i hi) hk10.size) (fun i hi=>HF9.out.inW i hi) (fun x hx=>HF9.out.inN x (hin x hx)) HF9.out.gw (fun x hx=>HF9.out.gn x (hin x hx)) HF9.out.aw (fun x hx=>HF9.out.nw x (hin x hx)));have d2:w10.cell? ⟨g,2,none⟩=_:=hb10.cell 2;have f2:=hb10.frozen 2;have gl10:=hb10.lt;simp at d2
   have HK10:=qH hk10;have hbl9:b<w1.heap.size:=by have:=HF9.out.inW b rfl;have:=HF1.out.small b this;omega
   have ho10:Blk w10 w1.heap.size 188 y.cells.toArray:=HO9.out.keeps hk10 (fun e=>by omega);have HO11:=qH (show Blk (w10.setCell ⟨g,2,none⟩ (.slice (some ⟨b,0,none⟩) (l.length-1) c3)) w1.heap.size 188 y.cells.toArray from ho10.keeps (Keeps.set1 w10 g 2 _) (fun e=>by omega))
   have HK11:=qH (show Keeps (fun i=>i=g∨(Value.slice (some ⟨b,0,none⟩) l.length c3).ownBlock=some i) wr (w10.setCell ⟨g,2,none⟩ (.slice (some ⟨b,0,none⟩) (l.length-1) c3)) from
    (((Keeps.of_below HB1.out).trans (.of_below HB9.out)).trans (hk10.more fun i _ e=>.inr (by rw [e];rfl))).trans ((Keeps.set1 w10 g 2 _).more fun i _ e=>.inl e))
   have HS11:=qH (show wr.heap.size≤(w10.setCell ⟨g,2,none⟩ (.slice (some ⟨b,0,none⟩) (l.length-1) c3)).heap.size from HK11.out.size);clear ho10 hrow10 hk10 hkb10 hnum10 hb10 hin c2;go_wp2_with fail;generalize w10.setCell ⟨g,2,none⟩ (.slice (some ⟨b,0,none⟩) (l.length-1) c3)=w11 at *;obtain ⟨A',c',hve,hva11⟩:=HF10.out.vec;injection hve with hve1 _ hve2;subst hve1 hve2;have HVA11:=qH hva11;have ha16:=HF10.out.afew;have rg0:=(HF.out.rng y HMEM.out);clear hva11;refine wp_region_monoJ (fun b=>b=g) [12] (by kernel_rfl) ?_
   iterate 4
    first|refine qJ 0 (v:=?_) ?_ ?_|refine qJ 1 (v:=?_) ?_ ?_|refine qJ 2 (v:=?_) ?_ ?_|refine qJ 3 (v:=?_) ?_ ?_
    rotate_left
    ·(intro W hSw;((first|(have hoW:=HO11.out.drew.keeps (X:=fun b=>b=g) hSw (by omega);have y0:W.cell? ⟨w1.heap.size,0,none⟩=some (.int .i64 y.r):=hoW.cell 0;have y1:W.cell? ⟨w1.heap.size,1,none⟩=some (.int .i64 y.n):=hoW.cell 1;have yl:=hoW.lt)|(have hgW:=HF10.out.blk.drew.keeps (X:=nobody) hSw (fun h=>h);have a1:W.cell? ⟨g,1,none⟩=some (.slice A a.length c):=hgW.cell 1;have al:=hgW.lt)|skip));go_simp <;> rfl)
    try simp only [qPA]
   refine wpMonoJ_read' 4 [9,10,11,12] (v:=?_) rfl (by kernel_rfl) (by kernel_rfl) (by kernel_rfl) (by rfl) (by kernel_rfl) (by rfl) (fun _ _ _ h=>h) (by rfl) ?_ ?_;rotate_left
   ·(intro W hSw;((first|(have hoW:=HO11.out.drew.keeps (X:=fun b=>b=g) hSw (by omega);have y0:W.cell? ⟨w1.heap.size,0,none⟩=some (.int .i64 y.r):=hoW.cell 0;have y1:W.cell? ⟨w1.heap.size,1,none⟩=some (.int .i64 y.n):=hoW.cell 1;have yl:=hoW.lt)|(have hgW:=HF10.out.blk.drew.keeps (X:=nobody) hSw (fun h=>h);have a1:W.cell? ⟨g,1,none⟩=some (.slice A a.length c):=hgW.cell 1;have al:=hgW.lt)|skip));go_simp <;> rfl)
   try simp only [qPA]
   iterate 4
    first|refine qJ 5 (v:=?_) ?_ ?_|refine qJ 6 (v:=?_) ?_ ?_|refine qJ 7 (v:=?_) ?_ ?_|refine qJ 8 (v:=?_) ?_ ?_
    rotate_left
    ·(intro W hSw;((first|(have hoW:=HO11.out.drew.keeps (X:=fun b=>b=g) hSw (by omega);have y0:W.cell? ⟨w1.heap.size,0,none⟩=some (.int .i64 y.r):=hoW.cell 0;have y1:W.cell? ⟨w1.heap.size,1,none⟩=some (.int .i64 y.n):=hoW.cell 1;have yl:=hoW.lt)|(have hgW:=HF10.out.blk.drew.keeps (X:=nobody) hSw (fun h=>h);have a1:W.cell? ⟨g,1,none⟩=some (.slice A a.length c):=hgW.cell 1;have al:=hgW.lt)|skip));go_simp <;> rfl)
    try simp only [qPA]
   refine wpMonoJ_one' 9 (by kernel_rfl) rfl (by rfl) (fun K hK=>?_)
   go_simp
   refine (with_any A a.length c a y.r y.n w11.drew (show Vec w11.drew w11.drew.heap.size A a.length c a from HVA11.out.below ((Below.refl _ w11).drew)) (by omega)).mono ?_;rintro e w12 ⟨va',rfl,hown,hb12⟩;obtain ⟨A5,c5,rfl⟩:=ownsRow_slice hown;have hbw12:=below_ofDrew hb12;have hg12:=HF10.out.blk.below hbw12 HF10.out.blk.lt;have e1:w12.cell? ⟨g,1,none⟩=some (.slice A a.length c):=hg12.cell 1;have ef:=hg12.frozen 1;have el:=hg12.lt;have HG12:=qH hg12;have HOWN:=qH hown;have HBW12:=qH hbw12;clear hown hbw12 hg12;refine hK.out _ _ ?_ ?_
   ·exact .of_below hb12
   clear hK K
   try simp only [qPA]
   iterate 2
    first|refine qJ 10 (v:=?_) ?_ ?_|refine qJ 11 (v:=?_) ?_ ?_
    rotate_left
    ·(intro W hSw;((first|(have hoW:=HO11.out.drew.keeps (X:=fun b=>b=g) hSw (by omega);have y0:W.cell? ⟨w1.heap.size,0,none⟩=some (.int .i64 y.r):=hoW.cell 0;have y1:W.cell? ⟨w1.heap.size,1,none⟩=some (.int .i64 y.n):=hoW.cell 1;have yl:=hoW.lt)|(have hgW:=HF10.out.blk.drew.keeps (X:=nobody) hSw (fun h=>h);have a1:W.cell? ⟨g,1,none⟩=some (.slice A a.length c):=hgW.cell 1;have al:=hgW.lt)|skip));go_simp <;> rfl)
    try simp only [qPA]
   refine wpMonoJ_one' 12 (by kernel_rfl) rfl (by rfl) (fun K hK=>?_)
   go_simp
   refine hK.out _ _ ?_ ?_
   ·exact moved (Keeps.set1 w12 g 1 _) (by decide)
   clear hK K
   try simp only [Act.put]
   refine wpMonoJ_done (by kernel_rfl) ?_ _;have hwl:(withL a y.r y.n).length≤16:=with_len ha16
   have HF12:=qH (HF10.out.putA (S':=fun i=>(S' i∨w11.heap.size≤i)∧i<w12.heap.size) (ap':=withL a y.r y.n) (va':=.slice A5 (withL a y.r y.n).length c5) HBW12.out HOWN.out hwl
    (fun i hi=>⟨.inl hi,Nat.lt_of_lt_of_le (HF10.out.small i hi) HBW12.out.size⟩) (fun i hi=>hi.2) (fun i hi=>⟨.inr (HOWN.out.lt i hi).1,(HOWN.out.lt i hi).2⟩))
   have ho13:Blk (w12.setCell ⟨g,1,none⟩ (.slice A5 (withL a y.r y.n).length c5)) w1.heap.size 188 y.cells.toArray:=(HO11.out.below HBW12.out HO11.out.lt).keeps (Keeps.set1 w12 g 1 _) (fun e=>by omega);have HO13:=qH ho13;have HK13:=qH (show Keeps (fun i=>i=g∨(Value.slice (some ⟨b,0,none⟩) l.length c3).ownBlock=some i) wr (w12.setCell ⟨g,1,none⟩ (.slice A5 (withL a y.r y.n).length c5)) from (HK11.out.trans (.of_below HBW12.out)).trans ((Keeps.set1 w12 g 1 _).more fun i _ e=>.inl e));have HT:=qH (show ∀ i,((S' i∨w11.heap.size≤i)∧i<w12.heap.size)→S' i∨wr.heap.size≤i from fun i h=>h.1.imp id (Nat.le_trans HS11.out));have HA5:=qH (show ∀ i,(Value.slice A5 (withL a y.r y.n).length c5).ownBlock=some i→wr.heap.size≤i from fun i hi=>Nat.le_trans HS11.out (HOWN.out.lt i hi).1);generalize w12.setCell ⟨g,1,none⟩ (.slice A5 (withL a y.r y.n).length c5)=w13 at *;clear ho13;have HQ:=qH (show ∀ q v,y.cells[q]?=some v→w13.cell? ⟨w1.heap.size,0+q,none⟩=some v from fun q v hq=>by rw [Nat.zero_add,HO13.out.cell q];simpa using hq);obtain ⟨A6,c6,rfl⟩:=ownsRow_slice HROW.out;have HROW13:=qH (own_keeps HROW.out HK13.out fun i hi e=>e.elim (fun e=>(HAP.out i hi).2.2.1 e) (fun e=>(HAP.out i hi).2.1 e));have HB14:=qH (below_new w13 (.cells y.cells.toArray 188));have HROW14:=qH (own_keeps HROW13.out (X:=nobody) (.of_below HB14.out) (fun _ _ h=>h))
   have HR14:=qH (show Reads (w13.alloc (.cells y.cells.toArray 188)) (w13.heap.size+1) 10 (some ⟨w13.heap.size,0,none⟩) 1 y.cells by
    have h9:=reads_blk (size:=10) (n:=1) (Blk.new w13 188 y.cells.toArray) (by simp [Wr.len])
    simpa using h9)
   have HL:=qH (show out.length≤1000 by have h1:=HST.out.ws_len;have h2:=H.out.wfew;omega);obtain ⟨i0,hi0,hz⟩:=Option.map_eq_some_iff.1 write_info;simp only [Prod.mk.injEq] at hz;obtain ⟨hz0,hz1,hz2⟩:=hz
   go_wp2_with (first|((with_reducible refine wpList_load_at ?_ 188 (.tmp 5) ?_ w1.heap.size 0 y.cells ?_ Tryz.underlying188 ?_ ?_ HQ.out ?_);rfl;rfl;rfl;rfl;(rw [Wr.len];kernel_rfl))|((with_reducible refine wpList_one ?_ (.tmp 47) ?_ y ?_ ?_);rfl;rfl;rfl)|(at_builtin;refine wpList_append_any _ rfl (.tmp 46) (.tmp 48) _ rfl 0 188 i0 _ 10 120 Tryz.underlying98 hi0 hz0 hz1 hz2 rfl (by decide) (.slice A6 out.length c6) out.length _ rfl HROW14.out (w13.heap.size+1) (some ⟨w13.heap.size,0,none⟩) 1 1 y.cells rfl HR14.out (oneW y hone) (by have:=HL.out;unfold maxLen;omega) (by have:=HL.out;omega) (Nat.zero_le _) ?_;intro v6 w6 ho6 hg6 hv6;obtain ⟨A7,c7,rfl⟩:=ownsRow_slice ho6;have Ho6:=qH ho6;have Hg6:=qH hg6;have Hv6:=qH hv6;clear ho6 hg6 hv6))
   go_roundw
   case rel =>
    obtain ⟨S3,h3⟩:=DrainI.next HST.out HF.out HAP.out HNUM.out HVO.out HK.out HS'.out hkl HY.out HKR.out HKN.out HK13.out HF12.out HT.out HA5.out rfl HB14.out Ho6.out Hg6.out Hv6.out;exact ⟨_,_,_,S3,h3,DrainM.next HMG.out HDM.out HF.out HAP.out HK13.out HF12.out rfl HB14.out Hg6.out Hv6.out⟩
   case measure=>have:=HST.out.ws_len;simp [slen];omega
  ·go_wp2_with fail
   go_ret
   exact ⟨_,a,l,out,S',rfl,HI.out.below hb1,hno,HDM.out.below hb1⟩
end dep
namespace dep
open Go Go.RowKit base rowe wire vec err
def BadR (c:Int) (w:World) (e:Ending) (w':World):Prop:=∃ ge,e=.returned (.tuple #[.slice none 0 0,.iface 121 (.pointer (some ⟨ge,0,none⟩))])∧Err w' (.iface 121 (.pointer (some ⟨ge,0,none⟩))) c∧Below w.heap.size w w'∧w.heap.size≤ge
theorem BadR.of {c:Int} {w w1 w':World} {e:Ending} (h:BadR c w1 e w') (hb:Below w.heap.size w w1):BadR c w e w':=by
 obtain ⟨ge,h1,h2,h3,h4⟩:=h;exact ⟨ge,h1,h2,below_step hb h3,Nat.le_trans hb.size h4⟩
theorem bad_own (c:Int) (w:World):Calls Tryz.prog 235 #[.int .i64 c] w (BadR c w):=by
 go_enter Tryz.func235,Tryz.ntmps235;go_wp2_with fail;refine (err.at_any _ _ _ _).mono ?_;rintro e w1 ⟨v,rfl,h1,h2,h3,h4⟩;obtain ⟨ge,rfl⟩:=h1.form;have HR:=qH (show BadR c w (.returned (.tuple #[.slice none 0 0,.iface 121 (.pointer (some ⟨ge,0,none⟩))])) w1 from ⟨ge,rfl,h1,h3,h4 ge rfl⟩);clear h1 h2 h3 h4;go_wp2;exact bodyPost_ret (v:=.tuple #[.slice none 0 0,.iface 121 (.pointer (some ⟨ge,0,none⟩))]) (by simp [results,Tryz.results235,go_sem]) rfl HR.out
end dep
namespace dep
open Go Go.RowKit base rowe wire vec cmp with_ monoj err
def At_ (L:List Wr) (x:Wr) (k:Nat):Prop:=k≤L.length∧(∀ j,j<k→cmpW (L.getD j wrZ) x<0)∧∀ j,k≤j→j<L.length→¬ cmpW (L.getD j wrZ) x<0
theorem DrainI.from {w w10 wr:World} {S S' S'':Nat→Prop} {g:Nat} {rg:Int} {ap a:List Int} {ws l out:List Wr} {vo:Value} (h:DrainI w10 S' g rg ap ws vo wr a l out S'') (hK:Keeps S w w10) (hS:∀ i,S' i→S i∨w.heap.size≤i):DrainI w S g rg ap ws vo wr a l out S'':=by
 obtain ⟨h1,h2,h4,h5,h6,h7,h8⟩:=h;have hsz:=hK.size;have k1:Keeps (fun i=>S i∨w.heap.size≤i) w w10:=hK.more fun i _ h=>.inl h;have k2:Keeps (fun i=>S i∨w.heap.size≤i) w10 wr:=h7.more fun i _ h=>hS i h;refine ⟨h1,h2,h4,h5,h6,(k1.trans k2).more fun i hi h=>h.elim id fun h=>by omega,fun i hi=>?_⟩
 rcases h8 i hi with h|h
 ·exact hS i h
 ·exact .inr (by omega)
end dep
namespace dep
open Go Go.RowKit base rowe wire vec cmp with_ monoj
end dep
namespace dep
open Go Go.RowKit base rowe wire vec cmp with_ monoj
theorem InF.rw {w:World} {S:Nat→Prop} {g:Nat} {rg:Int} {ap:List Int} {ws:List Wr} {va vw:Value} (h:InF w S g rg ap ws va vw):RW w vw ws:=by
 obtain ⟨A,c,rfl,hr⟩:=h.reads;refine ⟨A,c,rfl,Nat.le_trans h.wfew (by omega),?_,hr,fun x hx=>⟨(h.num x hx).nums,(h.num x hx).2⟩⟩
 rcases h.row.2 with ⟨e,h0⟩|⟨g,cap,cur,e,h1,h2,h3,_⟩
 ·rw [h0];exact Nat.zero_le _
 ·injection e with _ _ e;omega
def CopyR (rg:Int) (ap:List Int) (ws:List Wr) (w:World) (e:Ending) (w':World):Prop :=
 ∃ g S ws' va vw,e=.returned (.pointer (some ⟨g,0,none⟩))∧InF w' S g rg (trimL ap) ws' va vw∧ws'.map Wr.abs=ws.map Wr.abs∧(∀ i,S i→w.heap.size≤i)∧Below w.heap.size w w'
theorem abs_mem {L L':List Wr} (h:L'.map Wr.abs=L.map Wr.abs) {x:Wr} (hx:x ∈ L'):∃ y ∈ L,x.abs=y.abs:=by
 have:x.abs ∈ L'.map Wr.abs:=List.mem_map_of_mem hx;rw [h] at this;obtain ⟨y,hy,e⟩:=List.mem_map.1 this;exact ⟨y,hy,e.symm⟩
theorem trim_len (zs:List Int):(trimL zs).length≤zs.length:=by unfold trimL;rw [List.length_take];omega
theorem InF.copied {w w1 w2 : World} {rg : Int} {ap : List Int} {ws L' : List Wr} {v1 v2 : Value} (hal : ap.length ≤ 16) (hwl : ws.length ≤ 1000) (hrng : ∀ x ∈ ws, (1 ≤ x.r ∧ x.r ≤ 16) ∧ (1 ≤ x.n ∧ x.n ≤ 1099511627776))
    (hb1 : Below w.heap.size w w1) (h1 : w1.ownsRow w.heap.size 3 1 v1 (trimL ap).length (enc (trimL ap))) (hb2 : Below w1.heap.size w1 w2) (hab : L'.map Wr.abs = ws.map Wr.abs) (hO : OW w2 (since w1 w2) w1.heap.size v2 L') :
    CopyR rg ap ws w (.returned (.pointer (some ⟨w2.heap.size, 0, none⟩))) (w2.alloc (.cells #[.int .i64 rg, v1, v2] 261)) := by
  have hb3 := below_new w2 (.cells #[.int .i64 rg, v1, v2] 261);have hs1 := hb1.size;have hs2 := hb2.size;have hlt1 : ∀ i, v1.ownBlock = some i → w.heap.size ≤ i ∧ i<w1.heap.size := fun i hi => h1.lt i hi;have hlt2 : ∀ i, v2.ownBlock = some i → w1.heap.size ≤ i ∧ i<w2.heap.size := fun i hi => hO.row.lt i hi;have hltn : ∀ x ∈ L', ∀ i, x.d.ownBlock = some i → w1.heap.size ≤ i ∧ i<w2.heap.size := fun x hx i hi => (hO.nums x hx).1.lt i hi;have hll : L'.length = ws.length := by have := congrArg List.length hab; simpa using this
  refine ⟨_, fun i => w.heap.size ≤ i ∧ i<w2.heap.size+1, L', v1, v2, rfl, ?_, hab, fun i hi => hi.1, (hb1.trans (hb2.mono hs1)).trans (hb3.mono (by omega))⟩;exact
  { blk := Blk.new w2 261 #[.int .i64 rg, v1, v2]
    app := own_keeps (own_low h1 (Nat.zero_le _)) (X := nobody) (.of_below (hb2.trans (hb3.mono hs2))) (fun _ _ h => h)
    afew := Nat.le_trans (trim_len ap) hal
    row := own_keeps (own_low hO.row (Nat.zero_le _)) (X := nobody) (.of_below hb3) (fun _ _ h => h)
    wfew := by omega
    num := fun x hx => ((hO.nums x hx).base (Nat.zero_le _)).below hb3
    rng := fun x hx => by
      obtain ⟨y, hy, e⟩ := abs_mem hab hx;have hr : x.r = y.r := show x.abs.r = y.abs.r by rw [e]
      have hn : x.n = y.n := show x.abs.n = y.abs.n by rw [e]
      rw [hr, hn];exact hrng y hy
    inG := ⟨by omega, by omega⟩
    inA := fun i hi => by have := hlt1 i hi; omega
    inW := fun i hi => by have := hlt2 i hi; omega
    inN := fun x hx i hi => by have := hltn x hx i hi; omega
    ga := fun e => by have := hlt1 _ e; omega
    gw := fun e => by have := hlt2 _ e; omega
    gn := fun x hx e => by have := hltn x hx _ e; omega
    aw := fun i hi e => by have := hlt1 i hi; have := hlt2 i e; omega
    nw := fun x hx i hi => own_apart (hO.nums x hx).1 hO.row (by decide) i hi
    small := fun i hi => by simpa using hi.2 }
theorem copy_any (g:Nat) (rg:Int) (S:Nat→Prop) (ap:List Int) (ws:List Wr) (va vw:Value) (w:World) (h:InF w S g rg ap ws va vw) :
  Calls Tryz.prog 197 #[.pointer (some ⟨g,0,none⟩)] w (CopyR rg ap ws w):=by
 have ql:=h.blk.lt;have HB0:=qH h.blk;obtain ⟨A,c,rfl,hv⟩:=h.vec;have hal:=h.afew;have HV:=qH hv;have HW:=qH h.rw;have HF:=qH h;obtain ⟨A2,c2,rfl,_⟩:=h.reads;clear h hv;go_enter Tryz.func197,Tryz.ntmps197;go_wp2_with fail;refine wp_region_mono nobody (by kernel_rfl) ?_
 iterate 12
  first|refine qT 0 (v:=?_) ?_ ?_|refine qT 1 (v:=?_) ?_ ?_|refine qT 2 (v:=?_) ?_ ?_|refine qT 3 (v:=?_) ?_ ?_|refine qT 4 (v:=?_) ?_ ?_|refine qT 5 (v:=?_) ?_ ?_|refine qT 6 (v:=?_) ?_ ?_|refine qT 7 (v:=?_) ?_ ?_|refine qT 9 (v:=?_) ?_ ?_|refine qT 10 (v:=?_) ?_ ?_|refine qT 11 (v:=?_) ?_ ?_|refine qT 12 (v:=?_) ?_ ?_
  rotate_left
  ·(intro W hSw;((first|(have hk:=HB0.out.drew.keeps (X:=nobody) hSw (fun h=>h);have q0:W.cell? ⟨g,0,none⟩=some (.int .i64 rg):=hk.cell 0;have q1:W.cell? ⟨g,1,none⟩=some (.slice A ap.length c):=hk.cell 1;have q2:W.cell? ⟨g,2,none⟩=some (.slice A2 ws.length c2):=hk.cell 2;have hl:=hk.lt)|(have hk:=(HB0.out.drew.below HB1.out HB0.out.lt).keeps (X:=nobody) hSw (fun h=>h);have q0:W.cell? ⟨g,0,none⟩=some (.int .i64 rg):=hk.cell 0;have q1:W.cell? ⟨g,1,none⟩=some (.slice A ap.length c):=hk.cell 1;have q2:W.cell? ⟨g,2,none⟩=some (.slice A2 ws.length c2):=hk.cell 2;have hl:=hk.lt)|skip));go_simp <;> rfl)
  try simp only [qPA]
 refine wpMono_one' 8 (by kernel_rfl) rfl (by rfl) (fun K hK=>?_)
 go_simp
 refine (trim_any A ap.length c ap w.drew (show Vec w.drew w.drew.heap.size A ap.length c ap from HV.out.below (Below.refl _ w).drew) (by omega)).mono ?_;rintro e w1 ⟨v1,rfl,hown1,hb1⟩;obtain ⟨A3,c3,rfl⟩:=ownsRow_slice hown1;have HO1:=qH hown1;have HB1:=qH hb1;clear hown1 hb1;refine hK.out _ _ ?_ ?_
 ·exact .of_below HB1.out
 clear hK K
 try simp only [qPA]
 refine wpMono_one' 13 (by kernel_rfl) rfl (by rfl) (fun K hK=>?_)
 go_simp
 refine (some_dep _ ws w1 ((show RW w.drew _ ws from HW.out.below (Below.refl _ w).drew).below HB1.out)).mono ?_;rintro e w2 ⟨⟨v2,L',rfl,hab,hO⟩,hb2⟩;obtain ⟨A4,c4,rfl⟩:=ownsRow_slice hO.row;have HAB:=qH hab;have HO2:=qH hO;have HB2:=qH hb2;clear hab hO hb2;refine hK.out _ _ ?_ ?_
 ·exact .of_below HB2.out
 clear hK K
 try simp only [qPA]
 refine qT 14 (v:=?_) ?_ ?_;rotate_left
 ·(intro W hSw;((first|(have hk:=HB0.out.drew.keeps (X:=nobody) hSw (fun h=>h);have q0:W.cell? ⟨g,0,none⟩=some (.int .i64 rg):=hk.cell 0;have q1:W.cell? ⟨g,1,none⟩=some (.slice A ap.length c):=hk.cell 1;have q2:W.cell? ⟨g,2,none⟩=some (.slice A2 ws.length c2):=hk.cell 2;have hl:=hk.lt)|(have hk:=(HB0.out.drew.below HB1.out HB0.out.lt).keeps (X:=nobody) hSw (fun h=>h);have q0:W.cell? ⟨g,0,none⟩=some (.int .i64 rg):=hk.cell 0;have q1:W.cell? ⟨g,1,none⟩=some (.slice A ap.length c):=hk.cell 1;have q2:W.cell? ⟨g,2,none⟩=some (.slice A2 ws.length c2):=hk.cell 2;have hl:=hk.lt)|skip));go_simp <;> rfl)
 try simp only [qPA]
 refine wpMono_one' 15 (by kernel_rfl) rfl (by rfl) (fun K hK=>?_)
 go_simp
 refine hK.out _ _ ?_ ?_
 ·exact .alloc _
 clear hK K
 try simp only [qPA]
 refine qT 16 (v:=?_) ?_ ?_;rotate_left
 ·(intro W hSw;((first|(have hk:=HB0.out.drew.keeps (X:=nobody) hSw (fun h=>h);have q0:W.cell? ⟨g,0,none⟩=some (.int .i64 rg):=hk.cell 0;have q1:W.cell? ⟨g,1,none⟩=some (.slice A ap.length c):=hk.cell 1;have q2:W.cell? ⟨g,2,none⟩=some (.slice A2 ws.length c2):=hk.cell 2;have hl:=hk.lt)|(have hk:=(HB0.out.drew.below HB1.out HB0.out.lt).keeps (X:=nobody) hSw (fun h=>h);have q0:W.cell? ⟨g,0,none⟩=some (.int .i64 rg):=hk.cell 0;have q1:W.cell? ⟨g,1,none⟩=some (.slice A ap.length c):=hk.cell 1;have q2:W.cell? ⟨g,2,none⟩=some (.slice A2 ws.length c2):=hk.cell 2;have hl:=hk.lt)|skip));go_simp <;> rfl)
 try simp only [qPA]
 refine wpMono_done (by kernel_rfl) ?_ _;have HR:=qH (InF.copied (w:=w) (rg:=rg) hal HF.out.wfew HF.out.rng (below_ofDrew HB1.out) HO1.out HB2.out HAB.out HO2.out);clear HAB HO2 HB2 HO1 HB1;go_wp2;go_ret
 exact HR.out
end dep
end Go.Proofs.YthlahcnglacekaaGreatDoor
