/- A part of the proof of RegionBeats. -/
import Derived.Test.YtlingaebpfdhgaaGreatDoorA27
import Derived.Test.YtlingaebpfdhgaaGreatDoorA42
import Derived.Test.YtlingaebpfdhgaaGreatDoorA23
import Derived.Test.YtlingaebpfdhgaaGreatDoorA01
import Derived.Test.YtlingaebpfdhgaaGreatDoorA35
import Derived.Deep.DeepCutAuto
import Derived.Deep.Cut
import Derived.Deep.CutBlock
import Derived.Test.YtlingaebpfdhgaaGreatDoorA38
namespace Go.Proofs.YtlingaebpfdhgaaGreatDoor.regn
open Go Go.RowKit base err rowe list new tab home wireb wirep writep jrnp jrn diskp disk lease monoj
def beatX (x:RX) (l:List Part) (f:Nat) (L:List Ep) (key tm now:Nat):RX :=
 { putX x l (beatR (newsE x.n f x.ep L).2 x.key key) with ep:=(newsE x.n f x.ep L).1,key:=max x.key key,un:=grantU x.un f tm now }
def BeatenR (own:Nat→Nat) (p:RP) (x:RX) (l:List Part) (f:Nat) (L:List Ep) (key tm now:Nat) (w:World) (e:Ending) (w':World):Prop :=
 ∃ v own',e=.returned v∧Grown own own' w∧Keeps (tags own [2,4,12,13]) w w' ∧
  ((v=.nilIface∧RegI w' own' p (beatX x l f L key tm now)) ∨
   (∃ k c,NoPut x.gen l x.dn (beatR (newsE x.n f x.ep L).2 x.key key) c∧k≤1∧ErrD w' (k + 1) v c∧RegI w' own' p x))
section
variable {w:World} {own:Nat→Nat} {p:RP} {x:RX}
set_option maxRecDepth 20000 in
set_option maxHeartbeats 4000000 in
theorem beaten_w (f len cap key tm now:Nat) (A:Option Addr) (L:List Ep) (lp:List Part) (h:RegI w own p x) (hw:Well x.dn lp) (g1:1≤x.gen) (g2:x.gen≤1099511627776)
  (hT:GoodL x.ep) (hE:Eps w w.heap.size A len cap L) (hB:BeatB 0 0 0 tm L key) (hF:Fits x.n f x.ep L) (hf:isL x.id x.n f=true) (hf2:f≤16) (hn:now≤1099511627776) :
  Calls Tryz.prog 44 #[.pointer (some ⟨p.r,0,none⟩),.int .i64 f,.agg (msgC 4 tm (.slice A len cap) key),.int .i64 now] w (BeatenR own p x lp f L key tm now w):=by
 obtain ⟨i1,hi1,hz1⟩:=Option.map_eq_some_iff.1 str_info
 simp only [Prod.mk.injEq] at hz1
 obtain ⟨hs0,hs1,hs2⟩:=hz1
 obtain ⟨i0,hi0,hz0,hz1,hz2⟩:=info_parts ep_info
 have HI1:=Lib.hid (And.intro hi1 (And.intro hs0 (And.intro hs1 hs2)))
 have HI0:=Lib.hid (And.intro hi0 (And.intro hz0 (And.intro hz1 hz2)))
 clear hi1 hs0 hs1 hs2 hi0 hz0 hz1 hz2
 obtain ⟨_,_,_,hG,⟨_,hk2⟩,_,ht2⟩:=hB
 have h64:=hG.2.1
 have hlL:=hE.1
 have hl64:len≤64:=by omega
 have HR:=Lib.hid h
 have HW:=Lib.hid hw
 have HT:=Lib.hid hT
 have HG:=Lib.hid hG
 have HF:=Lib.hid hF
 have HL:=Lib.hid hf
 have HLEN:=Lib.hid hlL
 have c6:=h.reg.c8
 have hrl:=h.reg.lt
 have HU:=Lib.hid (show ∀ e ∈ x.ep,e.u.size≤32 from fun e he=>by have:=of_decide_eq_true (hT.2.2 e he);omega)
 have hep:=hT.2.1
 unfold msgC
 have hb0:=below_new w (.cells #[.int .i64 4,.slice none 0 0,.slice none 0 0,.int .i64 0,.int .i64 tm,.slice A len cap,.int .i64 key] 27)
 have HB0:=Lib.hid hb0
 have HM0:=Lib.hid (Blk.new w 27 #[.int .i64 4,.slice none 0 0,.slice none 0 0,.int .i64 0,.int .i64 tm,.slice A len cap,.int .i64 key])
 have HR0:=Lib.hid (h.below hb0)
 have HE:=Lib.hid hE
 clear h hw hT hE hG hF hf hlL hb0
 go_enter Tryz.func44,Tryz.ntmps44
 go_wp2_with fail
 generalize w.alloc (.cells #[.int .i64 4,.slice none 0 0,.slice none 0 0,.int .i64 0,.int .i64 tm,.slice A len cap,.int .i64 key] 27)=w0 at *
 have c8:=HR0.out.reg.c8
 have hrl0:=HR0.out.reg.lt
 clear c6
 go_wp2_with fail
 refine (keys.list_any p.gt p.bt x.ep w0 HR0.out.tab (by omega) (fun e he=>by have:=HU.out e he;omega)).mono ?_
 rintro e w1 ⟨A1,c1,rfl,hown1,hb1⟩
 have HE1:=Lib.hid (show Eps w1 w1.heap.size A1 x.ep.length c1 x.ep from by
  obtain ⟨A',c',he,h⟩:=Eps.of_own hown1
  injection he with h1 _ h2
  subst h1 h2
  exact h)
 have HB1:=Lib.hid hb1
 clear hown1 hb1
 go_wp2_with fail
 refine (new_any A1 x.ep.length c1 x.ep w1 HE1.out (by omega) (fun e he=>by have:=HU.out e he;unfold maxLen;omega)).mono ?_
 rintro e w2 h2
 rcases h2 with ⟨_,gT,bT,rfl,hgT,hbT,hT2,hb2⟩|⟨hng,_⟩
 rotate_left
 ·exact absurd HT.out hng
 have hs1:=HB1.out.size
 have HT2:=Lib.hid hT2
 have HB2:=Lib.hid (HB1.out.trans (hb2.mono hs1))
 have hs2:=hb2.size
 obtain ⟨B,hBe⟩:∃ B,w2.heap.size=B:=⟨_,rfl⟩
 have hgTB:gT < B:=by have:=hT2.1.lt;omega
 have hbTB:bT < B:=by have:=hT2.2.lt;omega
 have hm5:w2.cell? ⟨w.heap.size,5,none⟩=some (.slice A len cap):=(HM0.out.below HB2.out HM0.out.lt).cell 5
 have hml:w.heap.size < w2.heap.size:=(HM0.out.below HB2.out HM0.out.lt).lt
 clear hT2 hb2 HE1 HB1
 go_wp2_with fail
 go_loopw [31,14,15,12,9,10] (fun i _ _ e lv nv wr=>∃ k:Nat,i=.int .i64 k∧k≤len∧e=.nilIface∧OwnS wr B lv ((newsE x.n f x.ep (L.take k)).2.map fun e=>numW 2 ++ epW e) ∧
   wr.ownsRow B 36 2 nv (newsE x.n f x.ep (L.take k)).2.length ((newsE x.n f x.ep (L.take k)).2.flatMap ep)∧(∀ i j,lv.ownBlock=some i→nv.ownBlock=some j→i ≠ j) ∧
   Tab wr gT bT (newsE x.n f x.ep (L.take k)).1∧Below w0.heap.size w0 wr∧B≤wr.heap.size) (fun i _ _ _ _ _ _=>len - (intOf i).toNat)
 case atStart =>
  refine ⟨0,rfl,by omega,rfl,?_,?_,?_,?_,HB2.out,by omega⟩
  ·rw [newsE_zero];exact OwnS.none _ _
  ·rw [newsE_zero];exact ⟨rfl,.inl ⟨rfl,rfl⟩⟩
  ·intro i j h;cases h
  ·rw [newsE_zero];exact HT2.out
 case round =>
  clear HT2 HB2
  obtain ⟨k,rfl,hk,rfl,hl,hnw,hd,ht,hb,hsz⟩:=hrel
  by_cases hkn:k < len
  ·have dk:decide ((k:Int) < (len:Int))=true:=decide_eq_true (by omega)
   obtain ⟨b,off,rfl,hbb⟩:=HE.out.at_some (by omega)
   have hkl:k < L.length:=by rw [HLEN.out];exact hkn
   have hx:L[k]?=some L[k]:=List.getElem?_eq_getElem hkl
   obtain ⟨hx0,hx1⟩:=((HE.out.below HB0.out).below (hb.mono (by have:=HB0.out.size;omega))).cell hkn hx
   have hst:=newsE_step (n:=x.n) (f:=f) (T:=x.ep) hx
   have hrt:=of_decide_eq_true (HG.out.2.2 _ (List.getElem_mem hkl))
   have hcf:=HF.out k _ hx
   have hgk:=newsE_good HT.out HF.out k (by omega)
   have hnle:=newsE_le (n:=x.n) (f:=f) (T:=x.ep) (L:=L) k
   have hnx:newsE x.n f x.ep (L.take (k + 1))=stepE x.n f (newsE x.n f x.ep (L.take k)) L[k]:=hst
   obtain ⟨⟨Tk,Nk⟩,hq⟩:∃ q,newsE x.n f x.ep (L.take k)=q:=⟨_,rfl⟩
   rw [hq] at hl hnw ht hcf hgk hnle hnx
   dsimp only at hl hnw ht hcf hgk hnle
   generalize L[k]=y at *
   obtain ⟨u,m⟩:=y
   dsimp only at hx0 hx1 hrt hcf hnx
   obtain ⟨m',rfl⟩:∃ k:Nat,m=(k:Int):=⟨m.toNat,by omega⟩
   have HLc:=Lib.hid hl
   have HNc:=Lib.hid hnw
   have HD:=Lib.hid hd
   have HTc:=Lib.hid ht
   have HBc:=Lib.hid hb
   have HSz:=Lib.hid hsz
   have HCF:=Lib.hid hcf
   have HGK:=Lib.hid hgk
   have HNX:=Lib.hid hnx
   clear hl hnw hd ht hb hcf hgk hnx hst hq hx
   go_wp2_with fail
   have hb5:=below_new wr (.cells #[.string u,.int .i64 m'] 36)
   have HXc:=Lib.hid (Blk.new wr 36 #[.string u,.int .i64 m'])
   have HLl:=HLc
   have HNl:=HNc
   have HLc:=Lib.hid (own_below HLc.out hb5)
   have HNc:=Lib.hid (own_below HNc.out hb5)
   have HTc:=Lib.hid (HTc.out.below hb5)
   have HLl:=Lib.hid (show ∀ i,u9.ownBlock=some i→B≤i∧i < wr.heap.size from fun i hi=>HLl.out.lt i hi)
   have HNl:=Lib.hid (show ∀ i,u10.ownBlock=some i→B≤i∧i < wr.heap.size from fun i hi=>HNl.out.lt i hi)
   have HBc:=Lib.hid (HBc.out.trans (hb5.mono HBc.out.size))
   have HSz:=Lib.hid (Nat.le_trans HSz.out hb5.size)
   have hsB:=HSz.out
   obtain ⟨gx,hgx⟩:∃ g,wr.heap.size=g:=⟨_,rfl⟩
   rw [hgx] at HXc HLl HNl ⊢
   clear hb5
   generalize wr.alloc (.cells #[.string u,.int .i64 m'] 36)=w5 at *
   have y0:w5.cell? ⟨gx,0,none⟩=some (.string u):=HXc.out.cell 0
   have yl:=HXc.out.lt
   have c1:w5.cell? ⟨p.r,1,none⟩=some (.int .i64 x.n):=(HR0.out.below HBc.out).reg.c1
   have pl:=(HR0.out.below HBc.out).reg.lt
   have hom:=home_any u x.n w5.drew (by omega)
   by_cases hh:homeI u x.n=f
   ·have hne:(homeI u x.n != (f:Int))=false:=by rw [hh];simp
    have HUP:=Lib.hid (show ∀ b,decide (getL Tk u < (m':Int))=b→upE x.n f Tk ⟨u,m'⟩=b from fun b hb=>by unfold upE;dsimp only;rw [decide_eq_true hh,hb];rfl)
    generalize homeI u x.n=hm at *
    refine wp_region_mono nobody (by kernel_rfl) ?_
    iterate 8
     first|refine qT 0 (v:=?_) ?_ ?_|refine qT 1 (v:=?_) ?_ ?_|refine qT 2 (v:=?_) ?_ ?_|refine qT 3 (v:=?_) ?_ ?_|refine qT 4 (v:=?_) ?_ ?_|refine qT 5 (v:=?_) ?_ ?_|refine qT 6 (v:=?_) ?_ ?_|refine qT 8 (v:=?_) ?_ ?_
     rotate_left
     ·(intro W hSw;(have hcW:=hSw.cells;try simp only [qSd] at hcW);go_simp <;> rfl)
     try simp only [qPA]
    refine wpMono_one' 7 (by kernel_rfl) rfl (by rfl) (fun K hK=>?_)
    go_simp
    refine hom.mono ?_
    rintro e w6 ⟨rfl,hb6⟩
    have HB6:=Lib.hid hb6
    clear hb6
    refine hK.out _ _ ?_ ?_
    ·exact .of_below HB6.out
    clear hK K
    try simp only [qPA]
    iterate 5
     first|refine qT 9 (v:=?_) ?_ ?_|refine qT 10 (v:=?_) ?_ ?_|refine qT 11 (v:=?_) ?_ ?_|refine qT 12 (v:=?_) ?_ ?_|refine qT 13 (v:=?_) ?_ ?_
     rotate_left
     ·(intro W hSw;(have hcW:=hSw.cells;try simp only [qSd] at hcW);go_simp <;> rfl)
     try simp only [qPA]
    refine wpMono_done (by kernel_rfl) ?_ _
    have hb56:Below w5.heap.size w5 w6:=below_ofDrew HB6.out
    try (have HLc:=Lib.hid (own_below HLc.out hb56))
    have HNc:=Lib.hid (own_below HNc.out hb56)
    have HTc:=Lib.hid (HTc.out.below hb56)
    have HXc:=Lib.hid (HXc.out.below hb56 HXc.out.lt)
    have HBc:=Lib.hid (HBc.out.trans (Below.mono hb56 HBc.out.size))
    have HSz:=Lib.hid (Nat.le_trans HSz.out (Below.size hb56))
    try (have HSc:=Lib.hid (HSc.out.below hb56 HSc.out.lt))
    try (have HEc:=Lib.hid (HEc.out.below hb56 HEc.out.lt))
    have q0:w6.cell? ⟨gx,0,none⟩=some (.string u):=HXc.out.cell 0
    have q1:w6.cell? ⟨gx,1,none⟩=some (.int .i64 m'):=HXc.out.cell 1
    have ql:=HXc.out.lt
    have hc0:=HCF.out hh
    have HC0:=Lib.hid hc0
    have hum:u.size≤maxLen:=by unfold maxLen;omega
    clear hb56 hom HB6 y0 yl c1 pl HCF hc0
    by_cases hle:(m':Int)≤getL Tk u
    ·have hup:upE x.n f Tk ⟨u,m'⟩=false:=HUP.out _ (decide_eq_false (show ¬ getL Tk u < (m':Int) from by omega))
     have HNX2:=Lib.hid (show newsE x.n f x.ep (L.take (k + 1))=(Tk,Nk) from by rw [HNX.out];unfold stepE;dsimp only;rw [hup];rfl)
     have HLE:=Lib.hid hle
     clear hup HNX hle hh
     go_wp2_with fail
     refine (learn_old gT bT Tk u m' w6 HTc.out HGK.out hum HC0.out HLE.out).mono ?_
     rintro e w7 ⟨v7,rfl,he7,hb7⟩
     obtain rfl:v7=.nilIface:=by
      rcases he7 with ⟨_,h⟩|⟨h,_⟩
      ·exact h
      ·exact absurd rfl h
     try (have HLc:=Lib.hid (own_below HLc.out hb7))
     have HNc:=Lib.hid (own_below HNc.out hb7)
     have HTc:=Lib.hid (HTc.out.below hb7)
     have HXc:=Lib.hid (HXc.out.below hb7 HXc.out.lt)
     have HBc:=Lib.hid (HBc.out.trans (Below.mono hb7 HBc.out.size))
     have HSz:=Lib.hid (Nat.le_trans HSz.out (Below.size hb7))
     try (have HSc:=Lib.hid (HSc.out.below hb7 HSc.out.lt))
     try (have HEc:=Lib.hid (HEc.out.below hb7 HEc.out.lt))
     clear hb7 he7 q0 q1 ql
     go_wp2_with fail
     go_roundw
     case rel=>exact ⟨k + 1,by go_num,by omega,rfl,by rw [HNX2.out];exact HLc.out,by rw [HNX2.out];exact HNc.out,HD.out,by rw [HNX2.out];exact HTc.out,HBc.out,HSz.out⟩
     case measure=>simp [intOf];omega
    ·have hup:upE x.n f Tk ⟨u,m'⟩=true:=HUP.out _ (decide_eq_true (show getL Tk u < (m':Int) from by omega))
     have HNX2:=Lib.hid (show newsE x.n f x.ep (L.take (k + 1))=(putL Tk u m',Nk ++ [⟨u,m'⟩]) from by rw [HNX.out];unfold stepE;dsimp only;rw [hup];rfl)
     have HLE:=Lib.hid hle
     clear hup HNX hle hh
     go_wp2_with fail
     refine (learn_new gT bT Tk u m' w6 HTc.out HGK.out hum HC0.out (by have:=HLE.out;omega)).mono ?_
     rintro e w7 ⟨rfl,ht7,hk7⟩
     have hl6:=HLl.out
     have hn6:=HNl.out
     have hk7':Keeps (· = bT) w6 w7:=hk7.more (fun i hi e=>e.elim (fun h=>absurd hi (by omega)) id)
     have HLc:=Lib.hid (own_apart HLc.out hk7' (fun i hi e=>by have:=hl6 i hi;omega))
     have HNc:=Lib.hid (own_apart HNc.out hk7' (fun i hi e=>by have:=hn6 i hi;omega))
     have HXc:=Lib.hid (HXc.out.keeps hk7' (by omega))
     have HBc:=Lib.hid (HBc.out.trans (hk7'.below (B:=w0.heap.size) (fun i hi e=>by have e:i=bT:=e;omega) HBc.out.size))
     have HSz:=Lib.hid (Nat.le_trans HSz.out hk7'.size)
     have HTc:=Lib.hid ht7
     clear hk7 hk7' ht7 hl6 hn6 q0 q1 ql
     go_wp2_with fail
     have hgl:gx < w7.heap.size:=HXc.out.lt
     have hnL:∀ i,u9.ownBlock=some i→i ≠ gx:=fun i hi=>by have:=HLl.out i hi;omega
     have hnN:∀ i,u10.ownBlock=some i→i ≠ gx:=fun i hi=>by have:=HNl.out i hi;omega
     have hnX:¬ (u9.ownBlock=some gx ∨ u10.ownBlock=some gx):=fun e=>e.elim (fun e=>hnL _ e rfl) (fun e=>hnN _ e rfl)
     have HNXX:=Lib.hid hnX
     have HDL:=Lib.hid (show ∀ i,u9.ownBlock=some i→i < gx from fun i hi=>(HLl.out i hi).2)
     have HDN:=Lib.hid (show ∀ i,u10.ownBlock=some i→i < gx from fun i hi=>(HNl.out i hi).2)
     have HDB:=Lib.hid (show ∀ i,u9.ownBlock=some i→B≤i from fun i hi=>(HLl.out i hi).1)
     have HDM:=Lib.hid (show ∀ i,u10.ownBlock=some i→B≤i from fun i hi=>(HNl.out i hi).1)
     have hBx:B≤gx:=by omega
     clear hnL hnN hnX
     obtain ⟨lA,lc,rfl⟩:=OwnS.form HLc.out
     obtain ⟨nA,nc,rfl⟩:=ownsRow_slice HNc.out
     refine wp_region_monoJ (fun i=>(Value.slice lA (Nk.map fun e=>numW 2 ++ epW e).length lc).ownBlock=some i ∨ (Value.slice nA Nk.length nc).ownBlock=some i) [4,8] (by kernel_rfl) ?_
     have HLc:=Lib.hid (own_below HLc.out ((Below.refl w7.heap.size w7).drew))
     have HNc:=Lib.hid (own_below HNc.out ((Below.refl w7.heap.size w7).drew))
     have HTc:=Lib.hid (HTc.out.below ((Below.refl w7.heap.size w7).drew))
     have HXc:=Lib.hid (Blk.drew HXc.out)
     have HBc:=Lib.hid (HBc.out.drew)
     have HSz:=Lib.hid (show B≤w7.drew.heap.size from HSz.out)
     have hgl:gx < w7.drew.heap.size:=hgl
     generalize w7.drew=Wc at *
     refine qJ 0 (v:=?_) ?_ ?_;rotate_left
     ·(intro W hSw;(skip);go_simp <;> rfl)
     try simp only [qPA]
     refine qJ 1 (v:=?_) ?_ ?_;rotate_left
     ·(intro W hSw;first|((refine exec_loadR 36 (.tmp 14) ?_ gx 0 [.string u,.int .i64 m'] ?_ Tryz.underlying36 rfl (by kernel_rfl) (blk_cells (Blk.keeps HXc.out hSw HNXX.out)) <;> rfl))|(skip;go_simp;done)|(skip;go_simp;rfl))
     try simp only [qPA]
     refine qJ 5 (v:=?_) ?_ ?_;rotate_left
     ·(intro W hSw;(skip);go_simp <;> rfl)
     try simp only [qPA]
     refine qJ 6 (v:=?_) ?_ ?_;rotate_left
     ·(intro W hSw;first|((refine exec_loadR 36 (.tmp 14) ?_ gx 0 [.string u,.int .i64 m'] ?_ Tryz.underlying36 rfl (by kernel_rfl) (blk_cells (Blk.keeps HXc.out hSw HNXX.out)) <;> rfl))|(skip;go_simp;done)|(skip;go_simp;rfl))
     try simp only [qPA]
     refine wpMonoJ_two' 2 7 (by kernel_rfl) rfl (by rfl) rfl (by rfl) (fun K hK=>?_) (fun K hK=>?_)
     ·skip
      go_simp
      refine (epoch_record u m' Wc (by omega) (by omega)).mono ?_
      rintro e Wn ⟨rfl,hq⟩
      have HK:=Lib.hid hq
      try (have HLc:=Lib.hid (own_below HLc.out hq))
      have HNc:=Lib.hid (own_below HNc.out hq)
      have HTc:=Lib.hid (HTc.out.below hq)
      have HXc:=Lib.hid (HXc.out.below hq HXc.out.lt)
      have HBc:=Lib.hid (HBc.out.trans (Below.mono hq HBc.out.size))
      have HSz:=Lib.hid (Nat.le_trans HSz.out (Below.size hq))
      try (have HSc:=Lib.hid (HSc.out.below hq HSc.out.lt))
      try (have HEc:=Lib.hid (HEc.out.below hq HEc.out.lt))
      have hgl:=Nat.lt_of_lt_of_le hgl hq.size
      clear hq
      rename World=>Wc
      refine hK.out _ _ ?_ ?_
      ·exact .of_below HK.out
      clear hK K
      try simp only [qPA]
      refine wpMonoJ_two' 3 7 (by kernel_rfl) rfl (by rfl) rfl (by rfl) (fun K hK=>?_) (fun K hK=>?_)
      ·skip
       go_simp
       have hq:=below_new Wc (.cells #[.string (str (numW 2 ++ epW ⟨u,(m':Int)⟩))] 9)
       have HSc:=Lib.hid (Blk.new Wc 9 #[.string (str (numW 2 ++ epW ⟨u,(m':Int)⟩))])
       have HK:=Lib.hid hq
       try (have HLc:=Lib.hid (own_below HLc.out hq))
       have HNc:=Lib.hid (own_below HNc.out hq)
       have HTc:=Lib.hid (HTc.out.below hq)
       have HXc:=Lib.hid (HXc.out.below hq HXc.out.lt)
       have HBc:=Lib.hid (HBc.out.trans (Below.mono hq HBc.out.size))
       have HSz:=Lib.hid (Nat.le_trans HSz.out (Below.size hq))
       try (have HSc:=Lib.hid (HSc.out.below hq HSc.out.lt))
       try (have HEc:=Lib.hid (HEc.out.below hq HEc.out.lt))
       obtain ⟨gs,hgs⟩:∃ g,Wc.heap.size=g:=⟨_,rfl⟩
       have hgl:=Nat.lt_of_lt_of_le hgl hq.size
       rw [hgs] at HSc ⊢
       clear hq hgs
       generalize Wc.alloc (.cells #[.string (str (numW 2 ++ epW ⟨u,(m':Int)⟩))] 9)=Wn at *
       rename World=>Wc
       refine hK.out _ _ ?_ ?_
       ·exact .of_below HK.out
       clear hK K
       try simp only [qPA]
       refine wpMonoJ_two' 4 7 (by kernel_rfl) rfl (by rfl) rfl (by rfl) (fun K hK=>?_) (fun K hK=>?_)
       ·skip
        refine wp_append_any _ (.tmp 59) (.tmp 62) _ (by rfl) B 9 i1 _ 1 16 Tryz.underlying109 HI1.out.1 HI1.out.2.1 HI1.out.2.2.1 HI1.out.2.2.2 rfl (by decide) (.slice lA (Nk.map fun e=>numW 2 ++ epW e).length lc) _ _ (by first|rfl|(rw [List.length_map];rfl)) HLc.out _ _ 1 _ _ (by rfl) (blk_reads HSc.out rfl) (fun u hu=>by simp at hu;subst hu;rfl) (by rw [List.length_map];unfold maxLen;omega) (by rw [List.length_map];omega) HSz.out fun v8 Wn ho8 hg8 hv8=>?_
        have hk8:Keeps (fun i=>(Value.slice lA (Nk.map fun e=>numW 2 ++ epW e).length lc).ownBlock=some i) Wc Wn:=.grown hg8 fun i hi=>.inl hi
        have HK:=Lib.hid (hk8.more (Y:=fun i=>(Value.slice lA (Nk.map fun e=>numW 2 ++ epW e).length lc).ownBlock=some i ∨ (Value.slice nA Nk.length nc).ownBlock=some i) fun i _ e=>Or.inl e)
        have HL8:=Lib.hid (show OwnS Wn B v8 ((Nk ++ [(⟨u,(m':Int)⟩:Ep)]).map fun e=>numW 2 ++ epW e) from by
         rw [List.map_append]
         unfold OwnS
         rw [List.length_append,show scells (Nk.map (fun e=>numW 2 ++ epW e) ++ [(⟨u,(m':Int)⟩:Ep)].map fun e=>numW 2 ++ epW e)=scells (Nk.map fun e=>numW 2 ++ epW e) ++ [.string (str (numW 2 ++ epW ⟨u,(m':Int)⟩))] by simp [scells]]
         exact ho8)
        have HD8:=Lib.hid (show ∀ i j,v8.ownBlock=some i→(Value.slice nA Nk.length nc).ownBlock=some j→i ≠ j from fun i j hi hj=>by
         rcases hv8 with h|h
         ·exact HD.out i j (h ▸ hi) hj
         ·rw [h] at hi;injection hi with hi;have:=HDN.out j hj;omega)
        have HNc:=Lib.hid (own_apart HNc.out hk8 (fun i hi e=>HD.out i i e hi rfl))
        have HTc:=Lib.hid (HTc.out.keeps hk8 (fun e=>by have:=HDB.out _ e;omega) (fun e=>by have:=HDB.out _ e;omega))
        have HXc:=Lib.hid (Blk.keeps HXc.out hk8 (fun e=>HNXX.out (.inl e)))
        have HBc:=Lib.hid (HBc.out.trans (hk8.below (B:=w0.heap.size) (fun i hi e=>by have:=HDB.out i e;omega) HBc.out.size))
        have HSz:=Lib.hid (Nat.le_trans HSz.out hk8.size)
        have hgl:=Nat.lt_of_lt_of_le hgl hk8.size
        try (have HEc:=Lib.hid (Blk.keeps HEc.out hk8 (fun e=>by have:=HDL.out _ e;have:=HGE.out;omega)))
        clear ho8 hg8 hv8 hk8 HLc
        rename World=>Wc
        refine hK.out _ _ ?_ ?_
        ·exact moved HK.out (by decide)
        clear hK K
        try simp only [qPA]
        refine wpMonoJ_one' 7 (by kernel_rfl) rfl (by rfl) (fun K hK=>?_)
        go_simp
        have hq:=below_new Wc (.cells #[.string u,.int .i64 m'] 36)
        have HEc:=Lib.hid (Blk.new Wc 36 #[.string u,.int .i64 m'])
        have HK:=Lib.hid hq
        try (have HL8:=Lib.hid (own_below HL8.out hq))
        try (have HLc:=Lib.hid (own_below HLc.out hq))
        have HNc:=Lib.hid (own_below HNc.out hq)
        have HTc:=Lib.hid (HTc.out.below hq)
        have HXc:=Lib.hid (HXc.out.below hq HXc.out.lt)
        have HBc:=Lib.hid (HBc.out.trans (Below.mono hq HBc.out.size))
        have HSz:=Lib.hid (Nat.le_trans HSz.out (Below.size hq))
        try (have HSc:=Lib.hid (HSc.out.below hq HSc.out.lt))
        try (have HEc:=Lib.hid (HEc.out.below hq HEc.out.lt))
        obtain ⟨ge,hge⟩:∃ g,Wc.heap.size=g:=⟨_,rfl⟩
        have HGE:=Lib.hid (show gx < ge from by rw [← hge];exact hgl)
        have hgl:=Nat.lt_of_lt_of_le hgl hq.size
        rw [hge] at HEc ⊢
        clear hq hge
        generalize Wc.alloc (.cells #[.string u,.int .i64 m'] 36)=Wn at *
        rename World=>Wc
        refine hK.out _ _ ?_ ?_
        ·exact .of_below HK.out
        clear hK K
        try simp only [qPA]
        refine wpMonoJ_one' 8 (by kernel_rfl) rfl (by rfl) (fun K hK=>?_)
        refine wp_append_any _ (.tmp 64) (.tmp 66) _ (by rfl) B 36 i0 _ 2 24 Tryz.underlying25 HI0.out.1 HI0.out.2.1 HI0.out.2.2.1 HI0.out.2.2.2 rfl (by decide) (.slice nA Nk.length nc) _ _ (by rfl) HNc.out _ _ 1 _ _ (by rfl) (blk_reads HEc.out rfl) (fun u hu=>by simp at hu;rcases hu with rfl|rfl <;> rfl) (by unfold maxLen;omega) (by omega) HSz.out fun v9 Wn ho9 hg9 hv9=>?_
        have hk9:Keeps (fun i=>(Value.slice nA Nk.length nc).ownBlock=some i) Wc Wn:=.grown hg9 fun i hi=>.inl hi
        have HK:=Lib.hid (hk9.more (Y:=fun i=>(Value.slice lA (Nk.map fun e=>numW 2 ++ epW e).length lc).ownBlock=some i ∨ (Value.slice nA Nk.length nc).ownBlock=some i) fun i _ e=>Or.inr e)
        have HN9:=Lib.hid (show Wn.ownsRow B 36 2 v9 (Nk ++ [(⟨u,(m':Int)⟩:Ep)]).length ((Nk ++ [(⟨u,(m':Int)⟩:Ep)]).flatMap ep) from by
         rw [List.length_append,List.flatMap_append]
         exact ho9)
        have HD9:=Lib.hid (show ∀ i j,v8.ownBlock=some i→v9.ownBlock=some j→i ≠ j from fun i j hi hj=>by
         rcases hv9 with h|h
         ·exact HD8.out i j hi (h ▸ hj)
         ·rw [h] at hj;injection hj with hj;have:=(HL8.out.lt i hi).2;omega)
        have HL9:=Lib.hid (show OwnS Wn B v8 ((Nk ++ [(⟨u,(m':Int)⟩:Ep)]).map fun e=>numW 2 ++ epW e) from own_apart HL8.out hk9 (fun i hi e=>HD8.out i i hi e rfl))
        have HTc:=Lib.hid (HTc.out.keeps hk9 (fun e=>by have:=HDM.out _ e;omega) (fun e=>by have:=HDM.out _ e;omega))
        have HBc:=Lib.hid (HBc.out.trans (hk9.below (B:=w0.heap.size) (fun i hi e=>by have:=HDM.out i e;omega) HBc.out.size))
        have HSz:=Lib.hid (Nat.le_trans HSz.out hk9.size)
        clear ho9 hg9 hv9 hk9
        rename World=>Wc
        refine hK.out _ _ ?_ ?_
        ·exact moved HK.out (by decide)
        clear hK K
        try simp only [qPA]
        iterate 2
         first|refine qJ 9 (v:=?_) ?_ ?_|refine qJ 10 (v:=?_) ?_ ?_
         rotate_left
         ·(intro W hSw;(skip);go_simp <;> rfl)
         try simp only [qPA]
        refine wpMonoJ_done (by kernel_rfl) ?_ _
        clear HK HXc HEc HSc
        go_wp2_with fail
        go_roundw
        case rel=>exact ⟨k + 1,by go_num,by omega,rfl,by rw [HNX2.out];exact HL9.out,by rw [HNX2.out];exact HN9.out,HD9.out,by rw [HNX2.out];exact HTc.out,HBc.out,HSz.out⟩
        case measure=>simp [intOf];omega
       ·skip
        go_simp
        have hq:=below_new Wc (.cells #[.string u,.int .i64 m'] 36)
        have HEc:=Lib.hid (Blk.new Wc 36 #[.string u,.int .i64 m'])
        have HK:=Lib.hid hq
        try (have HL8:=Lib.hid (own_below HL8.out hq))
        try (have HLc:=Lib.hid (own_below HLc.out hq))
        have HNc:=Lib.hid (own_below HNc.out hq)
        have HTc:=Lib.hid (HTc.out.below hq)
        have HXc:=Lib.hid (HXc.out.below hq HXc.out.lt)
        have HBc:=Lib.hid (HBc.out.trans (Below.mono hq HBc.out.size))
        have HSz:=Lib.hid (Nat.le_trans HSz.out (Below.size hq))
        try (have HSc:=Lib.hid (HSc.out.below hq HSc.out.lt))
        try (have HEc:=Lib.hid (HEc.out.below hq HEc.out.lt))
        obtain ⟨ge,hge⟩:∃ g,Wc.heap.size=g:=⟨_,rfl⟩
        have HGE:=Lib.hid (show gx < ge from by rw [← hge];exact hgl)
        have hgl:=Nat.lt_of_lt_of_le hgl hq.size
        rw [hge] at HEc ⊢
        clear hq hge
        generalize Wc.alloc (.cells #[.string u,.int .i64 m'] 36)=Wn at *
        rename World=>Wc
        refine hK.out _ _ ?_ ?_
        ·exact .of_below HK.out
        clear hK K
        try simp only [qPA]
        refine wpMonoJ_one' 4 (by kernel_rfl) rfl (by rfl) (fun K hK=>?_)
        refine wp_append_any _ (.tmp 59) (.tmp 62) _ (by rfl) B 9 i1 _ 1 16 Tryz.underlying109 HI1.out.1 HI1.out.2.1 HI1.out.2.2.1 HI1.out.2.2.2 rfl (by decide) (.slice lA (Nk.map fun e=>numW 2 ++ epW e).length lc) _ _ (by first|rfl|(rw [List.length_map];rfl)) HLc.out _ _ 1 _ _ (by rfl) (blk_reads HSc.out rfl) (fun u hu=>by simp at hu;subst hu;rfl) (by rw [List.length_map];unfold maxLen;omega) (by rw [List.length_map];omega) HSz.out fun v8 Wn ho8 hg8 hv8=>?_
        have hk8:Keeps (fun i=>(Value.slice lA (Nk.map fun e=>numW 2 ++ epW e).length lc).ownBlock=some i) Wc Wn:=.grown hg8 fun i hi=>.inl hi
        have HK:=Lib.hid (hk8.more (Y:=fun i=>(Value.slice lA (Nk.map fun e=>numW 2 ++ epW e).length lc).ownBlock=some i ∨ (Value.slice nA Nk.length nc).ownBlock=some i) fun i _ e=>Or.inl e)
        have HL8:=Lib.hid (show OwnS Wn B v8 ((Nk ++ [(⟨u,(m':Int)⟩:Ep)]).map fun e=>numW 2 ++ epW e) from by
         rw [List.map_append]
         unfold OwnS
         rw [List.length_append,show scells (Nk.map (fun e=>numW 2 ++ epW e) ++ [(⟨u,(m':Int)⟩:Ep)].map fun e=>numW 2 ++ epW e)=scells (Nk.map fun e=>numW 2 ++ epW e) ++ [.string (str (numW 2 ++ epW ⟨u,(m':Int)⟩))] by simp [scells]]
         exact ho8)
        have HD8:=Lib.hid (show ∀ i j,v8.ownBlock=some i→(Value.slice nA Nk.length nc).ownBlock=some j→i ≠ j from fun i j hi hj=>by
         rcases hv8 with h|h
         ·exact HD.out i j (h ▸ hi) hj
         ·rw [h] at hi;injection hi with hi;have:=HDN.out j hj;omega)
        have HNc:=Lib.hid (own_apart HNc.out hk8 (fun i hi e=>HD.out i i e hi rfl))
        have HTc:=Lib.hid (HTc.out.keeps hk8 (fun e=>by have:=HDB.out _ e;omega) (fun e=>by have:=HDB.out _ e;omega))
        have HXc:=Lib.hid (Blk.keeps HXc.out hk8 (fun e=>HNXX.out (.inl e)))
        have HBc:=Lib.hid (HBc.out.trans (hk8.below (B:=w0.heap.size) (fun i hi e=>by have:=HDB.out i e;omega) HBc.out.size))
        have HSz:=Lib.hid (Nat.le_trans HSz.out hk8.size)
        have hgl:=Nat.lt_of_lt_of_le hgl hk8.size
        try (have HEc:=Lib.hid (Blk.keeps HEc.out hk8 (fun e=>by have:=HDL.out _ e;have:=HGE.out;omega)))
        clear ho8 hg8 hv8 hk8 HLc
        rename World=>Wc
        refine hK.out _ _ ?_ ?_
        ·exact moved HK.out (by decide)
        clear hK K
        try simp only [qPA]
        refine wpMonoJ_one' 8 (by kernel_rfl) rfl (by rfl) (fun K hK=>?_)
        refine wp_append_any _ (.tmp 64) (.tmp 66) _ (by rfl) B 36 i0 _ 2 24 Tryz.underlying25 HI0.out.1 HI0.out.2.1 HI0.out.2.2.1 HI0.out.2.2.2 rfl (by decide) (.slice nA Nk.length nc) _ _ (by rfl) HNc.out _ _ 1 _ _ (by rfl) (blk_reads HEc.out rfl) (fun u hu=>by simp at hu;rcases hu with rfl|rfl <;> rfl) (by unfold maxLen;omega) (by omega) HSz.out fun v9 Wn ho9 hg9 hv9=>?_
        have hk9:Keeps (fun i=>(Value.slice nA Nk.length nc).ownBlock=some i) Wc Wn:=.grown hg9 fun i hi=>.inl hi
        have HK:=Lib.hid (hk9.more (Y:=fun i=>(Value.slice lA (Nk.map fun e=>numW 2 ++ epW e).length lc).ownBlock=some i ∨ (Value.slice nA Nk.length nc).ownBlock=some i) fun i _ e=>Or.inr e)
        have HN9:=Lib.hid (show Wn.ownsRow B 36 2 v9 (Nk ++ [(⟨u,(m':Int)⟩:Ep)]).length ((Nk ++ [(⟨u,(m':Int)⟩:Ep)]).flatMap ep) from by
         rw [List.length_append,List.flatMap_append]
         exact ho9)
        have HD9:=Lib.hid (show ∀ i j,v8.ownBlock=some i→v9.ownBlock=some j→i ≠ j from fun i j hi hj=>by
         rcases hv9 with h|h
         ·exact HD8.out i j hi (h ▸ hj)
         ·rw [h] at hj;injection hj with hj;have:=(HL8.out.lt i hi).2;omega)
        have HL9:=Lib.hid (show OwnS Wn B v8 ((Nk ++ [(⟨u,(m':Int)⟩:Ep)]).map fun e=>numW 2 ++ epW e) from own_apart HL8.out hk9 (fun i hi e=>HD8.out i i hi e rfl))
        have HTc:=Lib.hid (HTc.out.keeps hk9 (fun e=>by have:=HDM.out _ e;omega) (fun e=>by have:=HDM.out _ e;omega))
        have HBc:=Lib.hid (HBc.out.trans (hk9.below (B:=w0.heap.size) (fun i hi e=>by have:=HDM.out i e;omega) HBc.out.size))
        have HSz:=Lib.hid (Nat.le_trans HSz.out hk9.size)
        clear ho9 hg9 hv9 hk9
        rename World=>Wc
        refine hK.out _ _ ?_ ?_
        ·exact moved HK.out (by decide)
        clear hK K
        try simp only [qPA]
        iterate 2
         first|refine qJ 9 (v:=?_) ?_ ?_|refine qJ 10 (v:=?_) ?_ ?_
         rotate_left
         ·(intro W hSw;(skip);go_simp <;> rfl)
         try simp only [qPA]
        refine wpMonoJ_done (by kernel_rfl) ?_ _
        clear HK HXc HEc HSc
        go_wp2_with fail
        go_roundw
        case rel=>exact ⟨k + 1,by go_num,by omega,rfl,by rw [HNX2.out];exact HL9.out,by rw [HNX2.out];exact HN9.out,HD9.out,by rw [HNX2.out];exact HTc.out,HBc.out,HSz.out⟩
        case measure=>simp [intOf];omega
      ·skip
       go_simp
       have hq:=below_new Wc (.cells #[.string u,.int .i64 m'] 36)
       have HEc:=Lib.hid (Blk.new Wc 36 #[.string u,.int .i64 m'])
       have HK:=Lib.hid hq
       try (have HL8:=Lib.hid (own_below HL8.out hq))
       try (have HLc:=Lib.hid (own_below HLc.out hq))
       have HNc:=Lib.hid (own_below HNc.out hq)
       have HTc:=Lib.hid (HTc.out.below hq)
       have HXc:=Lib.hid (HXc.out.below hq HXc.out.lt)
       have HBc:=Lib.hid (HBc.out.trans (Below.mono hq HBc.out.size))
       have HSz:=Lib.hid (Nat.le_trans HSz.out (Below.size hq))
       try (have HSc:=Lib.hid (HSc.out.below hq HSc.out.lt))
       try (have HEc:=Lib.hid (HEc.out.below hq HEc.out.lt))
       obtain ⟨ge,hge⟩:∃ g,Wc.heap.size=g:=⟨_,rfl⟩
       have HGE:=Lib.hid (show gx < ge from by rw [← hge];exact hgl)
       have hgl:=Nat.lt_of_lt_of_le hgl hq.size
       rw [hge] at HEc ⊢
       clear hq hge
       generalize Wc.alloc (.cells #[.string u,.int .i64 m'] 36)=Wn at *
       rename World=>Wc
       refine hK.out _ _ ?_ ?_
       ·exact .of_below HK.out
       clear hK K
       try simp only [qPA]
       refine wpMonoJ_one' 3 (by kernel_rfl) rfl (by rfl) (fun K hK=>?_)
       go_simp
       have hq:=below_new Wc (.cells #[.string (str (numW 2 ++ epW ⟨u,(m':Int)⟩))] 9)
       have HSc:=Lib.hid (Blk.new Wc 9 #[.string (str (numW 2 ++ epW ⟨u,(m':Int)⟩))])
       have HK:=Lib.hid hq
       try (have HLc:=Lib.hid (own_below HLc.out hq))
       have HNc:=Lib.hid (own_below HNc.out hq)
       have HTc:=Lib.hid (HTc.out.below hq)
       have HXc:=Lib.hid (HXc.out.below hq HXc.out.lt)
       have HBc:=Lib.hid (HBc.out.trans (Below.mono hq HBc.out.size))
       have HSz:=Lib.hid (Nat.le_trans HSz.out (Below.size hq))
       try (have HSc:=Lib.hid (HSc.out.below hq HSc.out.lt))
       try (have HEc:=Lib.hid (HEc.out.below hq HEc.out.lt))
       obtain ⟨gs,hgs⟩:∃ g,Wc.heap.size=g:=⟨_,rfl⟩
       have hgl:=Nat.lt_of_lt_of_le hgl hq.size
       rw [hgs] at HSc ⊢
       clear hq hgs
       generalize Wc.alloc (.cells #[.string (str (numW 2 ++ epW ⟨u,(m':Int)⟩))] 9)=Wn at *
       rename World=>Wc
       refine hK.out _ _ ?_ ?_
       ·exact .of_below HK.out
       clear hK K
       try simp only [qPA]
       refine wpMonoJ_one' 4 (by kernel_rfl) rfl (by rfl) (fun K hK=>?_)
       refine wp_append_any _ (.tmp 59) (.tmp 62) _ (by rfl) B 9 i1 _ 1 16 Tryz.underlying109 HI1.out.1 HI1.out.2.1 HI1.out.2.2.1 HI1.out.2.2.2 rfl (by decide) (.slice lA (Nk.map fun e=>numW 2 ++ epW e).length lc) _ _ (by first|rfl|(rw [List.length_map];rfl)) HLc.out _ _ 1 _ _ (by rfl) (blk_reads HSc.out rfl) (fun u hu=>by simp at hu;subst hu;rfl) (by rw [List.length_map];unfold maxLen;omega) (by rw [List.length_map];omega) HSz.out fun v8 Wn ho8 hg8 hv8=>?_
       have hk8:Keeps (fun i=>(Value.slice lA (Nk.map fun e=>numW 2 ++ epW e).length lc).ownBlock=some i) Wc Wn:=.grown hg8 fun i hi=>.inl hi
       have HK:=Lib.hid (hk8.more (Y:=fun i=>(Value.slice lA (Nk.map fun e=>numW 2 ++ epW e).length lc).ownBlock=some i ∨ (Value.slice nA Nk.length nc).ownBlock=some i) fun i _ e=>Or.inl e)
       have HL8:=Lib.hid (show OwnS Wn B v8 ((Nk ++ [(⟨u,(m':Int)⟩:Ep)]).map fun e=>numW 2 ++ epW e) from by
        rw [List.map_append]
        unfold OwnS
        rw [List.length_append,show scells (Nk.map (fun e=>numW 2 ++ epW e) ++ [(⟨u,(m':Int)⟩:Ep)].map fun e=>numW 2 ++ epW e)=scells (Nk.map fun e=>numW 2 ++ epW e) ++ [.string (str (numW 2 ++ epW ⟨u,(m':Int)⟩))] by simp [scells]]
        exact ho8)
       have HD8:=Lib.hid (show ∀ i j,v8.ownBlock=some i→(Value.slice nA Nk.length nc).ownBlock=some j→i ≠ j from fun i j hi hj=>by
        rcases hv8 with h|h
        ·exact HD.out i j (h ▸ hi) hj
        ·rw [h] at hi;injection hi with hi;have:=HDN.out j hj;omega)
       have HNc:=Lib.hid (own_apart HNc.out hk8 (fun i hi e=>HD.out i i e hi rfl))
       have HTc:=Lib.hid (HTc.out.keeps hk8 (fun e=>by have:=HDB.out _ e;omega) (fun e=>by have:=HDB.out _ e;omega))
       have HXc:=Lib.hid (Blk.keeps HXc.out hk8 (fun e=>HNXX.out (.inl e)))
       have HBc:=Lib.hid (HBc.out.trans (hk8.below (B:=w0.heap.size) (fun i hi e=>by have:=HDB.out i e;omega) HBc.out.size))
       have HSz:=Lib.hid (Nat.le_trans HSz.out hk8.size)
       have hgl:=Nat.lt_of_lt_of_le hgl hk8.size
       try (have HEc:=Lib.hid (Blk.keeps HEc.out hk8 (fun e=>by have:=HDL.out _ e;have:=HGE.out;omega)))
       clear ho8 hg8 hv8 hk8 HLc
       rename World=>Wc
       refine hK.out _ _ ?_ ?_
       ·exact moved HK.out (by decide)
       clear hK K
       try simp only [qPA]
       refine wpMonoJ_one' 8 (by kernel_rfl) rfl (by rfl) (fun K hK=>?_)
       refine wp_append_any _ (.tmp 64) (.tmp 66) _ (by rfl) B 36 i0 _ 2 24 Tryz.underlying25 HI0.out.1 HI0.out.2.1 HI0.out.2.2.1 HI0.out.2.2.2 rfl (by decide) (.slice nA Nk.length nc) _ _ (by rfl) HNc.out _ _ 1 _ _ (by rfl) (blk_reads HEc.out rfl) (fun u hu=>by simp at hu;rcases hu with rfl|rfl <;> rfl) (by unfold maxLen;omega) (by omega) HSz.out fun v9 Wn ho9 hg9 hv9=>?_
       have hk9:Keeps (fun i=>(Value.slice nA Nk.length nc).ownBlock=some i) Wc Wn:=.grown hg9 fun i hi=>.inl hi
       have HK:=Lib.hid (hk9.more (Y:=fun i=>(Value.slice lA (Nk.map fun e=>numW 2 ++ epW e).length lc).ownBlock=some i ∨ (Value.slice nA Nk.length nc).ownBlock=some i) fun i _ e=>Or.inr e)
       have HN9:=Lib.hid (show Wn.ownsRow B 36 2 v9 (Nk ++ [(⟨u,(m':Int)⟩:Ep)]).length ((Nk ++ [(⟨u,(m':Int)⟩:Ep)]).flatMap ep) from by
        rw [List.length_append,List.flatMap_append]
        exact ho9)
       have HD9:=Lib.hid (show ∀ i j,v8.ownBlock=some i→v9.ownBlock=some j→i ≠ j from fun i j hi hj=>by
        rcases hv9 with h|h
        ·exact HD8.out i j hi (h ▸ hj)
        ·rw [h] at hj;injection hj with hj;have:=(HL8.out.lt i hi).2;omega)
       have HL9:=Lib.hid (show OwnS Wn B v8 ((Nk ++ [(⟨u,(m':Int)⟩:Ep)]).map fun e=>numW 2 ++ epW e) from own_apart HL8.out hk9 (fun i hi e=>HD8.out i i hi e rfl))
       have HTc:=Lib.hid (HTc.out.keeps hk9 (fun e=>by have:=HDM.out _ e;omega) (fun e=>by have:=HDM.out _ e;omega))
       have HBc:=Lib.hid (HBc.out.trans (hk9.below (B:=w0.heap.size) (fun i hi e=>by have:=HDM.out i e;omega) HBc.out.size))
       have HSz:=Lib.hid (Nat.le_trans HSz.out hk9.size)
       clear ho9 hg9 hv9 hk9
       rename World=>Wc
       refine hK.out _ _ ?_ ?_
       ·exact moved HK.out (by decide)
       clear hK K
       try simp only [qPA]
       iterate 2
        first|refine qJ 9 (v:=?_) ?_ ?_|refine qJ 10 (v:=?_) ?_ ?_
        rotate_left
        ·(intro W hSw;(skip);go_simp <;> rfl)
        try simp only [qPA]
       refine wpMonoJ_done (by kernel_rfl) ?_ _
       clear HK HXc HEc HSc
       go_wp2_with fail
       go_roundw
       case rel=>exact ⟨k + 1,by go_num,by omega,rfl,by rw [HNX2.out];exact HL9.out,by rw [HNX2.out];exact HN9.out,HD9.out,by rw [HNX2.out];exact HTc.out,HBc.out,HSz.out⟩
       case measure=>simp [intOf];omega
     ·skip
      go_simp
      have hq:=below_new Wc (.cells #[.string u,.int .i64 m'] 36)
      have HEc:=Lib.hid (Blk.new Wc 36 #[.string u,.int .i64 m'])
      have HK:=Lib.hid hq
      try (have HL8:=Lib.hid (own_below HL8.out hq))
      try (have HLc:=Lib.hid (own_below HLc.out hq))
      have HNc:=Lib.hid (own_below HNc.out hq)
      have HTc:=Lib.hid (HTc.out.below hq)
      have HXc:=Lib.hid (HXc.out.below hq HXc.out.lt)
      have HBc:=Lib.hid (HBc.out.trans (Below.mono hq HBc.out.size))
      have HSz:=Lib.hid (Nat.le_trans HSz.out (Below.size hq))
      try (have HSc:=Lib.hid (HSc.out.below hq HSc.out.lt))
      try (have HEc:=Lib.hid (HEc.out.below hq HEc.out.lt))
      obtain ⟨ge,hge⟩:∃ g,Wc.heap.size=g:=⟨_,rfl⟩
      have HGE:=Lib.hid (show gx < ge from by rw [← hge];exact hgl)
      have hgl:=Nat.lt_of_lt_of_le hgl hq.size
      rw [hge] at HEc ⊢
      clear hq hge
      generalize Wc.alloc (.cells #[.string u,.int .i64 m'] 36)=Wn at *
      rename World=>Wc
      refine hK.out _ _ ?_ ?_
      ·exact .of_below HK.out
      clear hK K
      try simp only [qPA]
      refine wpMonoJ_one' 2 (by kernel_rfl) rfl (by rfl) (fun K hK=>?_)
      go_simp
      refine (epoch_record u m' Wc (by omega) (by omega)).mono ?_
      rintro e Wn ⟨rfl,hq⟩
      have HK:=Lib.hid hq
      try (have HLc:=Lib.hid (own_below HLc.out hq))
      have HNc:=Lib.hid (own_below HNc.out hq)
      have HTc:=Lib.hid (HTc.out.below hq)
      have HXc:=Lib.hid (HXc.out.below hq HXc.out.lt)
      have HBc:=Lib.hid (HBc.out.trans (Below.mono hq HBc.out.size))
      have HSz:=Lib.hid (Nat.le_trans HSz.out (Below.size hq))
      try (have HSc:=Lib.hid (HSc.out.below hq HSc.out.lt))
      try (have HEc:=Lib.hid (HEc.out.below hq HEc.out.lt))
      have hgl:=Nat.lt_of_lt_of_le hgl hq.size
      clear hq
      rename World=>Wc
      refine hK.out _ _ ?_ ?_
      ·exact .of_below HK.out
      clear hK K
      try simp only [qPA]
      refine wpMonoJ_one' 3 (by kernel_rfl) rfl (by rfl) (fun K hK=>?_)
      go_simp
      have hq:=below_new Wc (.cells #[.string (str (numW 2 ++ epW ⟨u,(m':Int)⟩))] 9)
      have HSc:=Lib.hid (Blk.new Wc 9 #[.string (str (numW 2 ++ epW ⟨u,(m':Int)⟩))])
      have HK:=Lib.hid hq
      try (have HLc:=Lib.hid (own_below HLc.out hq))
      have HNc:=Lib.hid (own_below HNc.out hq)
      have HTc:=Lib.hid (HTc.out.below hq)
      have HXc:=Lib.hid (HXc.out.below hq HXc.out.lt)
      have HBc:=Lib.hid (HBc.out.trans (Below.mono hq HBc.out.size))
      have HSz:=Lib.hid (Nat.le_trans HSz.out (Below.size hq))
      try (have HSc:=Lib.hid (HSc.out.below hq HSc.out.lt))
      try (have HEc:=Lib.hid (HEc.out.below hq HEc.out.lt))
      obtain ⟨gs,hgs⟩:∃ g,Wc.heap.size=g:=⟨_,rfl⟩
      have hgl:=Nat.lt_of_lt_of_le hgl hq.size
      rw [hgs] at HSc ⊢
      clear hq hgs
      generalize Wc.alloc (.cells #[.string (str (numW 2 ++ epW ⟨u,(m':Int)⟩))] 9)=Wn at *
      rename World=>Wc
      refine hK.out _ _ ?_ ?_
      ·exact .of_below HK.out
      clear hK K
      try simp only [qPA]
      refine wpMonoJ_one' 4 (by kernel_rfl) rfl (by rfl) (fun K hK=>?_)
      refine wp_append_any _ (.tmp 59) (.tmp 62) _ (by rfl) B 9 i1 _ 1 16 Tryz.underlying109 HI1.out.1 HI1.out.2.1 HI1.out.2.2.1 HI1.out.2.2.2 rfl (by decide) (.slice lA (Nk.map fun e=>numW 2 ++ epW e).length lc) _ _ (by first|rfl|(rw [List.length_map];rfl)) HLc.out _ _ 1 _ _ (by rfl) (blk_reads HSc.out rfl) (fun u hu=>by simp at hu;subst hu;rfl) (by rw [List.length_map];unfold maxLen;omega) (by rw [List.length_map];omega) HSz.out fun v8 Wn ho8 hg8 hv8=>?_
      have hk8:Keeps (fun i=>(Value.slice lA (Nk.map fun e=>numW 2 ++ epW e).length lc).ownBlock=some i) Wc Wn:=.grown hg8 fun i hi=>.inl hi
      have HK:=Lib.hid (hk8.more (Y:=fun i=>(Value.slice lA (Nk.map fun e=>numW 2 ++ epW e).length lc).ownBlock=some i ∨ (Value.slice nA Nk.length nc).ownBlock=some i) fun i _ e=>Or.inl e)
      have HL8:=Lib.hid (show OwnS Wn B v8 ((Nk ++ [(⟨u,(m':Int)⟩:Ep)]).map fun e=>numW 2 ++ epW e) from by
       rw [List.map_append]
       unfold OwnS
       rw [List.length_append,show scells (Nk.map (fun e=>numW 2 ++ epW e) ++ [(⟨u,(m':Int)⟩:Ep)].map fun e=>numW 2 ++ epW e)=scells (Nk.map fun e=>numW 2 ++ epW e) ++ [.string (str (numW 2 ++ epW ⟨u,(m':Int)⟩))] by simp [scells]]
       exact ho8)
      have HD8:=Lib.hid (show ∀ i j,v8.ownBlock=some i→(Value.slice nA Nk.length nc).ownBlock=some j→i ≠ j from fun i j hi hj=>by
       rcases hv8 with h|h
       ·exact HD.out i j (h ▸ hi) hj
       ·rw [h] at hi;injection hi with hi;have:=HDN.out j hj;omega)
      have HNc:=Lib.hid (own_apart HNc.out hk8 (fun i hi e=>HD.out i i e hi rfl))
      have HTc:=Lib.hid (HTc.out.keeps hk8 (fun e=>by have:=HDB.out _ e;omega) (fun e=>by have:=HDB.out _ e;omega))
      have HXc:=Lib.hid (Blk.keeps HXc.out hk8 (fun e=>HNXX.out (.inl e)))
      have HBc:=Lib.hid (HBc.out.trans (hk8.below (B:=w0.heap.size) (fun i hi e=>by have:=HDB.out i e;omega) HBc.out.size))
      have HSz:=Lib.hid (Nat.le_trans HSz.out hk8.size)
      have hgl:=Nat.lt_of_lt_of_le hgl hk8.size
      try (have HEc:=Lib.hid (Blk.keeps HEc.out hk8 (fun e=>by have:=HDL.out _ e;have:=HGE.out;omega)))
      clear ho8 hg8 hv8 hk8 HLc
      rename World=>Wc
      refine hK.out _ _ ?_ ?_
      ·exact moved HK.out (by decide)
      clear hK K
      try simp only [qPA]
      refine wpMonoJ_one' 8 (by kernel_rfl) rfl (by rfl) (fun K hK=>?_)
      refine wp_append_any _ (.tmp 64) (.tmp 66) _ (by rfl) B 36 i0 _ 2 24 Tryz.underlying25 HI0.out.1 HI0.out.2.1 HI0.out.2.2.1 HI0.out.2.2.2 rfl (by decide) (.slice nA Nk.length nc) _ _ (by rfl) HNc.out _ _ 1 _ _ (by rfl) (blk_reads HEc.out rfl) (fun u hu=>by simp at hu;rcases hu with rfl|rfl <;> rfl) (by unfold maxLen;omega) (by omega) HSz.out fun v9 Wn ho9 hg9 hv9=>?_
      have hk9:Keeps (fun i=>(Value.slice nA Nk.length nc).ownBlock=some i) Wc Wn:=.grown hg9 fun i hi=>.inl hi
      have HK:=Lib.hid (hk9.more (Y:=fun i=>(Value.slice lA (Nk.map fun e=>numW 2 ++ epW e).length lc).ownBlock=some i ∨ (Value.slice nA Nk.length nc).ownBlock=some i) fun i _ e=>Or.inr e)
      have HN9:=Lib.hid (show Wn.ownsRow B 36 2 v9 (Nk ++ [(⟨u,(m':Int)⟩:Ep)]).length ((Nk ++ [(⟨u,(m':Int)⟩:Ep)]).flatMap ep) from by
       rw [List.length_append,List.flatMap_append]
       exact ho9)
      have HD9:=Lib.hid (show ∀ i j,v8.ownBlock=some i→v9.ownBlock=some j→i ≠ j from fun i j hi hj=>by
       rcases hv9 with h|h
       ·exact HD8.out i j hi (h ▸ hj)
       ·rw [h] at hj;injection hj with hj;have:=(HL8.out.lt i hi).2;omega)
      have HL9:=Lib.hid (show OwnS Wn B v8 ((Nk ++ [(⟨u,(m':Int)⟩:Ep)]).map fun e=>numW 2 ++ epW e) from own_apart HL8.out hk9 (fun i hi e=>HD8.out i i hi e rfl))
      have HTc:=Lib.hid (HTc.out.keeps hk9 (fun e=>by have:=HDM.out _ e;omega) (fun e=>by have:=HDM.out _ e;omega))
      have HBc:=Lib.hid (HBc.out.trans (hk9.below (B:=w0.heap.size) (fun i hi e=>by have:=HDM.out i e;omega) HBc.out.size))
      have HSz:=Lib.hid (Nat.le_trans HSz.out hk9.size)
      clear ho9 hg9 hv9 hk9
      rename World=>Wc
      refine hK.out _ _ ?_ ?_
      ·exact moved HK.out (by decide)
      clear hK K
      try simp only [qPA]
      iterate 2
       first|refine qJ 9 (v:=?_) ?_ ?_|refine qJ 10 (v:=?_) ?_ ?_
       rotate_left
       ·(intro W hSw;(skip);go_simp <;> rfl)
       try simp only [qPA]
      refine wpMonoJ_done (by kernel_rfl) ?_ _
      clear HK HXc HEc HSc
      go_wp2_with fail
      go_roundw
      case rel=>exact ⟨k + 1,by go_num,by omega,rfl,by rw [HNX2.out];exact HL9.out,by rw [HNX2.out];exact HN9.out,HD9.out,by rw [HNX2.out];exact HTc.out,HBc.out,HSz.out⟩
      case measure=>simp [intOf];omega
   ·have hne:(homeI u x.n != (f:Int))=true:=by simpa using hh
    have hup:upE x.n f Tk ⟨u,m'⟩=false:=by unfold upE;rw [decide_eq_false hh];rfl
    have HNX2:=Lib.hid (show newsE x.n f x.ep (L.take (k + 1))=(Tk,Nk) from by rw [HNX.out];unfold stepE;dsimp only;rw [hup];rfl)
    clear hup HNX
    generalize homeI u x.n=hm at *
    refine wp_region_mono nobody (by kernel_rfl) ?_
    iterate 8
     first|refine qT 0 (v:=?_) ?_ ?_|refine qT 1 (v:=?_) ?_ ?_|refine qT 2 (v:=?_) ?_ ?_|refine qT 3 (v:=?_) ?_ ?_|refine qT 4 (v:=?_) ?_ ?_|refine qT 5 (v:=?_) ?_ ?_|refine qT 6 (v:=?_) ?_ ?_|refine qT 8 (v:=?_) ?_ ?_
     rotate_left
     ·(intro W hSw;(have hcW:=hSw.cells;try simp only [qSd] at hcW);go_simp <;> rfl)
     try simp only [qPA]
    refine wpMono_one' 7 (by kernel_rfl) rfl (by rfl) (fun K hK=>?_)
    go_simp
    refine hom.mono ?_
    rintro e w6 ⟨rfl,hb6⟩
    have HB6:=Lib.hid hb6
    clear hb6
    refine hK.out _ _ ?_ ?_
    ·exact .of_below HB6.out
    clear hK K
    try simp only [qPA]
    iterate 2
     first|refine qT 9 (v:=?_) ?_ ?_|refine qT 10 (v:=?_) ?_ ?_
     rotate_left
     ·(intro W hSw;(have hcW:=hSw.cells;try simp only [qSd] at hcW);go_simp <;> rfl)
     try simp only [qPA]
    refine wpMono_skip' 11 rfl (by kernel_rfl) (by kernel_rfl) (by kernel_rfl) (fun _ _ _ h=>h) (by rfl) ?_
    try simp only [qPA]
    refine wpMono_skip' 12 rfl (by kernel_rfl) (by kernel_rfl) (by kernel_rfl) (fun _ _ _ h=>h) (by rfl) ?_
    try simp only [qPA]
    refine qT 13 (v:=?_) ?_ ?_;rotate_left
    ·(intro W hSw;(have hcW:=hSw.cells;try simp only [qSd] at hcW);go_simp <;> rfl)
    try simp only [qPA]
    refine wpMono_done (by kernel_rfl) ?_ _
    have hb56:Below w5.heap.size w5 w6:=below_ofDrew HB6.out
    try (have HLc:=Lib.hid (own_below HLc.out hb56))
    have HNc:=Lib.hid (own_below HNc.out hb56)
    have HTc:=Lib.hid (HTc.out.below hb56)
    have HXc:=Lib.hid (HXc.out.below hb56 HXc.out.lt)
    have HBc:=Lib.hid (HBc.out.trans (Below.mono hb56 HBc.out.size))
    have HSz:=Lib.hid (Nat.le_trans HSz.out (Below.size hb56))
    try (have HSc:=Lib.hid (HSc.out.below hb56 HSc.out.lt))
    try (have HEc:=Lib.hid (HEc.out.below hb56 HEc.out.lt))
    clear hb56 hom HB6 y0 yl c1 pl
    go_wp2_with fail
    go_roundw
    case rel=>exact ⟨k + 1,by go_num,by omega,rfl,by rw [HNX2.out];exact HLc.out,by rw [HNX2.out];exact HNc.out,HD.out,by rw [HNX2.out];exact HTc.out,HBc.out,HSz.out⟩
    case measure=>simp [intOf];omega
  ·obtain rfl:k=len:=by omega
   have dk:decide ((k:Int) < (k:Int))=false:=by simp
   have htk:L.take k=L:=by rw [← HLEN.out];exact List.take_length
   rw [htk] at hl hnw ht
   obtain ⟨N,hN⟩:∃ N,(newsE x.n f x.ep L).2=N:=⟨_,rfl⟩
   rw [hN] at hl hnw
   have hNl:N.length≤64:=by
    have:=newsE_le (n:=x.n) (f:=f) (T:=x.ep) (L:=L) L.length
    rw [List.take_length,hN] at this
    omega
   have HN:=Lib.hid hN
   have HLc:=Lib.hid hl
   have HNc:=Lib.hid hnw
   have HD:=Lib.hid hd
   have HBc:=Lib.hid hb
   have HSz:=Lib.hid hsz
   have HRr:=Lib.hid (HR0.out.below hb)
   have HMr:=Lib.hid (HM0.out.below hb HM0.out.lt)
   have m6:wr.cell? ⟨w.heap.size,6,none⟩=some (.int .i64 key):=HMr.out.cell 6
   have m6l:=HMr.out.lt
   have c9:wr.cell? ⟨p.r,9,none⟩=some (.pointer (some ⟨p.gr,0,none⟩)):=HRr.out.reg.c9
   have prl:=HRr.out.reg.lt
   clear hl hnw hd ht hb hsz htk hN HLEN HE
   go_wp2_with fail
   refine wp_region_mono nobody (by kernel_rfl) ?_
   have HLc:=Lib.hid (own_below HLc.out ((Below.refl wr.heap.size wr).drew))
   have HNc:=Lib.hid (own_below HNc.out ((Below.refl wr.heap.size wr).drew))
   have HBc:=Lib.hid (HBc.out.drew)
   have HSz:=Lib.hid (show B≤wr.drew.heap.size from HSz.out)
   have HRr:=Lib.hid (HRr.out.drew)
   have HMr:=Lib.hid (Blk.drew HMr.out)
   have m6:wr.drew.cell? ⟨w.heap.size,6,none⟩=some (.int .i64 key):=m6
   have m6l:w.heap.size < wr.drew.heap.size:=m6l
   have c9:wr.drew.cell? ⟨p.r,9,none⟩=some (.pointer (some ⟨p.gr,0,none⟩)):=c9
   have prl:p.r < wr.drew.heap.size:=prl
   generalize wr.drew=wd at *
   iterate 6
    first|refine qT 0 (v:=?_) ?_ ?_|refine qT 1 (v:=?_) ?_ ?_|refine qT 2 (v:=?_) ?_ ?_|refine qT 3 (v:=?_) ?_ ?_|refine qT 4 (v:=?_) ?_ ?_|refine qT 5 (v:=?_) ?_ ?_
    rotate_left
    ·(intro W hSw;(have hcW:=hSw.cells;try simp only [qSd] at hcW);go_simp <;> rfl)
    try simp only [qPA]
   refine wpMono_one' 6 (by kernel_rfl) rfl (by rfl) (fun K hK=>?_)
   go_simp
   refine (ringw.current_any p.gr x.m x.key _ HRr.out.ring).mono ?_
   rintro e w3 ⟨rfl,rfl⟩
   refine hK.out _ _ ?_ ?_
   ·exact .refl _ _
   clear hK K
   try simp only [qPA]
   refine qT 7 (v:=?_) ?_ ?_;rotate_left
   ·(intro W hSw;(have hcW:=hSw.cells;try simp only [qSd] at hcW);go_simp <;> rfl)
   try simp only [qPA]
   refine wpMono_done (by kernel_rfl) ?_ _
   go_upto_if 79 with fail
   go_cut [9] (fun lv wx=>∃ rs,rs=beatR N x.key key∧OwnS wx B lv rs∧wx.ownsRow B 36 2 u10 N.length (N.flatMap ep)∧(∀ i j,lv.ownBlock=some i→u10.ownBlock=some j→i ≠ j)∧Below w0.heap.size w0 wx∧B≤wx.heap.size)
   case first =>
    by_cases hkk:x.key < key
    ·rw [show decide (x.key < key)=true from decide_eq_true hkk]
     have HRS:=Lib.hid (show beatR N x.key key=(N.map fun e=>numW 2 ++ epW e) ++ [numW 3 ++ numW key] from by unfold beatR;rw [if_pos hkk])
     clear hkk
     obtain ⟨lA,lc,rfl⟩:=OwnS.form HLc.out
     go_wp2_with fail
     refine (num_record 3 key _ (by omega) (by omega)).mono ?_
     rintro e w4 ⟨rfl,hb4⟩
     have HL4:=Lib.hid (own_below HLc.out hb4)
     have HN4:=Lib.hid (own_below HNc.out hb4)
     have HB4:=Lib.hid (HBc.out.trans (hb4.mono HBc.out.size))
     have HS4:=Lib.hid (Nat.le_trans HSz.out hb4.size)
     have hs4:=HS4.out
     have hNm:(N.map fun e=>numW 2 ++ epW e).length≤64:=by rw [List.length_map];exact hNl
     obtain ⟨NM,hNM⟩:∃ NM,(N.map fun e=>numW 2 ++ epW e)=NM:=⟨_,rfl⟩
     rw [hNM] at HL4 HRS hNm
     clear hb4
     go_wp2_with (at_builtin;refine wpList_append_newAt rfl (.tmp 80) (.tmp 84) _ rfl B 9 i1 _ 1 16 Tryz.underlying109 HI1.out.1 HI1.out.2.1 HI1.out.2.2.1 HI1.out.2.2.2 rfl (by decide) (.slice lA NM.length lc) NM.length _ (by rw [← hNM];first|rfl|(rw [List.length_map];rfl)) HL4.out 1 1 w4.heap.size rfl [.string (str (numW 3 ++ numW key))] rfl rfl (by simp [Value.oneCell']) (by unfold maxLen;omega) (by omega) hs4 ?_;intro v11 w11 hown11 hbw11 hgr11 hwh11;have Hown11:=Lib.hid hown11;have Hgr11:=Lib.hid hgr11;have Hwh11:=Lib.hid hwh11;clear hown11 hbw11 hgr11 hwh11)
     go_meet
     case rel =>
      have hk:Keeps (fun i=>(Value.slice lA NM.length lc).ownBlock=some i) w4 w11:=.grown Hgr11.out fun i hi=>.inl hi
      refine ⟨_,rfl,?_,own_apart HN4.out hk (fun i hi e=>HD.out i i (by rw [hNM];exact e) hi rfl),fun i j hi hj=>?_,HB4.out.trans (hk.below (B:=w0.heap.size) (fun i hi e=>by have:=(HL4.out.lt i e).1;omega) HB4.out.size),Nat.le_trans HS4.out hk.size⟩
      ·rw [HRS.out]
       unfold OwnS
       rw [List.length_append,show scells (NM ++ [numW 3 ++ numW key])=scells NM ++ [.string (str (numW 3 ++ numW key))] by simp [scells]]
       exact Hown11.out
      ·rcases Hwh11.out with h|⟨g,h,hg⟩
       ·exact HD.out i j (by rw [hNM,← h];exact hi) hj
       ·rw [h] at hi;injection hi with hi;have:=(HN4.out.lt j hj).2;omega
    ·rw [show decide (x.key < key)=false from decide_eq_false hkk]
     have HRS:=Lib.hid (show beatR N x.key key=(N.map fun e=>numW 2 ++ epW e) from by unfold beatR;rw [if_neg hkk,List.append_nil])
     clear hkk
     go_wp2_with fail
     go_meet
     case rel=>exact ⟨_,rfl,by rw [HRS.out];exact HLc.out,HNc.out,HD.out,HBc.out,HSz.out⟩
   case rest =>
    obtain ⟨rs,hrs,hl,hnw,hd,hb,hsz⟩:=hcut
    obtain ⟨lA,lc,rfl⟩:=OwnS.form hl
    obtain ⟨nA,nc,rfl⟩:=ownsRow_slice hnw
    have hR:=HR0.out.below hb
    have hNr:∀ e ∈ N,right e.u e.n=true:=fun e he=>by
     obtain ⟨j,hj⟩:=List.getElem?_of_mem he
     rw [← HN.out] at hj
     exact HG.out.2.2 e (putE_new HT.out HF.out hj).2.2.2
    have hsm:=beatR_small (k:=x.key) (key:=key) hNr (by omega)
    have hrl:=beatR_len (N:=N) (k:=x.key) (key:=key)
    rw [← hrs] at hsm hrl
    have HP:=Lib.hid (put_i (w:=wc) rs.length lc lA rs lp hR g1 g2 rfl (by omega) (fun s hs=>by have:=hsm s hs;omega) (Reads.of_own hl) HW.out)
    have HNx:=Lib.hid hnw
    have HBx:=Lib.hid (HB0.out.trans (hb.mono HB0.out.size))
    have HSx:=Lib.hid hsz
    have HRS:=Lib.hid hrs
    have HMx:=Lib.hid (HM0.out.below hb HM0.out.lt)
    have hwx:=HBx.out.size
    have hmo:own w.heap.size=0:=Classical.byContradiction fun h=>by have:=HR.out.small _ h;omega
    have hno:∀ i,(Value.slice nA N.length nc).ownBlock=some i→own i=0∧i < wc.heap.size:=fun i hi=>⟨Classical.byContradiction fun h=>by have:=HR.out.small _ h;have:=(hnw.lt i hi).1;have:=HB0.out.size;omega,(hnw.lt i hi).2⟩
    have HMO:=Lib.hid hmo
    have HNO:=Lib.hid hno
    clear hrs hl hnw hd hb hsz hR hsm hNr HRr HMr HLc HNc HD HBc HSz m6 m6l c9 prl hmo hno
    go_wp2_with fail
    refine HP.out.mono ?_
    rintro e w5 ⟨v,o5,rfl,hg5,hk5,hc5⟩
    have hG5:Grown own o5 w:=hg5.later hwx
    have hK5:Keeps (tags own [2,4,12,13]) w w5:=Keeps.tags ((Keeps.of_below HBx.out).more (Y:=tags own [4]) (fun _ _ h=>h)) (Grown.refl own w) hk5 (by decide) (by decide)
    have HG5:=Lib.hid hG5
    have HK5:=Lib.hid hK5
    have HM5:=Lib.hid (Blk.keeps HMx.out hk5 (tags_own HMO.out))
    have HN5:=Lib.hid (own_apart HNx.out hk5 (fun i hi=>tags_own (HNO.out i hi).1))
    have HZ5:=Lib.hid (show ∀ i,(Value.slice nA N.length nc).ownBlock=some i→o5 i=0 from fun i hi=>hg5.zero (HNO.out i hi).1 (HNO.out i hi).2)
    have HZM:=Lib.hid (show o5 w.heap.size=0 from hg5.zero HMO.out (HMx.out.lt))
    clear hg5 hk5 hG5 hK5
    rcases hc5 with ⟨rfl,hr5,hf5⟩|⟨kk,c,hc,hk1,he,hr5⟩
    rotate_left
    ·have HQ:=Lib.hid (show BeatenR own p x lp f L key tm now w (.returned v) w5 from ⟨v,o5,rfl,HG5.out,HK5.out,.inr ⟨kk,c,by rw [HN.out,← HRS.out];exact hc,hk1,he,hr5⟩⟩)
     obtain ⟨g0,v',rfl,_⟩:=he
     clear hr5 hc
     go_wp2_with fail
     go_ret
     exact HQ.out
    have HR5:=Lib.hid hr5
    clear hr5 hf5 HP HMx HNx HBx
    go_wp2_with fail
    go_loopw [94,18] (fun i _ wr=>∃ j:Nat,i=.int .i64 j∧j≤N.length∧RegI wr o5 p { putX x lp rs with ep:=putE x.ep (N.take j) }∧Keeps (tags own [2,4,12,13]) w wr ∧
     wr.ownsRow B 36 2 (.slice nA N.length nc) N.length (N.flatMap ep)∧Blk wr w.heap.size 27 #[.int .i64 4,.slice none 0 0,.slice none 0 0,.int .i64 0,.int .i64 tm,.slice A k cap,.int .i64 key]) (fun i _ _=>N.length - (intOf i).toNat)
    case atStart=>exact ⟨0,rfl,by omega,HR5.out,HK5.out,HN5.out,HM5.out⟩
    case round =>
     clear HR5 HK5 HN5 HM5
     obtain ⟨j,rfl,hj,hr,hkw,hnw,hm⟩:=hrel
     by_cases hjn:j < N.length
     ·have dj:decide ((j:Int) < (N.length:Int))=true:=decide_eq_true (by omega)
      obtain ⟨y,hy⟩:∃ y,N[j]?=some y:=⟨_,List.getElem?_eq_getElem hjn⟩
      obtain ⟨hg1,hg2,hg3,hg4⟩:=putE_new (x:=y) (j:=j) HT.out HF.out (by rw [HN.out];exact hy)
      rw [HN.out] at hg1 hg2 hg3
      have hps:=putE_step (T:=x.ep) hy
      have hrt:=of_decide_eq_true (HG.out.2.2 _ hg4)
      have hEr:Eps wr wr.heap.size nA N.length nc N:=by
       obtain ⟨A',c',he,h⟩:=Eps.of_own hnw
       injection he with h1 _ h2
       subst h1 h2
       exact h
      obtain ⟨b,off,hnA,hbb⟩:=hEr.at_some (by omega)
      subst hnA
      obtain ⟨hx0,hx1⟩:=hEr.cell hjn hy
      obtain ⟨u,m⟩:=y
      dsimp only at hx0 hx1 hrt hg2 hg3 hps
      obtain ⟨m',rfl⟩:∃ k:Nat,m=(k:Int):=⟨m.toNat,by omega⟩
      have HG1:=Lib.hid hg1
      have HG2:=Lib.hid hg2
      have HG3:=Lib.hid hg3
      have HPS:=Lib.hid hps
      have HRr:=Lib.hid hr
      have HKw:=Lib.hid hkw
      have HNw:=Lib.hid hnw
      have HMw:=Lib.hid hm
      clear hg1 hg2 hg3 hg4 hps hr hkw hnw hm hEr hy
      go_wp2_with fail
      have hb5:=below_new wr (.cells #[.string u,.int .i64 m'] 36)
      have HXc:=Lib.hid (Blk.new wr 36 #[.string u,.int .i64 m'])
      have HR7:=Lib.hid (HRr.out.below hb5)
      have HK7:=Lib.hid (show Keeps (tags own [2,4,12,13]) w _ from HKw.out.trans (Keeps.of_below hb5))
      have HN7:=Lib.hid (own_below HNw.out hb5)
      have HM7:=Lib.hid (HMw.out.below hb5 HMw.out.lt)
      obtain ⟨gx,hgx⟩:∃ g,wr.heap.size=g:=⟨_,rfl⟩
      have HGX:=Lib.hid (show o5 gx=0 from Classical.byContradiction fun h=>by have:=HRr.out.small _ h;omega)
      rw [hgx] at HXc ⊢
      clear hb5 HRr HKw HNw HMw hgx
      generalize wr.alloc (.cells #[.string u,.int .i64 m'] 36)=w7 at *
      have hne1:¬ gx=p.bt:=fun e=>by have h1:=HGX.out;rw [e,HR7.out.o12] at h1;cases h1
      have hne2:¬ p.r=p.bt:=fun e=>by have h1:=HR7.out.o1;rw [e,HR7.out.o12] at h1;cases h1
      refine wp_region_monoJ (fun i=>i=p.bt) [8] (by kernel_rfl) ?_
      iterate 8
       first|refine qJ 0 (v:=?_) ?_ ?_|refine qJ 1 (v:=?_) ?_ ?_|refine qJ 2 (v:=?_) ?_ ?_|refine qJ 3 (v:=?_) ?_ ?_|refine qJ 4 (v:=?_) ?_ ?_|refine qJ 5 (v:=?_) ?_ ?_|refine qJ 6 (v:=?_) ?_ ?_|refine qJ 7 (v:=?_) ?_ ?_
       rotate_left
       ·(intro W hSw;(first|(have hxW:=Blk.keeps (Blk.drew HXc.out) hSw hne1;have hrW:=Blk.keeps (Blk.drew HR7.out.reg) hSw hne2;have y0:W.cell? ⟨gx,0,none⟩=some (.string u):=hxW.cell 0;have y1:W.cell? ⟨gx,1,none⟩=some (.int .i64 m'):=hxW.cell 1;have y8:W.cell? ⟨p.r,8,none⟩=some (.pointer (some ⟨p.gt,0,none⟩)):=RegB.c8 hrW;have exl:=hxW.lt;have rxl:=hrW.lt)|skip);go_simp <;> rfl)
       try simp only [qPA]
      refine wpMonoJ_one' 8 (by kernel_rfl) rfl (by rfl) (fun K hK=>?_)
      go_simp
      refine (learn_new p.gt p.bt (putE x.ep (N.take j)) u m' w7.drew HR7.out.drew.tab HG1.out (by unfold maxLen;omega) HG2.out (by have:=HG3.out;omega)).mono ?_
      rintro e w8 ⟨rfl,ht8,hk8⟩
      have HT8:=Lib.hid ht8
      have HK8:=Lib.hid (hk8.more (Y:=fun i=>i=p.bt) (fun i hi e=>e.elim (fun h=>absurd hi (Nat.not_lt.2 h)) id))
      clear ht8 hk8
      refine hK.out _ _ ?_ ?_
      ·exact moved HK8.out (by decide)
      clear hK K
      try simp only [qPA]
      refine wpMonoJ_done (by kernel_rfl) ?_ _
      have hset:=HR7.out.drew.setTab HT8.out HK8.out (fun i hi=>.inl (by rw [show i=p.bt from hi];exact HR7.out.o12))
      rw [← HPS.out] at hset
      have HR8:=Lib.hid hset
      have hk78:Keeps (fun i=>i=p.bt) w7 w8:=Keeps.drew.trans HK8.out
      have HK9:=Lib.hid (show Keeps (tags own [2,4,12,13]) w w8 from Keeps.tags (HK7.out) HG5.out (hk78.more (Y:=tags o5 [12]) (fun i _ e=>by rw [show i=p.bt from e];exact ⟨by rw [HR7.out.o12];decide,by rw [HR7.out.o12];decide⟩)) (fun i hi=>hi) (by decide))
      have HN8:=Lib.hid (own_apart HN7.out hk78 (fun i hi e=>by have h1:=HZ5.out i hi;rw [show i=p.bt from e,HR7.out.o12] at h1;cases h1))
      have HM8:=Lib.hid (Blk.keeps HM7.out hk78 (fun e=>by have h1:=HZM.out;rw [show w.heap.size=p.bt from e,HR7.out.o12] at h1;cases h1))
      clear hset hk78 HR7 HK7 HN7 HM7 HK8 HT8 HXc
      go_wp2_with fail
      go_roundw
      case rel=>exact ⟨j + 1,by go_num,by omega,HR8.out,HK9.out,HN8.out,HM8.out⟩
      case measure=>simp [intOf];omega
     ·obtain rfl:j=N.length:=by omega
      have dj:decide ((N.length:Int) < (N.length:Int))=false:=by simp
      have htk:N.take N.length=N:=List.take_length
      have hpa:=putE_all (n:=x.n) (f:=f) (T:=x.ep) (L:=L)
      rw [HN.out] at hpa
      rw [htk,hpa] at hr
      obtain ⟨TT,hTT⟩:∃ TT,(newsE x.n f x.ep L).1=TT:=⟨_,rfl⟩
      rw [hTT] at hr
      have HTT:=Lib.hid hTT
      have HRr:=Lib.hid hr
      have HKw:=Lib.hid hkw
      have HMw:=Lib.hid hm
      have m6:wr.cell? ⟨w.heap.size,6,none⟩=some (.int .i64 key):=hm.cell 6
      have m6l:=hm.lt
      have hng:¬ p.r=p.gr:=fun e=>by have h1:=hr.o1;rw [e,hr.o13] at h1;cases h1
      have hmg:¬ w.heap.size=p.gr:=fun e=>by have h1:=HZM.out;rw [e,hr.o13] at h1;cases h1
      clear hr hkw hnw hm hpa htk hTT
      go_wp2_with fail
      refine wp_region_monoJ (fun i=>i=p.gr) [6] (by kernel_rfl) ?_
      iterate 6
       first|refine qJ 0 (v:=?_) ?_ ?_|refine qJ 1 (v:=?_) ?_ ?_|refine qJ 2 (v:=?_) ?_ ?_|refine qJ 3 (v:=?_) ?_ ?_|refine qJ 4 (v:=?_) ?_ ?_|refine qJ 5 (v:=?_) ?_ ?_
       rotate_left
       ·(intro W hSw;(first|(have hxW:=Blk.keeps (Blk.drew HMw.out) hSw hmg;have hrW:=Blk.keeps (Blk.drew HRr.out.reg) hSw hng;have y6:W.cell? ⟨w.heap.size,6,none⟩=some (.int .i64 key):=hxW.cell 6;have y9:W.cell? ⟨p.r,9,none⟩=some (.pointer (some ⟨p.gr,0,none⟩)):=RegB.c9 hrW;have exl:=hxW.lt;have rxl:=hrW.lt)|skip);go_simp <;> rfl)
       try simp only [qPA]
      refine wpMonoJ_one' 6 (by kernel_rfl) rfl (by rfl) (fun K hK=>?_)
      go_simp
      refine (ringw.raise_any p.gr x.m x.key key (by omega) wr.drew HRr.out.drew.ring).mono ?_
      rintro e w8 ⟨⟨bb,rfl⟩,ht8,hk8⟩
      have HT8:=Lib.hid ht8
      have HK8:=Lib.hid hk8
      clear ht8 hk8
      refine hK.out _ _ ?_ ?_
      ·exact moved HK8.out (by decide)
      clear hK K
      try simp only [qPA]
      refine wpMonoJ_done (by kernel_rfl) ?_ _
      have hset:=HRr.out.drew.setRing HT8.out HK8.out (fun i hi=>by rw [show i=p.gr from hi];exact HRr.out.o13)
      have hk78:Keeps (fun i=>i=p.gr) wr w8:=Keeps.drew.trans HK8.out
      have HR8:=Lib.hid hset
      have HK9:=Lib.hid (show Keeps (tags own [2,4,12,13]) w w8 from Keeps.tags HKw.out HG5.out (hk78.more (Y:=tags o5 [13]) (fun i _ e=>by rw [show i=p.gr from e];exact ⟨by rw [HRr.out.o13];decide,by rw [HRr.out.o13];decide⟩)) (fun i hi=>hi) (by decide))
      have HM8:=Lib.hid (Blk.keeps HMw.out hk78 hmg)
      have m4:w8.cell? ⟨w.heap.size,4,none⟩=some (.int .i64 tm):=HM8.out.cell 4
      have m4l:=HM8.out.lt
      have hngl:¬ p.r=p.gl:=fun e=>by have h1:=HR8.out.o1;rw [e,HR8.out.o2] at h1;cases h1
      have hmgl:¬ w.heap.size=p.gl:=fun e=>by have h1:=HZM.out;rw [e,HR8.out.o2] at h1;cases h1
      clear hset hk78 hng hmg m6 m6l HRr HKw HMw HT8 HK8
      go_wp2_with fail
      refine wp_region_monoJ (fun i=>i=p.gl) [8] (by kernel_rfl) ?_
      iterate 8
       first|refine qJ 0 (v:=?_) ?_ ?_|refine qJ 1 (v:=?_) ?_ ?_|refine qJ 2 (v:=?_) ?_ ?_|refine qJ 3 (v:=?_) ?_ ?_|refine qJ 4 (v:=?_) ?_ ?_|refine qJ 5 (v:=?_) ?_ ?_|refine qJ 6 (v:=?_) ?_ ?_|refine qJ 7 (v:=?_) ?_ ?_
       rotate_left
       ·(intro W hSw;(first|(have hxW:=Blk.keeps (Blk.drew HM8.out) hSw hmgl;have hrW:=Blk.keeps (Blk.drew HR8.out.reg) hSw hngl;have y4:W.cell? ⟨w.heap.size,4,none⟩=some (.int .i64 tm):=hxW.cell 4;have y10:W.cell? ⟨p.r,10,none⟩=some (.pointer (some ⟨p.gl,0,none⟩)):=RegB.c10 hrW;have exl:=hxW.lt;have rxl:=hrW.lt)|skip);go_simp <;> rfl)
       try simp only [qPA]
      refine wpMonoJ_one' 8 (by kernel_rfl) rfl (by rfl) (fun K hK=>?_)
      go_simp
      refine (grant_w p.gl x.id x.n f tm now x.un w8.drew HR8.out.drew.lease HL.out hf2 hn (by omega)).mono ?_
      rintro e w9 ⟨⟨bb,rfl⟩,ht9,hk9⟩
      have HT9:=Lib.hid ht9
      have HK8:=Lib.hid hk9
      clear ht9 hk9
      refine hK.out _ _ ?_ ?_
      ·exact moved HK8.out (by decide)
      clear hK K
      try simp only [qPA]
      refine wpMonoJ_done (by kernel_rfl) ?_ _
      have hset:=HR8.out.drew.setLease HT9.out HK8.out (fun i hi=>by rw [show i=p.gl from hi];exact HR8.out.o2)
      have hk78:Keeps (fun i=>i=p.gl) w8 w9:=Keeps.drew.trans HK8.out
      have HKf:=Lib.hid (show Keeps (tags own [2,4,12,13]) w w9 from Keeps.tags HK9.out HG5.out (hk78.more (Y:=tags o5 [2]) (fun i _ e=>by rw [show i=p.gl from e];exact ⟨by rw [HR8.out.o2];decide,by rw [HR8.out.o2];decide⟩)) (fun i hi=>hi) (by decide))
      have HQ:=Lib.hid (show BeatenR own p x lp f L key tm now w (.returned .nilIface) w9 from ⟨.nilIface,o5,rfl,HG5.out,HKf.out,.inl ⟨rfl,by unfold beatX;rw [HTT.out,HN.out,← HRS.out];exact hset⟩⟩)
      clear hset hk78 HR8 HM8 HT9 HK8 m4 m4l
      go_wp2_with fail
      go_ret
      exact HQ.out
end
end Go.Proofs.YtlingaebpfdhgaaGreatDoor.regn
namespace Go.Proofs.YtlingaebpfdhgaaGreatDoor.regn
open Go Go.RowKit base err rowe list new tab wireb jrnp jrn diskp lease fold
section
variable {w:World} {own:Nat→Nat} {p:RP} {x:RX}
def RecvB (own:Nat→Nat) (p:RP) (x:RX) (l:List Part) (f:Nat) (L:List Ep) (key tm now:Nat) (w:World) (e:Ending) (w':World):Prop :=
 ∃ own',e=.returned (.tuple #[.slice none 0 0,.nilIface])∧Grown own own' w∧Keeps (tags own [2,4,12,13]) w w'∧RegI w' own' p (beatX x l f L key tm now)
set_option maxRecDepth 20000 in
set_option maxHeartbeats 4000000 in
theorem recv_beat (f key tm now:Nat) (L:List Ep) (lp:List Part) (h:RegI w own p x) (hw:Well x.dn lp) (g1:1≤x.gen) (g2:x.gen≤1099511627776)
  (hT:GoodL x.ep) (hB:BeatB 0 0 0 tm L key) (hF:Fits x.n f x.ep L) (hf:isL x.id x.n f=true) (hf2:f≤16) (hn:now≤1099511627776) (hno:∀ c,¬ NoPut x.gen lp x.dn (beatR (newsE x.n f x.ep L).2 x.key key) c) :
  Calls Tryz.prog 9 #[.pointer (some ⟨p.r,0,none⟩),.int .i64 f,.string (str (beatW L key tm)),.int .i64 now] w (RecvB own p x lp f L key tm now w):=by
 have HR:=Lib.hid h
 have HW:=Lib.hid hw
 have HT:=Lib.hid hT
 have HB:=Lib.hid hB
 have HF:=Lib.hid hF
 have HL:=Lib.hid hf
 have HNO:=Lib.hid hno
 have HD:=Lib.hid (down_any h.reg)
 have hl:1≤f∧f≤x.n∧f ≠ x.id:=of_decide_eq_true hf
 have hrl:=h.reg.lt
 clear h hw hT hB hF hf hno
 go_enter Tryz.func9,Tryz.ntmps9
 go_wp2_with fail
 refine HD.out.mono ?_
 rintro e w1 ⟨rfl,hw1⟩
 subst hw1
 rw [show (rgOf p x).down=false from rfl]
 go_wp2_with fail
 refine (decode_beat L key tm w1 HB.out).mono ?_
 rintro e w2 ⟨A,len,cap,rfl,hE2,hb2⟩
 have HE2:=Lib.hid hE2
 have HR2:=Lib.hid (HR.out.below hb2)
 have HB2:=Lib.hid hb2
 clear hE2 hb2
 unfold msgC
 have HM2:=Lib.hid (Blk.new w2 27 #[.int .i64 0,.slice none 0 0,.slice none 0 0,.int .i64 0,.int .i64 0,.slice none 0 0,.int .i64 0])
 have hbn:=below_new w2 (.cells #[.int .i64 0,.slice none 0 0,.slice none 0 0,.int .i64 0,.int .i64 0,.slice none 0 0,.int .i64 0] 27)
 have HBN:=Lib.hid hbn
 have d1:decide ((f:Int) < 1)=false:=decide_eq_false (by omega)
 have e2:f≤x.n:=hl.2.1
 have d3:((f:Int) == (x.id:Int))=false:=by rw [beq_eq_false_iff_ne];omega
 have d4:decide ((now:Int) < 0)=false:=decide_eq_false (by omega)
 have d5:decide ((1099511627776:Int) < (now:Int))=false:=decide_eq_false (by omega)
 clear hbn hl
 go_wp2_with (first|(refine wpList_store_blk rfl 27 (.tmp 10) (.tmp 20) rfl w2.heap.size [.int .i64 4,.slice none 0 0,.slice none 0 0,.int .i64 0,.int .i64 tm,.slice A len cap,.int .i64 key] rfl rfl HM2.out (by kernel_rfl) rfl rfl ?_;intro w3 ho3 hk3 hs3;have hb3:Below w2.heap.size w2 w3:=HBN.out.trans (hk3.below (B:=w2.heap.size) (fun i hi e=>by have e:i=w2.heap.size:=e;omega) HBN.out.size);have HR3:=Lib.hid (HR2.out.below hb3);have c0:w3.cell? ⟨p.r,0,none⟩=some (.int .i64 x.id):=HR3.out.reg.c0;have c1:w3.cell? ⟨p.r,1,none⟩=some (.int .i64 x.n):=HR3.out.reg.c1;have rl3:=HR3.out.reg.lt;have k0:w3.cell? ⟨w2.heap.size,0,none⟩=some (.int .i64 4):=ho3.cell 0;have ml3:=ho3.lt)|(refine wpList_load_at rfl 27 (.tmp 10) rfl w2.heap.size 0 [.int .i64 4,.slice none 0 0,.slice none 0 0,.int .i64 0,.int .i64 tm,.slice A len cap,.int .i64 key] rfl Tryz.underlying27 rfl (by kernel_rfl) (blk_cells ho3) ?_))
 have HB3:=Lib.hid (HB2.out.trans (hb3.mono HB2.out.size))
 have HE3:=Lib.hid ((HE2.out.below hb3).more hb3.size)
 have hs13:=HB3.out.size
 clear ho3 hk3 hs3 hb3 c0 c1 k0 ml3 HM2 HBN d1 e2 d3 d4 d5
 refine (beaten_w f len cap key tm now A L lp HR3.out HW.out g1 g2 HT.out HE3.out HB.out HF.out HL.out hf2 hn).mono ?_
 rintro e w4 ⟨v,o4,rfl,hg4,hk4,hc4⟩
 rcases hc4 with ⟨rfl,hr4⟩|⟨k,c,hc,_⟩
 rotate_left
 ·exact absurd hc (HNO.out c)
 have HR4:=Lib.hid hr4
 have HG4:=Lib.hid (show Grown own o4 w1 from hg4.later hs13)
 have HK4:=Lib.hid (show Keeps (tags own [2,4,12,13]) w1 w4 from (Keeps.of_below HB3.out).trans hk4)
 clear hr4 hg4 hk4 HR3
 go_wp2_with fail
 refine (rat_nil HR4.out.reg).mono ?_
 rintro e w5 ⟨rfl,hw5⟩
 subst hw5
 go_wp2_with fail
 go_ret2
 exact ⟨o4,rfl,HG4.out,HK4.out,HR4.out⟩
end
end Go.Proofs.YtlingaebpfdhgaaGreatDoor.regn
