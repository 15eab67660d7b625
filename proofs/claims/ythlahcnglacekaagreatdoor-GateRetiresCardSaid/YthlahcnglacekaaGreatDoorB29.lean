/- Part of GateRetires. -/
import Derived.Test.YthlahcnglacekaaGreatDoorB17
set_option maxRecDepth 100000
set_option maxHeartbeats 16000000
namespace Go.Proofs.YthlahcnglacekaaGreatDoor
namespace feed
open Go.RowKit base rowe err wire monoj
theorem bad_any (n c:Int) (w:World):Calls Tryz.prog 152 #[.int .i64 n,.int .i64 c] w (ErrNew c w):=by
 go_enter Tryz.func152,Tryz.ntmps152;go_wp2_with fail;refine (Go.Proofs.YthlahcnglacekaaGreatDoor.err.at_any _ _ _ _).mono ?_;rintro e w1 ⟨v,rfl,h1,h2,h3,h4⟩;have HR:=qH (show ErrNew c w (.returned v) w1 from ⟨v,rfl,h1,h2,h3,h4⟩);clear h1 h2 h3 h4;go_wp2;go_ret
 exact HR.out
theorem cells10 {w:World} {g:Nat} {t:TypeId} {a0 a1 a2 a3 a4 a5 a6 a7 a8 a9:Value} (h:Blk w g t #[a0,a1,a2,a3,a4,a5,a6,a7,a8,a9]) :
  w.cell? ⟨g,0,none⟩=some a0∧w.cell? ⟨g,1,none⟩=some a1∧w.cell? ⟨g,2,none⟩=some a2∧w.cell? ⟨g,3,none⟩=some a3∧w.cell? ⟨g,4,none⟩=some a4∧w.cell? ⟨g,5,none⟩=some a5∧w.cell? ⟨g,6,none⟩=some a6∧w.cell? ⟨g,7,none⟩=some a7∧w.cell? ⟨g,8,none⟩=some a8∧w.cell? ⟨g,9,none⟩=some a9 :=
 ⟨h.cell 0,h.cell 1,h.cell 2,h.cell 3,h.cell 4,h.cell 5,h.cell 6,h.cell 7,h.cell 8,h.cell 9⟩
theorem FeedF.push {S:Nat→Prop} {w w4:World} {g rg nn bs:Nat} {L':List Wr} {K:List Int} {vw v4:Value} {k0 ck:Nat} (h:FeedF w S g rg nn bs L' K vw k0 ck) {x:Wr} {B:Nat} (hd:NumsO w B x.d x.z) (hB:k0+1≤B)
  (hrow:w4.ownsRow (k0+1) 188 10 v4 (L'.length+1) (L'.flatMap Wr.cells++x.cells)) (hg:w.grownBy w4 vw.ownBlock) (hv:v4.ownBlock=vw.ownBlock∨∃ i,v4.ownBlock=some i∧B≤i) (hl:L'.length<1000000) (hlast:bs+(L'.length+1)≤1099511627776) :
  FeedF (w4.setCell ⟨g,3,none⟩ v4) (fun i=>(S i∨B≤i)∧i<w4.heap.size) g rg nn bs (L'++[x]) K v4 k0 ck:=by
 have hlt:=h.k0lt;have hsz:w.heap.size≤w4.heap.size:=hg.size;have hS:∀ i,S i→(S i∨B≤i)∧i<w4.heap.size:=fun i hi=>⟨.inl hi,Nat.lt_of_lt_of_le (h.small i hi) hsz⟩;have hk:Keeps (fun i=>vw.ownBlock=some i) w w4:=.grown hg fun i hi=>.inl hi;have hvw:∀ i,vw.ownBlock=some i→k0+1≤i:=fun i hi=>(h.ow.row.lt i hi).1;have how:=((h.ow.more (S':=fun i=>(S i∨B≤i)∧i<w4.heap.size) hS).push (x:=x) (hd.base hB) (fun i hi=>⟨.inr (hd.1.lt _ hi).1,Nat.lt_of_lt_of_le (hd.1.lt _ hi).2 hsz⟩) hrow hg (hv.imp id fun ⟨i,h1,h2⟩=>⟨i,h1,.inr h2,(hrow.lt _ h1).2⟩) hl);refine ⟨?_,how.keepsLo (Keeps.set1 w4 g 3 v4) (fun i hi e=>by omega),?_,hS g h.inG,hS k0 h.inK,h.klen,h.r0,h.r1,h.n1,by simpa [Nat.add_assoc] using hlast,fun i hi=>by simpa using hi.2,h.kb⟩
 ·have:=(h.blk.keeps hk (fun hi=>by have:=hvw g hi;omega)).set_ 3 v4
  simpa using this
 ·exact ow_keeps' (ow_keeps' h.know hk (fun i hi hi2=>by injection hi with hi;have:=hvw i hi2;simp at hi;omega)) (Keeps.set1 w4 g 3 v4) (fun i hi e=>by injection hi with hi;simp at hi;omega)
theorem _root_.Go.Proofs.YthlahcnglacekaaGreatDoor.wire.Nums.drew' {w:World} {d:Value} {zs:List Int} (h:Nums w w.heap.size d zs):Nums w.drew w.drew.heap.size d zs:=h
def addC (rg bs:Nat) (L:List Wr) (x:Wr):Int:=if (rightB x&&(x.r==rg))=false then 1 else if x.n=(bs+L.length+1:Nat) then 0 else 15
def addL (rg bs:Nat) (L:List Wr) (x:Wr):List Wr:=if addC rg bs L x=0 then L++[x.abs] else L
def AddR (S:Nat→Prop) (g rg nn bs:Nat) (L:List Wr) (K:List Int) (x:Wr) (w:World) (e:Ending) (w':World):Prop :=
 ∃ v S',e=.returned v∧EO w' v (addC rg bs L x)∧(∀ i,v=.iface 121 (.pointer (some ⟨i,0,none⟩))→w.heap.size≤i)∧FeedS w' S' g rg nn bs (addL rg bs L x) K∧Keeps S w w'∧(∀ i,S' i→S i∨w.heap.size≤i)
theorem add_bad {S:Nat→Prop} {g rg nn bs:Nat} {L:List Wr} {K:List Int} {x:Wr} {w w1 w2:World} {c:Int} {v:Value} (h:FeedS w S g rg nn bs L K) (hb:Below w.heap.size w w1) (hc:addC rg bs L x=c) (hc0:c≠0) (he:ErrNew c w1 (.returned v) w2):AddR S g rg nn bs L K x w (.returned v) w2:=by
 obtain ⟨v',e,h1,h2,h3,h4⟩:=he;injection e with e;subst e;have hb2:=hb.trans (h3.mono hb.size);refine ⟨v,S,rfl,?_,fun i hi=>Nat.le_trans hb.size (h4 i hi),?_,.of_below hb2,fun i hi=>.inl hi⟩
 ·rw [hc];exact .inr ⟨hc0,h1,h2⟩
 ·unfold addL;rw [hc,if_neg hc0];exact h.below hb2
theorem FeedS.drew {S:Nat→Prop} {w:World} {g rg nn bs:Nat} {L:List Wr} {K:List Int} (h:FeedS w S g rg nn bs L K):FeedS w.drew S g rg nn bs L K:=h.keeps (X:=nobody) Keeps.drew (fun _ _ h=>h)
theorem add_any {S:Nat→Prop} {w:World} {g rg nn bs:Nat} {L:List Wr} {K:List Int} (x:Wr) (h:FeedS w S g rg nn bs L K) (hd:Nums w w.heap.size x.d x.z) (hz6:x.z.length≤1000000) (hL:L.length<1000000) :
  Calls Tryz.prog 153 #[.pointer (some ⟨g,0,none⟩),.agg ⟨x.cells⟩] w (AddR S g rg nn bs L K x w):=by
 have H:=qH h;obtain ⟨i0,hi0,hz⟩:=Option.map_eq_some_iff.1 write_info;simp only [Prod.mk.injEq] at hz;obtain ⟨hz0,hz1,hz2⟩:=hz;obtain ⟨L',vw,k0,ck,hLL,hf⟩:=h;have hx0:=Blk.new w 188 x.cells.toArray;have hb0:=below_new w (.cells x.cells.toArray 188);have HD:=qH ((hd.below hb0).more hb0.size);have HX0:=qH hx0;have HB0:=qH hb0;have HF:=qH hf;have hglt:=hf.blk.lt;clear hd hx0 hb0 hf;obtain ⟨r,n,t,s,d,zs,se,k,v,gn,l⟩:=x;unfold Wr.cells at *;dsimp only at *;go_enter Tryz.func153,Tryz.ntmps153;go_wp2_with fail;refine (encode_any ⟨r,n,t,s,d,zs,se,k,v,gn,l⟩ _ HD.out).mono ?_;rintro e w1 ⟨⟨sb,ve,rfl,hcase⟩,hb1⟩;have hx:=HX0.out.below hb1 (by simp);have hbb:=HB0.out.trans (hb1.mono HB0.out.size);have hf1:=HF.out.keeps (X:=nobody) (.of_below hbb) (fun _ _ h=>h);have hd1:=(HD.out.below hb1).more hb1.size;have hxlt:w.heap.size<w1.heap.size:=hx.lt;have HX:=qH hx;have HB:=qH hbb;have HG:=qH hf1.blk;have HF1:=qH hf1;have HD1:=qH hd1;clear hx hbb hf1 hd1 hb1 HX0 HB0 HD HF;have c1:w1.cell? ⟨w.heap.size,1,none⟩=_:=HX.out.cell 1;have c0:w1.cell? ⟨w.heap.size,0,none⟩=_:=HX.out.cell 0;have f0:w1.cell? ⟨g,0,none⟩=_:=HG.out.cell 0;have hglt1:=HG.out.lt;simp at c0 c1 f0
 rcases hcase with ⟨hrt,rfl⟩|⟨hrt,ge,rfl⟩
 ·cases hr:(r==(rg:Int)) with
  | false =>
   have hcode:addC rg bs L ⟨r,n,t,s,d,zs,se,k,v,gn,l⟩=1:=by unfold addC;rw [hrt];dsimp only;rw [hr];rfl
   have dr:(r != (rg:Int))=true:=by unfold bne;rw [hr];rfl
   have Hrt:=qH hrt;have Hcode:=qH hcode;clear hrt hcode;go_wp2_with fail;refine wp_region_mono nobody (by kernel_rfl) ?_
   iterate 12
    first|refine qT 0 (v:=?_) ?_ ?_|refine qT 1 (v:=?_) ?_ ?_|refine qT 2 (v:=?_) ?_ ?_|refine qT 3 (v:=?_) ?_ ?_|refine qT 4 (v:=?_) ?_ ?_|refine qT 5 (v:=?_) ?_ ?_|refine qT 6 (v:=?_) ?_ ?_|refine qT 7 (v:=?_) ?_ ?_|refine qT 8 (v:=?_) ?_ ?_|refine qT 9 (v:=?_) ?_ ?_|refine qT 10 (v:=?_) ?_ ?_|refine qT 11 (v:=?_) ?_ ?_
    rotate_left
    ·(intro W hSw;(have hcW:=hSw.cells;try simp only [qSd] at hcW);go_simp <;> rfl)
    try simp only [qPA]
   refine wpMono_done (by kernel_rfl) ?_ _;go_wp2_with fail;refine (bad_any _ _ _).mono ?_;rintro e w2 ⟨v,rfl,h1,h2,h3,h4⟩;have HR:=qH (add_bad H.out HB.out.drew Hcode.out (by decide) ⟨v,rfl,h1,h2,h3,h4⟩);clear h1 h2 h3 h4;go_wp2;go_ret
   exact HR.out
  | true =>
   have dr:(r != (rg:Int))=false:=by unfold bne;rw [hr];rfl
   have hlast:=HF1.out.last;have H1:=qH (show FeedS w1 S g rg nn bs L K from ⟨L',vw,k0,ck,hLL,HF1.out⟩);have hL2:L'.length=L.length:=by rw [←hLL,List.length_map]
   have hw:=IntWalk.i64_in ((bs:Int)+(L.length:Nat)+1) (by omega)
   cases hn:(n==(bs:Int)+(L.length:Nat)+1) with
   | false =>
    have hcode:addC rg bs L ⟨r,n,t,s,d,zs,se,k,v,gn,l⟩=15:=by
     unfold addC;rw [hrt];dsimp only;rw [hr,if_neg (by decide),if_neg (by simp at hn;omega)]
    have dn:(n != (bs:Int)+(L.length:Nat)+1)=true:=by unfold bne;rw [hn];rfl
    have Hrt:=qH hrt;have Hcode:=qH hcode;clear hrt hcode;go_wp2_with fail;refine wp_region_mono nobody (by kernel_rfl) ?_
    iterate 12
     first|refine qT 0 (v:=?_) ?_ ?_|refine qT 1 (v:=?_) ?_ ?_|refine qT 2 (v:=?_) ?_ ?_|refine qT 3 (v:=?_) ?_ ?_|refine qT 4 (v:=?_) ?_ ?_|refine qT 5 (v:=?_) ?_ ?_|refine qT 6 (v:=?_) ?_ ?_|refine qT 7 (v:=?_) ?_ ?_|refine qT 8 (v:=?_) ?_ ?_|refine qT 9 (v:=?_) ?_ ?_|refine qT 10 (v:=?_) ?_ ?_|refine qT 11 (v:=?_) ?_ ?_
     rotate_left
     ·(intro W hSw;(have hcW:=hSw.cells;try simp only [qSd] at hcW);go_simp <;> rfl)
     try simp only [qPA]
    refine wpMono_done (by kernel_rfl) ?_ _;go_wp2_with fail;refine wp_region_mono nobody (by kernel_rfl) ?_
    iterate 3
     first|refine qT 0 (v:=?_) ?_ ?_|refine qT 1 (v:=?_) ?_ ?_|refine qT 2 (v:=?_) ?_ ?_
     rotate_left
     ·(intro W hSw;(have hcW:=hSw.cells;try simp only [qSd] at hcW);go_simp <;> rfl)
     try simp only [qPA]
    refine wpMono_one' 3 (by kernel_rfl) rfl (by rfl) (fun K hK=>?_)
    go_simp
    refine (last_any H1.out.drew.drew).mono ?_;rintro e w2 ⟨rfl,hb2⟩;refine hK.out _ _ ?_ ?_
    ·exact .of_below hb2
    clear hK K
    try simp only [qPA]
    iterate 3
     first|refine qT 4 (v:=?_) ?_ ?_|refine qT 5 (v:=?_) ?_ ?_|refine qT 6 (v:=?_) ?_ ?_
     rotate_left
     ·(intro W hSw;(have hcW:=hSw.cells;try simp only [qSd] at hcW);go_simp <;> rfl)
     try simp only [qPA]
    refine wpMono_done (by kernel_rfl) ?_ _;have hx2:=HX.out.drew.drew.below hb2 hxlt;have k1:w2.cell? ⟨w.heap.size,1,none⟩=_:=hx2.cell 1;have kl:=hx2.lt;simp at k1
    go_wp2_with fail;refine (bad_any _ _ _).mono ?_;rintro e w3 ⟨v,rfl,h1,h2,h3,h4⟩;have HR:=qH (add_bad H.out (HB.out.drew.drew.trans (hb2.mono HB.out.size)) Hcode.out (by decide) ⟨v,rfl,h1,h2,h3,h4⟩);clear h1 h2 h3 h4 hb2;go_wp2;go_ret
    exact HR.out
   | true =>
    have dn:(n != (bs:Int)+(L.length:Nat)+1)=false:=by unfold bne;rw [hn];rfl
    have hnn:n=(bs:Int)+(L.length:Nat)+1:=by simpa using hn
    have hcode:addC rg bs L ⟨r,n,t,s,d,zs,se,k,v,gn,l⟩=0:=by
     unfold addC;rw [hrt];dsimp only;rw [hr,if_neg (by decide),if_pos (by omega)]
    have hn2:=(right_parts hrt).n1;dsimp only at hn2;have Hlast2:=qH (show bs+(L'.length+1)≤1099511627776 by omega);have Hrt:=qH hrt;have Hcode:=qH hcode;have Hnn:=qH hnn;have Hn2:=qH hn2;clear hrt hcode hnn hn2;go_wp2_with fail;refine wp_region_mono nobody (by kernel_rfl) ?_
    iterate 12
     first|refine qT 0 (v:=?_) ?_ ?_|refine qT 1 (v:=?_) ?_ ?_|refine qT 2 (v:=?_) ?_ ?_|refine qT 3 (v:=?_) ?_ ?_|refine qT 4 (v:=?_) ?_ ?_|refine qT 5 (v:=?_) ?_ ?_|refine qT 6 (v:=?_) ?_ ?_|refine qT 7 (v:=?_) ?_ ?_|refine qT 8 (v:=?_) ?_ ?_|refine qT 9 (v:=?_) ?_ ?_|refine qT 10 (v:=?_) ?_ ?_|refine qT 11 (v:=?_) ?_ ?_
     rotate_left
     ·(intro W hSw;(have hcW:=hSw.cells;try simp only [qSd] at hcW);go_simp <;> rfl)
     try simp only [qPA]
    refine wpMono_done (by kernel_rfl) ?_ _;go_wp2_with fail;refine wp_region_mono nobody (by kernel_rfl) ?_
    iterate 3
     first|refine qT 0 (v:=?_) ?_ ?_|refine qT 1 (v:=?_) ?_ ?_|refine qT 2 (v:=?_) ?_ ?_
     rotate_left
     ·(intro W hSw;(have hcW:=hSw.cells;try simp only [qSd] at hcW);go_simp <;> rfl)
     try simp only [qPA]
    refine wpMono_one' 3 (by kernel_rfl) rfl (by rfl) (fun K hK=>?_)
    go_simp
    refine (last_any H1.out.drew.drew).mono ?_;rintro e w2 ⟨rfl,hb2⟩;refine hK.out _ _ ?_ ?_
    ·exact .of_below hb2
    clear hK K
    try simp only [qPA]
    iterate 3
     first|refine qT 4 (v:=?_) ?_ ?_|refine qT 5 (v:=?_) ?_ ?_|refine qT 6 (v:=?_) ?_ ?_
     rotate_left
     ·(intro W hSw;(have hcW:=hSw.cells;try simp only [qSd] at hcW);go_simp <;> rfl)
     try simp only [qPA]
    refine wpMono_done (by kernel_rfl) ?_ _;have HX2:=qH (HX.out.drew.drew.below hb2 hxlt);have HF2:=qH (HF1.out.keeps (X:=nobody) (Keeps.drew.trans (Keeps.drew.trans (.of_below hb2))) (fun _ _ h=>h));have HD2:=qH (((HD1.out.keep (fun b o hb=>rfl:∀ b o,b<w1.heap.size→w1.drew.drew.cell? ⟨b,o,none⟩=w1.cell? ⟨b,o,none⟩)).below hb2).more hb2.size);have HB2:=qH (HB.out.drew.drew.trans (hb2.mono HB.out.size));clear hb2 hlast;obtain ⟨A,cw,rfl⟩:=ownsRow_slice HF2.out.ow.row;have g3:w2.cell? ⟨g,3,none⟩=_:=HF2.out.blk.cell 3;have hgl2:=HF2.out.blk.lt;have hxl2:=HX2.out.lt;obtain ⟨e0,e1,e2,e3,e4,e5,e6,e7,e8,e9⟩:=cells10 HX2.out;simp at g3
    have hgx:w.heap.size≠g:=by omega
    go_wp2_with fail;refine wp_region_monoJ (fun _=>True) [8,11] (by kernel_rfl) ?_
    iterate 4
     first|refine qJ 0 (v:=?_) ?_ ?_|refine qJ 1 (v:=?_) ?_ ?_|refine qJ 2 (v:=?_) ?_ ?_|refine qJ 3 (v:=?_) ?_ ?_
     rotate_left
     ·(intro W hSw;(try (have hcW:=hSw.cells;try simp only [qSd] at hcW));go_simp <;> rfl)
     try simp only [qPA]
    refine wpMonoJ_read' 4 [8,9,10,11] (v:=?_) rfl (by kernel_rfl) (by kernel_rfl) (by kernel_rfl) (by rfl) (by kernel_rfl) (by rfl) (fun _ _ _ h=>h) (by rfl) ?_ ?_;rotate_left
    ·(intro W hSw;(try (have hcW:=hSw.cells;try simp only [qSd] at hcW));go_simp <;> rfl)
    try simp only [qPA]
    refine wpMonoJ_read' 5 [6,7,8,9,10,11] (v:=?_) rfl (by kernel_rfl) (by kernel_rfl) (by kernel_rfl) (by rfl) (by kernel_rfl) (by rfl) (fun _ _ _ h=>h) (by rfl) ?_ ?_;rotate_left
    ·(intro W hSw;(try (have hcW:=hSw.cells;try simp only [qSd] at hcW));go_simp <;> rfl)
    try simp only [qPA]
    refine wpMonoJ_one' 6 (by kernel_rfl) rfl (by rfl) (fun K hK=>?_)
    go_simp
    refine (clone_any ⟨r,n,t,s,d,zs,se,k,v,gn,l⟩ _ (HD2.out.drew')  hz6).mono ?_;rintro e w3 ⟨⟨d',rfl,hd'⟩,hb3⟩;obtain ⟨A2,c2,rfl⟩:=ownsRow_slice hd'.1;have HF3:=qH (HF2.out.keeps (X:=nobody) (Keeps.drew.trans (.of_below hb3)) (fun _ _ h=>h));have HB3:=qH (HB2.out.drew.trans (hb3.mono HB2.out.size));have Hd3:=qH hd';clear hd';dsimp only [Wr.cells];refine hK.out _ _ ?_ ?_
    ·exact .of_below hb3
    clear hK K
    try simp only [qPA]
    refine wpMonoJ_one' 7 (by kernel_rfl) rfl (by rfl) (fun K hK=>?_)
    go_simp
    refine hK.out _ _ ?_ ?_
    ·exact .alloc _
    clear hK K
    try simp only [qPA]
    refine wpMonoJ_one' 8 (by kernel_rfl) rfl (by rfl) (fun K hK=>?_);have hb3b:Below w3.heap.size w3 (w3.alloc (.cells #[.int .i64 r,.int .i64 n,.int .i64 t,.int .i64 s,.slice A2 zs.length c2,.string se,.string k,.string v,.bool gn,.int .i64 l] 188)):=below_new _ _;have HF4:=qH (HF3.out.keeps (X:=nobody) (.of_below hb3b) (fun _ _ h=>h));have HB4:=qH (HB3.out.trans (hb3b.mono HB3.out.size));have Hd4:=qH (Hd3.out.below hb3b);have hk0s:=HF3.out.small k0 HF3.out.inK;have hold:=HF4.out.ow.row;rw [hL2] at hold;have hr:=Reads.new w3 #[.int .i64 r,.int .i64 n,.int .i64 t,.int .i64 s,.slice A2 zs.length c2,.string se,.string k,.string v,.bool gn,.int .i64 l] 188 (0,0) (n:=1) (size:=10) rfl;clear hb3b;refine wp_append_any _ (.tmp 46) (.tmp 49) _ (by rfl) (k0+1) 188 i0 _ 10 120 Tryz.underlying98 hi0 hz0 hz1 hz2 rfl (by omega) (.slice A L.length cw) L.length _ (by rfl) hold _ _ 1 1 (Wr.cells ⟨r,n,t,s,.slice A2 zs.length c2,zs,se,k,v,gn,l⟩) (by rfl) hr (oneW _ rfl) (by unfold maxLen;omega) (by omega) (by simp;omega) fun v4 w4 hv4 hg4 ho4=>?_;refine hK.out _ _ ?_ ?_
    ·exact moved (.grown hg4 fun i hi=>.inl trivial) (by decide)
    clear hK K
    try simp only [qPA]
    iterate 2
     first|refine qJ 9 (v:=?_) ?_ ?_|refine qJ 10 (v:=?_) ?_ ?_
     rotate_left
     ·(intro W hSw;(try (have hcW:=hSw.cells;try simp only [qSd] at hcW));go_simp <;> rfl)
     try simp only [qPA]
    refine wpMonoJ_one' 11 (by kernel_rfl) rfl (by rfl) (fun K hK=>?_);obtain ⟨A4,c4,rfl⟩:=ownsRow_slice hv4;have hg3:=HF4.out.blk.grown hg4 (fun e=>by have:=(hold.lt _ e.symm).1;have:=HF4.out.k0lt;omega);have p3:w4.cell? ⟨g,3,none⟩=_:=hg3.cell 3;have pf:=hg3.frozen 3;have pl:=hg3.lt;simp at p3
    have Hv4:=qH hv4;have Hg4:=qH hg4;have Ho4:=qH ho4;clear hv4 hg4 ho4 hg3 hold hr
    go_simp
    refine hK.out _ _ ?_ ?_
    ·exact moved (.setCell (.inl trivial) _) (by decide)
    clear hK K
    try simp only [Act.put]
    refine wpMonoJ_done (by kernel_rfl) ?_ _;rw [←hL2] at Hv4 Hg4 Ho4;have hk0B:k0+1≤w2.drew.heap.size:=HF2.out.small k0 HF2.out.inK;have hP:=HF4.out.push (x:=⟨r,n,t,s,.slice A2 zs.length c2,zs,se,k,v,gn,l⟩) (B:=w2.drew.heap.size) Hd4.out hk0B Hv4.out Hg4.out (Ho4.out.imp id fun h=>⟨_,h,Nat.le_trans hb3.size (by simp)⟩) (by omega) Hlast2.out
    have hkk:Keeps S w (w4.setCell ⟨g,3,none⟩ (.slice A4 (L'.length+1) c4)) :=
     ((Keeps.of_below HB4.out).trans (.grown Hg4.out fun i hi=>.inl (HF4.out.ow.inS i hi))).trans (.setCell (.inl HF4.out.inG) _)
    have HR:=qH (show AddR S g rg nn bs L K ⟨r,n,t,s,d,zs,se,k,v,gn,l⟩ w (.returned .nilIface) (w4.setCell ⟨g,3,none⟩ (.slice A4 (L'.length+1) c4)) from
     ⟨.nilIface,_,rfl,by rw [Hcode.out];exact EO.nil _,(fun i hi=>by cases hi),⟨_,_,k0,ck,by unfold addL;rw [Hcode.out,if_pos rfl,List.map_append,hLL];rfl,hP⟩,hkk,fun i hi=>hi.1.imp id fun h=>Nat.le_trans HB2.out.size h⟩)
    rw [hL2] at HR;clear hP hkk Hv4 Hg4 Ho4 HF4 HB4 Hd4;go_wp2;go_ret
    exact HR.out
 ·have hcode:addC rg bs L ⟨r,n,t,s,d,zs,se,k,v,gn,l⟩=1:=by unfold addC;rw [hrt];rfl
  have Hrt:=qH hrt;have Hcode:=qH hcode;clear hrt hcode;go_wp2_with fail;refine wp_region_mono nobody (by kernel_rfl) ?_
  iterate 3
   first|refine qT 0 (v:=?_) ?_ ?_|refine qT 1 (v:=?_) ?_ ?_|refine qT 2 (v:=?_) ?_ ?_
   rotate_left
   ·(intro W hSw;(have hcW:=hSw.cells;try simp only [qSd] at hcW);go_simp <;> rfl)
   try simp only [qPA]
  refine wpMono_skip' 3 rfl (by kernel_rfl) (by kernel_rfl) (by kernel_rfl) (fun _ _ _ h=>h) (by rfl) ?_
  try simp only [qPA]
  refine wpMono_skip' 4 rfl (by kernel_rfl) (by kernel_rfl) (by kernel_rfl) (fun _ _ _ h=>h) (by rfl) ?_
  try simp only [qPA]
  refine wpMono_skip' 5 rfl (by kernel_rfl) (by kernel_rfl) (by kernel_rfl) (fun _ _ _ h=>h) (by rfl) ?_
  try simp only [qPA]
  refine wpMono_skip' 6 rfl (by kernel_rfl) (by kernel_rfl) (by kernel_rfl) (fun _ _ _ h=>h) (by rfl) ?_
  try simp only [qPA]
  refine wpMono_skip' 7 rfl (by kernel_rfl) (by kernel_rfl) (by kernel_rfl) (fun _ _ _ h=>h) (by rfl) ?_
  try simp only [qPA]
  refine wpMono_skip' 8 rfl (by kernel_rfl) (by kernel_rfl) (by kernel_rfl) (fun _ _ _ h=>h) (by rfl) ?_
  try simp only [qPA]
  refine wpMono_skip' 9 rfl (by kernel_rfl) (by kernel_rfl) (by kernel_rfl) (fun _ _ _ h=>h) (by rfl) ?_
  try simp only [qPA]
  iterate 2
   first|refine qT 10 (v:=?_) ?_ ?_|refine qT 11 (v:=?_) ?_ ?_
   rotate_left
   ·(intro W hSw;(have hcW:=hSw.cells;try simp only [qSd] at hcW);go_simp <;> rfl)
   try simp only [qPA]
  refine wpMono_done (by kernel_rfl) ?_ _;go_wp2_with fail;refine (bad_any _ _ _).mono ?_;rintro e w2 ⟨v,rfl,h1,h2,h3,h4⟩;have HR:=qH (add_bad H.out HB.out.drew Hcode.out (by decide) ⟨v,rfl,h1,h2,h3,h4⟩);clear h1 h2 h3 h4;go_wp2;go_ret
  exact HR.out
end feed
namespace feed
open Go.RowKit base rowe err wire monoj
section
variable {S:Nat→Prop} {w:World} {g rg nn bs:Nat} {L:List Wr} {K:List Int}
end
end feed
namespace feed
open Go.RowKit base rowe err wire monoj
def minI (a b:Int):Int:=if b<a then b else a
def leastI (rg nn:Nat) (last:Int) (K:List Int):Nat→Int
 | 0=>last
 | p+1=>if isB rg nn p=true then minI (leastI rg nn last K p) (K.getD (p-1) 0) else leastI rg nn last K p
def trimN (rg nn bs:Nat) (L:List Wr) (K:List Int):Int:=leastI rg nn ((bs+L.length:Nat):Int) K 17-bs
section
variable {S:Nat→Prop} {w:World} {g rg nn bs:Nat} {L:List Wr} {K:List Int}
end
end feed
namespace feed
open Go.RowKit base rowe err wire monoj
def addAll (rg bs:Nat):List Wr→List Wr→Option (List Wr)
 | acc,[]=>some acc
 | acc,x :: xs=>if addC rg bs acc x=0 then addAll rg bs (acc++[x.abs]) xs else none
def badNew (rg nn bs:Int):Bool:=decide (nn<1) || (decide (16<nn) || (decide (rg<1) || (decide (nn<rg) || (decide (bs<0) || decide (1099511627776<bs)))))
def newL (rg nn bs:Int) (L:List Wr):Option (List Wr):=if badNew rg nn bs=true then none else addAll rg.toNat bs.toNat [] L
def NewYes (rg nn bs:Int) (L2:List Wr) (w:World) (e:Ending) (w':World):Prop :=
 ∃ g S,e=.returned (.tuple #[.pointer (some ⟨g,0,none⟩),.nilIface])∧FeedS w' S g rg.toNat nn.toNat bs.toNat L2 (List.replicate nn.toNat bs)∧(∀ i,S i→w.heap.size≤i)∧Below w.heap.size w w'
def NewNo (w:World) (e:Ending) (w':World):Prop :=
 ∃ v,e=.returned (.tuple #[.pointer none,v])∧Err w' v 1∧v≠.nilIface∧(∀ i,v=.iface 121 (.pointer (some ⟨i,0,none⟩))→w.heap.size≤i)∧Below w.heap.size w w'
def NewR (rg nn bs:Int) (L:List Wr) (w:World) (e:Ending) (w':World):Prop :=
 (∃ L2,newL rg nn bs L=some L2∧NewYes rg nn bs L2 w e w')∨(newL rg nn bs L=none∧NewNo w e w')
theorem new_no {w w1 w2:World} {v:Value} (hb:Below w.heap.size w w1) (he:ErrNew 1 w1 (.returned v) w2):NewNo w (.returned (.tuple #[.pointer none,v])) w2:=by
 obtain ⟨v',e,h1,h2,h3,h4⟩:=he;injection e with e;subst e;exact ⟨v,rfl,h1,h2,fun i hi=>Nat.le_trans hb.size (h4 i hi),hb.trans (h3.mono hb.size)⟩
theorem new_any (rg nn bs:Int) (v:Value) (L:List Wr) (w:World) (hl:RW w v L):Calls Tryz.prog 91 #[.int .i64 rg,.int .i64 nn,.int .i64 bs,v] w (NewR rg nn bs L w):=by
 cases e1:decide (nn<1) with
 | true =>
  have HQ:=qH (show newL rg nn bs L=none by unfold newL;rw [if_pos (by unfold badNew;rw [e1];rfl)]);clear hl;go_enter Tryz.func91,Tryz.ntmps91;go_wp2_with fail;refine (bad_any _ _ _).mono ?_;rintro e w1 ⟨v1,rfl,h1,h2,h3,h4⟩;have HR:=qH (show NewR rg nn bs L w (.returned (.tuple #[.pointer none,v1])) w1 from .inr ⟨HQ.out,new_no (Below.refl _ _) ⟨v1,rfl,h1,h2,h3,h4⟩⟩);clear h1 h2 h3 h4;go_wp2;exact bodyPost_ret (v:=.tuple #[.pointer none,v1]) (by simp [results,Tryz.results91,go_sem]) rfl HR.out
 | false =>
  cases e2:decide (16<nn) with
  | true =>
   have HQ:=qH (show newL rg nn bs L=none by unfold newL;rw [if_pos (by unfold badNew;rw [e1,e2];rfl)]);clear hl;go_enter Tryz.func91,Tryz.ntmps91;go_wp2_with fail;refine (bad_any _ _ _).mono ?_;rintro e w1 ⟨v1,rfl,h1,h2,h3,h4⟩;have HR:=qH (show NewR rg nn bs L w (.returned (.tuple #[.pointer none,v1])) w1 from .inr ⟨HQ.out,new_no (Below.refl _ _) ⟨v1,rfl,h1,h2,h3,h4⟩⟩);clear h1 h2 h3 h4;go_wp2;exact bodyPost_ret (v:=.tuple #[.pointer none,v1]) (by simp [results,Tryz.results91,go_sem]) rfl HR.out
  | false =>
   cases e3:decide (rg<1) with
   | true =>
    have HQ:=qH (show newL rg nn bs L=none by unfold newL;rw [if_pos (by unfold badNew;rw [e1,e2,e3];rfl)]);clear hl;go_enter Tryz.func91,Tryz.ntmps91;go_wp2_with fail;refine (bad_any _ _ _).mono ?_;rintro e w1 ⟨v1,rfl,h1,h2,h3,h4⟩;have HR:=qH (show NewR rg nn bs L w (.returned (.tuple #[.pointer none,v1])) w1 from .inr ⟨HQ.out,new_no (Below.refl _ _) ⟨v1,rfl,h1,h2,h3,h4⟩⟩);clear h1 h2 h3 h4;go_wp2;exact bodyPost_ret (v:=.tuple #[.pointer none,v1]) (by simp [results,Tryz.results91,go_sem]) rfl HR.out
   | false =>
    cases e4:decide (nn<rg) with
    | true =>
     have HQ:=qH (show newL rg nn bs L=none by unfold newL;rw [if_pos (by unfold badNew;rw [e1,e2,e3,e4];rfl)]);clear hl;go_enter Tryz.func91,Tryz.ntmps91;go_wp2_with fail;refine (bad_any _ _ _).mono ?_;rintro e w1 ⟨v1,rfl,h1,h2,h3,h4⟩;have HR:=qH (show NewR rg nn bs L w (.returned (.tuple #[.pointer none,v1])) w1 from .inr ⟨HQ.out,new_no (Below.refl _ _) ⟨v1,rfl,h1,h2,h3,h4⟩⟩);clear h1 h2 h3 h4;go_wp2;exact bodyPost_ret (v:=.tuple #[.pointer none,v1]) (by simp [results,Tryz.results91,go_sem]) rfl HR.out
    | false =>
     cases e5:decide (bs<0) with
     | true =>
      have HQ:=qH (show newL rg nn bs L=none by unfold newL;rw [if_pos (by unfold badNew;rw [e1,e2,e3,e4,e5];rfl)]);clear hl;go_enter Tryz.func91,Tryz.ntmps91;go_wp2_with fail;refine (bad_any _ _ _).mono ?_;rintro e w1 ⟨v1,rfl,h1,h2,h3,h4⟩;have HR:=qH (show NewR rg nn bs L w (.returned (.tuple #[.pointer none,v1])) w1 from .inr ⟨HQ.out,new_no (Below.refl _ _) ⟨v1,rfl,h1,h2,h3,h4⟩⟩);clear h1 h2 h3 h4;go_wp2;exact bodyPost_ret (v:=.tuple #[.pointer none,v1]) (by simp [results,Tryz.results91,go_sem]) rfl HR.out
     | false =>
      cases e6:decide (1099511627776<bs) with
      | true =>
       have HQ:=qH (show newL rg nn bs L=none by unfold newL;rw [if_pos (by unfold badNew;rw [e1,e2,e3,e4,e5,e6];rfl)]);clear hl;go_enter Tryz.func91,Tryz.ntmps91;go_wp2_with fail;refine (bad_any _ _ _).mono ?_;rintro e w1 ⟨v1,rfl,h1,h2,h3,h4⟩;have HR:=qH (show NewR rg nn bs L w (.returned (.tuple #[.pointer none,v1])) w1 from .inr ⟨HQ.out,new_no (Below.refl _ _) ⟨v1,rfl,h1,h2,h3,h4⟩⟩);clear h1 h2 h3 h4;go_wp2;exact bodyPost_ret (v:=.tuple #[.pointer none,v1]) (by simp [results,Tryz.results91,go_sem]) rfl HR.out
      | false =>
       obtain ⟨i0,hi,hz⟩:=Option.map_eq_some_iff.1 int_info;simp only [Prod.mk.injEq] at hz;obtain ⟨hz0,hz1,hz2⟩:=hz;have hQ:newL rg nn bs L=addAll rg.toNat bs.toNat [] L:=by unfold newL;rw [if_neg (by unfold badNew;rw [e1,e2,e3,e4,e5,e6];decide)]
       simp only [decide_eq_false_iff_not] at e1 e2 e3 e4 e5 e6;obtain ⟨a,rfl⟩:=Int.eq_ofNat_of_zero_le (show 0≤rg by omega);obtain ⟨m,rfl⟩:=Int.eq_ofNat_of_zero_le (show 0≤nn by omega);obtain ⟨b0,rfl⟩:=Int.eq_ofNat_of_zero_le (show 0≤bs by omega);simp only [Int.toNat_natCast] at hQ;have d1:decide ((m:Int)<1)=false:=by simp;omega
       have d2:decide ((16:Int)<(m:Int))=false:=by simp;omega
       have d3:decide ((a:Int)<1)=false:=by simp;omega
       have d4:decide (m<a)=false:=by simp;omega
       have d5:decide ((b0:Int)<0)=false:=by simp
       have d6:decide ((1099511627776:Int)<(b0:Int))=false:=by simp;omega
       have HN0:=qH (show 1≤a∧a≤m∧m≤16∧b0≤1099511627776 by omega);have hm16:m≤16:=by omega
       have Hl:=qH hl;obtain ⟨A,c,rfl,hfew,hlc,hr,hn⟩:=hl;have HQ:=qH hQ;have Hr:=qH hr;have Hn:=qH hn;clear hQ hr hn;clear e1 e2 e3 e4 e5 e6;go_enter Tryz.func91,Tryz.ntmps91;go_wp2_with fail
       go_loopw [43] (fun i wr'=>∃ k:Nat,k≤m∧i=.int .i64 k∧∃ vk,Blk wr' w.heap.size 263 #[.int .i64 a,.int .i64 m,.int .i64 b0,.slice none 0 0,vk]∧wr'.ownsRow (w.heap.size+1) 3 1 vk k ((List.replicate k (b0:Int)).map (Value.int .i64))∧Below w.heap.size w wr') (fun i _=>m-(intOf i).toNat)
       case atStart=>exact ⟨0,by omega,rfl,_,Blk.new w 263 _,⟨rfl,.inl ⟨rfl,rfl⟩⟩,below_new _ _⟩
       case round =>
        obtain ⟨k,hk,rfl,vk,hb,hrow,hbw⟩:=hrel;have hlt:=hb.lt;obtain ⟨Ak,ck,rfl⟩:=ownsRow_slice hrow
        by_cases hkm:k<m
        ·have d7:decide ((k:Int)<(m:Int))=true:=by simp;omega
         have c4:wr.cell? ⟨w.heap.size,4,none⟩=_:=hb.cell 4;simp at c4
         have Hb:=qH hb;have Hrow:=qH hrow;have Hbw:=qH hbw;clear hb hrow hbw
         go_wp2_with (at_builtin;refine wpList_append_newAt rfl (.tmp 49) (.tmp 51) _ rfl (w.heap.size+1) 3 i0 _ 1 8 Tryz.underlying34 hi hz0 hz1 hz2 rfl (by decide) (.slice Ak k ck) k _ rfl Hrow.out 1 1 wr.heap.size rfl [.int .i64 b0] rfl rfl (by simp [Value.oneCell']) (by unfold maxLen;omega) (by omega) hlt ?_;intro v5 w5 hown5 hbw5 hgr5 hwh5;obtain ⟨A5,c5,rfl⟩:=ownsRow_slice hown5;have hb5:=Hb.out.below hbw5 (Nat.lt_succ_self _);have k4:w5.cell? ⟨w.heap.size,4,none⟩=some (.slice Ak k ck):=hb5.cell 4;have kf:=hb5.frozen 4;have kl:=hb5.lt;have Hb5:=qH hb5;have Hown5:=qH hown5;have Hbw5:=qH (Hbw.out.trans (hbw5.mono (Nat.le_succ _)));clear hown5 hbw5 hgr5 hwh5 hb5)
         go_roundw
         case rel =>
          refine ⟨k+1,by omega,by go_num,.slice A5 (k+1) c5,?_,?_,?_⟩;rotate_left
          ·have:=own_keeps (w':=w5.setCell ⟨w.heap.size,4,none⟩ (.slice A5 (k+1) c5)) Hown5.out (Keeps.set1 w5 w.heap.size 4 _) (fun i hi e=>by omega)
           rw [List.replicate_succ',List.map_append];exact this
          ·exact Hbw5.out.setCell (p:=⟨w.heap.size,4,none⟩) (Nat.le_refl _) _
          ·have:=Hb5.out.set_ 4 (.slice A5 (k+1) c5)
           simpa using this
         case measure=>simp [intOf];omega
        ·obtain rfl:m=k:=by omega
         have d7:decide ((m:Int)<(m:Int))=false:=by simp
         have hn4:=HN0.out;obtain ⟨k0,c0,e0,hk0,hk0s⟩:=hrow.form (by omega);injection e0 with e0 _ e1;subst e0 e1
         have hF:FeedF wr (fun i=>w.heap.size≤i∧i<wr.heap.size) w.heap.size a m b0 [] (List.replicate m (b0:Int)) (.slice none 0 0) k0 ck :=
          ⟨by simpa using hb,OW.none _ _ _,by simpa using hrow,⟨Nat.le_refl _,hlt⟩,⟨by omega,hk0s⟩,by simp,by omega,by omega,by omega,by simp;omega,fun i hi=>hi.2,fun k hk=>by rw [List.eq_of_mem_replicate hk];omega⟩
         have HS:=qH (show FeedS wr (fun i=>w.heap.size≤i∧i<wr.heap.size) w.heap.size a m b0 [] (List.replicate m (b0:Int)) from ⟨[],_,k0,ck,rfl,hF⟩);have Hbw:=qH hbw;clear hF hrow hb hbw hn4;obtain ⟨wo,rfl⟩:∃ wo:World,wo=wr:=⟨_,rfl⟩;obtain ⟨q,hq⟩:∃ q,L.length=q:=⟨_,rfl⟩;rw [hq] at hfew hlc Hr ⊢;have Hq:=qH hq;clear hq;go_wp2_with fail
         go_loopw [12,58] (fun _ i wr'=>∃ k:Nat,k≤q∧i=.int .i64 k∧∃ S acc,FeedS wr' S w.heap.size a m b0 acc (List.replicate m (b0:Int))∧addAll a b0 acc (L.drop k)=addAll a b0 [] L∧acc.length≤k∧(∀ i,S i→w.heap.size≤i)∧Below w.heap.size w wr') (fun _ i _=>q-(intOf i).toNat)
         case atStart=>exact ⟨0,by omega,rfl,_,[],HS.out,rfl,by simp,fun i hi=>hi.1,Hbw.out⟩
         case round =>
          clear HS Hbw;obtain ⟨k,hk,rfl,S,acc,hS,hacc,hal,hSw,hbw⟩:=hrel;have hsz:=hbw.size
          by_cases hkq:k<q
          ·have hmlt:k<L.length:=by rw [Hq.out];exact hkq
           obtain ⟨b,off,rfl,hbb⟩:=Hr.out.at_some (by omega);have hnx:=Hn.out L[k] (List.getElem_mem hmlt);have hdr:L.drop k=L[k] :: L.drop (k+1):=List.drop_eq_getElem_cons hmlt;rw [hdr] at hacc
           have hcell:∀ j v,(L[k]).cells[j]?=some v→wr.cell? ⟨b,off+k*10+j,none⟩=some v:=fun j v hj=>by
            have hj2:j<10:=by
             rcases Nat.lt_or_ge j 10 with h|h
             ·exact h
             ·rw [List.getElem?_eq_none (by rw [Wr.len];exact h)] at hj;cases hj
            exact (Reads.thing Wr.cells Wr.len (Hr.out.below hbw) (k:=k) (x:=L[k]) hkq (List.getElem?_eq_getElem hmlt) j hj2).trans hj
           generalize L[k]=x at *;have hnx1:=(hnx.1.below hbw).more hsz;obtain ⟨r,n1,t,s,d,zs,se,kk,v,g,l⟩:=x;have hz6:=hnx.2;dsimp only at hnx1 hz6;have Hnx:=qH hnx1;have Hacc:=qH hacc;have Hcell:=qH hcell;have HS:=qH hS;have Hbw:=qH hbw;clear hnx hnx1 hacc hcell hS hbw hdr
           go_wp2_with (first|(refine wpList_load_at rfl 188 (.tmp 60) rfl b (off+k*10) (Wr.cells ⟨r,n1,t,s,d,zs,se,kk,v,g,l⟩) rfl Tryz.underlying188 rfl (by kernel_rfl) Hcell.out ?_)|(refine wpList_store_blk rfl 188 (.tmp 12) (.tmp 61) rfl wr.heap.size (Wr.cells ⟨r,n1,t,s,d,zs,se,kk,v,g,l⟩) rfl rfl (Blk.new wr 188 #[.int .i64 0,.int .i64 0,.int .i64 0,.int .i64 0,.slice none 0 0,.string ⟨#[]⟩,.string ⟨#[]⟩,.string ⟨#[]⟩,.bool false,.int .i64 0]) (by kernel_rfl) rfl (oneAll ⟨r,n1,t,s,d,zs,se,kk,v,g,l⟩ (nums_one Hnx.out)) ?_;intro w9 ho9 hk9 hs9)|(refine wpList_load_at rfl 188 (.tmp 12) rfl wr.heap.size 0 (Wr.cells ⟨r,n1,t,s,d,zs,se,kk,v,g,l⟩) rfl Tryz.underlying188 rfl (by kernel_rfl) (fun j v hj=>by rw [Nat.zero_add,ho9.cell j];simpa using hj) ?_))
           have hb9:Below wr.heap.size wr w9:=(below_new wr (.cells #[.int .i64 0,.int .i64 0,.int .i64 0,.int .i64 0,.slice none 0 0,.string ⟨#[]⟩,.string ⟨#[]⟩,.string ⟨#[]⟩,.bool false,.int .i64 0] 188)).trans (hk9.below (fun i hi e=>by omega) (by simp));have hs9':=hb9.size;have Hnx9:=qH ((Hnx.out.below hb9).more hs9');have HS9:=qH (HS.out.below hb9);have Hb9:=qH (Hbw.out.trans (hb9.mono hsz));clear ho9 hk9 hb9 Hnx HS Hbw Hcell;refine (add_any ⟨r,n1,t,s,d,zs,se,kk,v,g,l⟩ HS9.out Hnx9.out hz6 (by omega)).mono ?_;rintro e w10 ⟨v10,S10,rfl,heo,hnew,hS10,hk10,hs10⟩;have hb10:=Hb9.out.trans (hk10.below (B:=w.heap.size) (fun i hi e=>by have:=hSw i e;omega) Hb9.out.size)
           rcases heo with ⟨hc0,rfl⟩|⟨hc0,herr,hvn⟩
           ·have HA:=qH (show addAll a b0 (acc++[(⟨r,n1,t,s,d,zs,se,kk,v,g,l⟩:Wr).abs]) (L.drop (k+1))=addAll a b0 [] L by
             rw [←Hacc.out];show _=(if addC a b0 acc _=0 then _ else _);rw [if_pos hc0])
            have HS10:=qH (show FeedS w10 S10 w.heap.size a m b0 (acc++[(⟨r,n1,t,s,d,zs,se,kk,v,g,l⟩:Wr).abs]) (List.replicate m (b0:Int)) by
             unfold addL at hS10
             rwa [if_pos hc0] at hS10)
            have Hb10:=qH hb10;have hS11:∀ i,S10 i→w.heap.size≤i:=fun i hi=>(hs10 i hi).elim (hSw i) (fun h=>by have:=Hb9.out.size;omega);clear hS10 hk10 hs10 hb10 hnew;go_wp2_with fail;go_roundw
            case rel=>exact ⟨k+1,by omega,by go_num,S10,_,HS10.out,HA.out,by simp;omega,hS11,Hb10.out⟩
            case measure=>simp [intOf];omega
           ·obtain ⟨ge,rfl⟩:=herr.form
            have HA:=qH (show newL (a:Int) (m:Int) (b0:Int) L=none by
             rw [HQ.out,←Hacc.out];show (if addC a b0 acc _=0 then _ else _)=_;rw [if_neg hc0])
            have Hb10:=qH hb10;clear hS10 hk10 hs10 hb10 hnew herr hvn;go_wp2_with fail;refine (bad_any _ _ _).mono ?_;rintro e w11 ⟨v1,rfl,h1,h2,h3,h4⟩;have HR:=qH (show NewR a m b0 L w (.returned (.tuple #[.pointer none,v1])) w11 from .inr ⟨HA.out,new_no Hb10.out ⟨v1,rfl,h1,h2,h3,h4⟩⟩);clear h1 h2 h3 h4;go_wp2;exact bodyPost_ret (v:=.tuple #[.pointer none,v1]) (by simp [results,Tryz.results91,go_sem]) rfl HR.out
          ·obtain rfl:q=k:=by omega
           have hde:L.drop q=[]:=List.drop_eq_nil_of_le (by rw [Hq.out];omega);rw [hde] at hacc;have HR:=qH (show NewR a m b0 L w (.returned (.tuple #[.pointer (some ⟨w.heap.size,0,none⟩),.nilIface])) wr from .inl ⟨acc,HQ.out.trans hacc.symm,w.heap.size,S,rfl,hS,hSw,hbw⟩);clear hS hacc hbw hde;go_wp2;exact bodyPost_ret (v:=.tuple #[.pointer (some ⟨w.heap.size,0,none⟩),.nilIface]) (by simp [results,Tryz.results91,go_sem]) rfl HR.out
end feed
end Go.Proofs.YthlahcnglacekaaGreatDoor
