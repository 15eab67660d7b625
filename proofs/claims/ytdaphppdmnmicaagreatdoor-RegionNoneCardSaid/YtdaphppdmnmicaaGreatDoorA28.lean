/- A part of the proof of RegionNone: Some, Feed, Add, Batch, SomeD. -/
import Derived.Test.YtdaphppdmnmicaaGreatDoorA14
import Derived.Test.YtdaphppdmnmicaaGreatDoorA01
namespace Go.Proofs.YtdaphppdmnmicaaGreatDoor.wire
open Go.RowKit base rowe err
def since (w w':World):Nat→Prop:=fun i=>w.heap.size≤i∧i < w'.heap.size
theorem OW.sinceS {w w':World} {lo:Nat} {v:Value} {L:List Wr} {S:Nat→Prop} (h:OW w' S lo v L) (hlo:w.heap.size≤lo):OW w' (since w w') lo v L :=
 ⟨h.row,h.few,h.nums,fun i hi=>by have:=h.row.lt _ hi;exact ⟨by omega,this.2⟩,fun x hx i hi=>by have:=(h.nums x hx).1.lt _ hi;exact ⟨by omega,this.2⟩⟩
def SomeR (L:List Wr) (w:World) (e:Ending) (w':World):Prop:=(∃ v L',e=.returned v∧L'.map Wr.abs=L.map Wr.abs∧OW w' (since w w') w.heap.size v L')∧Below w.heap.size w w'
end Go.Proofs.YtdaphppdmnmicaaGreatDoor.wire
namespace Go.Proofs.YtdaphppdmnmicaaGreatDoor.feed
open Go.RowKit base rowe err wire
structure FeedF (w:World) (S:Nat→Prop) (g rg nn bs:Nat) (L':List Wr) (K:List Int) (vw:Value) (k0 ck:Nat):Prop where
 blk:Blk w g 302 #[.int .i64 rg,.int .i64 nn,.int .i64 bs,vw,.slice (some ⟨k0,0,none⟩) K.length ck]
 ow:OW w S (k0 + 1) vw L'
 know:w.ownsRow (g + 1) 3 1 (.slice (some ⟨k0,0,none⟩) K.length ck) K.length (K.map (Value.int .i64))
 inG:S g
 inK:S k0
 klen:K.length=nn
 r0:1≤rg
 r1:rg≤nn
 n1:nn≤16
 last:bs + L'.length≤1099511627776
 small:∀ i,S i→i < w.heap.size
 kb:∀ k ∈ K,0≤k∧k≤1099511627776
def FeedS (w:World) (S:Nat→Prop) (g rg nn bs:Nat) (L:List Wr) (K:List Int):Prop:=∃ L' vw k0 ck,L'.map Wr.abs=L∧FeedF w S g rg nn bs L' K vw k0 ck
theorem ow_keeps' {X:Nat→Prop} {w w':World} {base:Nat} {e:TypeId} {size n:Nat} {v:Value} {xs:List Value} (h:w.ownsRow base e size v n xs) (hk:Keeps X w w') (hx:∀ g,v.ownBlock=some g→¬ X g):w'.ownsRow base e size v n xs:=by
 refine ⟨h.1,h.2.imp id ?_⟩
 rintro ⟨g,cap,cur,rfl,h1,h2,h3⟩
 exact ⟨g,cap,cur,rfl,h1,(hk.block g (heap_lt h2) (hx g rfl)).trans h2,h3⟩
theorem FeedF.keeps {X S:Nat→Prop} {w w':World} {g rg nn bs:Nat} {L':List Wr} {K:List Int} {vw:Value} {k0 ck:Nat} (h:FeedF w S g rg nn bs L' K vw k0 ck) (hk:Keeps X w w') (hx:∀ i,S i→¬ X i):FeedF w' S g rg nn bs L' K vw k0 ck :=
 ⟨h.blk.keeps hk (hx g h.inG),h.ow.keeps hk hx,ow_keeps' h.know hk (fun i hi=>by injection hi with hi;subst hi;exact hx k0 h.inK),h.inG,h.inK,h.klen,h.r0,h.r1,h.n1,h.last,fun i hi=>Nat.lt_of_lt_of_le (h.small i hi) hk.size,h.kb⟩
theorem FeedF.k0lt {S:Nat→Prop} {w:World} {g rg nn bs:Nat} {L':List Wr} {K:List Int} {vw:Value} {k0 ck:Nat} (h:FeedF w S g rg nn bs L' K vw k0 ck):g < k0:=by
 have:=(h.know.lt k0 rfl).1;omega
theorem FeedS.keeps {X S:Nat→Prop} {w w':World} {g rg nn bs:Nat} {L:List Wr} {K:List Int} (h:FeedS w S g rg nn bs L K) (hk:Keeps X w w') (hx:∀ i,S i→¬ X i):FeedS w' S g rg nn bs L K:=by
 obtain ⟨L',vw,k0,ck,h1,h2⟩:=h
 exact ⟨L',vw,k0,ck,h1,h2.keeps hk hx⟩
theorem FeedS.below {S:Nat→Prop} {w w':World} {g rg nn bs:Nat} {L:List Wr} {K:List Int} (h:FeedS w S g rg nn bs L K) (hk:Below w.heap.size w w'):FeedS w' S g rg nn bs L K:=h.keeps (X:=nobody) (.of_below hk) (fun _ _ h=>h)
theorem _root_.Go.Proofs.YtdaphppdmnmicaaGreatDoor.wire.OW.keepsLo {X S:Nat→Prop} {w w':World} {lo:Nat} {v:Value} {L:List Wr} (h:OW w S lo v L) (hk:Keeps X w w') (hx:∀ i,lo≤i→¬ X i):OW w' S lo v L :=
 ⟨ow_keeps' h.row hk (fun i hi=>hx i (h.row.lt _ hi).1),h.few,fun x hx'=>(h.nums x hx').keeps hk (fun i hi=>hx i ((h.nums x hx').1.lt _ hi).1),h.inS,h.numS⟩
section
variable {S:Nat→Prop} {w:World} {g rg nn bs:Nat} {L:List Wr} {K:List Int}
theorem last_any (h:FeedS w S g rg nn bs L K):Calls Tryz.prog 94 #[.pointer (some ⟨g,0,none⟩)] w fun e w'=>e=.returned (.int .i64 (bs + L.length:Nat))∧Below w.heap.size w w':=by
 obtain ⟨L',vw,k0,ck,rfl,h⟩:=h
 obtain ⟨A,c,rfl⟩:=ownsRow_slice h.ow.row
 have c2:w.cell? ⟨g,2,none⟩=_:=h.blk.cell 2
 have c3:w.cell? ⟨g,3,none⟩=_:=h.blk.cell 3
 have hlt:=h.blk.lt
 have hl:=h.last
 simp at c2 c3
 rw [List.length_map]
 have hw:=IntWalk.i64_in ((bs:Int) + (L'.length:Nat)) (by omega)
 clear h
 go_enter Tryz.func94,Tryz.ntmps94
 go_wp2
 refine wp_region_mono nobody (by kernel_rfl) ?_
 iterate 11
  first|refine qT 0 (v:=?_) ?_ ?_|refine qT 1 (v:=?_) ?_ ?_|refine qT 2 (v:=?_) ?_ ?_|refine qT 3 (v:=?_) ?_ ?_|refine qT 4 (v:=?_) ?_ ?_|refine qT 5 (v:=?_) ?_ ?_|refine qT 6 (v:=?_) ?_ ?_|refine qT 7 (v:=?_) ?_ ?_|refine qT 8 (v:=?_) ?_ ?_|refine qT 9 (v:=?_) ?_ ?_|refine qT 10 (v:=?_) ?_ ?_
  rotate_left
  ·(intro W hSw;(have hcW:=hSw.cells;try simp only [qSd] at hcW);go_simp <;> rfl)
  try simp only [qPA]
 refine wpMono_done (by kernel_rfl) ?_ _
 go_wp2
 go_ret
 exact ⟨by go_num,(Below.refl _ _).drew⟩
def isB (rg nn:Nat) (p:Int):Bool:=decide (1≤p) && (decide (p≤nn) && !(p == rg))
end
end Go.Proofs.YtdaphppdmnmicaaGreatDoor.feed
namespace Go.Proofs.YtdaphppdmnmicaaGreatDoor.feed
open Go.RowKit base rowe err wire monoj
theorem bad_any (n c:Int) (w:World):Calls Tryz.prog 175 #[.int .i64 n,.int .i64 c] w (ErrNew c w):=by
 go_enter Tryz.func175,Tryz.ntmps175
 go_wp2_with fail
 refine (Go.Proofs.YtdaphppdmnmicaaGreatDoor.err.at_any _ _ _ _).mono ?_
 rintro e w1 ⟨v,rfl,h1,h2,h3,h4⟩
 have HR:=Lib.hid (show ErrNew c w (.returned v) w1 from ⟨v,rfl,h1,h2,h3,h4⟩)
 clear h1 h2 h3 h4
 go_wp2
 go_ret
 exact HR.out
theorem cells10 {w:World} {g:Nat} {t:TypeId} {a0 a1 a2 a3 a4 a5 a6 a7 a8 a9:Value} (h:Blk w g t #[a0,a1,a2,a3,a4,a5,a6,a7,a8,a9]) :
  w.cell? ⟨g,0,none⟩=some a0∧w.cell? ⟨g,1,none⟩=some a1∧w.cell? ⟨g,2,none⟩=some a2∧w.cell? ⟨g,3,none⟩=some a3∧w.cell? ⟨g,4,none⟩=some a4∧w.cell? ⟨g,5,none⟩=some a5∧w.cell? ⟨g,6,none⟩=some a6∧w.cell? ⟨g,7,none⟩=some a7∧w.cell? ⟨g,8,none⟩=some a8∧w.cell? ⟨g,9,none⟩=some a9 :=
 ⟨h.cell 0,h.cell 1,h.cell 2,h.cell 3,h.cell 4,h.cell 5,h.cell 6,h.cell 7,h.cell 8,h.cell 9⟩
theorem FeedF.push {S:Nat→Prop} {w w4:World} {g rg nn bs:Nat} {L':List Wr} {K:List Int} {vw v4:Value} {k0 ck:Nat} (h:FeedF w S g rg nn bs L' K vw k0 ck) {x:Wr} {B:Nat} (hd:NumsO w B x.d x.z) (hB:k0 + 1≤B)
  (hrow:w4.ownsRow (k0 + 1) 34 10 v4 (L'.length + 1) (L'.flatMap Wr.cells ++ x.cells)) (hg:w.grownBy w4 vw.ownBlock) (hv:v4.ownBlock=vw.ownBlock ∨ ∃ i,v4.ownBlock=some i∧B≤i) (hl:L'.length < 1000000) (hlast:bs + (L'.length + 1)≤1099511627776) :
  FeedF (w4.setCell ⟨g,3,none⟩ v4) (fun i=>(S i ∨ B≤i)∧i < w4.heap.size) g rg nn bs (L' ++ [x]) K v4 k0 ck:=by
 have hlt:=h.k0lt
 have hsz:w.heap.size≤w4.heap.size:=hg.size
 have hS:∀ i,S i→(S i ∨ B≤i)∧i < w4.heap.size:=fun i hi=>⟨.inl hi,Nat.lt_of_lt_of_le (h.small i hi) hsz⟩
 have hk:Keeps (fun i=>vw.ownBlock=some i) w w4:=.grown hg fun i hi=>.inl hi
 have hvw:∀ i,vw.ownBlock=some i→k0 + 1≤i:=fun i hi=>(h.ow.row.lt i hi).1
 have how:=((h.ow.more (S':=fun i=>(S i ∨ B≤i)∧i < w4.heap.size) hS).push (x:=x) (hd.base hB) (fun i hi=>⟨.inr (hd.1.lt _ hi).1,Nat.lt_of_lt_of_le (hd.1.lt _ hi).2 hsz⟩) hrow hg (hv.imp id fun ⟨i,h1,h2⟩=>⟨i,h1,.inr h2,(hrow.lt _ h1).2⟩) hl)
 refine ⟨?_,how.keepsLo (Keeps.set1 w4 g 3 v4) (fun i hi e=>by omega),?_,hS g h.inG,hS k0 h.inK,h.klen,h.r0,h.r1,h.n1,by simpa [Nat.add_assoc] using hlast,fun i hi=>by simpa using hi.2,h.kb⟩
 ·have:=(h.blk.keeps hk (fun hi=>by have:=hvw g hi;omega)).set_ 3 v4
  simpa using this
 ·exact ow_keeps' (ow_keeps' h.know hk (fun i hi hi2=>by injection hi with hi;have:=hvw i hi2;simp at hi;omega)) (Keeps.set1 w4 g 3 v4) (fun i hi e=>by injection hi with hi;simp at hi;omega)
theorem _root_.Go.Proofs.YtdaphppdmnmicaaGreatDoor.wire.Nums.drew' {w:World} {d:Value} {zs:List Int} (h:Nums w w.heap.size d zs):Nums w.drew w.drew.heap.size d zs:=h
def addC (rg bs:Nat) (L:List Wr) (x:Wr):Int:=if (rightB x && (x.r == rg))=false then 1 else if x.n=(bs + L.length + 1:Nat) then 0 else 15
def addL (rg bs:Nat) (L:List Wr) (x:Wr):List Wr:=if addC rg bs L x=0 then L ++ [x.abs] else L
def AddR (S:Nat→Prop) (g rg nn bs:Nat) (L:List Wr) (K:List Int) (x:Wr) (w:World) (e:Ending) (w':World):Prop :=
 ∃ v S',e=.returned v∧EO w' v (addC rg bs L x)∧(∀ i,v=.iface 167 (.pointer (some ⟨i,0,none⟩))→w.heap.size≤i)∧FeedS w' S' g rg nn bs (addL rg bs L x) K∧Keeps S w w'∧(∀ i,S' i→S i ∨ w.heap.size≤i)
theorem add_bad {S:Nat→Prop} {g rg nn bs:Nat} {L:List Wr} {K:List Int} {x:Wr} {w w1 w2:World} {c:Int} {v:Value} (h:FeedS w S g rg nn bs L K) (hb:Below w.heap.size w w1) (hc:addC rg bs L x=c) (hc0:c ≠ 0) (he:ErrNew c w1 (.returned v) w2):AddR S g rg nn bs L K x w (.returned v) w2:=by
 obtain ⟨v',e,h1,h2,h3,h4⟩:=he
 injection e with e
 subst e
 have hb2:=hb.trans (h3.mono hb.size)
 refine ⟨v,S,rfl,?_,fun i hi=>Nat.le_trans hb.size (h4 i hi),?_,.of_below hb2,fun i hi=>.inl hi⟩
 ·rw [hc];exact .inr ⟨hc0,h1,h2⟩
 ·unfold addL;rw [hc,if_neg hc0];exact h.below hb2
theorem FeedS.drew {S:Nat→Prop} {w:World} {g rg nn bs:Nat} {L:List Wr} {K:List Int} (h:FeedS w S g rg nn bs L K):FeedS w.drew S g rg nn bs L K:=h.keeps (X:=nobody) Keeps.drew (fun _ _ h=>h)
set_option maxRecDepth 100000 in
set_option maxHeartbeats 2000000 in
theorem add_any {S:Nat→Prop} {w:World} {g rg nn bs:Nat} {L:List Wr} {K:List Int} (x:Wr) (h:FeedS w S g rg nn bs L K) (hd:Nums w w.heap.size x.d x.z) (hz6:x.z.length≤1000000) (hL:L.length < 1000000) :
  Calls Tryz.prog 176 #[.pointer (some ⟨g,0,none⟩),.agg ⟨x.cells⟩] w (AddR S g rg nn bs L K x w):=by
 have H:=Lib.hid h
 obtain ⟨i0,hi0,hz⟩:=Option.map_eq_some_iff.1 write_info
 simp only [Prod.mk.injEq] at hz
 obtain ⟨hz0,hz1,hz2⟩:=hz
 obtain ⟨L',vw,k0,ck,hLL,hf⟩:=h
 have hx0:=Blk.new w 34 x.cells.toArray
 have hb0:=below_new w (.cells x.cells.toArray 34)
 have HD:=Lib.hid ((hd.below hb0).more hb0.size)
 have HX0:=Lib.hid hx0
 have HB0:=Lib.hid hb0
 have HF:=Lib.hid hf
 have hglt:=hf.blk.lt
 clear hd hx0 hb0 hf
 obtain ⟨r,n,t,s,d,zs,se,k,v,gn,l⟩:=x
 unfold Wr.cells at *
 dsimp only at *
 go_enter Tryz.func176,Tryz.ntmps176
 go_wp2_with fail
 refine (encode_any ⟨r,n,t,s,d,zs,se,k,v,gn,l⟩ _ HD.out).mono ?_
 rintro e w1 ⟨⟨sb,ve,rfl,hcase⟩,hb1⟩
 have hx:=HX0.out.below hb1 (by simp)
 have hbb:=HB0.out.trans (hb1.mono HB0.out.size)
 have hf1:=HF.out.keeps (X:=nobody) (.of_below hbb) (fun _ _ h=>h)
 have hd1:=(HD.out.below hb1).more hb1.size
 have hxlt:w.heap.size < w1.heap.size:=hx.lt
 have HX:=Lib.hid hx
 have HB:=Lib.hid hbb
 have HG:=Lib.hid hf1.blk
 have HF1:=Lib.hid hf1
 have HD1:=Lib.hid hd1
 clear hx hbb hf1 hd1 hb1 HX0 HB0 HD HF
 have c1:w1.cell? ⟨w.heap.size,1,none⟩=_:=HX.out.cell 1
 have c0:w1.cell? ⟨w.heap.size,0,none⟩=_:=HX.out.cell 0
 have f0:w1.cell? ⟨g,0,none⟩=_:=HG.out.cell 0
 have hglt1:=HG.out.lt
 simp at c0 c1 f0
 rcases hcase with ⟨hrt,rfl⟩|⟨hrt,ge,rfl⟩
 ·cases hr:(r == (rg:Int)) with
  | false =>
   have hcode:addC rg bs L ⟨r,n,t,s,d,zs,se,k,v,gn,l⟩=1:=by unfold addC;rw [hrt];dsimp only;rw [hr];rfl
   have dr:(r != (rg:Int))=true:=by unfold bne;rw [hr];rfl
   have Hrt:=Lib.hid hrt
   have Hcode:=Lib.hid hcode
   clear hrt hcode
   go_wp2_with fail
   refine wp_region_mono nobody (by kernel_rfl) ?_
   iterate 12
    first|refine qT 0 (v:=?_) ?_ ?_|refine qT 1 (v:=?_) ?_ ?_|refine qT 2 (v:=?_) ?_ ?_|refine qT 3 (v:=?_) ?_ ?_|refine qT 4 (v:=?_) ?_ ?_|refine qT 5 (v:=?_) ?_ ?_|refine qT 6 (v:=?_) ?_ ?_|refine qT 7 (v:=?_) ?_ ?_|refine qT 8 (v:=?_) ?_ ?_|refine qT 9 (v:=?_) ?_ ?_|refine qT 10 (v:=?_) ?_ ?_|refine qT 11 (v:=?_) ?_ ?_
    rotate_left
    ·(intro W hSw;(have hcW:=hSw.cells;try simp only [qSd] at hcW);go_simp <;> rfl)
    try simp only [qPA]
   refine wpMono_done (by kernel_rfl) ?_ _
   go_wp2_with fail
   refine (bad_any _ _ _).mono ?_
   rintro e w2 ⟨v,rfl,h1,h2,h3,h4⟩
   have HR:=Lib.hid (add_bad H.out HB.out.drew Hcode.out (by decide) ⟨v,rfl,h1,h2,h3,h4⟩)
   clear h1 h2 h3 h4
   go_wp2
   go_ret
   exact HR.out
  | true =>
   have dr:(r != (rg:Int))=false:=by unfold bne;rw [hr];rfl
   have hlast:=HF1.out.last
   have H1:=Lib.hid (show FeedS w1 S g rg nn bs L K from ⟨L',vw,k0,ck,hLL,HF1.out⟩)
   have hL2:L'.length=L.length:=by rw [← hLL,List.length_map]
   have hw:=IntWalk.i64_in ((bs:Int) + (L.length:Nat) + 1) (by omega)
   cases hn:(n == (bs:Int) + (L.length:Nat) + 1) with
   | false =>
    have hcode:addC rg bs L ⟨r,n,t,s,d,zs,se,k,v,gn,l⟩=15:=by
     unfold addC;rw [hrt];dsimp only;rw [hr,if_neg (by decide),if_neg (by simp at hn;omega)]
    have dn:(n != (bs:Int) + (L.length:Nat) + 1)=true:=by unfold bne;rw [hn];rfl
    have Hrt:=Lib.hid hrt
    have Hcode:=Lib.hid hcode
    clear hrt hcode
    go_wp2_with fail
    refine wp_region_mono nobody (by kernel_rfl) ?_
    iterate 12
     first|refine qT 0 (v:=?_) ?_ ?_|refine qT 1 (v:=?_) ?_ ?_|refine qT 2 (v:=?_) ?_ ?_|refine qT 3 (v:=?_) ?_ ?_|refine qT 4 (v:=?_) ?_ ?_|refine qT 5 (v:=?_) ?_ ?_|refine qT 6 (v:=?_) ?_ ?_|refine qT 7 (v:=?_) ?_ ?_|refine qT 8 (v:=?_) ?_ ?_|refine qT 9 (v:=?_) ?_ ?_|refine qT 10 (v:=?_) ?_ ?_|refine qT 11 (v:=?_) ?_ ?_
     rotate_left
     ·(intro W hSw;(have hcW:=hSw.cells;try simp only [qSd] at hcW);go_simp <;> rfl)
     try simp only [qPA]
    refine wpMono_done (by kernel_rfl) ?_ _
    go_wp2_with fail
    refine wp_region_mono nobody (by kernel_rfl) ?_
    iterate 3
     first|refine qT 0 (v:=?_) ?_ ?_|refine qT 1 (v:=?_) ?_ ?_|refine qT 2 (v:=?_) ?_ ?_
     rotate_left
     ·(intro W hSw;(have hcW:=hSw.cells;try simp only [qSd] at hcW);go_simp <;> rfl)
     try simp only [qPA]
    refine wpMono_one' 3 (by kernel_rfl) rfl (by rfl) (fun K hK=>?_)
    go_simp
    refine (last_any H1.out.drew.drew).mono ?_
    rintro e w2 ⟨rfl,hb2⟩
    refine hK.out _ _ ?_ ?_
    ·exact .of_below hb2
    clear hK K
    try simp only [qPA]
    iterate 3
     first|refine qT 4 (v:=?_) ?_ ?_|refine qT 5 (v:=?_) ?_ ?_|refine qT 6 (v:=?_) ?_ ?_
     rotate_left
     ·(intro W hSw;(have hcW:=hSw.cells;try simp only [qSd] at hcW);go_simp <;> rfl)
     try simp only [qPA]
    refine wpMono_done (by kernel_rfl) ?_ _
    have hx2:=HX.out.drew.drew.below hb2 hxlt
    have k1:w2.cell? ⟨w.heap.size,1,none⟩=_:=hx2.cell 1
    have kl:=hx2.lt
    simp at k1
    go_wp2_with fail
    refine (bad_any _ _ _).mono ?_
    rintro e w3 ⟨v,rfl,h1,h2,h3,h4⟩
    have HR:=Lib.hid (add_bad H.out (HB.out.drew.drew.trans (hb2.mono HB.out.size)) Hcode.out (by decide) ⟨v,rfl,h1,h2,h3,h4⟩)
    clear h1 h2 h3 h4 hb2
    go_wp2
    go_ret
    exact HR.out
   | true =>
    have dn:(n != (bs:Int) + (L.length:Nat) + 1)=false:=by unfold bne;rw [hn];rfl
    have hnn:n=(bs:Int) + (L.length:Nat) + 1:=by simpa using hn
    have hcode:addC rg bs L ⟨r,n,t,s,d,zs,se,k,v,gn,l⟩=0:=by
     unfold addC;rw [hrt];dsimp only;rw [hr,if_neg (by decide),if_pos (by omega)]
    have hn2:=(right_parts hrt).n1
    dsimp only at hn2
    have Hlast2:=Lib.hid (show bs + (L'.length + 1)≤1099511627776 by omega)
    have Hrt:=Lib.hid hrt
    have Hcode:=Lib.hid hcode
    have Hnn:=Lib.hid hnn
    have Hn2:=Lib.hid hn2
    clear hrt hcode hnn hn2
    go_wp2_with fail
    refine wp_region_mono nobody (by kernel_rfl) ?_
    iterate 12
     first|refine qT 0 (v:=?_) ?_ ?_|refine qT 1 (v:=?_) ?_ ?_|refine qT 2 (v:=?_) ?_ ?_|refine qT 3 (v:=?_) ?_ ?_|refine qT 4 (v:=?_) ?_ ?_|refine qT 5 (v:=?_) ?_ ?_|refine qT 6 (v:=?_) ?_ ?_|refine qT 7 (v:=?_) ?_ ?_|refine qT 8 (v:=?_) ?_ ?_|refine qT 9 (v:=?_) ?_ ?_|refine qT 10 (v:=?_) ?_ ?_|refine qT 11 (v:=?_) ?_ ?_
     rotate_left
     ·(intro W hSw;(have hcW:=hSw.cells;try simp only [qSd] at hcW);go_simp <;> rfl)
     try simp only [qPA]
    refine wpMono_done (by kernel_rfl) ?_ _
    go_wp2_with fail
    refine wp_region_mono nobody (by kernel_rfl) ?_
    iterate 3
     first|refine qT 0 (v:=?_) ?_ ?_|refine qT 1 (v:=?_) ?_ ?_|refine qT 2 (v:=?_) ?_ ?_
     rotate_left
     ·(intro W hSw;(have hcW:=hSw.cells;try simp only [qSd] at hcW);go_simp <;> rfl)
     try simp only [qPA]
    refine wpMono_one' 3 (by kernel_rfl) rfl (by rfl) (fun K hK=>?_)
    go_simp
    refine (last_any H1.out.drew.drew).mono ?_
    rintro e w2 ⟨rfl,hb2⟩
    refine hK.out _ _ ?_ ?_
    ·exact .of_below hb2
    clear hK K
    try simp only [qPA]
    iterate 3
     first|refine qT 4 (v:=?_) ?_ ?_|refine qT 5 (v:=?_) ?_ ?_|refine qT 6 (v:=?_) ?_ ?_
     rotate_left
     ·(intro W hSw;(have hcW:=hSw.cells;try simp only [qSd] at hcW);go_simp <;> rfl)
     try simp only [qPA]
    refine wpMono_done (by kernel_rfl) ?_ _
    have HX2:=Lib.hid (HX.out.drew.drew.below hb2 hxlt)
    have HF2:=Lib.hid (HF1.out.keeps (X:=nobody) (Keeps.drew.trans (Keeps.drew.trans (.of_below hb2))) (fun _ _ h=>h))
    have HD2:=Lib.hid (((HD1.out.keep (fun b o hb=>rfl:∀ b o,b < w1.heap.size→w1.drew.drew.cell? ⟨b,o,none⟩=w1.cell? ⟨b,o,none⟩)).below hb2).more hb2.size)
    have HB2:=Lib.hid (HB.out.drew.drew.trans (hb2.mono HB.out.size))
    clear hb2 hlast
    obtain ⟨A,cw,rfl⟩:=ownsRow_slice HF2.out.ow.row
    have g3:w2.cell? ⟨g,3,none⟩=_:=HF2.out.blk.cell 3
    have hgl2:=HF2.out.blk.lt
    have hxl2:=HX2.out.lt
    obtain ⟨e0,e1,e2,e3,e4,e5,e6,e7,e8,e9⟩:=cells10 HX2.out
    simp at g3
    have hgx:w.heap.size ≠ g:=by omega
    go_wp2_with fail
    refine wp_region_monoJ (fun _=>True) [8,11] (by kernel_rfl) ?_
    iterate 4
     first|refine qJ 0 (v:=?_) ?_ ?_|refine qJ 1 (v:=?_) ?_ ?_|refine qJ 2 (v:=?_) ?_ ?_|refine qJ 3 (v:=?_) ?_ ?_
     rotate_left
     ·(intro W hSw;(try (have hcW:=hSw.cells;try simp only [qSd] at hcW));go_simp <;> rfl)
     try simp only [qPA]
    refine wpMonoJ_read' 4 [8,9,10,11] (v:=?_) rfl (by kernel_rfl) (by kernel_rfl) (by kernel_rfl) (by rfl) (by kernel_rfl) (by rfl) (fun _ _ _ h=>h) (by rfl) ?_ ?_
    rotate_left
    ·(intro W hSw;(try (have hcW:=hSw.cells;try simp only [qSd] at hcW));go_simp <;> rfl)
    try simp only [qPA]
    refine wpMonoJ_read' 5 [6,7,8,9,10,11] (v:=?_) rfl (by kernel_rfl) (by kernel_rfl) (by kernel_rfl) (by rfl) (by kernel_rfl) (by rfl) (fun _ _ _ h=>h) (by rfl) ?_ ?_
    rotate_left
    ·(intro W hSw;(try (have hcW:=hSw.cells;try simp only [qSd] at hcW));go_simp <;> rfl)
    try simp only [qPA]
    refine wpMonoJ_one' 6 (by kernel_rfl) rfl (by rfl) (fun K hK=>?_)
    go_simp
    refine (clone_any ⟨r,n,t,s,d,zs,se,k,v,gn,l⟩ _ (HD2.out.drew')  hz6).mono ?_
    rintro e w3 ⟨⟨d',rfl,hd'⟩,hb3⟩
    obtain ⟨A2,c2,rfl⟩:=ownsRow_slice hd'.1
    have HF3:=Lib.hid (HF2.out.keeps (X:=nobody) (Keeps.drew.trans (.of_below hb3)) (fun _ _ h=>h))
    have HB3:=Lib.hid (HB2.out.drew.trans (hb3.mono HB2.out.size))
    have Hd3:=Lib.hid hd'
    clear hd'
    dsimp only [Wr.cells]
    refine hK.out _ _ ?_ ?_
    ·exact .of_below hb3
    clear hK K
    try simp only [qPA]
    refine wpMonoJ_one' 7 (by kernel_rfl) rfl (by rfl) (fun K hK=>?_)
    go_simp
    refine hK.out _ _ ?_ ?_
    ·exact .alloc _
    clear hK K
    try simp only [qPA]
    refine wpMonoJ_one' 8 (by kernel_rfl) rfl (by rfl) (fun K hK=>?_)
    have hb3b:Below w3.heap.size w3 (w3.alloc (.cells #[.int .i64 r,.int .i64 n,.int .i64 t,.int .i64 s,.slice A2 zs.length c2,.string se,.string k,.string v,.bool gn,.int .i64 l] 34)):=below_new _ _
    have HF4:=Lib.hid (HF3.out.keeps (X:=nobody) (.of_below hb3b) (fun _ _ h=>h))
    have HB4:=Lib.hid (HB3.out.trans (hb3b.mono HB3.out.size))
    have Hd4:=Lib.hid (Hd3.out.below hb3b)
    have hk0s:=HF3.out.small k0 HF3.out.inK
    have hold:=HF4.out.ow.row
    rw [hL2] at hold
    have hr:=Reads.new w3 #[.int .i64 r,.int .i64 n,.int .i64 t,.int .i64 s,.slice A2 zs.length c2,.string se,.string k,.string v,.bool gn,.int .i64 l] 34 (0,0) (n:=1) (size:=10) rfl
    clear hb3b
    refine wp_append_any _ (.tmp 46) (.tmp 49) _ (by rfl) (k0 + 1) 34 i0 _ 10 120 Tryz.underlying25 hi0 hz0 hz1 hz2 rfl (by omega) (.slice A L.length cw) L.length _ (by rfl) hold _ _ 1 1 (Wr.cells ⟨r,n,t,s,.slice A2 zs.length c2,zs,se,k,v,gn,l⟩) (by rfl) hr (oneW _ rfl) (by unfold maxLen;omega) (by omega) (by simp;omega) fun v4 w4 hv4 hg4 ho4=>?_
    refine hK.out _ _ ?_ ?_
    ·exact moved (.grown hg4 fun i hi=>.inl trivial) (by decide)
    clear hK K
    try simp only [qPA]
    iterate 2
     first|refine qJ 9 (v:=?_) ?_ ?_|refine qJ 10 (v:=?_) ?_ ?_
     rotate_left
     ·(intro W hSw;(try (have hcW:=hSw.cells;try simp only [qSd] at hcW));go_simp <;> rfl)
     try simp only [qPA]
    refine wpMonoJ_one' 11 (by kernel_rfl) rfl (by rfl) (fun K hK=>?_)
    obtain ⟨A4,c4,rfl⟩:=ownsRow_slice hv4
    have hg3:=HF4.out.blk.grown hg4 (fun e=>by have:=(hold.lt _ e.symm).1;have:=HF4.out.k0lt;omega)
    have p3:w4.cell? ⟨g,3,none⟩=_:=hg3.cell 3
    have pf:=hg3.frozen 3
    have pl:=hg3.lt
    simp at p3
    have Hv4:=Lib.hid hv4
    have Hg4:=Lib.hid hg4
    have Ho4:=Lib.hid ho4
    clear hv4 hg4 ho4 hg3 hold hr
    go_simp
    refine hK.out _ _ ?_ ?_
    ·exact moved (.setCell (.inl trivial) _) (by decide)
    clear hK K
    try simp only [Act.put]
    refine wpMonoJ_done (by kernel_rfl) ?_ _
    rw [← hL2] at Hv4 Hg4 Ho4
    have hk0B:k0 + 1≤w2.drew.heap.size:=HF2.out.small k0 HF2.out.inK
    have hP:=HF4.out.push (x:=⟨r,n,t,s,.slice A2 zs.length c2,zs,se,k,v,gn,l⟩) (B:=w2.drew.heap.size) Hd4.out hk0B Hv4.out Hg4.out (Ho4.out.imp id fun h=>⟨_,h,Nat.le_trans hb3.size (by simp)⟩) (by omega) Hlast2.out
    have hkk:Keeps S w (w4.setCell ⟨g,3,none⟩ (.slice A4 (L'.length + 1) c4)) :=
     ((Keeps.of_below HB4.out).trans (.grown Hg4.out fun i hi=>.inl (HF4.out.ow.inS i hi))).trans (.setCell (.inl HF4.out.inG) _)
    have HR:=Lib.hid (show AddR S g rg nn bs L K ⟨r,n,t,s,d,zs,se,k,v,gn,l⟩ w (.returned .nilIface) (w4.setCell ⟨g,3,none⟩ (.slice A4 (L'.length + 1) c4)) from
     ⟨.nilIface,_,rfl,by rw [Hcode.out];exact EO.nil _,(fun i hi=>by cases hi),⟨_,_,k0,ck,by unfold addL;rw [Hcode.out,if_pos rfl,List.map_append,hLL];rfl,hP⟩,hkk,fun i hi=>hi.1.imp id fun h=>Nat.le_trans HB2.out.size h⟩)
    rw [hL2] at HR
    clear hP hkk Hv4 Hg4 Ho4 HF4 HB4 Hd4
    go_wp2
    go_ret
    exact HR.out
 ·have hcode:addC rg bs L ⟨r,n,t,s,d,zs,se,k,v,gn,l⟩=1:=by unfold addC;rw [hrt];rfl
  have Hrt:=Lib.hid hrt
  have Hcode:=Lib.hid hcode
  clear hrt hcode
  go_wp2_with fail
  refine wp_region_mono nobody (by kernel_rfl) ?_
  iterate 3
   first|refine qT 0 (v:=?_) ?_ ?_|refine qT 1 (v:=?_) ?_ ?_|refine qT 2 (v:=?_) ?_ ?_
   rotate_left
   ·(intro W hSw;(have hcW:=hSw.cells;try simp only [qSd] at hcW);go_simp <;> rfl)
   try simp only [qPA]
  refine wpMono_skip' 3 rfl (by kernel_rfl) (by kernel_rfl) (by kernel_rfl) (fun _ _ _ h=>h) (by rfl) ?_
  try simp only [qPA]
  refine wpMono_skip' 4 rfl (by kernel_rfl) (by kernel_rfl) (by kernel_rfl) (fun _ _ _ h=>h) (by rfl) ?_
  try simp only [qPA]
  refine wpMono_skip' 5 rfl (by kernel_rfl) (by kernel_rfl) (by kernel_rfl) (fun _ _ _ h=>h) (by rfl) ?_
  try simp only [qPA]
  refine wpMono_skip' 6 rfl (by kernel_rfl) (by kernel_rfl) (by kernel_rfl) (fun _ _ _ h=>h) (by rfl) ?_
  try simp only [qPA]
  refine wpMono_skip' 7 rfl (by kernel_rfl) (by kernel_rfl) (by kernel_rfl) (fun _ _ _ h=>h) (by rfl) ?_
  try simp only [qPA]
  refine wpMono_skip' 8 rfl (by kernel_rfl) (by kernel_rfl) (by kernel_rfl) (fun _ _ _ h=>h) (by rfl) ?_
  try simp only [qPA]
  refine wpMono_skip' 9 rfl (by kernel_rfl) (by kernel_rfl) (by kernel_rfl) (fun _ _ _ h=>h) (by rfl) ?_
  try simp only [qPA]
  iterate 2
   first|refine qT 10 (v:=?_) ?_ ?_|refine qT 11 (v:=?_) ?_ ?_
   rotate_left
   ·(intro W hSw;(have hcW:=hSw.cells;try simp only [qSd] at hcW);go_simp <;> rfl)
   try simp only [qPA]
  refine wpMono_done (by kernel_rfl) ?_ _
  go_wp2_with fail
  refine (bad_any _ _ _).mono ?_
  rintro e w2 ⟨v,rfl,h1,h2,h3,h4⟩
  have HR:=Lib.hid (add_bad H.out HB.out.drew Hcode.out (by decide) ⟨v,rfl,h1,h2,h3,h4⟩)
  clear h1 h2 h3 h4
  go_wp2
  go_ret
  exact HR.out
end Go.Proofs.YtdaphppdmnmicaaGreatDoor.feed
namespace Go.Proofs.YtdaphppdmnmicaaGreatDoor.feed
open Go.RowKit base rowe err wire monoj
def ListR (L:List Wr) (w:World) (e:Ending) (w':World):Prop:=(∃ v L',e=.returned v∧L'.map Wr.abs=L∧OW w' (since w w') w.heap.size v L')∧Below w.heap.size w w'
theorem ListR.from {L:List Wr} {w w1 w2:World} {e:Ending} (hb:Below w.heap.size w w1) (h:ListR L w1 e w2):ListR L w e w2:=by
 obtain ⟨⟨v,L',h1,h2,h3⟩,h4⟩:=h
 have hs:=hb.size
 refine ⟨⟨v,L',h1,h2,?_⟩,hb.trans (h4.mono hs)⟩
 refine ⟨⟨h3.row.1,h3.row.2.imp id ?_⟩,h3.few,fun x hx=>(h3.nums x hx).base hs,fun i hi=>⟨Nat.le_trans hs (h3.inS i hi).1,(h3.inS i hi).2⟩,fun x hx i hi=>⟨Nat.le_trans hs (h3.numS x hx i hi).1,(h3.numS x hx i hi).2⟩⟩
 rintro ⟨g,cap,cur,e,h5,h6⟩
 exact ⟨g,cap,cur,e,Nat.le_trans hs h5,h6⟩
section
variable {S:Nat→Prop} {w:World} {g rg nn bs:Nat} {L:List Wr} {K:List Int}
theorem RW.zero (w:World) (A:Option Addr) (c:Nat):RW w (.slice A 0 c) []:=⟨A,c,rfl,by simp,by simp,⟨by simp,fun h=>absurd h (by simp)⟩,by simp⟩
end
end Go.Proofs.YtdaphppdmnmicaaGreatDoor.feed
namespace Go.Proofs.YtdaphppdmnmicaaGreatDoor.wire
open Go.RowKit base rowe err
set_option maxRecDepth 10000 in
set_option maxHeartbeats 1000000 in
theorem some_dep (v:Value) (L:List Wr) (w:World) (h:RW w v L):Calls Tryz.prog 218 #[v] w (SomeR L w):=by
 obtain ⟨i0,hi,hz⟩:=Option.map_eq_some_iff.1 write_info
 simp only [Prod.mk.injEq] at hz
 obtain ⟨hz0,hz1,hz2⟩:=hz
 obtain ⟨A,c,rfl,hm,hlc,hr,hn⟩:=h
 obtain ⟨m,hml⟩:∃ m,L.length=m:=⟨_,rfl⟩
 rw [hml] at hm hlc hr ⊢
 have Hr:=Lib.hid hr
 have Hn:=Lib.hid hn
 have Hml:=Lib.hid hml
 clear hr hn hml
 go_enter Tryz.func218,Tryz.ntmps218
 go_wp2
 go_loopw [3,5,8] (fun s _ i wr'=>∃ n:Nat,∃ L',n≤m∧i=.int .i64 n∧L'.map Wr.abs=(L.take n).map Wr.abs∧OW wr' (fun _=>True) w.heap.size s L'∧Below w.heap.size w wr') (fun _ _ i _=>m - (intOf i).toNat)
 case atStart=>exact ⟨0,[],by omega,rfl,by simp,OW.none _ _ _,Below.refl _ _⟩
 case round =>
  obtain ⟨n,L',hn2,rfl,hab,hO,hb⟩:=hrel
  obtain ⟨A1,c1,rfl⟩:=ownsRow_slice hO.row
  have hsz:=hb.size
  have hll:L'.length=n:=by
   have:=congrArg List.length hab
   simp at this
   have:=Hml.out
   omega
  by_cases hlt:n < m
  ·have hmlt:n < L.length:=by rw [Hml.out];exact hlt
   obtain ⟨b,off,rfl,hbb⟩:=Hr.out.at_some (by omega)
   have hnx:=Hn.out L[n] (List.getElem_mem hmlt)
   have htk:(L.take (n + 1)).map Wr.abs=(L.take n).map Wr.abs ++ [L[n].abs]:=by
    rw [List.take_succ_eq_append_getElem hmlt,List.map_append];rfl
   rw [← hab] at htk
   have hcell:∀ j v,(L[n]).cells[j]?=some v→wr.cell? ⟨b,off + n * 10 + j,none⟩=some v:=fun j v hj=>by
    have hj2:j < 10:=by
     rcases Nat.lt_or_ge j 10 with h|h
     ·exact h
     ·rw [List.getElem?_eq_none (by rw [Wr.len];exact h)] at hj;cases hj
    exact (Reads.thing Wr.cells Wr.len (Hr.out.below hb) (k:=n) (x:=L[n]) hlt (List.getElem?_eq_getElem hmlt) j hj2).trans hj
   generalize L[n]=x at *
   have hnx1:=(hnx.1.below hb).more hsz
   obtain ⟨r,n1,t,s,d,zs,se,k,v,g,l⟩:=x
   have hz6:=hnx.2
   dsimp only at hnx1 hz6
   clear hnx hab
   have Hnx:=Lib.hid hnx1
   have Htk:=Lib.hid htk
   have Hcell:=Lib.hid hcell
   have HO:=Lib.hid hO
   have Hb:=Lib.hid hb
   clear hnx1 htk hcell hO hb
   go_wp2_with (first|(refine wpList_load_at rfl 34 (.tmp 10) rfl b (off + n * 10) (Wr.cells ⟨r,n1,t,s,d,zs,se,k,v,g,l⟩) rfl Tryz.underlying34 rfl (by kernel_rfl) Hcell.out ?_)|(refine wpList_store_blk rfl 34 (.tmp 5) (.tmp 11) rfl wr.heap.size (Wr.cells ⟨r,n1,t,s,d,zs,se,k,v,g,l⟩) rfl rfl (Blk.new wr 34 #[.int .i64 0,.int .i64 0,.int .i64 0,.int .i64 0,.slice none 0 0,.string ⟨#[]⟩,.string ⟨#[]⟩,.string ⟨#[]⟩,.bool false,.int .i64 0]) (by kernel_rfl) rfl (oneAll ⟨r,n1,t,s,d,zs,se,k,v,g,l⟩ (nums_one Hnx.out)) ?_;intro w9 ho9 hk9 hs9)|(refine wpList_load_at rfl 34 (.tmp 5) rfl wr.heap.size 0 (Wr.cells ⟨r,n1,t,s,d,zs,se,k,v,g,l⟩) rfl Tryz.underlying34 rfl (by kernel_rfl) (fun j v hj=>by rw [Nat.zero_add,ho9.cell j];simpa using hj) ?_))
   have hb9:Below wr.heap.size wr w9:=(below_new wr (.cells #[.int .i64 0,.int .i64 0,.int .i64 0,.int .i64 0,.slice none 0 0,.string ⟨#[]⟩,.string ⟨#[]⟩,.string ⟨#[]⟩,.bool false,.int .i64 0] 34)).trans (hk9.below (fun i hi e=>by omega) (by simp))
   have hs9':=hb9.size
   have Hnx9:=Lib.hid ((Hnx.out.below hb9).more hs9')
   have HO9:=Lib.hid (HO.out.keeps (X:=nobody) (.of_below hb9) (fun _ _ h=>h))
   have Hb9:=Lib.hid (Hb.out.trans (hb9.mono hsz))
   clear ho9 hk9 hb9 Hnx HO Hb Hcell
   refine (clone_dep ⟨r,n1,t,s,d,zs,se,k,v,g,l⟩ w9 Hnx9.out hz6).mono ?_
   rintro e w10 ⟨⟨d',rfl,hd'⟩,hb10⟩
   obtain ⟨A2,c2,rfl⟩:=ownsRow_slice hd'.1
   have hs10:=hb10.size
   have HO10:=Lib.hid (HO9.out.keeps (X:=nobody) (.of_below hb10) (fun _ _ h=>h))
   have Hb10:=Lib.hid (Hb9.out.trans (hb10.mono (by omega)))
   have Hd10:=Lib.hid (hd'.base (lo':=w.heap.size) (by omega))
   clear hd' hb10 HO9 Hb9 Hnx9
   dsimp only [Wr.cells]
   go_wp2_with (at_builtin;refine wpList_append_newAt rfl (.tmp 12) (.tmp 15) _ rfl w.heap.size 34 i0 _ 10 120 Tryz.underlying25 hi hz0 hz1 hz2 rfl (by decide) (.slice A1 n c1) n _ rfl (hll ▸ HO10.out.row) 1 1 w10.heap.size rfl (Wr.cells ⟨r,n1,t,s,.slice A2 zs.length c2,zs,se,k,v,g,l⟩) rfl rfl (oneW _ rfl) (by unfold maxLen;omega) (by omega) (by omega) ?_;intro v11 w11 hown11 hbw11 hgr11 hwh11;have Hown11:=Lib.hid hown11;have Hbw11:=Lib.hid (Hb10.out.trans hbw11);have Hgr11:=Lib.hid hgr11;have Hwh11:=Lib.hid hwh11;clear hown11 hbw11 hgr11 hwh11)
   go_roundw
   case rel =>
    refine ⟨n + 1,L' ++ [⟨r,n1,t,s,.slice A2 zs.length c2,zs,se,k,v,g,l⟩],by omega,by go_num,?_,?_,Hbw11.out⟩
    ·rw [Htk.out,List.map_append];rfl
    ·refine HO10.out.push (x:=⟨r,n1,t,s,.slice A2 zs.length c2,zs,se,k,v,g,l⟩) Hd10.out (fun _ _=>trivial) (by rw [hll];exact Hown11.out) (by rw [hll];exact Hgr11.out) ?_ (by omega)
     rw [hll]
     exact Hwh11.out.imp id fun ⟨g,h1,_⟩=>⟨g,h1,trivial⟩
   case measure=>simp [intOf];omega
  ·obtain rfl:m=n:=by omega
   rw [List.take_of_length_le (by rw [Hml.out];omega)] at hab
   have HR:=Lib.hid (show SomeR L w (.returned (.slice A1 L'.length c1)) wr from ⟨⟨_,L',rfl,hab,hO.sinceS (Nat.le_refl _)⟩,hb⟩)
   clear hab hO hb
   go_wp2
   go_ret
   exact HR.out
end Go.Proofs.YtdaphppdmnmicaaGreatDoor.wire
