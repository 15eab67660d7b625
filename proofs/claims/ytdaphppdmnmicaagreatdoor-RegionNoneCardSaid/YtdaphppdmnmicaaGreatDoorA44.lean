/- A part of the proof of RegionNone: PlanP, PlanL, FoldI, FoldW, PlanI, MakeI. -/
import Derived.Test.YtdaphppdmnmicaaGreatDoorA41
import Derived.Test.YtdaphppdmnmicaaGreatDoorA43
import Derived.Test.YtdaphppdmnmicaaGreatDoorA14
import Derived.Test.YtdaphppdmnmicaaGreatDoorA39
import Derived.Test.YtdaphppdmnmicaaGreatDoorA01
import Derived.Test.YtdaphppdmnmicaaGreatDoorA38
import Derived.Test.YtdaphppdmnmicaaGreatDoorA33
import Derived.Deep.Cut
namespace Go.Proofs.YtdaphppdmnmicaaGreatDoor.regn
open Go Go.RowKit base err cmp wire dep vec with_ writep wireb
structure Ch where
 se:ByteArray
 k:ByteArray
 v:ByteArray
 g:Bool
 l:Int
def Ch.cells (c:Ch):List Value:=[.string c.se,.string c.k,.string c.v,.bool c.g,.int .i64 c.l]
theorem Ch.len (c:Ch):c.cells.length=5:=rfl
def mkW (id:Int) (c:Ch) (ck:Int) (a:List Int) (d:Value):Wr:=⟨id,atV a id + 1,ck + 1,id,d,a,c.se,c.k,c.v,c.g,c.l⟩
def seen (ck:Int) (out:List Wr):Int:=out.foldl (fun m y=>max m y.t) ck
inductive Plan (id:Int) (ck0:Int) (ap0:List Int) (ws0:List Wr):List Ch→List Wr→List Wr→Int→List Int→List Wr→Prop
 | zero:Plan id ck0 ap0 ws0 [] [] [] ck0 ap0 ws0
 | one {cs:List Ch} {own all:List Wr} {ck:Int} {a:List Int} {ws:List Wr} (h:Plan id ck0 ap0 ws0 cs own all ck a ws) (c:Ch) {a':List Int} {ws' out:List Wr} (hck:ck < 1099511627776)
   (hr:rightB (mkW id c ck a (.slice none 0 0))=true) (hst:dep.Steps (withL a id (atV a id + 1)) ws a' ws' out) (hno:∀ j,j < ws'.length→readyB a' (ws'.getD j wrZ)=false) :
   Plan id ck0 ap0 ws0 (cs ++ [c]) (own ++ [mkW id c ck a (.slice none 0 0)]) (all ++ mkW id c ck a (.slice none 0 0) :: out.map Wr.abs) (seen (ck + 1) out) a' ws'
def BndV (a:List Int):Prop:=(∀ r,0≤atV a r∧atV a r≤1099511627776)∧trimL a=a
def RngW (ws:List Wr):Prop:=∀ x ∈ ws,rightB x=true
theorem BndV.with_ {a:List Int} (h:BndV a) {r n:Int} (hr:1≤r∧r≤16) (hn:0≤n∧n≤1099511627776):BndV (withL a r n) :=
 ⟨fun q=>by
  rw [atV_with a r n q hr]
  split
  ·exact hn
  ·exact h.1 q,trim_with _ _ _⟩
theorem steps_bnd {ap:List Int} {ws:List Wr} {a:List Int} {l out:List Wr} (h:dep.Steps ap ws a l out) (hb:BndV ap) (hw:RngW ws):BndV a∧RngW l∧RngW out:=by
 induction h with
 | zero=>exact ⟨hb,hw,fun x hx=>(by cases hx)⟩
 | one h k hk hr hn ih =>
  rename_i a l out
  obtain ⟨h1,h2,h3⟩:=ih
  have hm:l.getD k wrZ ∈ l:=getD_mem hk
  have hp:=right_parts (h2 _ hm)
  refine ⟨h1.with_ ⟨hp.r0,hp.r1⟩ ⟨by have:=hp.n0;omega,hp.n1⟩,fun x hx=>h2 x (List.mem_of_mem_eraseIdx hx),fun x hx=>?_⟩
  rcases List.mem_append.1 hx with hx|hx
  ·exact h3 x hx
  ·rw [List.mem_singleton.1 hx];exact h2 _ hm
theorem seen_le {ck:Int} {out:List Wr} (h:ck≤1099511627776) (ho:RngW out):ck≤seen ck out∧seen ck out≤1099511627776:=by
 unfold seen
 induction out generalizing ck with
 | nil=>exact ⟨Int.le_refl _,h⟩
 | cons y out ih =>
  rw [List.foldl_cons]
  have hp:=right_parts (ho y (by simp))
  obtain ⟨h1,h2⟩:=ih (ck:=max ck y.t) (by have:=hp.t1;omega) (fun x hx=>ho x (by simp [hx]))
  exact ⟨by omega,h2⟩
theorem right_abs (x:Wr):rightB x.abs=rightB x:=rfl
theorem Plan.facts {id ck0:Int} {ap0:List Int} {ws0:List Wr} {cs:List Ch} {own all:List Wr} {ck:Int} {a:List Int} {ws:List Wr} (h:Plan id ck0 ap0 ws0 cs own all ck a ws)
  (hid:1≤id∧id≤16) (hc:0≤ck0∧ck0≤1099511627776) (hb:BndV ap0) (hw:RngW ws0) :
  (0≤ck∧ck≤1099511627776)∧BndV a∧RngW ws∧RngW own∧RngW all∧own.length=cs.length∧all.length + ws.length=cs.length + ws0.length:=by
 induction h with
 | zero=>exact ⟨hc,hb,hw,fun x hx=>(by cases hx),fun x hx=>(by cases hx),rfl,by simp⟩
 | one h c hck hr hst hno ih =>
  rename_i cs own all ck a ws a' ws' out
  obtain ⟨h1,h2,h3,h4,h5,h6,h7⟩:=ih
  have hp:=right_parts hr
  have hn0:=hp.n0
  have hn1:=hp.n1
  obtain ⟨s1,s2,s3⟩:=steps_bnd hst (h2.with_ hid ⟨by have:=(h2.1 id).1;omega,hn1⟩) h3
  have hs:=seen_le (ck:=ck + 1) (by omega) s3
  have hl:=hst.ws_len
  refine ⟨⟨by omega,hs.2⟩,s1,s2,fun x hx=>?_,fun x hx=>?_,by simp [h6],by simp;omega⟩
  ·rcases List.mem_append.1 hx with hx|hx
   ·exact h4 x hx
   ·rw [List.mem_singleton.1 hx];exact hr
  ·rcases List.mem_append.1 hx with hx|hx
   ·exact h5 x hx
   ·rcases List.mem_cons.1 hx with hx|hx
    ·rw [hx];exact hr
    ·obtain ⟨y,hy,rfl⟩:=List.mem_map.1 hx
     exact s3 y hy
theorem covers_self (a:List Int):coversB a a=true:=by
 unfold coversB
 rw [List.all_eq_true]
 intro r _
 simp
theorem right_pw_ex {y:Wr} (h:rightB y=true):∃ q:PW,q.Ok∧y=q.wr y.d:=by
 have hp:=right_parts h
 obtain ⟨yr,yn,yt,ys,yd,yz,yse,yk,yv,yg,yl⟩:=y
 obtain ⟨r0,r1,n0,n1,sr,t0,t1,z0,se1,k1,v1,l0,l1⟩:=hp
 dsimp only at *
 have hz:∀ z ∈ yz,0≤z:=by
  intro z hz
  unfold trB at z0
  simp only [Bool.and_eq_true,List.all_eq_true] at z0
  have:=z0.2.2 z hz
  unfold okN at this
  simp at this
  exact this.1
 have hzz:wireb.natI (yz.map Int.toNat)=yz:=by
  unfold wireb.natI
  rw [List.map_map]
  conv=>rhs;rw [← List.map_id yz]
  refine List.map_congr_left fun z hz'=>?_
  have:=hz z hz'
  simp
  omega
 have e:(⟨yr,yn,yt,ys,yd,yz,yse,yk,yv,yg,yl⟩:Wr)=(PW.mk yr.toNat yn.toNat yt.toNat (yz.map Int.toNat) yse.data.toList yk.data.toList yv.data.toList yg yl.toNat).wr yd:=by
  unfold PW.wr
  dsimp only
  rw [hzz,wireb.str_of,wireb.str_of,wireb.str_of,sr]
  simp only [Wr.mk.injEq,true_and]
  omega
 refine ⟨_,?_,e⟩
 rw [← PW.right_iff,← wireb.right_pw _ yd,← e]
 exact h
end Go.Proofs.YtdaphppdmnmicaaGreatDoor.regn
namespace Go.Proofs.YtdaphppdmnmicaaGreatDoor.regn
open Go Go.RowKit base err cmp wire dep vec with_ writep wireb monoj rowe
structure ListP (w:World) (lo g:Nat) (S:Nat→Prop) (v:Value) (L:List Wr):Prop where
 ow:OW w (fun i=>lo≤i) lo v L
 nS:∀ i,v.ownBlock=some i→¬ S i
 nd:∀ x ∈ L,x.d.ownBlock ≠ some g
section
variable {w w':World} {lo g:Nat} {S:Nat→Prop} {v:Value} {L:List Wr}
theorem _root_.Go.Proofs.YtdaphppdmnmicaaGreatDoor.wire.OW.keepsR {X S:Nat→Prop} {w w':World} {lo:Nat} {v:Value} {L:List Wr} (h:OW w S lo v L) (hk:Keeps X w w') (hr:∀ i,v.ownBlock=some i→¬ X i) (hd:∀ x ∈ L,∀ i,x.d.ownBlock=some i→¬ X i):OW w' S lo v L:=by
 refine ⟨⟨h.row.1,h.row.2.imp id ?_⟩,h.few,fun x hx'=>(h.nums x hx').keeps hk (fun g hg=>hd x hx' g hg),h.inS,h.numS⟩
 rintro ⟨g,cap,cur,rfl,h1,h2,h3⟩
 exact ⟨g,cap,cur,rfl,h1,(hk.block g (heap_lt h2) (hr g rfl)).trans h2,h3⟩
theorem numsO_hi {w:World} {lo:Nat} {d:Value} {zs:List Int} (h:NumsO w 0 d zs) (hd:∀ i,d.ownBlock=some i→lo≤i):NumsO w lo d zs:=by
 refine ⟨⟨h.1.1,h.1.2.imp id ?_⟩,h.2⟩
 rintro ⟨g,cap,cur,rfl,h1,h2⟩
 exact ⟨g,cap,cur,rfl,hd g rfl,h2⟩
theorem ownI_low' {w:World} {base base':Nat} {e:TypeId} {size n:Nat} {v:Value} {xs:List Value} (h:w.ownsRow base' e size v n xs) (hb:base≤base'):w.ownsRow base e size v n xs :=
 ⟨h.1,h.2.imp id fun ⟨g,cap,cur,e,h1,r⟩=>⟨g,cap,cur,e,Nat.le_trans hb h1,r⟩⟩
theorem ListP.none (w:World) (lo g:Nat) (S:Nat→Prop):ListP w lo g S (.slice none 0 0) []:=⟨OW.none _ _ _,(fun i hi=>by cases hi),by simp⟩
theorem ListP.below (h:ListP w lo g S v L) (hb:Below w.heap.size w w'):ListP w' lo g S v L:=⟨h.ow.keepsR (X:=nobody) (.of_below hb) (fun _ _ h=>h) (fun _ _ _ _ h=>h),h.nS,h.nd⟩
theorem ListP.blk {t:TypeId} {b:Nat} {cs:Array Value} (h:ListP w lo g S v L) (hb:Blk w b t cs) (hk:Keeps (· = b) w w') (h1:34 ≠ t) (h2:3 ≠ t):ListP w' lo g S v L :=
 ⟨h.ow.keepsR hk (fun _ hi e=>own_blk_ne h.ow.row hb h1 (e ▸ hi)) (fun x hx _ hi e=>own_blk_ne (h.ow.nums x hx).1 hb h2 (e ▸ hi)),h.nS,h.nd⟩
theorem ListP.shown {S':Nat→Prop} {rg:Int} {ap:List Int} {ws:List Wr} {va vw:Value} (h:ListP w lo g S v L) (hf:InF w S g rg ap ws va vw) (hk:Keeps (fun i=>i=g ∨ vw.ownBlock=some i) w w') (hs:∀ i,S' i→S i ∨ w.heap.size≤i):ListP w' lo g S' v L :=
 ⟨h.ow.keepsR hk (fun i hi e=>e.elim (fun e=>h.nS i hi (e ▸ hf.inG)) (fun e=>h.nS i hi (hf.inW i e)))
  (fun x hx i hi e=>e.elim (fun e=>h.nd x hx (e ▸ hi)) (fun e=>own_apart (h.ow.nums x hx).1 hf.row (by decide) i hi e)),
  fun i hi h2=>(hs i h2).elim (h.nS i hi) (fun h3=>by have:=(h.ow.row.lt i hi).2;omega),h.nd⟩
theorem ListP.push {w5:World} {v5:Value} {x:Wr} (h:ListP w lo g S v L) (hs:∀ i,S i→i < w.heap.size) (hd:NumsO w lo x.d x.z) (hg:x.d.ownBlock ≠ some g) (hrow:w5.ownsRow lo 34 10 v5 (L.length + 1) (L.flatMap Wr.cells ++ x.cells)) (hgr:w.grownBy w5 v.ownBlock)
  (hv:v5.ownBlock=v.ownBlock ∨ ∃ g,v5.ownBlock=some g∧w.heap.size≤g) (hl:L.length < 1000000):ListP w5 lo g S v5 (L ++ [x]) :=
 ⟨h.ow.push hd (fun i hi=>(hd.1.lt i hi).1) hrow hgr (hv.imp id fun ⟨b,h1,_⟩=>⟨b,h1,(hrow.lt b h1).1⟩) hl,
  fun i hi h2=>by
   rcases hv with e|⟨b,e,hb⟩
   ·exact h.nS i (e ▸ hi) h2
   ·rw [e] at hi;injection hi with hi;have:=hs i h2;omega,
  fun y hy=>by
   rcases List.mem_append.1 hy with hy|hy
   ·exact h.nd y hy
   ·rw [List.mem_singleton.1 hy];exact hg⟩
theorem _root_.Go.Proofs.YtdaphppdmnmicaaGreatDoor.wire.OW.join {S:Nat→Prop} {w w5:World} {lo:Nat} {v v5:Value} {L M:List Wr} (h:OW w S lo v L) (hd:∀ x ∈ M,NumsO w lo x.d x.z∧∀ i,x.d.ownBlock=some i→S i) (hrow:w5.ownsRow lo 34 10 v5 (L.length + M.length) (L.flatMap Wr.cells ++ M.flatMap Wr.cells)) (hg:w.grownBy w5 v.ownBlock)
  (hv:v5.ownBlock=v.ownBlock ∨ ∃ g,v5.ownBlock=some g∧S g) (hl:L.length + M.length≤1000000):OW w5 S lo v5 (L ++ M):=by
 have hk:Keeps (fun i=>v.ownBlock=some i) w w5:=.grown hg fun g hg=>.inl hg
 have hne:∀ y:Wr,NumsO w lo y.d y.z→NumsO w5 lo y.d y.z:=fun y hy=>hy.keeps hk fun g hg1 hg2=>own_apart hy.1 h.row (by decide) g hg1 hg2
 refine ⟨?_,by simpa using hl,?_,?_,?_⟩
 ·rw [List.length_append,List.flatMap_append];exact hrow
 ·intro y hy
  rcases List.mem_append.1 hy with hy|hy
  ·exact hne y (h.nums y hy)
  ·exact hne y (hd y hy).1
 ·intro i hi
  rcases hv with hv|⟨g,hv,hs⟩
  ·exact h.inS i (hv ▸ hi)
  ·rw [hv] at hi;injection hi with hi;rw [← hi];exact hs
 ·intro y hy i hi
  rcases List.mem_append.1 hy with hy|hy
  ·exact h.numS y hy i hi
  ·exact (hd y hy).2 i hi
theorem ListP.join {w5:World} {v5:Value} {M:List Wr} (h:ListP w lo g S v L) (hs:∀ i,S i→i < w.heap.size) (hd:∀ x ∈ M,NumsO w lo x.d x.z∧x.d.ownBlock ≠ some g) (hrow:w5.ownsRow lo 34 10 v5 (L.length + M.length) (L.flatMap Wr.cells ++ M.flatMap Wr.cells)) (hgr:w.grownBy w5 v.ownBlock)
  (hv:v5.ownBlock=v.ownBlock ∨ ∃ g,v5.ownBlock=some g∧w.heap.size≤g) (hl:L.length + M.length≤1000000):ListP w5 lo g S v5 (L ++ M) :=
 ⟨h.ow.join (fun x hx=>⟨(hd x hx).1,fun i hi=>((hd x hx).1.1.lt i hi).1⟩) hrow hgr (hv.imp id fun ⟨b,h1,_⟩=>⟨b,h1,(hrow.lt b h1).1⟩) hl,
  fun i hi h2=>by
   rcases hv with e|⟨b,e,hb⟩
   ·exact h.nS i (e ▸ hi) h2
   ·rw [e] at hi;injection hi with hi;have:=hs i h2;omega,
  fun y hy=>by
   rcases List.mem_append.1 hy with hy|hy
   ·exact h.nd y hy
   ·exact (hd y hy).2⟩
end
theorem two_ways {T G:Prop} (h:Hid T→G) (t:T):G:=h (Lib.hid t)
theorem _root_.Go.Proofs.YtdaphppdmnmicaaGreatDoor.monoj.wpMonoJ_cast {P:Program} {md:Region.Mode} {ops:Array Oper} {Q:Exit→Act→World→Prop} {X:Nat→Prop} {mv:List Nat} {fuel:Nat} {l l':Array Bool} {a:Act} {w:World} (h:l=l') (hx:monoj.wpMonoJ P md ops Q X mv fuel l' a w):monoj.wpMonoJ P md ops Q X mv fuel l a w:=h ▸ hx
theorem encode_bad (x:Wr) (w:World) (hd:Nums w w.heap.size x.d x.z) (hr:rightB x=false) :
  Calls Tryz.prog 204 #[.agg ⟨x.cells⟩] w fun e w'=>∃ v,e=.returned (.tuple #[.string ⟨#[]⟩,v])∧Err w' v 1∧Below w.heap.size w w':=by
 have hd2:=Lib.hid (show Nums (w.alloc (.cells x.cells.toArray 34)) (w.alloc (.cells x.cells.toArray 34)).heap.size x.d x.z from (hd.below (below_new _ _)).more (by simp))
 have hb0:=Lib.hid (below_new w (.cells x.cells.toArray 34))
 obtain ⟨r,n,t,s,d,zs,se,k,v,g,l⟩:=x
 have Hr:=Lib.hid hr
 clear hd hr
 unfold Wr.cells at *
 dsimp only at *
 go_enter Tryz.func204,Tryz.ntmps204
 go_wp2_with fail
 refine (right_any ⟨r,n,t,s,d,zs,se,k,v,g,l⟩ _ hd2.out).mono ?_
 rintro e w1 ⟨rfl,hb1⟩
 rw [Hr.out]
 have HB:=Lib.hid (hb0.out.trans (hb1.mono (by simp)))
 clear hb1
 go_wp2_with fail
 refine (Go.Proofs.YtdaphppdmnmicaaGreatDoor.err.at_any _ _ _ _).mono ?_
 rintro e w2 ⟨ve,rfl,he,_,hb2,_⟩
 have HE:=Lib.hid he
 have HB2:=Lib.hid (HB.out.trans (hb2.mono HB.out.size))
 obtain ⟨ge,rfl⟩:=he.form
 clear he hb2
 go_wp2_with fail
 go_ret2
 exact ⟨_,rfl,HE.out,HB2.out⟩
end Go.Proofs.YtdaphppdmnmicaaGreatDoor.regn
namespace Go.Proofs.YtdaphppdmnmicaaGreatDoor.regn
open Go Go.RowKit base err map_ above merge rows store fold monoj
structure FX where
 id:Nat
 ck:Int
 ap:List Int
 made:Int
 key:Int
 base:Int
 Lf:List wire.Wr
 L:List rows.R
 ep:List list.Ep
 st:Bool
 fi:Bool
structure FP where
 f:Nat
 gs:Nat
 bs:Nat
 gt:Nat
 bt:Nat
 va:Value
 vf:Value
def foOf (p:FP) (x:FX):Fo:=⟨x.id,x.ck,p.va,x.made,x.key,x.base,p.vf,.slice none 0 0,.slice none 0 0,if x.st then .pointer (some ⟨p.gs,0,none⟩) else .pointer none,.pointer (some ⟨p.gt,0,none⟩),x.st,x.fi⟩
structure FoldI (w:World) (own:Nat→Nat) (p:FP) (x:FX):Prop where
 fo:FoldB w p.f (foOf p x)
 app:w.ownsRow 0 3 1 p.va x.ap.length (vec.enc x.ap)
 apS:∀ i,p.va.ownBlock=some i→own i=7
 a16:x.ap.length≤16
 fd:wire.OW w (fun i=>own i=10) 0 p.vf x.Lf
 sto:x.st=true→StI w p.gs p.bs x.L∧own p.gs=8∧own p.bs=9
 tab:tab.Tab w p.gt p.bt x.ep
 o1:own p.f=1
 o11:own p.gt=11
 o12:own p.bt=12
 small:∀ i,own i ≠ 0→i < w.heap.size
section
variable {w w':World} {own:Nat→Nat} {p:FP} {x:FX} {X:Nat→Prop}
theorem FoldI.keeps (h:FoldI w own p x) (hk:Keeps X w w') (hx:∀ i,own i ≠ 0→¬ X i):FoldI w' own p x :=
 have q:∀ {i t},own i=t→t ≠ 0→¬ X i:=fun h1 h2=>hx _ (h1 ▸ h2)
 ⟨Blk.keeps h.fo hk (q h.o1 (by decide)),dep.own_keeps h.app hk (fun i hi=>q (h.apS i hi) (by decide)),h.apS,h.a16,h.fd.keeps hk (fun _ hi=>q hi (by decide)),
  fun e=>⟨(h.sto e).1.keeps hk (q (h.sto e).2.1 (by decide)) (q (h.sto e).2.2 (by decide)),(h.sto e).2⟩,h.tab.keeps hk (q h.o11 (by decide)) (q h.o12 (by decide)),h.o1,h.o11,h.o12,fun i hi=>Nat.lt_of_lt_of_le (h.small i hi) hk.size⟩
theorem FoldI.below (h:FoldI w own p x) (hb:Below w.heap.size w w'):FoldI w' own p x:=h.keeps (X:=nobody) (.of_below hb) (fun _ _ h=>h)
theorem FoldI.drew (h:FoldI w own p x):FoldI w.drew own p x:=h.below (Below.refl _ _).drew
theorem FoldI.zero (h:FoldI w own p x) {i:Nat} (hi:w.heap.size≤i):own i=0:=Classical.byContradiction fun h2=>by have:=h.small i h2;omega
theorem FoldI.setFo {x':FX} (h:FoldI w own p x) (hf:FoldB w' p.f (foOf p x')) (hk:Keeps X w w') (hx:∀ i,X i→own i=1) (h1:x'.ap=x.ap) (h2:x'.Lf=x.Lf) (h3:x'.L=x.L) (h4:x'.ep=x.ep) (h5:x'.st=x.st):FoldI w' own p x' :=
 have q:∀ {i t},own i=t→t ≠ 1→¬ X i:=fun h1 h2 h3=>h2 (h1 ▸ hx _ h3)
 ⟨hf,by rw [h1];exact dep.own_keeps h.app hk (fun i hi=>q (h.apS i hi) (by decide)),h.apS,by rw [h1];exact h.a16,by rw [h2];exact h.fd.keeps hk (fun _ hi=>q hi (by decide)),
  fun e=>by rw [h3];rw [h5] at e;exact ⟨(h.sto e).1.keeps hk (q (h.sto e).2.1 (by decide)) (q (h.sto e).2.2 (by decide)),(h.sto e).2⟩,by rw [h4];exact h.tab.keeps hk (q h.o11 (by decide)) (q h.o12 (by decide)),h.o1,h.o11,h.o12,fun i hi=>Nat.lt_of_lt_of_le (h.small i hi) hk.size⟩
theorem FoldI.setApp {va:Value} {ap:List Int} (h:FoldI w own p x) (hf:FoldB w' p.f (foOf { p with va:=va } { x with ap:=ap })) (ha:w'.ownsRow w.heap.size 3 1 va ap.length (vec.enc ap)) (hl:ap.length≤16) (hk:Keeps X w w') (hx:∀ i,X i→own i=1) :
  ∃ own',FoldI w' own' { p with va:=va } { x with ap:=ap }∧Grown own own' w:=by
 have q:∀ {i t},own i=t→t ≠ 1→¬ X i:=fun h1 h2 h3=>h2 (h1 ▸ hx _ h3)
 have hS:∀ j,va.ownBlock=some j→w.heap.size≤j:=fun j hj=>(ha.lt j hj).1
 have hd:∀ j,va.ownBlock=some j→own j=7 ∨ own j=0:=fun j hj=>.inr (h.zero (hS j hj))
 have r:∀ {i t},own i=t→t ≠ 0→t ≠ 7→regive own 7 (fun j=>va.ownBlock=some j) i=t:=fun h1 h2 h3=>(regive_ne hd h2 h3).2 h1
 have e10:(fun i=>regive own 7 (fun j=>va.ownBlock=some j) i=10)=fun i=>own i=10:=setOf_eq fun i=>regive_ne hd (by decide) (by decide)
 refine ⟨regive own 7 (fun j=>va.ownBlock=some j),⟨hf,ownI_low' ha (Nat.zero_le _),fun i hi=>(regive_at (by decide)).2 hi,hl,by rw [e10];exact h.fd.keeps hk (fun _ hi=>q hi (by decide)),
  fun e=>⟨(h.sto e).1.keeps hk (q (h.sto e).2.1 (by decide)) (q (h.sto e).2.2 (by decide)),r (h.sto e).2.1 (by decide) (by decide),r (h.sto e).2.2 (by decide) (by decide)⟩,h.tab.keeps hk (q h.o11 (by decide)) (q h.o12 (by decide)),r h.o1 (by decide) (by decide),r h.o11 (by decide) (by decide),r h.o12 (by decide) (by decide),
  regive_small (fun i hi=>Nat.lt_of_lt_of_le (h.small i hi) hk.size) (fun i hi=>(ha.lt i hi).2)⟩,regive_grown (fun j hj=>.inr (hS j hj))⟩
theorem FoldI.setSto {L:List rows.R} (h:FoldI w own p x) (hs:x.st=true) (hc:StI w' p.gs p.bs L) (hk:Keeps X w w') (hx:∀ i,X i→own i=9):FoldI w' own p { x with L:=L } :=
 have q:∀ {i t},own i=t→t ≠ 9→¬ X i:=fun h1 h2 h3=>h2 (h1 ▸ hx _ h3)
 ⟨Blk.keeps h.fo hk (q h.o1 (by decide)),dep.own_keeps h.app hk (fun i hi=>q (h.apS i hi) (by decide)),h.apS,h.a16,h.fd.keeps hk (fun _ hi=>q hi (by decide)),
  fun _=>⟨hc,(h.sto hs).2⟩,h.tab.keeps hk (q h.o11 (by decide)) (q h.o12 (by decide)),h.o1,h.o11,h.o12,fun i hi=>Nat.lt_of_lt_of_le (h.small i hi) hk.size⟩
theorem FoldI.setFeed {vf:Value} {Lf:List wire.Wr} {S':Nat→Prop} (h:FoldI w own p x) (hf:FoldB w' p.f (foOf { p with vf:=vf } { x with Lf:=Lf })) (ho:wire.OW w' S' 0 vf Lf) (hk:Keeps X w w') (hx:∀ i,X i→own i=1 ∨ own i=10) (hS:∀ i,S' i→own i=10 ∨ own i=0) (hsm:∀ i,S' i→i < w'.heap.size) :
  ∃ own',FoldI w' own' { p with vf:=vf } { x with Lf:=Lf }∧(∀ i,own' i=own i ∨ own' i=0 ∨ (S' i∧own i=0)):=by
 have q:∀ {i t},own i=t→t ≠ 1→t ≠ 10→¬ X i:=fun h1 h2 h2' h3=>(hx _ h3).elim (fun h4=>h2 (h1 ▸ h4)) (fun h4=>h2' (h1 ▸ h4))
 have r:∀ {i t},own i=t→t ≠ 0→t ≠ 10→regive own 10 S' i=t:=fun h1 h2 h3=>(regive_ne hS h2 h3).2 h1
 have e10:(fun i=>regive own 10 S' i=10)=S':=setOf_eq fun i=>regive_at (by decide)
 refine ⟨regive own 10 S',⟨hf,dep.own_keeps h.app hk (fun i hi=>q (h.apS i hi) (by decide) (by decide)),fun i hi=>r (h.apS i hi) (by decide) (by decide),h.a16,by rw [e10];exact ho,
  fun e=>⟨(h.sto e).1.keeps hk (q (h.sto e).2.1 (by decide) (by decide)) (q (h.sto e).2.2 (by decide) (by decide)),r (h.sto e).2.1 (by decide) (by decide),r (h.sto e).2.2 (by decide) (by decide)⟩,h.tab.keeps hk (q h.o11 (by decide) (by decide)) (q h.o12 (by decide) (by decide)),r h.o1 (by decide) (by decide),r h.o11 (by decide) (by decide),r h.o12 (by decide) (by decide),
  regive_small (fun i hi=>Nat.lt_of_lt_of_le (h.small i hi) hk.size) hsm⟩,fun i=>?_⟩
 unfold regive
 by_cases h1:S' i
 ·rw [if_pos h1]
  rcases hS i h1 with h2|h2
  ·exact .inl h2.symm
  ·exact .inr (.inr ⟨h1,h2⟩)
 ·rw [if_neg h1]
  split
  ·exact .inr (.inl rfl)
  ·exact .inl rfl
end
end Go.Proofs.YtdaphppdmnmicaaGreatDoor.regn
namespace Go.Proofs.YtdaphppdmnmicaaGreatDoor.regn
open Go Go.RowKit base err map_ above merge rows Go.Maps store fold monoj rowe
def writeX (x:FX) (y:wire.Wr):FX :=
 { x with ap:=with_.withL x.ap y.r y.n,ck:=max x.ck y.t,L:=takeL x.L (y.se,y.k) ⟨y.t,y.s,y.v,y.g,y.l⟩,Lf:=if y.r=x.id then x.Lf ++ [y] else x.Lf }
def FoldR (d:Value) (own:Nat→Nat) (p:FP) (x:FX) (w:World) (e:Ending) (w':World):Prop :=
 e=.returned .nilIface∧∃ own' va vf,FoldI w' own' { p with va:=va,vf:=vf } x∧(∀ i,own' i=own i ∨ own' i=0 ∨ w.heap.size≤i ∨ d.ownBlock=some i)∧Keeps (tags own [1,9,10]) w w'
section
variable {w:World} {own:Nat→Nat} {p:FP} {x:FX}
set_option maxRecDepth 20000 in
set_option maxHeartbeats 4000000 in
theorem fwrite_w (y:wire.Wr) (h:FoldI w own p x) (hst:x.st=true) (hnum:wire.NumsO w 0 y.d y.z) (hT:∀ i,y.d.ownBlock=some i→own i=0) (hLf:x.Lf.length < 900000) (hz1:y.se.size≤maxLen) (hz2:y.k.size≤maxLen) (ht:0≤y.t∧y.t≤1099511627776)
  (hr:1≤y.r∧y.r≤16) (hn:1≤y.n∧y.n≤1099511627776) (hat:y.n=vec.atV x.ap y.r + 1) (hcv:vec.coversB x.ap y.z=true) :
  Calls Tryz.prog 88 #[.pointer (some ⟨p.f,0,none⟩),.agg ⟨y.cells⟩] w (FoldR y.d own p (writeX x y) w):=by
 obtain ⟨i0,hi0,hz⟩:=Option.map_eq_some_iff.1 wire.write_info
 simp only [Prod.mk.injEq] at hz
 obtain ⟨hz0,hz1',hz2'⟩:=hz
 obtain ⟨A,c,hd,hvz⟩:=vec.Vec.of_own (show w.ownsRow 0 3 1 y.d y.z.length (vec.enc y.z) from hnum.1)
 obtain ⟨Aa,ca,hva,hvv⟩:=vec.Vec.of_own h.app
 obtain ⟨X2,hX2⟩:∃ X2,writeX x y=X2:=⟨_,rfl⟩
 rw [hX2]
 unfold writeX at hX2
 obtain ⟨yr,yn,yt,ys,yd,yz,yse,yk,yv,yg,yl⟩:=y
 dsimp only at hd ht hz1 hz2 hnum hT hX2 hr hn hat hcv hvz
 subst hd
 have HX2:=Lib.hid hX2
 have HNUM:=Lib.hid hnum
 have HT:=Lib.hid hT
 have HAT:=Lib.hid hat
 have HCV:=Lib.hid hcv
 have HZ:=Lib.hid (And.intro hz1 hz2)
 have HST:=Lib.hid hst
 have h16:=h.a16
 have H:=Lib.hid h
 have HVV:=Lib.hid hvv
 have HVZ:=Lib.hid hvz
 have HVA:=Lib.hid hva
 have hznl:=hnum.2
 clear hnum hT hX2 hat hcv hz1 hz2 hst hvv hva hvz
 have hlt:=h.fo.lt
 clear h
 have hb1:=below_new w (.cells (wire.Wr.cells ⟨yr,yn,yt,ys,.slice A yz.length c,yz,yse,yk,yv,yg,yl⟩).toArray 34)
 have hW1:=Blk.new w 34 (wire.Wr.cells ⟨yr,yn,yt,ys,.slice A yz.length c,yz,yse,yk,yv,yg,yl⟩).toArray
 have HF1:=Lib.hid (H.out.below hb1)
 have HN1:=Lib.hid (HNUM.out.below hb1)
 have HB1:=Lib.hid hb1
 have hcb0:own w.heap.size=0:=H.out.zero (Nat.le_refl _)
 have hcb:w.heap.size < (w.alloc (.cells (wire.Wr.cells ⟨yr,yn,yt,ys,.slice A yz.length c,yz,yse,yk,yv,yg,yl⟩).toArray 34)).heap.size:=by simp
 have HV1:=Lib.hid (HVV.out.below hb1)
 have HZ1:=Lib.hid (HVZ.out.below hb1)
 clear hb1
 go_enter Tryz.func88,Tryz.ntmps88
 go_wp2_with fail
 obtain ⟨cb,hcbe⟩:∃ cb,w.heap.size=cb:=⟨_,rfl⟩
 rw [hcbe] at hW1 hcb hcb0 hlt ⊢
 generalize w.alloc (.cells (wire.Wr.cells ⟨yr,yn,yt,ys,.slice A yz.length c,yz,yse,yk,yv,yg,yl⟩).toArray 34)=w1 at *
 have HW1:=Lib.hid hW1
 have c2:w1.cell? ⟨p.f,2,none⟩=some (.slice Aa x.ap.length ca):=by rw [← HVA.out];exact HF1.out.fo.cell 2
 obtain ⟨b0,b1,b2,b3,b4,b5,b6,b7,b8,b9⟩:=cells10 hW1
 have hlt1:p.f < w1.heap.size:=by omega
 have hcl1:=hW1.lt
 clear hW1
 have hnb:-1≤vec.atV x.ap yr∧vec.atV x.ap yr≤1099511627776:=by have:=HAT.out;omega
 have hw1:IntKind.i64.wrap (vec.atV x.ap yr + 1)=vec.atV x.ap yr + 1:=by rw [IntKind.wrap_i64];omega
 obtain ⟨nb,hnbe⟩:∃ z,vec.atV x.ap yr=z:=⟨_,rfl⟩
 rw [hnbe] at hw1 hnb
 have hyn:yn=nb + 1:=by rw [← hnbe];exact HAT.out
 have dne:(yn != nb + 1)=false:=by rw [hyn];simp
 clear hyn
 refine wp_region_mono nobody (by kernel_rfl) ?_
 iterate 9
  first|refine qT 0 (v:=?_) ?_ ?_|refine qT 1 (v:=?_) ?_ ?_|refine qT 2 (v:=?_) ?_ ?_|refine qT 3 (v:=?_) ?_ ?_|refine qT 4 (v:=?_) ?_ ?_|refine qT 5 (v:=?_) ?_ ?_|refine qT 6 (v:=?_) ?_ ?_|refine qT 7 (v:=?_) ?_ ?_|refine qT 8 (v:=?_) ?_ ?_
  rotate_left
  ·(intro W hSw;(have hcW:=hSw.cells;try simp only [qSd] at hcW);go_simp <;> rfl)
  try simp only [qPA]
  (try rw [hw1]);(try rw [dne])
 refine wpMono_one' 9 (by kernel_rfl) rfl (by rfl) (fun K hK=>?_)
 go_simp
 refine (vec.at_any Aa x.ap.length ca x.ap yr _ _ (show vec.Vec w1.drew cb Aa x.ap.length ca x.ap from hcbe ▸ HV1.out) (by omega)).mono ?_
 rintro e w2 ⟨rfl,rfl⟩
 rw [hnbe]
 refine hK.out _ _ ?_ ?_
 ·exact .refl _ _
 clear hK K
 try simp only [qPA]
 (try rw [hw1]);(try rw [dne])
 iterate 10
  first|refine qT 10 (v:=?_) ?_ ?_|refine qT 11 (v:=?_) ?_ ?_|refine qT 12 (v:=?_) ?_ ?_|refine qT 13 (v:=?_) ?_ ?_|refine qT 14 (v:=?_) ?_ ?_|refine qT 15 (v:=?_) ?_ ?_|refine qT 16 (v:=?_) ?_ ?_|refine qT 17 (v:=?_) ?_ ?_|refine qT 18 (v:=?_) ?_ ?_|refine qT 19 (v:=?_) ?_ ?_
  rotate_left
  ·(intro W hSw;(have hcW:=hSw.cells;try simp only [qSd] at hcW);go_simp <;> rfl)
  try simp only [qPA]
  (try rw [hw1]);(try rw [dne])
 refine wpMono_one' 20 (by kernel_rfl) rfl (by rfl) (fun K hK=>?_)
 go_simp
 refine (vec.covers_any Aa x.ap.length ca x.ap A yz.length c yz w1.drew cb (show vec.Vec w1.drew cb Aa x.ap.length ca x.ap from hcbe ▸ HV1.out) (show vec.Vec w1.drew cb A yz.length c yz from hcbe ▸ HZ1.out) (by omega) (by omega)).mono ?_
 rintro e w2 ⟨rfl,rfl⟩
 rw [HCV.out]
 refine hK.out _ _ ?_ ?_
 ·exact .refl _ _
 clear hK K
 try simp only [qPA]
 (try rw [hw1]);(try rw [dne])
 iterate 2
  first|refine qT 21 (v:=?_) ?_ ?_|refine qT 22 (v:=?_) ?_ ?_
  rotate_left
  ·(intro W hSw;(have hcW:=hSw.cells;try simp only [qSd] at hcW);go_simp <;> rfl)
  try simp only [qPA]
  (try rw [hw1]);(try rw [dne])
 refine wpMono_done (by kernel_rfl) ?_ _
 have HF2:=Lib.hid HF1.out.drew
 have HN2:=Lib.hid (show wire.NumsO w1.drew 0 (.slice A yz.length c) yz from HN1.out.keeps (X:=nobody) Keeps.drew (fun _ _ h=>h))
 have HB2:=Lib.hid (HB1.out.drew)
 have HW2:=Lib.hid (Blk.drew HW1.out)
 have HV2:=Lib.hid (show vec.Vec w1.drew cb Aa x.ap.length ca x.ap from hcbe ▸ HV1.out)
 have hs2:w1.drew.heap.size=w1.heap.size:=rfl
 clear b0 b1 b2 b3 b4 b5 b6 b7 b8 b9 c2 hw1 dne HF1 HN1 HB1 HW1 HV1 HZ1
 rw [← hs2] at hlt1 hcl1 hcb
 clear hs2
 generalize w1.drew=w2 at *
 have c2:w2.cell? ⟨p.f,2,none⟩=some (.slice Aa x.ap.length ca):=by rw [← HVA.out];exact HF2.out.fo.cell 2
 obtain ⟨b0,b1,b2,b3,b4,b5,b6,b7,b8,b9⟩:=cells10 HW2.out
 go_wp2_with fail
 refine wp_region_monoJ (fun i=>i=p.f) [14] (by kernel_rfl) ?_
 iterate 5
  first|refine qJ 0 (v:=?_) ?_ ?_|refine qJ 1 (v:=?_) ?_ ?_|refine qJ 2 (v:=?_) ?_ ?_|refine qJ 3 (v:=?_) ?_ ?_|refine qJ 4 (v:=?_) ?_ ?_
  rotate_left
  ·(intro W hSw;(first|(have hcW:=hSw.cells;try simp only [qSd] at hcW)|skip);go_simp <;> rfl)
  try simp only [qPA]
 refine wpMonoJ_read' 5 [10,11,12,13,14] (v:=?_) rfl (by kernel_rfl) (by kernel_rfl) (by kernel_rfl) (by rfl) (by kernel_rfl) (by rfl) (fun _ _ _ h=>h) (by rfl) ?_ ?_
 rotate_left
 ·(intro W hSw;(first|(have hcW:=hSw.cells;try simp only [qSd] at hcW)|skip);go_simp <;> rfl)
 try simp only [qPA]
 refine qJ 6 (v:=?_) ?_ ?_;rotate_left
 ·(intro W hSw;(first|(have hcW:=hSw.cells;try simp only [qSd] at hcW)|skip);go_simp <;> rfl)
 try simp only [qPA]
 refine wpMonoJ_read' 7 [10,11,12,13,14] (v:=?_) rfl (by kernel_rfl) (by kernel_rfl) (by kernel_rfl) (by rfl) (by kernel_rfl) (by rfl) (fun _ _ _ h=>h) (by rfl) ?_ ?_
 rotate_left
 ·(intro W hSw;(first|(have hcW:=hSw.cells;try simp only [qSd] at hcW)|skip);go_simp <;> rfl)
 try simp only [qPA]
 refine qJ 8 (v:=?_) ?_ ?_;rotate_left
 ·(intro W hSw;(first|(have hcW:=hSw.cells;try simp only [qSd] at hcW)|skip);go_simp <;> rfl)
 try simp only [qPA]
 refine wpMonoJ_read' 9 [10,11,12,13,14] (v:=?_) rfl (by kernel_rfl) (by kernel_rfl) (by kernel_rfl) (by rfl) (by kernel_rfl) (by rfl) (fun _ _ _ h=>h) (by rfl) ?_ ?_
 rotate_left
 ·(intro W hSw;(first|(have hcW:=hSw.cells;try simp only [qSd] at hcW)|skip);go_simp <;> rfl)
 try simp only [qPA]
 refine wpMonoJ_one' 10 (by kernel_rfl) rfl (by rfl) (fun K hK=>?_)
 go_simp
 refine (with_.with_any Aa x.ap.length ca x.ap yr yn w2.drew (show vec.Vec w2.drew w2.drew.heap.size Aa x.ap.length ca x.ap from (HV2.out.more (by have e:w2.drew.heap.size=w2.heap.size:=rfl;omega))) (by omega)).mono ?_
 rintro e w3 ⟨va',rfl,hown,hb3⟩
 obtain ⟨A5,c5,rfl⟩:=ownsRow_slice hown
 have HO3:=Lib.hid hown
 have HB3:=Lib.hid hb3
 have hf3:=HF2.out.drew.below hb3
 have HF3:=Lib.hid hf3
 have e2:w3.cell? ⟨p.f,2,none⟩=some (.slice Aa x.ap.length ca):=by rw [← HVA.out];exact hf3.fo.cell 2
 have ef:=hf3.fo.frozen 2
 have el:=hf3.fo.lt
 clear hown hb3 hf3
 refine hK.out _ _ ?_ ?_
 ·exact .of_below HB3.out
 clear hK K
 try simp only [qPA]
 iterate 3
  first|refine qJ 11 (v:=?_) ?_ ?_|refine qJ 12 (v:=?_) ?_ ?_|refine qJ 13 (v:=?_) ?_ ?_
  rotate_left
  ·(intro W hSw;(first|(have hcW:=hSw.cells;try simp only [qSd] at hcW)|skip);go_simp <;> rfl)
  try simp only [qPA]
 refine wpMonoJ_one' 14 (by kernel_rfl) rfl (by rfl) (fun K hK=>?_)
 go_simp
 refine hK.out _ _ ?_ ?_
 ·exact moved (Keeps.set1 _ _ _ _) (by decide)
 clear hK K
 try simp only [Act.put]
 refine wpMonoJ_done (by kernel_rfl) ?_ _
 have hwl:(with_.withL x.ap yr yn).length≤16:=dep.with_len h16
 have hks:Keeps (· = p.f) w3 (w3.setCell ⟨p.f,2,none⟩ (.slice A5 (with_.withL x.ap yr yn).length c5)):=Keeps.set1 _ _ _ _
 have hfo4:FoldB (w3.setCell ⟨p.f,2,none⟩ (.slice A5 (with_.withL x.ap yr yn).length c5)) p.f (foOf { p with va:=.slice A5 (with_.withL x.ap yr yn).length c5 } { x with ap:=with_.withL x.ap yr yn }):=HF3.out.fo.set_ 2 _
 obtain ⟨o4,hf4,hg4⟩:=HF2.out.drew.setApp hfo4 (dep.own_keeps HO3.out hks (fun i hi e=>own_blk_ne HO3.out HF3.out.fo (by decide) (show (Value.slice A5 (with_.withL x.ap yr yn).length c5).ownBlock=some p.f from by rw [← (show i=p.f from e)];exact hi))) hwl ((Keeps.of_below HB3.out).trans hks) (fun i (e:i=p.f)=>by rw [e];exact HF2.out.o1)
 have ho1:=HF2.out.o1
 have HG4:=Lib.hid (show Grown own o4 w from hg4.later (Nat.le_trans HB2.out.size (Nat.le_refl _)))
 have HK4:=Lib.hid (show Keeps (tags own [1,9,10]) w (w3.setCell ⟨p.f,2,none⟩ (.slice A5 (with_.withL x.ap yr yn).length c5)) from
  ((((Keeps.of_below (X:=nobody) HB2.out).trans Keeps.drew).trans (.of_below HB3.out)).more fun _ _ h=>h.elim).trans (hks.more fun i _ e=>by have e:i=p.f:=e;rw [e];exact ⟨by rw [ho1];decide,by rw [ho1];decide⟩))
 have hcf:¬ cb=p.f:=fun e=>by rw [e,ho1] at hcb0;cases hcb0
 have HW4:=Lib.hid (Blk.keeps (Blk.below (Blk.drew HW2.out) HB3.out (Blk.drew HW2.out).lt) hks hcf)
 have HN4:=Lib.hid (((HN2.out.keeps (X:=nobody) Keeps.drew (fun _ _ h=>h)).below HB3.out).keeps hks (fun i hi e=>by have e:i=p.f:=e;have h0:=HT.out i hi;rw [e,ho1] at h0;cases h0))
 have HF4:=Lib.hid hf4
 have hs4:=hks.size
 clear b0 b1 b2 b3 b4 b5 b6 b7 b8 b9 c2 hks hfo4 hf4 hg4 HF2 HN2 HB2 HW2 HV2 HO3 HB3 HF3 e2 ef el hlt1 hcl1 hcb hs4
 generalize w3.setCell ⟨p.f,2,none⟩ (.slice A5 (with_.withL x.ap yr yn).length c5)=w4 at *
 have c1:w4.cell? ⟨p.f,1,none⟩=some (.int .i64 x.ck):=HF4.out.fo.cell 1
 have z1:=HF4.out.fo.frozen 1
 have b2:w4.cell? ⟨cb,2,none⟩=some (.int .i64 yt):=HW4.out.cell 2
 have hf4l:p.f < w4.heap.size:=HF4.out.fo.lt
 have hc4l:=HW4.out.lt
 go_wp2_with fail
 refine wp_region_monoJ (fun i=>i=p.f) [13] (by kernel_rfl) ?_
 iterate 5
  first|refine qJ 0 (v:=?_) ?_ ?_|refine qJ 1 (v:=?_) ?_ ?_|refine qJ 2 (v:=?_) ?_ ?_|refine qJ 3 (v:=?_) ?_ ?_|refine qJ 4 (v:=?_) ?_ ?_
  rotate_left
  ·(intro W hSw;(first|(have hcW:=hSw.cells;try simp only [qSd] at hcW)|skip);go_simp <;> rfl)
  try simp only [qPA]
 refine wpMonoJ_read' 5 [9,10,11,12,13] (v:=?_) rfl (by kernel_rfl) (by kernel_rfl) (by kernel_rfl) (by rfl) (by kernel_rfl) (by rfl) (fun _ _ _ h=>h) (by rfl) ?_ ?_
 rotate_left
 ·(intro W hSw;(first|(have hcW:=hSw.cells;try simp only [qSd] at hcW)|skip);go_simp <;> rfl)
 try simp only [qPA]
 iterate 2
  first|refine qJ 6 (v:=?_) ?_ ?_|refine qJ 7 (v:=?_) ?_ ?_
  rotate_left
  ·(intro W hSw;(first|(have hcW:=hSw.cells;try simp only [qSd] at hcW)|skip);go_simp <;> rfl)
  try simp only [qPA]
 refine wpMonoJ_read' 8 [9,10,11,12,13] (v:=?_) rfl (by kernel_rfl) (by kernel_rfl) (by kernel_rfl) (by rfl) (by kernel_rfl) (by rfl) (fun _ _ _ h=>h) (by rfl) ?_ ?_
 rotate_left
 ·(intro W hSw;(first|(have hcW:=hSw.cells;try simp only [qSd] at hcW)|skip);go_simp <;> rfl)
 try simp only [qPA]
 iterate 4
  first|refine qJ 9 (v:=?_) ?_ ?_|refine qJ 10 (v:=?_) ?_ ?_|refine qJ 11 (v:=?_) ?_ ?_|refine qJ 12 (v:=?_) ?_ ?_
  rotate_left
  ·(intro W hSw;(first|(have hcW:=hSw.cells;try simp only [qSd] at hcW)|skip);go_simp <;> rfl)
  try simp only [qPA]
 refine wpMonoJ_one' 13 (by kernel_rfl) rfl (by rfl) (fun K hK=>?_)
 go_simp
 refine hK.out _ _ ?_ ?_
 ·exact moved (Keeps.set1 _ _ _ _) (by decide)
 clear hK K
 try simp only [Act.put]
 refine wpMonoJ_done (by kernel_rfl) ?_ _
 have hmx:(if x.ck < yt then yt else x.ck)=max x.ck yt:=by
  split
  ·rw [Int.max_eq_right (by omega)]
  ·rw [Int.max_eq_left (by omega)]
 rw [hmx]
 have ho4:=HF4.out.o1
 have hkd:Keeps (· = p.f) w4 (w4.setCell ⟨p.f,1,none⟩ (.int .i64 (max x.ck yt))).drew:=(Keeps.set1 _ _ _ _).trans Keeps.drew
 have HF5:=Lib.hid (HF4.out.setFo (x':={ x with ap:=with_.withL x.ap yr yn,ck:=max x.ck yt }) (HF4.out.fo.set_ 1 (.int .i64 (max x.ck yt))).drew hkd (fun i (e:i=p.f)=>by rw [e];exact ho4) rfl rfl rfl rfl rfl)
 have HW5:=Lib.hid (Blk.keeps HW4.out hkd hcf)
 have HN5:=Lib.hid (HN4.out.keeps hkd (fun i hi e=>by have e:i=p.f:=e;have h0:=HT.out i hi;rw [e,ho1] at h0;cases h0))
 have HK5:=Lib.hid (Keeps.tags HK4.out HG4.out (hkd.more (Y:=tags o4 [1]) (fun i _ e=>by have e:i=p.f:=e;rw [e];exact ⟨by rw [ho4];decide,by rw [ho4];decide⟩)) (fun _ h=>h) (by decide))
 clear hkd HF4 HW4 HN4 HK4 c1 z1 b2 hf4l hc4l hmx
 generalize (w4.setCell ⟨p.f,1,none⟩ (.int .i64 (max x.ck yt))).drew=w5 at *
 obtain ⟨hsto,ho8,ho9⟩:=HF5.out.sto HST.out
 have c9:w5.cell? ⟨p.f,9,none⟩=some (.pointer (some ⟨p.gs,0,none⟩)):=by
  have h:=HF5.out.fo.cell 9
  have e:(foOf { p with va:=.slice A5 (with_.withL x.ap yr yn).length c5 } { x with ap:=with_.withL x.ap yr yn,ck:=max x.ck yt }).cells[9]?=some (if x.st then .pointer (some ⟨p.gs,0,none⟩) else .pointer none):=rfl
  rw [e,HST.out] at h
  exact h
 obtain ⟨b0,b1,b2,b3,b4,b5,b6,b7,b8,b9⟩:=cells10 HW5.out
 have HS5:=Lib.hid hsto
 have HO9:=Lib.hid ho9
 have hf5l:p.f < w5.heap.size:=HF5.out.fo.lt
 have hc5l:=HW5.out.lt
 clear hsto ho8 ho9
 go_wp2_with fail
 refine wp_region_monoJ (fun i=>i=p.bs) [5] (by kernel_rfl) ?_
 iterate 3
  first|refine qJ 0 (v:=?_) ?_ ?_|refine qJ 1 (v:=?_) ?_ ?_|refine qJ 2 (v:=?_) ?_ ?_
  rotate_left
  ·(intro W hSw;(first|(have hcW:=hSw.cells;try simp only [qSd] at hcW)|skip);go_simp <;> rfl)
  try simp only [qPA]
 refine wpMonoJ_read' 3 [5] (v:=?_) rfl (by kernel_rfl) (by kernel_rfl) (by kernel_rfl) (by rfl) (by kernel_rfl) (by rfl) (fun _ _ _ h=>h) (by rfl) ?_ ?_
 rotate_left
 ·(intro W hSw;(first|(have hcW:=hSw.cells;try simp only [qSd] at hcW)|skip);go_simp <;> rfl)
 try simp only [qPA]
 refine wpMonoJ_read' 4 [5] (v:=?_) rfl (by kernel_rfl) (by kernel_rfl) (by kernel_rfl) (by rfl) (by kernel_rfl) (by rfl) (fun _ _ _ h=>h) (by rfl) ?_ ?_
 rotate_left
 ·(intro W hSw;(first|(have hcW:=hSw.cells;try simp only [qSd] at hcW)|skip);go_simp <;> rfl)
 try simp only [qPA]
 refine wpMonoJ_one' 5 (by kernel_rfl) rfl (by rfl) (fun K hK=>?_)
 go_simp
 refine (apply_any p.gs p.bs x.L yr yn yt ys A yz.length c yse yk yv yg yl w5.drew (HS5.out.below (Below.refl _ _).drew) HZ.out.1 HZ.out.2).mono ?_
 rintro e w6 ⟨rfl,hs6,hk6⟩
 have HS6:=Lib.hid hs6
 have HK6:=Lib.hid hk6
 clear hs6 hk6
 refine hK.out _ _ ?_ ?_
 ·exact moved HK6.out (by decide)
 clear hK K
 try simp only [qPA]
 refine wpMonoJ_done (by kernel_rfl) ?_ _
 have HF6:=Lib.hid (HF5.out.drew.setSto HST.out HS6.out HK6.out (fun i (e:i=p.bs)=>by rw [e];exact HO9.out))
 have hcb:¬ cb=p.bs:=fun e=>by
  obtain ⟨m,hm,_⟩:=HS5.out.map
  exact hm.not_blk (e ▸ HW5.out) rfl
 have HW6:=Lib.hid (Blk.keeps (Blk.drew HW5.out) HK6.out hcb)
 have HN6:=Lib.hid ((HN5.out.keeps (X:=nobody) Keeps.drew (fun _ _ h=>h)).keeps HK6.out (fun i hi e=>by
  have e:i=p.bs:=e
  obtain ⟨m,hm,_⟩:=HS5.out.map
  rcases HN5.out.1.2 with ⟨e2,_⟩|⟨g2,_,_,e2,_,hh2,_⟩
  ·rw [e2] at hi;cases hi
  ·rw [e2] at hi
   injection hi with hi
   have hi:g2=i:=hi
   subst hi
   rw [e] at hh2
   exact hm.not_blk (g:=p.bs) (t:=3) (by unfold Blk;exact hh2) rfl))
 have HK06:=Lib.hid (Keeps.tags HK5.out HG4.out (Keeps.drew.trans (HK6.out.more (Y:=tags o4 [9]) (fun i _ e=>by have e:i=p.bs:=e;rw [e];exact ⟨by rw [HO9.out];decide,by rw [HO9.out];decide⟩))) (fun _ h=>h) (by decide))
 clear b0 b1 b2 b3 b4 b5 b6 b7 b8 b9 c9 HF5 HW5 HN5 HK5 hf5l hc5l
 have c0:w6.cell? ⟨p.f,0,none⟩=some (.int .i64 x.id):=HF6.out.fo.cell 0
 obtain ⟨b0,b1,b2,b3,b4,b5,b6,b7,b8,b9⟩:=cells10 HW6.out
 have hf6l:p.f < w6.heap.size:=HF6.out.fo.lt
 have hc6l:=HW6.out.lt
 by_cases hown:yr=(x.id:Int)
 ·have HOWN:=Lib.hid hown
  have deq:(yr == (x.id:Int))=true:=by simpa using hown
  clear hown
  go_wp2_with fail
  refine wp_region_mono nobody (by kernel_rfl) ?_
  iterate 7
   first|refine qT 0 (v:=?_) ?_ ?_|refine qT 1 (v:=?_) ?_ ?_|refine qT 2 (v:=?_) ?_ ?_|refine qT 3 (v:=?_) ?_ ?_|refine qT 4 (v:=?_) ?_ ?_|refine qT 5 (v:=?_) ?_ ?_|refine qT 6 (v:=?_) ?_ ?_
   rotate_left
   ·(intro W hSw;(have hcW:=hSw.cells;try simp only [qSd] at hcW);go_simp <;> rfl)
   try simp only [qPA]
  refine wpMono_done (by kernel_rfl) ?_ _
  have HF7:=Lib.hid HF6.out.drew
  have HW7:=Lib.hid (Blk.drew HW6.out)
  have HN7:=Lib.hid (show wire.NumsO w6.drew 0 (.slice A yz.length c) yz from HN6.out.keeps (X:=nobody) Keeps.drew (fun _ _ h=>h))
  have HK7:=Lib.hid (HK06.out.trans Keeps.drew)
  clear b0 b1 b2 b3 b4 b5 b6 b7 b8 b9 c0 hf6l hc6l HF6 HW6 HN6 HK06 deq HS6 HK6 HS5
  go_wp2_with fail
  generalize w6.drew=w7 at *
  obtain ⟨Af,cf,hvf⟩:=ownsRow_slice HF7.out.fd.row
  have HVF:=Lib.hid hvf
  have c6:w7.cell? ⟨p.f,6,none⟩=some (.slice Af x.Lf.length cf):=by rw [← hvf];exact HF7.out.fo.cell 6
  obtain ⟨b0,b1,b2,b3,b4,b5,b6,b7,b8,b9⟩:=cells10 HW7.out
  have hf7l:p.f < w7.heap.size:=HF7.out.fo.lt
  have hc7l:=HW7.out.lt
  clear hvf
  refine wp_region_monoJ (fun _=>True) [8,12] (by kernel_rfl) ?_
  iterate 5
   first|refine qJ 0 (v:=?_) ?_ ?_|refine qJ 1 (v:=?_) ?_ ?_|refine qJ 2 (v:=?_) ?_ ?_|refine qJ 3 (v:=?_) ?_ ?_|refine qJ 4 (v:=?_) ?_ ?_
   rotate_left
   ·(intro W hSw;(try (have hcW:=hSw.cells;try simp only [qSd] at hcW));go_simp <;> rfl)
   try simp only [qPA]
  refine wpMonoJ_read' 5 [8,9,10,11,12] (v:=?_) rfl (by kernel_rfl) (by kernel_rfl) (by kernel_rfl) (by rfl) (by kernel_rfl) (by rfl) (fun _ _ _ h=>h) (by rfl) ?_ ?_
  rotate_left
  ·(intro W hSw;(try (have hcW:=hSw.cells;try simp only [qSd] at hcW));go_simp <;> rfl)
  try simp only [qPA]
  refine wpMonoJ_read' 6 [7,8,9,10,11,12] (v:=?_) rfl (by kernel_rfl) (by kernel_rfl) (by kernel_rfl) (by rfl) (by kernel_rfl) (by rfl) (fun _ _ _ h=>h) (by rfl) ?_ ?_
  rotate_left
  ·(intro W hSw;(try (have hcW:=hSw.cells;try simp only [qSd] at hcW));go_simp <;> rfl)
  try simp only [qPA]
  refine wpMonoJ_one' 7 (by kernel_rfl) rfl (by rfl) (fun K hK=>?_)
  go_simp
  refine hK.out _ _ ?_ ?_
  ·exact (show Keeps _ w7.drew (w7.drew.alloc _) from .alloc _)
  clear hK K
  try simp only [qPA]
  refine wpMonoJ_one' 8 (by kernel_rfl) rfl (by rfl) (fun K hK=>?_)
  have hb7:Below w7.heap.size w7 (w7.alloc (.cells #[.int .i64 yr,.int .i64 yn,.int .i64 yt,.int .i64 ys,.slice A yz.length c,.string yse,.string yk,.string yv,.bool yg,.int .i64 yl] 34)).drew:=(below_new _ _).drew
  have HF8:=Lib.hid (HF7.out.below hb7)
  have HN8:=Lib.hid (HN7.out.below hb7)
  have HB7:=Lib.hid hb7
  have hold:=HF8.out.fd.row
  have hvv:({ p with va:=.slice A5 (with_.withL x.ap yr yn).length c5 }:FP).vf=.slice Af x.Lf.length cf:=HVF.out
  rw [hvv] at hold
  have hr:=Reads.newD w7 #[.int .i64 yr,.int .i64 yn,.int .i64 yt,.int .i64 ys,.slice A yz.length c,.string yse,.string yk,.string yv,.bool yg,.int .i64 yl] 34 (0,0) (n:=1) (size:=10) rfl
  refine wp_append_any _ (.tmp 74) (.tmp 76) _ (by rfl) 0 34 i0 _ 10 120 Tryz.underlying25 hi0 hz0 hz1' hz2' rfl (by omega) (.slice Af x.Lf.length cf) x.Lf.length _ (by rfl) hold _ _ 1 1 (wire.Wr.cells ⟨yr,yn,yt,ys,.slice A yz.length c,yz,yse,yk,yv,yg,yl⟩) (by rfl) hr (wire.oneW _ rfl) (by unfold maxLen;omega) (by omega) (Nat.zero_le _) fun v8 w8 hv8 hg8 hw8=>?_
  refine hK.out _ _ ?_ ?_
  ·exact moved (.grown hg8 fun i hi=>.inl trivial) (by decide)
  clear hK K
  try simp only [qPA]
  iterate 3
   first|refine qJ 9 (v:=?_) ?_ ?_|refine qJ 10 (v:=?_) ?_ ?_|refine qJ 11 (v:=?_) ?_ ?_
   rotate_left
   ·(intro W hSw;(try (have hcW:=hSw.cells;try simp only [qSd] at hcW));go_simp <;> rfl)
   try simp only [qPA]
  refine wpMonoJ_one' 12 (by kernel_rfl) rfl (by rfl) (fun K hK=>?_)
  obtain ⟨A8,c8,rfl⟩:=ownsRow_slice hv8
  have hk8:Keeps (fun i=>(Value.slice Af x.Lf.length cf).ownBlock=some i) (w7.alloc (.cells #[.int .i64 yr,.int .i64 yn,.int .i64 yt,.int .i64 ys,.slice A yz.length c,.string yse,.string yk,.string yv,.bool yg,.int .i64 yl] 34)).drew w8:=.grown hg8 fun g hg=>.inl hg
  have hfo8:FoldB w8 p.f _:=Blk.keeps HF8.out.fo hk8 (fun e=>own_blk_ne hold HF8.out.fo (by decide) e)
  have p6:w8.cell? ⟨p.f,6,none⟩=some (.slice Af x.Lf.length cf):=by rw [← hvv];exact hfo8.cell 6
  have pf:=hfo8.frozen 6
  have pl:=hfo8.lt
  have HFO8:=Lib.hid hfo8
  have HK8:=Lib.hid hk8
  have Hv8:=Lib.hid hv8
  have Hg8:=Lib.hid hg8
  have Hw8:=Lib.hid hw8
  have HOLD:=Lib.hid hold
  clear hv8 hg8 hw8 hfo8 hk8 hold hr
  go_simp
  refine hK.out _ _ ?_ ?_
  ·exact moved (.setCell (.inl trivial) _) (by decide)
  clear hK K
  try simp only [Act.put]
  refine wpMonoJ_done (by kernel_rfl) ?_ _
  have ho4f:=HF7.out.o1
  generalize (w7.alloc (.cells #[.int .i64 yr,.int .i64 yn,.int .i64 yt,.int .i64 ys,.slice A yz.length c,.string yse,.string yk,.string yv,.bool yg,.int .i64 yl] 34)).drew=wA at *
  have hd0:∀ i,(Value.slice A yz.length c).ownBlock=some i→o4 i=0:=fun i hi=>HG4.out.zero (HT.out i hi) (HNUM.out.1.lt i hi).2
  have hsA:=HB7.out.size
  have hfd:=HF8.out.fd
  rw [hvv] at hfd
  have hv8:(Value.slice A8 (x.Lf.length + 1) c8).ownBlock=(Value.slice Af x.Lf.length cf).ownBlock ∨ ∃ g,(Value.slice A8 (x.Lf.length + 1) c8).ownBlock=some g∧wA.heap.size≤g:=Hw8.out.imp id (fun h=>⟨_,h,Nat.le_refl _⟩)
  have hpush:wire.OW w8 (fun i=>o4 i=10 ∨ (Value.slice A yz.length c).ownBlock=some i ∨ (Value.slice A8 (x.Lf.length + 1) c8).ownBlock=some i) 0 (.slice A8 (x.Lf.length + 1) c8) (x.Lf ++ [⟨yr,yn,yt,ys,.slice A yz.length c,yz,yse,yk,yv,yg,yl⟩]) :=
   wire.OW.push (x:=⟨yr,yn,yt,ys,.slice A yz.length c,yz,yse,yk,yv,yg,yl⟩) (hfd.more (fun i hi=>.inl hi)) HN8.out (fun i hi=>.inr (.inl hi)) Hv8.out Hg8.out (hv8.imp id (fun ⟨g,h1,_⟩=>⟨g,h1,.inr (.inr h1)⟩)) (by omega)
  have hks:Keeps (· = p.f) w8 (w8.setCell ⟨p.f,6,none⟩ (.slice A8 (x.Lf.length + 1) c8)):=Keeps.set1 _ _ _ _
  have how:wire.OW (w8.setCell ⟨p.f,6,none⟩ (.slice A8 (x.Lf.length + 1) c8)) _ 0 (.slice A8 (x.Lf.length + 1) c8) (x.Lf ++ [⟨yr,yn,yt,ys,.slice A yz.length c,yz,yse,yk,yv,yg,yl⟩]) :=
   hpush.keepsR hks (fun i hi e=>own_blk_ne hpush.row HFO8.out (by decide) (show _=some p.f from (show i=p.f from e) ▸ hi)) (fun z hz i hi e=>own_blk_ne (hpush.nums z hz).1 HFO8.out (by decide) (show _=some p.f from (show i=p.f from e) ▸ hi))
  have hfoE:FoldB (w8.setCell ⟨p.f,6,none⟩ (.slice A8 (x.Lf.length + 1) c8)) p.f (foOf { p with va:=.slice A5 (with_.withL x.ap yr yn).length c5,vf:=.slice A8 (x.Lf.length + 1) c8 } { x with ck:=max x.ck yt,ap:=with_.withL x.ap yr yn,L:=takeL x.L (yse,yk) ⟨yt,ys,yv,yg,yl⟩,Lf:=x.Lf ++ [⟨yr,yn,yt,ys,.slice A yz.length c,yz,yse,yk,yv,yg,yl⟩] }):=HFO8.out.set_ 6 _
  have hkE:Keeps (fun i=>i=p.f ∨ (Value.slice Af x.Lf.length cf).ownBlock=some i) w7 (w8.setCell ⟨p.f,6,none⟩ (.slice A8 (x.Lf.length + 1) c8)) :=
   ((Keeps.of_below HB7.out).trans (HK8.out.more fun i _ e=>.inr e)).trans (hks.more fun i _ e=>.inl e)
  have hvf10:∀ i,(Value.slice Af x.Lf.length cf).ownBlock=some i→o4 i=10:=fun i hi=>hfd.inS i hi
  have hv80:∀ i,(Value.slice A8 (x.Lf.length + 1) c8).ownBlock=some i→o4 i=10 ∨ o4 i=0:=fun i hi=>by
   rcases hv8 with e|⟨g,e,hg⟩
   ·exact .inl (hvf10 i (e ▸ hi))
   ·rw [e] at hi;injection hi with hi;exact .inr (HF7.out.zero (by omega))
  obtain ⟨o9,hf9,hg9⟩:=HF7.out.setFeed (vf:=.slice A8 (x.Lf.length + 1) c8) hfoE how hkE (fun i e=>e.elim (fun e=>.inl (by rw [show i=p.f from e];exact ho4f)) (fun e=>.inr (hvf10 i e)))
   (fun i hi=>hi.elim .inl (fun h=>h.elim (fun h=>.inr (hd0 i h)) (hv80 i))) (fun i hi=>by
    have hse:=hks.size
    rcases hi with h|h|h
    ·have:=HF7.out.small i (by rw [h];decide);have:=hkE.size;omega
    ·have:=(HN8.out.1.lt i h).2;have:=HK8.out.size;omega
    ·have:=(Hv8.out.lt i h).2;omega)
  have HQ:=Lib.hid (show FoldR (.slice A yz.length c) own p X2 w (.returned .nilIface) (w8.setCell ⟨p.f,6,none⟩ (.slice A8 (x.Lf.length + 1) c8)) from by
   rw [if_pos HOWN.out] at HX2
   refine ⟨rfl,o9,_,_,by rw [← HX2.out];exact hf9,fun i=>?_,?_⟩
   ·have hgr:=HG4.out i
    rcases hg9 i with h|h|⟨h,h0⟩
    ·rw [h]
     rcases hgr with h2|h2|h2
     ·exact .inl h2
     ·exact .inr (.inl h2)
     ·exact .inr (.inr (.inl h2))
    ·exact .inr (.inl h)
    ·rcases h with h|h|h
     ·rw [h0] at h;cases h
     ·exact .inr (.inr (.inr h))
     ·rcases hv8 with e|⟨g,e,hg⟩
      ·have:=hvf10 i (e ▸ h);rw [h0] at this;cases this
      ·rw [e] at h;injection h with h;have:=HK7.out.size;exact .inr (.inr (.inl (by omega)))
   ·refine Keeps.tags HK7.out HG4.out (l2:=[1,10]) (hkE.more (fun i _ e=>?_)) (fun _ h=>h) (by decide)
    rcases e with e|e
    ·rw [show i=p.f from e];exact ⟨by rw [ho4f];decide,by rw [ho4f];decide⟩
    ·exact ⟨by rw [hvf10 i e];decide,by rw [hvf10 i e];decide⟩)
  clear hf9 hg9 how hpush hfoE hkE hks
  go_wp2_with fail
  go_ret
  exact HQ.out
 ·have HOWN:=Lib.hid hown
  have deq:(yr == (x.id:Int))=false:=by simpa using hown
  clear hown
  go_wp2_with fail
  refine wp_region_mono nobody (by kernel_rfl) ?_
  iterate 7
   first|refine qT 0 (v:=?_) ?_ ?_|refine qT 1 (v:=?_) ?_ ?_|refine qT 2 (v:=?_) ?_ ?_|refine qT 3 (v:=?_) ?_ ?_|refine qT 4 (v:=?_) ?_ ?_|refine qT 5 (v:=?_) ?_ ?_|refine qT 6 (v:=?_) ?_ ?_
   rotate_left
   ·(intro W hSw;(have hcW:=hSw.cells;try simp only [qSd] at hcW);go_simp <;> rfl)
   try simp only [qPA]
  refine wpMono_done (by kernel_rfl) ?_ _
  have HQ:=Lib.hid (show FoldR (.slice A yz.length c) own p X2 w (.returned .nilIface) w6.drew from by
   rw [if_neg HOWN.out] at HX2
   refine ⟨rfl,o4,_,p.vf,by rw [← HX2.out];exact HF6.out.drew,fun i=>?_,HK06.out.trans Keeps.drew⟩
   rcases HG4.out i with h|h|h
   ·exact .inl h
   ·exact .inr (.inl h)
   ·exact .inr (.inr (.inl h)))
  clear b0 b1 b2 b3 b4 b5 b6 b7 b8 b9 c0
  go_wp2_with fail
  go_ret
  exact HQ.out
end
end Go.Proofs.YtdaphppdmnmicaaGreatDoor.regn
namespace Go.Proofs.YtdaphppdmnmicaaGreatDoor.regn
open Go Go.RowKit base err cmp wire dep vec with_ writep wireb monoj rowe
def PlanStop (id ck0:Int) (ap0:List Int) (ws0:List Wr) (cs:List Ch) (c:Int):Prop :=
 ∃ ws1 cs1 c0 cs2 own all ck a ws,ws1.map Wr.abs=ws0.map Wr.abs∧cs=cs1 ++ c0 :: cs2∧Plan id ck0 ap0 ws1 cs1 own all ck a ws∧((c=3∧1099511627776≤ck) ∨ (c=1∧ck < 1099511627776∧rightB (mkW id c0 ck a (.slice none 0 0))=false))
theorem PlanStop.of {id ck0:Int} {ap0:List Int} {ws0 ws1:List Wr} {cs:List Ch} {c:Int} {k:Nat} {c0:Ch} {own all:List Wr} {ck:Int} {a:List Int} {ws:List Wr} (hab:ws1.map Wr.abs=ws0.map Wr.abs) (htk:cs.take (k + 1)=cs.take k ++ [c0]) (hp:Plan id ck0 ap0 ws1 (cs.take k) own all ck a ws)
  (h:(c=3∧1099511627776≤ck) ∨ (c=1∧ck < 1099511627776∧rightB (mkW id c0 ck a (.slice none 0 0))=false)):PlanStop id ck0 ap0 ws0 cs c :=
 ⟨ws1,cs.take k,c0,cs.drop (k + 1),own,all,ck,a,ws,hab,by
  have e:cs.take (k + 1) ++ cs.drop (k + 1)=cs:=List.take_append_drop _ _
  rw [htk,List.append_assoc] at e
  exact e.symm,hp,h⟩
def PlanR (id ck0:Int) (ap0:List Int) (ws0:List Wr) (cs:List Ch) (w:World) (e:Ending) (w':World):Prop :=
 Below w.heap.size w w'∧((∃ v c,PlanStop id ck0 ap0 ws0 cs c∧e=.returned (.tuple #[.slice none 0 0,.slice none 0 0,.pointer none,v])∧ErrD w' 1 v c) ∨
  ∃ vo va g Sn ws1 own all ck a ws v7 v8 Lo La,e=.returned (.tuple #[vo,va,.pointer (some ⟨g,0,none⟩),.nilIface])∧ws1.map Wr.abs=ws0.map Wr.abs∧Plan id ck0 ap0 ws1 cs own all ck a ws ∧
   ListP w' w.heap.size g Sn vo Lo∧Lo.map Wr.abs=own∧ListP w' w.heap.size g Sn va La∧La.map Wr.abs=all∧InF w' Sn g id a ws v7 v8∧∀ i,Sn i→w.heap.size≤i)
structure MemP (w wr:World) (id:Int) (g:Nat) (vo va:Value) (Sn:Nat→Prop) (a:List Int) (ws:List Wr) (v7 v8:Value) (Lo La:List Wr):Prop where
 lo:ListP wr w.heap.size g Sn vo Lo
 la:ListP wr w.heap.size g Sn va La
 inb:InF wr Sn g id a ws v7 v8
 new:∀ i,Sn i→w.heap.size≤i
 bel:Below w.heap.size w wr
 ap:∀ i,vo.ownBlock=some i→va.ownBlock ≠ some i
section
variable {w wr w1:World} {id:Int} {g:Nat} {vo va:Value} {Sn:Nat→Prop} {a:List Int} {ws:List Wr} {v7 v8:Value} {Lo La:List Wr}
theorem own_keeps' {X:Nat→Prop} {w w':World} {base:Nat} {e:TypeId} {size n:Nat} {v:Value} {xs:List Value} (h:w.ownsRow base e size v n xs) (hk:Keeps X w w') (hx:∀ g,v.ownBlock=some g→¬ X g):w'.ownsRow base e size v n xs:=dep.own_keeps h hk hx
theorem row_place {v v':Value} {lo hi:Nat} (h:∀ i,v.ownBlock=some i→i < lo) (hv:v'.ownBlock=v.ownBlock ∨ ∃ g,v'.ownBlock=some g∧hi≤g):∀ i,v'.ownBlock=some i→i < lo ∨ hi≤i:=fun i hi'=>by
 rcases hv with e|⟨b,e,hb⟩
 ·exact .inl (h i (e ▸ hi'))
 ·rw [e] at hi'
  injection hi' with hi'
  exact .inr (by omega)
theorem ownI_low {w:World} {base base':Nat} {e:TypeId} {size n:Nat} {v:Value} {xs:List Value} (h:w.ownsRow base' e size v n xs) (hb:base≤base'):w.ownsRow base e size v n xs :=
 ⟨h.1,h.2.imp id fun ⟨g,cap,cur,e,h1,r⟩=>⟨g,cap,cur,e,Nat.le_trans hb h1,r⟩⟩
theorem MemP.below (h:MemP w wr id g vo va Sn a ws v7 v8 Lo La) (hb:Below wr.heap.size wr w1):MemP w w1 id g vo va Sn a ws v7 v8 Lo La:=⟨h.lo.below hb,h.la.below hb,h.inb.below hb,h.new,h.bel.trans (hb.mono h.bel.size),h.ap⟩
theorem MemP.blk {t:TypeId} {b:Nat} {cs:Array Value} (h:MemP w wr id g vo va Sn a ws v7 v8 Lo La) (hb:Blk wr b t cs) (hk:Keeps (· = b) wr w1) (hn:w.heap.size≤b) (h1:34 ≠ t) (h2:3 ≠ t) (h3:281 ≠ t):MemP w w1 id g vo va Sn a ws v7 v8 Lo La :=
 ⟨h.lo.blk hb hk h1 h2,h.la.blk hb hk h1 h2,
  h.inb.keepsO hk (fun e=>Blk.ne_ h.inb.blk hb h3 e) (fun _ hi e=>own_blk_ne h.inb.app hb h2 (e ▸ hi)) (fun _ hi e=>own_blk_ne h.inb.row hb h1 (e ▸ hi)) (fun x hx _ hi e=>own_blk_ne (h.inb.num x hx).1 hb h2 (e ▸ hi)),
  h.new,below_kept h.bel hk (fun i e=>by have e:i=b:=e;omega),h.ap⟩
theorem MemP.swap (h:MemP w wr id g vo va Sn a ws v7 v8 Lo La):MemP w wr id g va vo Sn a ws v7 v8 La Lo:=⟨h.la,h.lo,h.inb,h.new,h.bel,fun i h1 h2=>h.ap i h2 h1⟩
theorem MemP.grow {v5:Value} {Lx:List Wr} (h:MemP w wr id g vo va Sn a ws v7 v8 Lo La) (hl:ListP w1 w.heap.size g Sn v5 Lx) (hg:wr.grownBy w1 vo.ownBlock) (hv:v5.ownBlock=vo.ownBlock ∨ ∃ g,v5.ownBlock=some g∧wr.heap.size≤g):MemP w w1 id g v5 va Sn a ws v7 v8 Lx La:=by
 have hk:Keeps (fun i=>vo.ownBlock=some i) wr w1:=.grown hg fun g hg=>.inl hg
 refine ⟨hl,⟨h.la.ow.keepsR hk (fun i hi e=>h.ap i e hi) (fun x hx i hi e=>own_apart (h.la.ow.nums x hx).1 h.lo.ow.row (by decide) i hi e),h.la.nS,h.la.nd⟩,
  h.inb.keepsO hk (fun e=>own_blk_ne h.lo.ow.row h.inb.blk (by decide) e) (fun i hi e=>own_apart h.inb.app h.lo.ow.row (by decide) i hi e) (fun i hi e=>h.lo.nS i e (h.inb.inW i hi)) (fun x hx i hi e=>own_apart (h.inb.num x hx).1 h.lo.ow.row (by decide) i hi e),
  h.new,below_kept h.bel hk (fun i e=>(h.lo.ow.row.lt i e).1),fun i h1 h2=>?_⟩
 rcases hv with e|⟨b,e,hb⟩
 ·exact h.ap i (e ▸ h1) h2
 ·rw [e] at h1
  injection h1 with h1
  have:=(h.la.ow.row.lt i h2).2
  omega
theorem MemP.push {y:Wr} {v5:Value} (h:MemP w wr id g vo va Sn a ws v7 v8 Lo La) (hd:NumsO wr w.heap.size y.d y.z) (hg:y.d.ownBlock ≠ some g) (hrow:w1.ownsRow w.heap.size 34 10 v5 (Lo.length + 1) (Lo.flatMap Wr.cells ++ y.cells)) (hgr:wr.grownBy w1 vo.ownBlock)
  (hv:v5.ownBlock=vo.ownBlock ∨ ∃ g,v5.ownBlock=some g∧wr.heap.size≤g) (hl:Lo.length < 1000000):MemP w w1 id g v5 va Sn a ws v7 v8 (Lo ++ [y]) La :=
 h.grow (h.lo.push h.inb.small hd hg hrow hgr hv hl) hgr hv
theorem MemP.join {M:List Wr} {v5:Value} (h:MemP w wr id g vo va Sn a ws v7 v8 Lo La) (hd:∀ x ∈ M,NumsO wr w.heap.size x.d x.z∧x.d.ownBlock ≠ some g) (hrow:w1.ownsRow w.heap.size 34 10 v5 (Lo.length + M.length) (Lo.flatMap Wr.cells ++ M.flatMap Wr.cells)) (hgr:wr.grownBy w1 vo.ownBlock)
  (hv:v5.ownBlock=vo.ownBlock ∨ ∃ g,v5.ownBlock=some g∧wr.heap.size≤g) (hl:Lo.length + M.length≤1000000):MemP w w1 id g v5 va Sn a ws v7 v8 (Lo ++ M) La :=
 h.grow (h.lo.join h.inb.small hd hrow hgr hv hl) hgr hv
end
section
variable {w:World} {own:Nat→Nat} {p:RP} {x:RX}
set_option maxRecDepth 20000 in
set_option maxHeartbeats 4000000 in
theorem plan_i (cs:List Ch) (A:Option Addr) (n c:Nat) (h:RegI w own p x) (hid:1≤x.id∧x.id≤16) (hck:0≤x.ck∧x.ck≤1099511627776) (hb:BndV x.ap) (hw:RngW x.ws) (hl:cs.length=n) (hn:n≤1000) (hr:Reads w w.heap.size 5 A n (cs.flatMap Ch.cells)) :
  Calls Tryz.prog 111 #[.pointer (some ⟨p.r,0,none⟩),.slice A n c] w (PlanR x.id x.ck x.ap x.ws cs w):=by
 obtain ⟨i0,hi,hz⟩:=Option.map_eq_some_iff.1 write_info
 simp only [Prod.mk.injEq] at hz
 obtain ⟨hz0,hz1,hz2⟩:=hz
 have c5:w.cell? ⟨p.r,5,none⟩=some (.pointer (some ⟨p.gi,0,none⟩)):=h.reg.c5
 have hlt:=h.reg.lt
 have HR:=Lib.hid h
 have HRD:=Lib.hid hr
 have HCP:=Lib.hid (copy_any p.gi x.id _ x.ap x.ws p.va p.vw w h.inb)
 have HBV:=Lib.hid hb
 have HRW:=Lib.hid hw
 have hwf:=h.inb.wfew
 clear h hr hb hw
 go_enter Tryz.func111,Tryz.ntmps111
 go_wp2_with fail
 refine HCP.out.mono ?_
 rintro e w1 ⟨gi,Sn,ws1,v7,v8,rfl,hin,hab,hsn,hb1⟩
 have HR1:=Lib.hid (HR.out.below hb1)
 rw [HBV.out.2] at hin
 have HI1:=Lib.hid hin
 have HB1:=Lib.hid hb1
 have HSN:=Lib.hid hsn
 have HAB:=Lib.hid hab
 have hs1:=hb1.size
 clear hin hb1 hsn hab HCP c5
 have c0:w1.cell? ⟨p.r,0,none⟩=some (.int .i64 x.id):=HR1.out.reg.c0
 have c4:w1.cell? ⟨p.r,4,none⟩=some (.pointer (some ⟨p.gc,0,none⟩)):=HR1.out.reg.c4
 have hlt1:p.r < w1.heap.size:=by omega
 go_wp2_with fail
 refine wp_region_mono nobody (by kernel_rfl) ?_
 iterate 9
  first|refine qT 0 (v:=?_) ?_ ?_|refine qT 1 (v:=?_) ?_ ?_|refine qT 2 (v:=?_) ?_ ?_|refine qT 3 (v:=?_) ?_ ?_|refine qT 4 (v:=?_) ?_ ?_|refine qT 5 (v:=?_) ?_ ?_|refine qT 6 (v:=?_) ?_ ?_|refine qT 7 (v:=?_) ?_ ?_|refine qT 8 (v:=?_) ?_ ?_
  rotate_left
  ·(intro W hSw;(have hcW:=hSw.cells;try simp only [qSd] at hcW);go_simp <;> rfl)
  try simp only [qPA]
 refine wpMono_one' 9 (by kernel_rfl) rfl (by rfl) (fun K hK=>?_)
 go_simp
 refine (clock.time_any p.gc x.ck x.id _ HR1.out.drew.clk).mono ?_
 rintro e w2 ⟨rfl,rfl⟩
 refine hK.out _ _ ?_ ?_
 ·exact .refl _ _
 clear hK K
 try simp only [qPA]
 refine wpMono_one' 10 (by kernel_rfl) rfl (by rfl) (fun K hK=>?_)
 go_simp
 refine (clock.new_yes x.id x.ck _ (by omega) (by omega) hck.1 hck.2).mono ?_
 rintro e w3 ⟨rfl,hc3,hb3⟩
 have HC3:=Lib.hid hc3
 have HB3:=Lib.hid hb3
 clear hc3 hb3
 refine hK.out _ _ ?_ ?_
 ·exact .of_below HB3.out
 clear hK K
 try simp only [qPA]
 iterate 5
  first|refine qT 11 (v:=?_) ?_ ?_|refine qT 12 (v:=?_) ?_ ?_|refine qT 13 (v:=?_) ?_ ?_|refine qT 14 (v:=?_) ?_ ?_|refine qT 15 (v:=?_) ?_ ?_
  rotate_left
  ·(intro W hSw;(have hcW:=hSw.cells;try simp only [qSd] at hcW);go_simp <;> rfl)
  try simp only [qPA]
 refine wpMono_done (by kernel_rfl) ?_ _
 have HB13:=Lib.hid (show Below w1.heap.size w1 w3 from ((Below.refl _ _).drew).trans HB3.out)
 have HI3:=Lib.hid (HI1.out.below HB13.out)
 have HBw:=Lib.hid (HB1.out.trans (HB13.out.mono hs1))
 have HRD3:=Lib.hid HRD.out
 have HR3:=HR
 obtain ⟨gc,hgc⟩:∃ gc,w1.heap.size=gc:=⟨_,rfl⟩
 have hgc2:w1.drew.heap.size=gc:=hgc
 have hgcw0:w.heap.size≤gc:=by omega
 rw [hgc2] at HC3 ⊢
 rw [hgc]
 clear HI1 HB1 HB3 HB13 c0 c4 HR1 hgc hgc2 hs1
 have HM0:=Lib.hid (show MemP w w3 x.id gi (.slice none 0 0) (.slice none 0 0) Sn x.ap ws1 v7 v8 [] [] from ⟨.none _ _ _ _,.none _ _ _ _,HI3.out,HSN.out,HBw.out,fun i hi=>(by cases hi)⟩)
 have hgcw:w.heap.size≤gc:=hgcw0
 have HF:=Lib.hid (show RngW ws1∧ws1.length≤1000 from by
  have hab:=HAB.out
  refine ⟨fun y hy=>?_,?_⟩
  ·obtain ⟨z,hz,he⟩:=abs_mem hab hy
   have h1:=HRW.out z hz
   rw [← right_abs,← he,right_abs] at h1
   exact h1
  ·have:=congrArg List.length hab
   simp at this
   omega)
 clear HI3 HSN HBw HRW hwf hgcw0
 go_wp2_with fail
 go_loopw [4,5,6,7,42] (fun vo va g6 e7 i wr=>∃ (k:Nat) (Sn:Nat→Prop) (o1 a1:List Wr) (ck:Int) (a:List Int) (ws:List Wr) (v7 v8:Value) (Lo La:List Wr),i=.int .i64 k∧k≤n∧g6=.pointer (some ⟨gi,0,none⟩)∧e7=.nilIface∧Plan x.id x.ck x.ap ws1 (cs.take k) o1 a1 ck a ws∧Lo.map Wr.abs=o1∧La.map Wr.abs=a1∧MemP w wr x.id gi vo va Sn a ws v7 v8 Lo La∧clock.Clk wr gc ck x.id) (fun _ _ _ _ i _=>n - (intOf i).toNat)
 case atStart=>exact ⟨0,_,_,_,_,_,_,_,_,_,_,rfl,by omega,rfl,rfl,.zero,rfl,rfl,HM0.out,HC3.out⟩
 case round =>
  clear HM0 HC3
  obtain ⟨k,Sn,o1,a1,ck,a,ws,v7,v8,Lo,La,rfl,hk,rfl,rfl,hplan,hloa,hlaa,hmem,hclk⟩:=hrel
  obtain ⟨Ao,co,rfl⟩:=ownsRow_slice hmem.lo.ow.row
  obtain ⟨Aa,ca,rfl⟩:=ownsRow_slice hmem.la.ow.row
  obtain ⟨hck1,hba,hrw,_,_,hlo,hla⟩:=hplan.facts (by omega) hck HBV.out HF.out.1
  have HM:=Lib.hid hmem
  have HC:=Lib.hid hclk
  have HP:=Lib.hid hplan
  have hll:Lo.length=k∧La.length≤k + 1000:=by
   have h1:=congrArg List.length hloa
   have h2:=congrArg List.length hlaa
   have h3:=HF.out.2
   simp only [List.length_map] at h1 h2
   rw [List.length_take] at hlo hla
   omega
  have HLL:=Lib.hid hll
  have HLO:=Lib.hid hloa
  have HLA:=Lib.hid hlaa
  have hsz:=hmem.bel.size
  clear hmem hclk hplan hloa hlaa hlo hla hll
  by_cases hkn:k < n
  ·have dk:decide ((k:Int) < (n:Int))=true:=decide_eq_true (by omega)
   have hkl:k < cs.length:=by omega
   obtain ⟨b,off,rfl,hbb⟩:=HRD3.out.at_some (by omega)
   have hcell:∀ j v,(cs[k]).cells[j]?=some v→wr.cell? ⟨b,off + k * 5 + j,none⟩=some v:=fun j v hj=>by
    have hj2:j < 5:=by
     rcases Nat.lt_or_ge j 5 with h|h
     ·exact h
     ·rw [List.getElem?_eq_none (by rw [Ch.len];exact h)] at hj;cases hj
    have:=Reads.thing Ch.cells Ch.len (HRD3.out.below HM.out.bel) (k:=k) (x:=cs[k]) hkn (List.getElem?_eq_getElem hkl) j hj2
    exact this.trans hj
   have htk:cs.take (k + 1)=cs.take k ++ [cs[k]]:=List.take_succ_eq_append_getElem hkl
   generalize cs[k]=ch at *
   obtain ⟨cse,ck_,cv,cg,cl⟩:=ch
   have Hcell:=Lib.hid (show ∀ j v,[Value.string cse,.string ck_,.string cv,.bool cg,.int .i64 cl][j]?=some v→wr.cell? ⟨b,off + k * 5 + j,none⟩=some v from hcell)
   have Htk:=Lib.hid htk
   have Hba:=Lib.hid hba
   have Hrw:=Lib.hid hrw
   clear hcell htk hba hrw
   go_wp2_with (first|(refine wpList_load_at rfl 87 (.tmp 44) rfl b (off + k * 5) [.string cse,.string ck_,.string cv,.bool cg,.int .i64 cl] rfl Tryz.underlying87 rfl (by kernel_rfl) Hcell.out ?_)|(refine wpList_store_blk rfl 87 (.tmp 11) (.tmp 45) rfl wr.heap.size [.string cse,.string ck_,.string cv,.bool cg,.int .i64 cl] rfl rfl (Blk.new wr 87 #[.string ⟨#[]⟩,.string ⟨#[]⟩,.string ⟨#[]⟩,.bool false,.int .i64 0]) (by kernel_rfl) rfl rfl ?_;intro w9 ho9 hk9 hs9))
   have hb9:Below wr.heap.size wr w9:=(below_new wr (.cells #[.string ⟨#[]⟩,.string ⟨#[]⟩,.string ⟨#[]⟩,.bool false,.int .i64 0] 87)).trans (hk9.below (fun i hi e=>by omega) (by simp))
   have HO9:=Lib.hid ho9
   have HB9:=Lib.hid hb9
   clear ho9 hb9 hk9 Hcell
   have HM9:=Lib.hid (HM.out.below HB9.out)
   have hgl:=HC.out.lt
   have HC9:=Lib.hid (show clock.Clk w9 gc ck x.id from Blk.below HC.out HB9.out hgl)
   have HR9:=Lib.hid (HR3.out.below HM9.out.bel)
   clear HM HC
   by_cases hckl:ck < 1099511627776
   ·refine (clock.next_yes gc ck x.id w9 HC9.out hck1.1 hckl).mono ?_
    rintro e w10 ⟨rfl,hc10,hk10⟩
    have HM10:=Lib.hid (HM9.out.blk HC9.out hk10 hgcw (by decide) (by decide) (by decide))
    have HO10:=Lib.hid (Blk.keeps HO9.out hk10 (by omega))
    have HC10:=Lib.hid hc10
    clear hc10 hk10 HM9 HO9 HC9
    go_wp2_with fail
    have hb11:=below_new w10 (.cells #[.int .i64 (ck + 1),.int .i64 x.id] 32)
    have HS11:=Lib.hid (Blk.new w10 32 #[.int .i64 (ck + 1),.int .i64 x.id])
    have HM11:=Lib.hid (HM10.out.below hb11)
    have HO11:=Lib.hid (Blk.below HO10.out hb11 HO10.out.lt)
    have hgl10:=HC10.out.lt
    have HC11:=Lib.hid (show clock.Clk _ gc (ck + 1) x.id from Blk.below HC10.out hb11 hgl10)
    have hs11:=hb11.size
    have hs10:=HM10.out.bel.size
    have hw10:=HO10.out.lt
    clear hb11 HM10 HO10 HC10
    obtain ⟨gs,hgs⟩:∃ gs,w10.heap.size=gs:=⟨_,rfl⟩
    rw [hgs] at HS11 hs11 hs10 hgl10 hw10 ⊢
    generalize w10.alloc (.cells #[.int .i64 (ck + 1),.int .i64 x.id] 32)=w11 at *
    refine (applied_any gi x.id Sn a ws v7 v8 w11 HM11.out.inb).mono ?_
    rintro e w12 ⟨vd,rfl,hod,hb12⟩
    rw [Hba.out.2] at hod
    obtain ⟨Ad,cd,rfl,hvd⟩:=Vec.of_own hod
    have HD12:=Lib.hid hod
    have HV12:=Lib.hid hvd
    have HM12:=Lib.hid (HM11.out.below hb12)
    have HO12:=Lib.hid (Blk.below HO11.out hb12 HO11.out.lt)
    have HS12:=Lib.hid (Blk.below HS11.out hb12 HS11.out.lt)
    have hgl11:=HC11.out.lt
    have HC12:=Lib.hid (show clock.Clk w12 gc (ck + 1) x.id from Blk.below HC11.out hb12 hgl11)
    have hs12:=hb12.size
    clear hb12 hod hvd HM11 HO11 HS11 HC11
    go_wp2_with fail
    have HR12:=Lib.hid (HR.out.below HM12.out.bel)
    have c0:w12.cell? ⟨p.r,0,none⟩=some (.int .i64 x.id):=HR12.out.reg.c0
    have s0:w12.cell? ⟨gs,0,none⟩=some (.int .i64 (ck + 1)):=HS12.out.cell 0
    have s1:w12.cell? ⟨gs,1,none⟩=some (.int .i64 x.id):=HS12.out.cell 1
    have d0:w12.cell? ⟨wr.heap.size,0,none⟩=some (.string cse):=HO12.out.cell 0
    have d1:w12.cell? ⟨wr.heap.size,1,none⟩=some (.string ck_):=HO12.out.cell 1
    have d2:w12.cell? ⟨wr.heap.size,2,none⟩=some (.string cv):=HO12.out.cell 2
    have d3:w12.cell? ⟨wr.heap.size,3,none⟩=some (.bool cg):=HO12.out.cell 3
    have d4:w12.cell? ⟨wr.heap.size,4,none⟩=some (.int .i64 cl):=HO12.out.cell 4
    have hr12:=HR12.out.reg.lt
    have hsl12:=HS12.out.lt
    have hol12:=HO12.out.lt
    obtain ⟨fc,hfc⟩:∃ x,wr.heap.size=x:=⟨_,rfl⟩
    rw [hfc] at d0 d1 d2 d3 d4 hol12 ⊢
    have hnb:=Hba.out.1 x.id
    have hw1:IntKind.i64.wrap (atV a (x.id:Int) + 1)=atV a (x.id:Int) + 1:=by rw [IntKind.wrap_i64];omega
    have HA16:=Lib.hid (show a.length≤16 from HM12.out.inb.afew)
    obtain ⟨nb,hnbe⟩:∃ z,atV a (x.id:Int)=z:=⟨_,rfl⟩
    rw [hnbe] at hw1 hnb
    refine wp_region_monoJ (fun i=>w12.heap.size≤i) [27] (by kernel_rfl) ?_
    iterate 4
     first|refine qJ 0 (v:=?_) ?_ ?_|refine qJ 1 (v:=?_) ?_ ?_|refine qJ 2 (v:=?_) ?_ ?_|refine qJ 3 (v:=?_) ?_ ?_
     rotate_left
     ·(intro W hSw;(first|(have hcW:=hSw.cells;try simp only [qSd] at hcW)|skip);go_simp <;> rfl)
     try simp only [qPA]
     (try rw [hw1])
    refine wpMonoJ_read' 4 [25,27] (v:=?_) rfl (by kernel_rfl) (by kernel_rfl) (by kernel_rfl) (by rfl) (by kernel_rfl) (by rfl) (fun _ _ _ h=>h) (by rfl) ?_ ?_
    rotate_left
    ·(intro W hSw;(first|(have hcW:=hSw.cells;try simp only [qSd] at hcW)|skip);go_simp <;> rfl)
    try simp only [qPA]
    (try rw [hw1])
    iterate 5
     first|refine qJ 5 (v:=?_) ?_ ?_|refine qJ 6 (v:=?_) ?_ ?_|refine qJ 7 (v:=?_) ?_ ?_|refine qJ 8 (v:=?_) ?_ ?_|refine qJ 9 (v:=?_) ?_ ?_
     rotate_left
     ·(intro W hSw;(first|(have hcW:=hSw.cells;try simp only [qSd] at hcW)|skip);go_simp <;> rfl)
     try simp only [qPA]
     (try rw [hw1])
    refine wpMonoJ_read' 10 [11,12,25,27] (v:=?_) rfl (by kernel_rfl) (by kernel_rfl) (by kernel_rfl) (by rfl) (by kernel_rfl) (by rfl) (fun _ _ _ h=>h) (by rfl) ?_ ?_
    rotate_left
    ·(intro W hSw;(first|(have hcW:=hSw.cells;try simp only [qSd] at hcW)|skip);go_simp <;> rfl)
    try simp only [qPA]
    (try rw [hw1])
    refine wpMonoJ_read' 13 [25,27] (v:=?_) rfl (by kernel_rfl) (by kernel_rfl) (by kernel_rfl) (by rfl) (by kernel_rfl) (by rfl) (fun _ _ _ h=>h) (by rfl) ?_ ?_
    rotate_left
    ·(intro W hSw;(first|(have hcW:=hSw.cells;try simp only [qSd] at hcW)|skip);go_simp <;> rfl)
    try simp only [qPA]
    (try rw [hw1])
    iterate 2
     first|refine qJ 14 (v:=?_) ?_ ?_|refine qJ 15 (v:=?_) ?_ ?_
     rotate_left
     ·(intro W hSw;(first|(have hcW:=hSw.cells;try simp only [qSd] at hcW)|skip);go_simp <;> rfl)
     try simp only [qPA]
     (try rw [hw1])
    refine wpMonoJ_read' 16 [25,27] (v:=?_) rfl (by kernel_rfl) (by kernel_rfl) (by kernel_rfl) (by rfl) (by kernel_rfl) (by rfl) (fun _ _ _ h=>h) (by rfl) ?_ ?_
    rotate_left
    ·(intro W hSw;(first|(have hcW:=hSw.cells;try simp only [qSd] at hcW)|skip);go_simp <;> rfl)
    try simp only [qPA]
    (try rw [hw1])
    refine qJ 17 (v:=?_) ?_ ?_;rotate_left
    ·(intro W hSw;(first|(have hcW:=hSw.cells;try simp only [qSd] at hcW)|skip);go_simp <;> rfl)
    try simp only [qPA]
    (try rw [hw1])
    refine wpMonoJ_read' 18 [25,27] (v:=?_) rfl (by kernel_rfl) (by kernel_rfl) (by kernel_rfl) (by rfl) (by kernel_rfl) (by rfl) (fun _ _ _ h=>h) (by rfl) ?_ ?_
    rotate_left
    ·(intro W hSw;(first|(have hcW:=hSw.cells;try simp only [qSd] at hcW)|skip);go_simp <;> rfl)
    try simp only [qPA]
    (try rw [hw1])
    refine qJ 19 (v:=?_) ?_ ?_;rotate_left
    ·(intro W hSw;(first|(have hcW:=hSw.cells;try simp only [qSd] at hcW)|skip);go_simp <;> rfl)
    try simp only [qPA]
    (try rw [hw1])
    refine wpMonoJ_read' 20 [25,27] (v:=?_) rfl (by kernel_rfl) (by kernel_rfl) (by kernel_rfl) (by rfl) (by kernel_rfl) (by rfl) (fun _ _ _ h=>h) (by rfl) ?_ ?_
    rotate_left
    ·(intro W hSw;(first|(have hcW:=hSw.cells;try simp only [qSd] at hcW)|skip);go_simp <;> rfl)
    try simp only [qPA]
    (try rw [hw1])
    refine qJ 21 (v:=?_) ?_ ?_;rotate_left
    ·(intro W hSw;(first|(have hcW:=hSw.cells;try simp only [qSd] at hcW)|skip);go_simp <;> rfl)
    try simp only [qPA]
    (try rw [hw1])
    refine wpMonoJ_read' 22 [25,27] (v:=?_) rfl (by kernel_rfl) (by kernel_rfl) (by kernel_rfl) (by rfl) (by kernel_rfl) (by rfl) (fun _ _ _ h=>h) (by rfl) ?_ ?_
    rotate_left
    ·(intro W hSw;(first|(have hcW:=hSw.cells;try simp only [qSd] at hcW)|skip);go_simp <;> rfl)
    try simp only [qPA]
    (try rw [hw1])
    refine qJ 23 (v:=?_) ?_ ?_;rotate_left
    ·(intro W hSw;(first|(have hcW:=hSw.cells;try simp only [qSd] at hcW)|skip);go_simp <;> rfl)
    try simp only [qPA]
    (try rw [hw1])
    refine wpMonoJ_read' 24 [25,27] (v:=?_) rfl (by kernel_rfl) (by kernel_rfl) (by kernel_rfl) (by rfl) (by kernel_rfl) (by rfl) (fun _ _ _ h=>h) (by rfl) ?_ ?_
    rotate_left
    ·(intro W hSw;(first|(have hcW:=hSw.cells;try simp only [qSd] at hcW)|skip);go_simp <;> rfl)
    try simp only [qPA]
    (try rw [hw1])
    apply two_ways
    ·intro tail
     refine wpMonoJ_two' 11 26 (by kernel_rfl) rfl (by rfl) rfl (by rfl) (fun K hK=>?_) (fun K hK=>?_)
     ·skip
      go_simp
      refine (vec.at_any Ad a.length cd a x.id _ _ (show vec.Vec w12.drew w12.drew.heap.size Ad a.length cd a from HV12.out) (by omega)).mono ?_
      rintro e w13 ⟨rfl,rfl⟩
      rw [hnbe]
      refine hK.out _ _ ?_ ?_
      ·exact .refl _ _
      clear hK K
      try simp only [qPA]
      (try rw [hw1])
      iterate 2
       first|refine qJ 12 (v:=?_) ?_ ?_|refine qJ 25 (v:=?_) ?_ ?_
       rotate_left
       ·(intro W hSw;(first|(have hcW:=hSw.cells;try simp only [qSd] at hcW)|skip);go_simp <;> rfl)
       try simp only [qPA]
       (try rw [hw1])
      refine wpMonoJ_one' 26 (by kernel_rfl) rfl (by rfl) (fun K hK=>?_)
      go_simp
      refine hK.out _ _ ?_ ?_
      ·exact (show Keeps _ w12.drew (w12.drew.alloc _) from .alloc _)
      clear hK K
      try simp only [qPA]
      (try rw [hw1])
      exact tail.out
     ·skip
      go_simp
      refine hK.out _ _ ?_ ?_
      ·exact (show Keeps _ w12.drew (w12.drew.alloc _) from .alloc _)
      clear hK K
      try simp only [qPA]
      (try rw [hw1])
      refine wpMonoJ_one' 11 (by kernel_rfl) rfl (by rfl) (fun K hK=>?_)
      go_simp
      refine (vec.at_any Ad a.length cd a x.id _ _ (show vec.Vec (w12.alloc _).drew w12.heap.size Ad a.length cd a from HV12.out.below ((below_new w12 _).drew)) (by omega)).mono ?_
      rintro e w13 ⟨rfl,rfl⟩
      rw [hnbe]
      refine hK.out _ _ ?_ ?_
      ·exact .refl _ _
      clear hK K
      try simp only [qPA]
      (try rw [hw1])
      iterate 2
       first|refine qJ 12 (v:=?_) ?_ ?_|refine qJ 25 (v:=?_) ?_ ?_
       rotate_left
       ·(intro W hSw;(first|(have hcW:=hSw.cells;try simp only [qSd] at hcW)|skip);go_simp <;> rfl)
       try simp only [qPA]
       (try rw [hw1])
      refine wpMonoJ_cast ?_ tail.out
      kernel_rfl
    refine wpMonoJ_one' 27 (by kernel_rfl) rfl (by rfl) (fun K hK=>?_)
    refine wp_store_at 34 (.tmp 15) (.tmp 81) rfl w12.heap.size 0 [.int .i64 x.id,.int .i64 (nb + 1),.int .i64 (ck + 1),.int .i64 x.id,.slice Ad a.length cd,.string cse,.string ck_,.string cv,.bool cg,.int .i64 cl] rfl rfl (Blk.drew (Blk.new w12 34 #[.int .i64 0,.int .i64 0,.int .i64 0,.int .i64 0,.slice none 0 0,.string ⟨#[]⟩,.string ⟨#[]⟩,.string ⟨#[]⟩,.bool false,.int .i64 0])) (by kernel_rfl) (by simp) rfl (fun w14 ho14 hk14 hs14=>?_)
    refine hK.out _ _ ?_ ?_
    ·exact moved (hk14.more fun i _ e=>by have e:i=w12.heap.size:=e;omega) (by decide)
    clear hK K
    try simp only [Act.put]
    refine wpMonoJ_done (by kernel_rfl) ?_ _
    have ho14':Blk w14 w12.heap.size 34 #[.int .i64 x.id,.int .i64 (nb + 1),.int .i64 (ck + 1),.int .i64 x.id,.slice Ad a.length cd,.string cse,.string ck_,.string cv,.bool cg,.int .i64 cl]:=by simpa [putAt] using ho14
    have hb14:Below w12.heap.size w12 w14:=((below_new w12 (.cells #[.int .i64 0,.int .i64 0,.int .i64 0,.int .i64 0,.slice none 0 0,.string ⟨#[]⟩,.string ⟨#[]⟩,.string ⟨#[]⟩,.bool false,.int .i64 0] 34)).drew).trans (hk14.below (fun i hi e=>by omega) (by simp))
    have HW14:=Lib.hid ho14'
    have HM14:=Lib.hid (HM12.out.below hb14)
    have hgl12:=HC12.out.lt
    have HC14:=Lib.hid (show clock.Clk w14 gc (ck + 1) x.id from Blk.below HC12.out hb14 hgl12)
    have HN14:=Lib.hid (show NumsO w14 w.heap.size (.slice Ad a.length cd) a from (show NumsO w12 w.heap.size (.slice Ad a.length cd) a from ⟨ownI_low HD12.out (by omega),by have:=HA16.out;omega⟩).below hb14)
    have HGS:=Lib.hid HM12.out.inb.small
    have HGIN:=Lib.hid HM12.out.inb.inG
    have HLF:=Lib.hid (show (∀ i,(Value.slice Ao Lo.length co).ownBlock=some i→i < w12.heap.size)∧(∀ i,(Value.slice Aa La.length ca).ownBlock=some i→i < w12.heap.size) from ⟨fun i hi=>(HM12.out.lo.ow.row.lt i hi).2,fun i hi=>(HM12.out.la.ow.row.lt i hi).2⟩)
    have HGW:=Lib.hid (show ∀ i,v8.ownBlock=some i→i < w12.heap.size from fun i hi=>HM12.out.inb.small i (HM12.out.inb.inW i hi))
    have hs14:w12.heap.size < w14.heap.size:=ho14'.lt
    clear ho14 ho14' hk14 hb14 HM12 HO12 HS12 HC12 HD12 HV12 HR12 c0 s0 s1 d0 d1 d2 d3 d4 hgl11
    obtain ⟨fw,hfw⟩:∃ z,w12.heap.size=z:=⟨_,rfl⟩
    rw [hfw] at HW14 hs14 HGS HGW HLF hs12 ⊢
    obtain ⟨y,hy⟩:∃ y:Wr,(⟨x.id,nb + 1,ck + 1,x.id,.slice Ad a.length cd,a,cse,ck_,cv,cg,cl⟩:Wr)=y:=⟨_,rfl⟩
    have HYC:=Lib.hid (show [Value.int .i64 x.id,.int .i64 (nb + 1),.int .i64 (ck + 1),.int .i64 x.id,.slice Ad a.length cd,.string cse,.string ck_,.string cv,.bool cg,.int .i64 cl]=y.cells by rw [← hy];rfl)
    have HYA:=Lib.hid (show y.abs=mkW x.id ⟨cse,ck_,cv,cg,cl⟩ ck a (.slice none 0 0) by rw [← hy,← hnbe];rfl)
    have HYD:=Lib.hid (show y.d=.slice Ad a.length cd∧y.z=a∧y.n=nb + 1 by rw [← hy];exact ⟨rfl,rfl,rfl⟩)
    clear hy hw1
    go_wp2_with (refine wpList_load_at rfl 34 (.tmp 15) rfl fw 0 [.int .i64 x.id,.int .i64 (nb + 1),.int .i64 (ck + 1),.int .i64 x.id,.slice Ad a.length cd,.string cse,.string ck_,.string cv,.bool cg,.int .i64 cl] rfl Tryz.underlying34 rfl (by kernel_rfl) (fun j v hj=>by rw [Nat.zero_add,HW14.out.cell j];simpa using hj) ?_)
    rw [HYC.out]
    have HNY:=Lib.hid (show Nums w14 w14.heap.size y.d y.z by rw [HYD.out.1,HYD.out.2.1];exact HN14.out.nums)
    cases hrt:rightB y with
    | false =>
     refine (encode_bad y w14 HNY.out hrt).mono ?_
     rintro e w15 ⟨v,rfl,he,hb15⟩
     have HE:=Lib.hid he
     obtain ⟨ge,rfl⟩:=he.form
     have HQ:=Lib.hid (show PlanR x.id x.ck x.ap x.ws cs w (.returned (.tuple #[.slice none 0 0,.slice none 0 0,.pointer none,.iface 167 (.pointer (some ⟨ge,0,none⟩))])) w15 from ⟨HM14.out.bel.trans (hb15.mono HM14.out.bel.size),.inl ⟨_,1,.of HAB.out Htk.out HP.out (.inr ⟨rfl,hckl,by rw [← HYA.out];exact hrt⟩),rfl,HE.out.one⟩⟩)
     clear he hb15
     go_wp2_with fail
     exact bodyPost_ret (v:=.tuple #[.slice none 0 0,.slice none 0 0,.pointer none,.iface 167 (.pointer (some ⟨ge,0,none⟩))]) (by simp [results,Tryz.results111,go_sem]) rfl HQ.out
    | true =>
     have hrp:=right_parts hrt
     have hn1:=hrp.n1
     rw [HYD.out.2.2] at hn1
     clear hrp
     refine (encode_any y w14 HNY.out).mono ?_
     rintro e w15 ⟨⟨s1,v1,rfl,hv1⟩,hb15⟩
     rcases hv1 with ⟨_,rfl⟩|⟨hv1,_⟩
     rotate_left
     ·rw [hrt] at hv1;cases hv1
     have HRT:=Lib.hid hrt
     clear hrt
     have hs15:=hb15.size
     have HM15:=Lib.hid (HM14.out.below hb15)
     have HW15:=Lib.hid (Blk.below HW14.out hb15 HW14.out.lt)
     have hgl14:=HC14.out.lt
     have HC15:=Lib.hid (show clock.Clk w15 gc (ck + 1) x.id from Blk.below HC14.out hb15 hgl14)
     have HN15:=Lib.hid (HN14.out.below hb15)
     clear hb15 HM14 HW14 HC14 HN14 HNY
     go_wp2_with fail
     obtain ⟨_,_,hve,hvd⟩:=Vec.of_own (show w15.ownsRow w.heap.size 3 1 (.slice Ad a.length cd) a.length (enc a) from HN15.out.1)
     injection hve with hve1 _ hve2
     subst hve1 hve2
     refine (own_any gi x.id Sn a ws v7 v8 Ad a.length cd a w15 HM15.out.inb hvd (by have:=HA16.out;omega) (by omega) (by rw [hnbe];exact hnb.1)).mono ?_
     rintro e w16 h16
     rcases h16 with ⟨hbad,_⟩|⟨_,hbad,_⟩|⟨_,_,vo2,a',ws',out,S3,rfl,hdr,hno,hdm⟩
     ·rw [covers_self] at hbad;cases hbad
     ·rw [hnbe] at hbad;omega
     obtain ⟨hst,⟨va2,vw2,hf16,hap16⟩,hrow16,hnum16,hvo16,hk16,hs16⟩:=hdr
     have hkM:=hdm.2.1
     have hvoN:=hdm.1
     have hin15:=HM15.out.inb
     have hgiS:w.heap.size≤gi:=HM15.out.new gi hin15.inG
     have hv8S:∀ i,v8.ownBlock=some i→w.heap.size≤i:=fun i hi=>HM15.out.new i (hin15.inW i hi)
     have hnew16:∀ i,S3 i→w.heap.size≤i:=fun i hi=>(hs16 i hi).elim (HM15.out.new i) (fun h=>by have:=HM15.out.bel.size;omega)
     have hbel16:Below w.heap.size w w16:=below_kept HM15.out.bel hkM (fun i e=>e.elim (fun e=>by rw [e];exact hgiS) (hv8S i))
     have HM16:=Lib.hid (show MemP w w16 x.id gi (.slice Ao Lo.length co) (.slice Aa La.length ca) S3 a' ws' va2 vw2 Lo La from ⟨HM15.out.lo.shown hin15 hkM hs16,HM15.out.la.shown hin15 hkM hs16,hf16,hnew16,hbel16,HM15.out.ap⟩)
     have HC16:=Lib.hid (show clock.Clk w16 gc (ck + 1) x.id from Blk.keeps HC15.out hkM (fun e=>e.elim (fun e=>Blk.ne_ hin15.blk HC15.out (by decide) e.symm) (fun e=>own_blk_ne hin15.row HC15.out (by decide) e)))
     have hgifw:gi < fw:=HGS.out gi (by exact HGIN.out)
     have HW16:=Lib.hid (Blk.keeps HW15.out hkM (fun e=>e.elim (fun e=>by omega) (fun e=>by have:=HGW.out _ e;omega)))
     have HN16:=Lib.hid (HN15.out.keeps hkM (fun i hi e=>e.elim (fun e=>own_blk_ne HN15.out.1 hin15.blk (by decide) (e ▸ hi)) (fun e=>own_apart HN15.out.1 hin15.row (by decide) i hi e)))
     have hdg:(Value.slice Ad a.length cd).ownBlock ≠ some gi:=own_blk_ne HN15.out.1 hin15.blk (by decide)
     obtain ⟨hb16,hrw16,hro16⟩:=steps_bnd hst (Hba.out.with_ (r:=x.id) (n:=nb + 1) (by omega) (by omega) |> fun h=>by rw [hnbe];exact h) Hrw.out
     have HST:=Lib.hid hst
     have HNO:=Lib.hid hno
     have HRO:=Lib.hid hro16
     have HVW:=Lib.hid hrow16
     have HVN:=Lib.hid (show ∀ i,vo2.ownBlock=some i→fw < i∧i < w16.heap.size from fun i hi=>by have:=hvoN i hi;have:=(hrow16.lt i hi).2;omega)
     have HNUM:=Lib.hid (show ∀ z ∈ out,NumsO w16 w.heap.size z.d z.z∧z.d.ownBlock ≠ some gi from fun z hz=>⟨numsO_hi (hnum16 z hz).1 (fun i hi=>hnew16 i ((hnum16 z hz).2 i hi).1),fun e=>((hnum16 z hz).2 gi e).2.2 rfl⟩)
     have hol:=hst.ws_len
     obtain ⟨Av,cv2,rfl⟩:=ownsRow_slice hrow16
     have hwl:ws.length≤1000:=hin15.wfew
     clear hst hf16 hap16 hrow16 hnum16 hvo16 hk16 hs16 hkM hvoN hin15 hnew16 hbel16 hdm hno hb16 hrw16 hro16 HM15 HC15 HW15 HN15 hvd
     have hs16:w.heap.size≤w16.heap.size:=HM16.out.bel.size
     have hllo:Lo.length≤1000:=by have:=HLL.out.1;omega
     have hlla:La.length≤2000:=by have:=HLL.out.2;omega
     go_upto_region 18 with (first|(refine wpList_load_at rfl 34 (.tmp 15) rfl fw 0 [.int .i64 x.id,.int .i64 (nb + 1),.int .i64 (ck + 1),.int .i64 x.id,.slice Ad a.length cd,.string cse,.string ck_,.string cv,.bool cg,.int .i64 cl] rfl Tryz.underlying34 rfl (by kernel_rfl) (fun j v hj=>by rw [Nat.zero_add,HW16.out.cell j];simpa using hj) ?_)|(at_builtin;refine wpList_append_newAt rfl (.tmp 99) (.tmp 101) _ rfl w.heap.size 34 i0 _ 10 120 Tryz.underlying25 hi hz0 hz1 hz2 rfl (by decide) (.slice Ao Lo.length co) Lo.length _ rfl HM16.out.lo.ow.row 1 1 w16.heap.size rfl [.int .i64 x.id,.int .i64 (nb + 1),.int .i64 (ck + 1),.int .i64 x.id,.slice Ad a.length cd,.string cse,.string ck_,.string cv,.bool cg,.int .i64 cl] rfl rfl (by simp [Value.oneCell']) (by unfold maxLen;omega) (by omega) (by omega) ?_;intro v17 w17 ho17 hb17 hg17 hv17))
     rw [HYC.out] at ho17
     have hk17:Keeps (fun i=>(Value.slice Ao Lo.length co).ownBlock=some i) w16 w17:=.grown hg17 fun g hg=>.inl hg
     have hny16:NumsO w16 w.heap.size y.d y.z:=by rw [HYD.out.1,HYD.out.2.1];exact HN16.out
     have hyg:y.d.ownBlock ≠ some gi:=by rw [HYD.out.1];exact hdg
     have HM17:=Lib.hid (HM16.out.push hny16 hyg ho17 hg17 hv17 (by omega))
     have HC17:=Lib.hid (show clock.Clk w17 gc (ck + 1) x.id from Blk.keeps HC16.out hk17 (fun e=>own_blk_ne HM16.out.lo.ow.row HC16.out (by decide) e))
     have HW17:=Lib.hid (Blk.keeps HW16.out hk17 (fun e=>by have:=HLF.out.1 _ e;omega))
     have HN17:=Lib.hid (hny16.keeps hk17 (fun i hi e=>own_apart hny16.1 HM16.out.lo.ow.row (by decide) i hi e))
     have HNUM17:=Lib.hid (show ∀ z ∈ out,NumsO w17 w.heap.size z.d z.z∧z.d.ownBlock ≠ some gi from fun z hz=>⟨(HNUM.out z hz).1.keeps hk17 (fun i hi e=>own_apart (HNUM.out z hz).1.1 HM16.out.lo.ow.row (by decide) i hi e),(HNUM.out z hz).2⟩)
     have HVW17:=Lib.hid (own_keeps' HVW.out hk17 (fun i hi e=>by have:=HLF.out.1 _ e;have:=(HVN.out _ hi).1;omega))
     obtain ⟨A17,c17,rfl⟩:=ownsRow_slice ho17
     have hs17:=HM17.out.bel.size
     have hs1716:=hk17.size
     have hfl16:=HW16.out.lt
     clear ho17 hb17 hg17 hv17 hk17 HM16 HC16 HW16 HN16 HNUM HVW hny16
     go_upto_region 19 with (first|(refine wpList_load_at rfl 34 (.tmp 15) rfl fw 0 [.int .i64 x.id,.int .i64 (nb + 1),.int .i64 (ck + 1),.int .i64 x.id,.slice Ad a.length cd,.string cse,.string ck_,.string cv,.bool cg,.int .i64 cl] rfl Tryz.underlying34 rfl (by kernel_rfl) (fun j v hj=>by rw [Nat.zero_add,HW17.out.cell j];simpa using hj) ?_)|(at_builtin;refine wpList_append_newAt rfl (.tmp 103) (.tmp 105) _ rfl w.heap.size 34 i0 _ 10 120 Tryz.underlying25 hi hz0 hz1 hz2 rfl (by decide) (.slice Aa La.length ca) La.length _ rfl HM17.out.la.ow.row 1 1 w17.heap.size rfl [.int .i64 x.id,.int .i64 (nb + 1),.int .i64 (ck + 1),.int .i64 x.id,.slice Ad a.length cd,.string cse,.string ck_,.string cv,.bool cg,.int .i64 cl] rfl rfl (by simp [Value.oneCell']) (by unfold maxLen;omega) (by omega) (by omega) ?_;intro v18 w18 ho18 hb18 hg18 hv18;rw [HYC.out] at ho18;have hk18:Keeps (fun i=>(Value.slice Aa La.length ca).ownBlock=some i) w17 w18:=.grown hg18 fun g hg=>.inl hg;have HM18:=Lib.hid (HM17.out.swap.push HN17.out hyg ho18 hg18 hv18 (by omega)).swap;have HNUM18:=Lib.hid (show ∀ z ∈ out,NumsO w18 w.heap.size z.d z.z∧z.d.ownBlock ≠ some gi from fun z hz=>⟨(HNUM17.out z hz).1.keeps hk18 (fun i hi e=>own_apart (HNUM17.out z hz).1.1 HM17.out.la.ow.row (by decide) i hi e),(HNUM17.out z hz).2⟩);have HC18:=Lib.hid (show clock.Clk w18 gc (ck + 1) x.id from Blk.keeps HC17.out hk18 (fun e=>own_blk_ne HM17.out.la.ow.row HC17.out (by decide) e));have HVW18:=Lib.hid (own_keeps' HVW17.out hk18 (fun i hi e=>by have:=HLF.out.2 _ e;have:=(HVN.out _ hi).1;omega));obtain ⟨A18,c18,rfl⟩:=ownsRow_slice ho18;have hs18:=hk18.size;have HVL:=Lib.hid (row_place HLF.out.2 hv18);clear ho18 hb18 hg18 hv18 hk18)|(at_builtin;refine wpList_append_any _ rfl (.tmp 106) (.tmp 107) _ rfl w.heap.size 34 i0 _ 10 120 Tryz.underlying25 hi hz0 hz1 hz2 rfl (by decide) (.slice A18 (La.length + 1) c18) (La.length + 1) _ rfl (show w18.ownsRow w.heap.size 34 10 (.slice A18 (La.length + 1) c18) (La.length + 1) ((La ++ [y]).flatMap Wr.cells) from by have h:=HM18.out.la.ow.row;rw [List.length_append] at h;exact h) w18.heap.size Av out.length cv2 (out.flatMap Wr.cells) rfl (Reads.of_own HVW18.out) (fun u hu=>by obtain ⟨z,hz,hu⟩:=List.mem_flatMap.1 hu;exact oneW z (nums_one (HNUM18.out z hz).1.nums) u hu) (by unfold maxLen;omega) (by omega) (by omega) ?_;intro v19 w19 ho19 hg19 hv19))
     have hk19:Keeps (fun i=>(Value.slice A18 (La.length + 1) c18).ownBlock=some i) w18 w19:=.grown hg19 fun g hg=>.inl hg
     have HM19:=Lib.hid (HM18.out.swap.join HNUM18.out (by rw [List.length_append];exact ho19) hg19 (hv19.imp id (fun h=>⟨_,h,Nat.le_refl _⟩)) (by rw [List.length_append];show La.length + 1 + out.length≤1000000;omega)).swap
     have HC19:=Lib.hid (show clock.Clk w19 gc (ck + 1) x.id from Blk.keeps HC18.out hk19 (fun e=>own_blk_ne HM18.out.la.ow.row HC18.out (by decide) e))
     have HVW19:=Lib.hid (own_keeps' HVW18.out hk19 (fun i hi e=>by have h1:=HVN.out _ hi;have h2:=HVL.out _ e;omega))
     have HZD:=Lib.hid (show ∀ z ∈ out,∃ A3 n3 c3,z.d=.slice A3 n3 c3 from fun z hz=>by obtain ⟨A3,n3,c3,h,_⟩:=(HNUM18.out z hz).1.nums;exact ⟨A3,n3,c3,h⟩)
     obtain ⟨A19,c19,rfl⟩:=ownsRow_slice ho19
     have hlen19:La.length + 1 + out.length=((La ++ [y]) ++ out).length:=by simp;omega
     rw [hlen19] at HM19 ⊢
     clear ho19 hg19 hv19 hk19 HM18 HC18 HVW18 HNUM18 HM17 HC17 HW17 HN17 HNUM17 HVW17 HVL
     generalize hLA:(La ++ [y]) ++ out=LA at *
     have HLA2:=Lib.hid hLA
     clear hLA hlen19
     go_wp2_with fail
     go_loopw [111] (fun i wr=>∃ j:Nat,i=.int .i64 j∧j≤out.length∧MemP w wr x.id gi (.slice A17 (Lo.length + 1) c17) (.slice A19 LA.length c19) S3 a' ws' va2 vw2 (Lo ++ [y]) LA∧clock.Clk wr gc (seen (ck + 1) (out.take j)) x.id∧wr.ownsRow 0 34 10 (.slice Av out.length cv2) out.length (out.flatMap Wr.cells)) (fun i _=>out.length - (intOf i).toNat)
     case atStart=>exact ⟨0,rfl,by omega,HM19.out,HC19.out,HVW19.out⟩
     case round =>
      obtain ⟨j,rfl,hj,hm,hc,hv⟩:=hrel
      have hsr:=hm.bel.size
      by_cases hjo:j < out.length
      ·have dj:decide ((j:Int) < (out.length:Int))=true:=decide_eq_true (by omega)
       obtain ⟨b2,off2,rfl,hb2⟩:=(Reads.of_own hv).at_some (by omega)
       have hcell:∀ q v,(out[j]).cells[q]?=some v→wr.cell? ⟨b2,off2 + j * 10 + q,none⟩=some v:=fun q v hq=>by
        have hq2:q < 10:=by
         rcases Nat.lt_or_ge q 10 with h|h
         ·exact h
         ·rw [List.getElem?_eq_none (by rw [Wr.len];exact h)] at hq;cases hq
        exact (Reads.thing Wr.cells Wr.len (Reads.of_own hv) (k:=j) (x:=out[j]) hjo (List.getElem?_eq_getElem hjo) q hq2).trans hq
       have hzr:=right_parts (HRO.out _ (List.getElem_mem hjo))
       obtain ⟨A3,n3,c3,hzd⟩:=HZD.out _ (List.getElem_mem hjo)
       have hsn:seen (ck + 1) (out.take (j + 1))=max (seen (ck + 1) (out.take j)) (out[j]).t:=by
        rw [List.take_succ_eq_append_getElem hjo]
        unfold seen
        rw [List.foldl_append]
        rfl
       generalize out[j]=z at *
       have hzt0:=hzr.t0
       have hzt1:=hzr.t1
       obtain ⟨zr,zn,zt,zs,zd,zz,zse,zk,zv,zg,zl⟩:=z
       dsimp only at hzd hzt0 hzt1 hsn
       subst hzd
       have Hcell:=Lib.hid (show ∀ q v,[Value.int .i64 zr,.int .i64 zn,.int .i64 zt,.int .i64 zs,.slice A3 n3 c3,.string zse,.string zk,.string zv,.bool zg,.int .i64 zl][q]?=some v→wr.cell? ⟨b2,off2 + j * 10 + q,none⟩=some v from hcell)
       have Hm:=Lib.hid hm
       have Hc:=Lib.hid hc
       have Hv:=Lib.hid hv
       have Hsn:=Lib.hid hsn
       have hgcl:=hc.lt
       clear hm hc hv hcell hsn hzr
       go_wp2_with (first|(refine wpList_load_at rfl 34 (.tmp 113) rfl b2 (off2 + j * 10) [.int .i64 zr,.int .i64 zn,.int .i64 zt,.int .i64 zs,.slice A3 n3 c3,.string zse,.string zk,.string zv,.bool zg,.int .i64 zl] rfl Tryz.underlying34 rfl (by kernel_rfl) Hcell.out ?_)|(refine wpList_store_blk rfl 34 (.tmp 20) (.tmp 114) rfl wr.heap.size [.int .i64 zr,.int .i64 zn,.int .i64 zt,.int .i64 zs,.slice A3 n3 c3,.string zse,.string zk,.string zv,.bool zg,.int .i64 zl] rfl rfl (Blk.new wr 34 #[.int .i64 0,.int .i64 0,.int .i64 0,.int .i64 0,.slice none 0 0,.string ⟨#[]⟩,.string ⟨#[]⟩,.string ⟨#[]⟩,.bool false,.int .i64 0]) (by kernel_rfl) rfl rfl ?_;intro w21 ho21 hk21 hs21;have t21:w21.cell? ⟨wr.heap.size,2,none⟩=some (.int .i64 zt):=ho21.cell 2;have tl21:=ho21.lt))
       have hb21:Below wr.heap.size wr w21:=(below_new wr (.cells #[.int .i64 0,.int .i64 0,.int .i64 0,.int .i64 0,.slice none 0 0,.string ⟨#[]⟩,.string ⟨#[]⟩,.string ⟨#[]⟩,.bool false,.int .i64 0] 34)).trans (hk21.below (fun i hi e=>by omega) (by simp))
       have Hm21:=Lib.hid (Hm.out.below hb21)
       have Hc21:=Lib.hid (show clock.Clk w21 gc (seen (ck + 1) (out.take j)) x.id from Blk.below Hc.out hb21 hgcl)
       have Hv21:=Lib.hid (dep.own_keeps Hv.out (X:=nobody) (.of_below hb21) (fun _ _ h=>h))
       clear ho21 hk21 hb21 Hm Hc Hv Hcell
       refine (clock.see_yes gc (seen (ck + 1) (out.take j)) x.id zt w21 Hc21.out (by omega) hzt1).mono ?_
       rintro e w22 ⟨rfl,hc22,hk22⟩
       have Hm22:=Lib.hid (Hm21.out.blk Hc21.out hk22 hgcw (by decide) (by decide) (by decide))
       have Hv22:=Lib.hid (dep.own_keeps Hv21.out hk22 (fun i hi e=>own_blk_ne Hv21.out Hc21.out (by decide) (e ▸ hi)))
       have Hc22:=Lib.hid hc22
       clear hc22 hk22 Hm21 Hc21 Hv21 t21 tl21
       go_wp2_with fail
       go_roundw
       case rel=>exact ⟨j + 1,by go_num,by omega,Hm22.out,by rw [Hsn.out];exact Hc22.out,Hv22.out⟩
       case measure=>simp [intOf];omega
      ·obtain rfl:j=out.length:=by omega
       have dj:decide ((out.length:Int) < (out.length:Int))=false:=by simp
       rw [List.take_length] at hc
       have Hm:=Lib.hid hm
       have Hc:=Lib.hid hc
       clear hm hc hv
       go_wp2_with fail
       go_roundw
       case rel =>
        have hpl:Plan x.id x.ck x.ap ws1 (cs.take (k + 1)) (o1 ++ [mkW x.id ⟨cse,ck_,cv,cg,cl⟩ ck a (.slice none 0 0)]) (a1 ++ mkW x.id ⟨cse,ck_,cv,cg,cl⟩ ck a (.slice none 0 0) :: out.map Wr.abs) (seen (ck + 1) out) a' ws':=by
         rw [Htk.out]
         exact .one HP.out ⟨cse,ck_,cv,cg,cl⟩ hckl (by rw [← HYA.out];exact HRT.out) HST.out HNO.out
        refine ⟨k + 1,S3,_,_,_,a',ws',va2,vw2,Lo ++ [y],LA,by go_num,by omega,rfl,rfl,hpl,?_,?_,?_,Hc.out⟩
        ·rw [List.map_append,HLO.out];simp [HYA.out]
        ·rw [← HLA2.out,List.map_append,List.map_append,HLA.out];simp [HYA.out]
        ·simpa using Hm.out
       case measure=>simp [intOf];omega
   ·refine (clock.next_long gc ck x.id w9 HC9.out (by omega)).mono ?_
    rintro e w10 ⟨v,rfl,he,_,hb10⟩
    have HE:=Lib.hid (show Go.Proofs.YtdaphppdmnmicaaGreatDoor.err.Err w10 v 3 from he)
    have hb10w:=HM9.out.bel.trans (hb10.mono HM9.out.bel.size)
    have HB10:=Lib.hid (below_alloc hb10w (.cells #[.int .i64 0,.int .i64 0] 32))
    have HE10:=Lib.hid (HE.out.one.below (below_new w10 (.cells #[.int .i64 0,.int .i64 0] 32)))
    obtain ⟨ge,rfl,_⟩:=he
    clear hb10 hb10w
    unfold clock.zst
    have HQ:=Lib.hid (show PlanR x.id x.ck x.ap x.ws cs w (.returned (.tuple #[.slice none 0 0,.slice none 0 0,.pointer none,.iface 167 (.pointer (some ⟨ge,0,none⟩))])) (w10.alloc (.cells #[.int .i64 0,.int .i64 0] 32)) from ⟨HB10.out,.inl ⟨_,3,.of HAB.out Htk.out HP.out (.inl ⟨rfl,by omega⟩),rfl,HE10.out⟩⟩)
    go_wp2_with fail
    exact bodyPost_ret (v:=.tuple #[.slice none 0 0,.slice none 0 0,.pointer none,.iface 167 (.pointer (some ⟨ge,0,none⟩))]) (by simp [results,Tryz.results111,go_sem]) rfl HQ.out
  ·obtain rfl:n=k:=by omega
   have dk:decide ((n:Int) < (n:Int))=false:=by simp
   have hpl:=HP.out
   rw [show cs.take n=cs by rw [← hl];exact List.take_length] at hpl
   have HQ:=Lib.hid (show PlanR x.id x.ck x.ap x.ws cs w (.returned (.tuple #[.slice Ao Lo.length co,.slice Aa La.length ca,.pointer (some ⟨gi,0,none⟩),.nilIface])) wr from
    ⟨HM.out.bel,.inr ⟨_,_,gi,Sn,ws1,o1,a1,ck,a,ws,v7,v8,Lo,La,rfl,HAB.out,hpl,HM.out.lo,HLO.out,HM.out.la,HLA.out,HM.out.inb,HM.out.new⟩⟩)
   clear hpl
   go_wp2_with fail
   exact bodyPost_ret (v:=.tuple #[.slice Ao Lo.length co,.slice Aa La.length ca,.pointer (some ⟨gi,0,none⟩),.nilIface]) (by simp [results,Tryz.results111,go_sem]) rfl HQ.out
end
end Go.Proofs.YtdaphppdmnmicaaGreatDoor.regn
namespace Go.Proofs.YtdaphppdmnmicaaGreatDoor.regn
open Go Go.RowKit base err cmp wire dep vec jrnp jrn writep wireb framew
structure RX.Ok (x:RX) (l:List Part):Prop where
 i1:1≤x.id
 i2:x.id≤x.n
 i3:x.n≤16
 m1:1≤x.m.size
 m2:x.m.size≤64
 c1:0≤x.ck
 c2:x.ck≤1099511627776
 ap:BndV x.ap
 ws:RngW x.ws
 key:x.key≤1099511627776
 d1:0≤x.made
 d2:x.made≤1099511627776
 g1:1≤x.gen
 g2:x.gen≤1099511627776
 well:Well x.dn l
def MadeX (x:RX) (l:List Part) (rs0:List (List UInt8)) (cs:List Ch) (x':RX) (own:List Wr):Prop :=
 ∃ ws1 all ck a ws ps,ws1.map Wr.abs=x.ws.map Wr.abs∧Plan x.id x.ck x.ap ws1 cs own all ck a ws∧all=ps.map pabs∧(∀ q ∈ ps,q.Ok)∧x'=takesX x l (rs0 ++ ps.map recW) ps a ws ∧
  (rs0 ++ ps.map recW=[] ∨ (dev (putL x.gen l (rs0 ++ ps.map recW))).length≤x.dn.room)
theorem right_list:∀ {L:List Wr},RngW L→∃ ps:List PW,L.map Wr.abs=ps.map pabs∧∀ q ∈ ps,q.Ok
 | [],_=>⟨[],rfl,by simp⟩
 | y :: L,h=>by
  obtain ⟨ps,h1,h2⟩:=right_list (L:=L) (fun x hx=>h x (by simp [hx]))
  obtain ⟨q,hq,he⟩:=right_pw_ex (h y (by simp))
  refine ⟨q :: ps,?_,fun z hz=>?_⟩
  ·rw [List.map_cons,List.map_cons,h1]
   have:y.abs=pabs q:=by rw [he];rfl
   rw [this]
  ·rcases List.mem_cons.1 hz with hz|hz
   ·rw [hz];exact hq
   ·exact h2 z hz
theorem applyL_n (L:List Wr):∀ x:RX,(applyL x L).n=x.n:=by
 induction L with
 | nil=>intro x;rfl
 | cons y L ih=>intro x;exact ih (applyX x y)
theorem takesX_fix (x:RX) (l:List Part) (rs:List (List UInt8)) (ps:List PW) (ap:List Int) (ws:List Wr):(takesX x l rs ps ap ws).id=x.id∧(takesX x l rs ps ap ws).n=x.n :=
 ⟨(applyL_fix (ps.map pabs) (putX x l rs)).1,applyL_n (ps.map pabs) (putX x l rs)⟩
def NoMake (x:RX) (l:List Part) (rs0:List (List UInt8)) (cs:List Ch) (c:Int):Prop :=
 PlanStop x.id x.ck x.ap x.ws cs c ∨ ∃ (ws1 o all:List Wr) (ck:Int) (a:List Int) (ws:List Wr) (ps:List PW),ws1.map Wr.abs=x.ws.map Wr.abs∧Plan x.id x.ck x.ap ws1 cs o all ck a ws∧all=ps.map pabs∧(∀ q ∈ ps,q.Ok)∧jrn.NoPut x.gen l x.dn (rs0 ++ ps.map recW) c
def MakeI (own:Nat→Nat) (p:RP) (x:RX) (l:List Part) (va:Value) (rs0:List (List UInt8)) (cs:List Ch) (w:World) (e:Ending) (w':World):Prop :=
 ∃ v v2 own',e=.returned (.tuple #[v,v2])∧Grown own own' w∧Keeps (fun i=>tags own [1,4,6,9,10] i ∨ va.ownBlock=some i) w w' ∧
  ((v2=.nilIface∧∃ gi v7 v8 x' o1,RegI w' own' { p with gi:=gi,va:=v7,vw:=v8 } x'∧MadeX x l rs0 cs x' o1∧(x.n=1→v=.slice none 0 0)) ∨
   (v=.slice none 0 0∧∃ k c,NoMake x l rs0 cs c∧k≤2∧ErrD w' (k + 1) v2 c∧RegI w' own' p x))
section
variable {w:World} {own:Nat→Nat} {p:RP} {x:RX}
theorem rat_chain (h:RegI w own p x) {k:Nat} {v:Value} {c:Int} (he:ErrD w (k + 1) v c):Calls Tryz.prog 41 #[.pointer (some ⟨p.r,0,none⟩),v] w (WrapD (k + 1) c w):=by
 have HE:=Lib.hid he
 obtain ⟨g0,v',rfl,_⟩:=he
 have c0:w.cell? ⟨p.r,0,none⟩=some (.int .i64 x.id):=h.reg.c0
 have hlt:=h.reg.lt
 clear h
 go_enter Tryz.func41,Tryz.ntmps41
 go_wp2_with fail
 refine (wrap_err _ _ HE.out).mono ?_
 rintro e w1 ⟨⟨g,rfl,h1⟩,h2⟩
 have HR:=Lib.hid (show WrapD (k + 1) c w (.returned (.iface 167 (.pointer (some ⟨g,0,none⟩)))) w1 from ⟨⟨g,rfl,h1⟩,h2⟩)
 clear h1 h2
 go_wp2_with fail
 go_ret
 exact HR.out
set_option maxRecDepth 20000 in
set_option maxHeartbeats 4000000 in
theorem make_one (cs:List Ch) (A:Option Addr) (n c:Nat) (va:Value) (rs0:List (List UInt8)) (lp:List Part) (h:RegI w own p x) (hok:x.Ok lp) (hA:OwnS w 0 va rs0) (hrs0:∀ s ∈ rs0,s.length≤1000) (hl0:rs0.length≤1000) (hva:∀ i,va.ownBlock=some i→own i=0)
  (hl:cs.length=n) (hn:n≤1000) (hr:Reads w w.heap.size 5 A n (cs.flatMap Ch.cells)) (hLf:x.Lf.length≤800000) (h1:x.id=1) (h2:x.n=1) :
  Calls Tryz.prog 42 #[.pointer (some ⟨p.r,0,none⟩),va,.slice A n c] w (MakeI own p x lp va rs0 cs w):=by
 obtain ⟨A0,c0,rfl⟩:=hA.form
 have hwf:x.ws.length≤1000:=h.inb.wfew
 have HR:=Lib.hid h
 have HOK:=Lib.hid hok
 have HA:=Lib.hid hA
 have HRS:=Lib.hid hrs0
 have HVA:=Lib.hid hva
 have HPL:=Lib.hid (plan_i cs A n c h ⟨hok.i1,by have:=hok.i2;have:=hok.i3;omega⟩ ⟨hok.c1,hok.c2⟩ hok.ap hok.ws hl hn hr)
 clear h hok hA hrs0 hva hr
 go_enter Tryz.func42,Tryz.ntmps42
 go_wp2_with fail
 refine HPL.out.mono ?_
 rintro e w1 ⟨hb1,h3⟩
 have hs1:=hb1.size
 have HB1:=Lib.hid hb1
 have HR1:=Lib.hid (HR.out.below hb1)
 rcases h3 with ⟨v,c3,hc3,rfl,he⟩|⟨vo,vl,gi,Sn,ws1,o1,all,ck,a,ws,v7,v8,Lo,La,rfl,hab,hpl,hlo,hloa,hla,hlaa,hin,hsn⟩
 ·have HE:=Lib.hid he
  obtain ⟨g0,v',rfl,_⟩:=he
  clear hb1
  go_wp2_with fail
  refine (rat_chain HR1.out HE.out).mono ?_
  rintro e w2 ⟨⟨g,rfl,_,h4⟩,hb2⟩
  have HQ:=Lib.hid (show MakeI own p x lp (.slice A0 rs0.length c0) rs0 cs w (.returned (.tuple #[.slice none 0 0,.iface 167 (.pointer (some ⟨g,0,none⟩))])) w2 from
   ⟨_,_,own,rfl,Grown.refl _ _,.of_below (HB1.out.trans (hb2.mono hs1)),.inr ⟨rfl,1,c3,.inl hc3,by omega,h4,HR1.out.below hb2⟩⟩)
  clear h4 hb2
  go_wp2_with fail
  go_ret2
  exact HQ.out
 ·obtain ⟨_,_,hrw,_,hra,hlo2,hla2⟩:=hpl.facts ⟨by have:=HOK.out.i1;omega,by have:=HOK.out.i2;have:=HOK.out.i3;omega⟩ ⟨HOK.out.c1,HOK.out.c2⟩ HOK.out.ap (by
   intro y hy
   obtain ⟨z,hz,he⟩:=abs_mem hab hy
   have h1:=HOK.out.ws z hz
   rw [← right_abs,← he,right_abs] at h1
   exact h1)
  have hw1l:ws1.length=x.ws.length:=by have:=congrArg List.length hab;simpa using this
  have hRL:RngW La:=fun y hy=>by
   have:=hra y.abs (by rw [← hlaa];exact List.mem_map_of_mem hy)
   exact this
  obtain ⟨ps,hps,hpok⟩:=right_list hRL
  have hLal:La.length≤2000:=by
   have h5:La.length=all.length:=by rw [← hlaa,List.length_map]
   omega
  have hz:∀ i,w.heap.size≤i→own i=0:=fun i hi=>HR.out.zero hi
  have HT:=Lib.hid (takes_i (w:=w1) (own:=own) (p:=p) (x:=x) (Sn:=Sn) (T:=fun i=>w.heap.size≤i) (.slice A0 rs0.length c0) rs0 vl La ps gi a ws v7 v8 lp HR1.out HOK.out.well HOK.out.g1 HOK.out.g2 (own_below HA.out hb1) HRS.out hl0
   ⟨ownI_low hla.ow.row (Nat.zero_le _),hla.ow.few,fun y hy=>(hla.ow.nums y hy).base (Nat.zero_le _),hla.ow.inS,hla.ow.numS⟩ hps hpok hin (fun i hi=>hz i hi) (fun i hi=>hz i (hsn i hi))
   (fun i hi=>⟨HVA.out i hi,by have:=(HA.out.lt i hi).2;omega,fun e=>by have:=(HA.out.lt i hi).2;have:=hsn i e;omega⟩) (by omega))
  have HMX:=Lib.hid (show MadeX x lp rs0 cs (takesX x lp (rs0 ++ ps.map recW) ps a ws) o1 ∨ ¬ (rs0 ++ ps.map recW=[] ∨ (dev (putL x.gen lp (rs0 ++ ps.map recW))).length≤x.dn.room) from by
   by_cases hf:(rs0 ++ ps.map recW=[] ∨ (dev (putL x.gen lp (rs0 ++ ps.map recW))).length≤x.dn.room)
   ·exact .inl ⟨ws1,all,ck,a,ws,ps,hab,hpl,hlaa.symm.trans hps,hpok,rfl,hf⟩
   ·exact .inr hf)
  have HNM:=Lib.hid (show ∀ c,jrn.NoPut x.gen lp x.dn (rs0 ++ ps.map recW) c→NoMake x lp rs0 cs c from fun c h=>.inr ⟨ws1,o1,all,ck,a,ws,ps,hab,hpl,hlaa.symm.trans hps,hpok,h⟩)
  obtain ⟨Al,cl,rfl⟩:=ownsRow_slice hla.ow.row
  obtain ⟨Ao,co,rfl⟩:=ownsRow_slice hlo.ow.row
  have HSN:=Lib.hid hsn
  clear hb1 hab hpl hlo hloa hla hlaa hin hsn hrw hra hRL hps hpok hz hlo2 hla2
  have HID:=Lib.hid (takesX_fix x lp (rs0 ++ ps.map recW) ps a ws)
  go_wp2_with fail
  refine HT.out.mono ?_
  rintro e w5 ⟨v,o5,rfl,hg5,hk5,hc5⟩
  have HK5:=Lib.hid (show Keeps (fun i=>tags own [1,4,6,9,10] i ∨ (Value.slice A0 rs0.length c0).ownBlock=some i) w w5 from (Keeps.of_below HB1.out).trans hk5)
  have HG5:=Lib.hid (show Grown own o5 w from fun i=>by
   rcases hg5 i with h|h|h|h
   ·exact .inl h
   ·exact .inr (.inl h)
   ·exact .inr (.inr (Nat.le_trans hs1 h))
   ·exact .inr (.inr (HSN.out i h)))
  have hs5:=HK5.out.size
  clear hg5 hk5
  rcases hc5 with ⟨rfl,hr5,hf5⟩|⟨k,c3,hc3,hk3,he5,hr5⟩
  ·have HX:=Lib.hid (HMX.out.resolve_right (fun h=>h hf5))
   have HR5:=Lib.hid hr5
   clear hr5 hf5 HMX HT
   go_wp2_with fail
   refine (push_one Ao Lo.length co HR5.out.reg (by show (((takesX x lp (rs0 ++ ps.map recW) ps a ws).id:Nat):Int)=1;rw [HID.out.1,h1];rfl) (by show (((takesX x lp (rs0 ++ ps.map recW) ps a ws).n:Nat):Int)=1;rw [HID.out.2,h2];rfl)).mono ?_
   rintro e w6 ⟨rfl,hb6⟩
   have HQ:=Lib.hid (show MakeI own p x lp (.slice A0 rs0.length c0) rs0 cs w (.returned (.tuple #[.slice none 0 0,.nilIface])) w6 from
    ⟨_,_,o5,rfl,HG5.out,HK5.out.trans (.of_below hb6),.inl ⟨rfl,gi,v7,v8,_,o1,HR5.out.below hb6,HX.out,fun _=>rfl⟩⟩)
   clear hb6
   go_wp2_with fail
   go_ret2
   exact HQ.out
  ·have HE:=Lib.hid he5
   have HR5:=Lib.hid hr5
   obtain ⟨g0,v',rfl,_⟩:=he5
   clear hr5 HMX HT
   go_wp2_with fail
   refine (rat_chain HR5.out HE.out).mono ?_
   rintro e w6 ⟨⟨g,rfl,_,h6⟩,hb6⟩
   have HQ:=Lib.hid (show MakeI own p x lp (.slice A0 rs0.length c0) rs0 cs w (.returned (.tuple #[.slice none 0 0,.iface 167 (.pointer (some ⟨g,0,none⟩))])) w6 from
    ⟨_,_,o5,rfl,HG5.out,HK5.out.trans (.of_below hb6),.inr ⟨rfl,k + 1,c3,HNM.out c3 hc3,by omega,h6,HR5.out.below hb6⟩⟩)
   clear h6 hb6
   go_wp2_with fail
   go_ret2
   exact HQ.out
end
end Go.Proofs.YtdaphppdmnmicaaGreatDoor.regn
