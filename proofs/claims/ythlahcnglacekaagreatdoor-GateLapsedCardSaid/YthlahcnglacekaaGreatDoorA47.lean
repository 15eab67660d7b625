/- A part of the proof of GateLapsed: RotP, RotI, ServeI, ServeP, ServeU, AwakeG, ServeE. -/
import Derived.Test.YthlahcnglacekaaGreatDoorA46
import Derived.Test.YthlahcnglacekaaGreatDoorA41
import Derived.Test.YthlahcnglacekaaGreatDoorA40
set_option maxRecDepth 100000
set_option maxHeartbeats 16000000
namespace Go.Proofs.YthlahcnglacekaaGreatDoor
namespace gatew
open Go Go.RowKit base wireb wirep writep claimp regn diskp store rows merge
def rotR (k:Nat):List (List UInt8):=[recN 3 (k+1)]
def rotX (x:RX) (l:List jrnp.Part):RX:={ putX x l (rotR x.key) with key:=x.key+1 }
def rotL (x:RX) (l:List jrnp.Part):List jrnp.Part:=jrnp.putL x.gen l (rotR x.key)
def rotS (s:RX × List jrnp.Part):RX × List jrnp.Part:=(rotX s.1 s.2,rotL s.1 s.2)
def rotN:Nat→RX × List jrnp.Part→RX × List jrnp.Part
 | 0,s=>s
 | k+1,s=>rotS (rotN k s)
theorem rotX_same (x:RX) (l:List jrnp.Part):rotX x l={ x with key:=x.key+1,dn:=jrnp.putD x.gen l (rotR x.key) x.dn }:=rfl
theorem rotN_same:∀ (k:Nat) (s:RX × List jrnp.Part),(rotN k s).1={ s.1 with key:=s.1.key+k,dn:=(rotN k s).1.dn }
 | 0,_=>rfl
 | k+1,s=>by
  have h:=rotN_same k s;show rotX (rotN k s).1 (rotN k s).2=_;show _={ s.1 with key:=s.1.key+(k+1),dn:=(rotX (rotN k s).1 (rotN k s).2).dn };rw [rotX_same];dsimp only;generalize (rotN k s).1=y at *;generalize jrnp.putD y.gen _ _ _=d;rw [h];rfl
structure Fit (K:Nat) (s:RX × List jrnp.Part):Prop where
 gen:s.1.gen=1
 well:jrnp.Well s.1.dn s.2
 len:(jrnp.dev s.2).length≤K
 room:s.1.dn.room=1048576
theorem rotR_le (k:Nat) (hk:k≤1000000):∀ s ∈ rotR k,s.length≤1000:=by
 intro s hs;unfold rotR at hs;rw [List.mem_singleton] at hs;subst hs;exact recN_len 3 (k+1) (by omega) (by omega)
theorem Fit.len' {K:Nat} {s:RX × List jrnp.Part} (h:Fit K s) (hK:K≤100000) (hk:s.1.key≤1000000):(jrnp.dev (rotL s.1 s.2)).length≤K+2242:=by
 unfold rotL;rw [h.gen];have:=put_few (g:=1) (K:=K) (l:=s.2) (rs:=rotR s.1.key) (by omega) (by omega) h.len hK (by show 1≤10;omega) (rotR_le _ hk);have e:(rotR s.1.key).length=1:=rfl;rw [e] at this;omega
theorem Fit.rot {K:Nat} {s:RX × List jrnp.Part} (h:Fit K s) (hK:K≤100000) (hk:s.1.key≤1000000):Fit (K+2242) (rotS s):=by
 have hl:=h.len' hK hk;refine ⟨h.gen,?_,hl,h.room⟩;show jrnp.Well (jrnp.putD s.1.gen s.2 (rotR s.1.key) s.1.dn) (jrnp.putL s.1.gen s.2 (rotR s.1.key));unfold rotL at hl;rw [h.gen] at hl ⊢;exact jrnp.put_ok 1 _ h.well (by omega) (by omega) (fun t ht=>by have:=rotR_le _ hk t ht;omega) (by omega)
theorem Fit.rotN {K:Nat} {s:RX × List jrnp.Part} (h:Fit K s) (hK:K≤50000) (hk:s.1.key≤10):∀ (k:Nat),k≤10→Fit (K+k*2242) (rotN k s)
 | 0,_=>by rw [Nat.zero_mul];exact h
 | k+1,h2=>by
  have h1:=Fit.rotN h hK hk k (by omega);have e:(Go.Proofs.YthlahcnglacekaaGreatDoor.gatew.rotN k s).1.key=s.1.key+k:=by rw [rotN_same]
  have:=Fit.rot h1 (by omega) (by omega);rw [show K+(k+1)*2242=K+k*2242+2242 by omega];exact this
def xK (k:Nat) (d:Dk):RX:={ x0 dG dG with key:=k,dn:=d }
def xL (k:Nat) (d:Dk) (l:List jrnp.Part):RX:={ takesX (xK k d) l rs1 [qB] [1] [] with made:=((1:Nat):Int) }
def xP (k:Nat) (d:Dk) (l l':List jrnp.Part):RX:=takesX (xL k d l) l' [recW qW] [qW] [2] []
theorem ok_xK {k:Nat} {d:Dk} {l:List jrnp.Part} (h:jrnp.Well d l) (hk:k≤1000000):(xK k d).Ok l :=
 ⟨by show 1≤1;omega,by show 1≤1;omega,by show 1≤16;omega,by show 1≤m1.size;decide,by show m1.size≤64;decide,by show (0:Int)≤0;omega,by show (0:Int)≤_;omega,⟨fun r=>by
  have e:vec.atV (xK k d).ap r=0:=at_nil' r;rw [e];omega,rfl⟩,fun y hy=>(by cases hy),by show k≤_;omega,by show (0:Int)≤0;omega,by show (0:Int)≤_;omega,by show 1≤1;omega,by show 1≤_;omega,h⟩
theorem ok_xL {k:Nat} {d:Dk} {l l':List jrnp.Part} (h:jrnp.Well (xL k d l).dn l') (hk:k≤1000000):(xL k d l).Ok l' :=
 ⟨by show 1≤1;omega,by show 1≤1;omega,by show 1≤16;omega,by show 1≤m1.size;decide,by show m1.size≤64;decide,by show (0:Int)≤max 0 1;omega,by show max 0 (1:Int)≤_;omega,⟨fun r=>by
  have e:vec.atV (xL k d l).ap r=if r=1 then 1 else 0:=at_one r;rw [e]
  split <;> omega,rfl⟩,fun y hy=>(by cases hy),by show k≤_;omega,by show (0:Int)≤1;omega,by show (1:Int)≤_;omega,by show 1≤1;omega,by show 1≤_;omega,h⟩
theorem fit_log {K k:Nat} {d:Dk} {l:List jrnp.Part} (h:Fit K (xK k d,l)) (hK:K≤100000):Fit (K+4363) (xL k d l,jrnp.putL 1 l rs1):=by
 have hl:=put_few (g:=1) (K:=K) (l:=l) (rs:=rs1) (by omega) (by omega) h.len hK (by show 2≤10;omega) rs1_le;have e:rs1.length=2:=rfl;rw [e] at hl;refine ⟨rfl,?_,by show (jrnp.dev (jrnp.putL 1 l rs1)).length≤_;omega,h.room⟩;show jrnp.Well (jrnp.putD 1 l rs1 d) _;exact jrnp.put_ok 1 rs1 h.well (by omega) (by omega) (fun s hs=>by have:=rs1_le s hs;omega) (by omega)
theorem room_log {K k:Nat} {d:Dk} {l:List jrnp.Part} (h:Fit K (xK k d,l)) (hK:K≤100000):(jrnp.dev (jrnp.putL 1 l rs1)).length≤d.room:=by
 have:=(fit_log h hK).len;have e:d.room=1048576:=h.room;have h2:(jrnp.dev (jrnp.putL 1 l rs1)).length≤K+4363:=this;omega
theorem room_put {K k:Nat} {d:Dk} {l l':List jrnp.Part} (h:Fit K (xL k d l,l')) (hK:K≤100000):(jrnp.dev (jrnp.putL 1 l' [recW qW])).length≤(xL k d l).dn.room:=by
 have hl:=put_few (g:=1) (K:=K) (l:=l') (rs:=[recW qW]) (by omega) (by omega) h.len hK (by show 1≤10;omega) (fun s hs=>by rw [List.mem_singleton.1 hs];exact rec_len okW);have e:([recW qW]:List (List UInt8)).length=1:=rfl;have e2:(xL k d l).dn.room=1048576:=h.room;rw [e] at hl;omega
def yC (k now:Nat) (cx:List Nat):PC:=⟨[49,45,49],[97,110,110],0,now,k,cx⟩
theorem yC_ok {k now:Nat} {cx:List Nat} (h1:k≤1000000) (h2:now≤1000000) (h3:trN cx maxNum=true):(yC k now cx).Ok :=
 ⟨by show 1≤3;omega,by show 3≤64;omega,by show 1≤3;omega,by show 3≤32;omega,by show 0≤_;omega,by show now≤1099511627776;omega,by show k≤1099511627776;omega,h3⟩
theorem head_L (k:Nat) (d:Dk) (l:List jrnp.Part):atL (xL k d l).L (nm11,⟨#[]⟩)=⟨1,1,⟨#[97,110,110]⟩,false,0⟩:=by
 have e:(xL k d l).L=takeL [] (nm11,⟨#[]⟩) ⟨1,1,⟨#[97,110,110]⟩,false,0⟩:=rfl;rw [e];unfold atL;rw [getL_take rising_nil,if_pos rfl];rfl
theorem xP_L (k:Nat) (d:Dk) (l l':List jrnp.Part):(xP k d l l').L=y2.L:=rfl
theorem fits_L (k:Nat) (d:Dk) (l:List jrnp.Part):quota.fitsC (xL k d l).L nm11 ⟨#[97]⟩=0:=by
 have h1:(keysL (xL k d l).L nm11).length≤1:=by
  unfold keysL;rw [List.length_map];exact List.length_filter_le _ _
 unfold quota.fitsC;rw [head_L,ByteArray.toList_eq,if_neg (by decide),if_neg (by decide),if_neg];unfold quota.fullB;rw [decide_eq_false (by omega)];simp
theorem well_L {k j now:Nat} {d:Dk} {l l':List jrnp.Part} (hk:k≤10) (hj:j≤2) (hn:now≤1000):Well (rotN j (xL k d l,l')).1 (yC k now [1]) 1 1 0:=by
 rw [rotN_same];exact ⟨yC_ok (by omega) (by omega) rfl,by show 1≤m1.size;decide,by show m1.size≤64;decide,by show k+j≤_;omega,by show k+j≤k+2;omega,rfl,rfl,head_L k d l,by omega⟩
theorem well_P {k now:Nat} {d:Dk} {l l':List jrnp.Part} (hk:k≤10) (hn:now≤1000):Well (xP k d l l') (yC k now [2]) 1 1 0 :=
 ⟨yC_ok (by omega) (by omega) rfl,by show 1≤m1.size;decide,by show m1.size≤64;decide,by show k≤_;omega,by show k≤k+2;omega,rfl,rfl,by rw [xP_L];exact get_ch,by omega⟩
end gatew
namespace gatew
open Go Go.RowKit Go.Lib base rowe err wireb wirep claimp regn ringw fold
def Led (own own':Nat→Nat) (w w':World):Prop:=(∀ i,own' i≠0→own i≠0∨w.heap.size≤i)∧Keeps (fun i=>own i≠0) w w'
theorem Led.trans {own o1 o2:Nat→Nat} {w w1 w2:World} (h:Led own o1 w w1) (h2:Led o1 o2 w1 w2):Led own o2 w w2:=by
 refine ⟨fun i hi=>?_,((h.2.more (fun i _ e=>(.inl e:own i≠0∨w.heap.size≤i))).trans (h2.2.more fun i _ e=>h.1 i e)).more fun i hi e=>?_⟩
 ·rcases h2.1 i hi with h3|h3
  ·exact h.1 i h3
  ·exact .inr (Nat.le_trans h.2.size h3)
 ·rcases e with h3|h3
  ·exact h3
  ·omega
theorem Led.below {own:Nat→Nat} {w w':World} (h:Below w.heap.size w w'):Led own own w w':=⟨fun _ h=>.inl h,Keeps.of_below h⟩
theorem Led.tags {own o1:Nat→Nat} {w w':World} {l:List Nat} (hg:Grown own o1 w) (hk:Keeps (tags own l) w w'):Led own o1 w w' :=
 ⟨fun i hi=>by
  rcases hg i with h|h|h
  ·exact .inl (by rw [←h];exact hi)
  ·exact absurd h hi
  ·exact .inr h,hk.more fun _ _ e=>e.2⟩
theorem Led.mine {own o1:Nat→Nat} {w w1 w2:World} {X:Nat→Prop} (h:Led own o1 w w1) (hk:Keeps X w1 w2) (hx:∀ i,X i→w.heap.size≤i):Led own o1 w w2:=by
 refine ⟨h.1,((h.2.more (fun i _ e=>(.inl e:own i≠0∨w.heap.size≤i))).trans (hk.more fun i _ e=>.inr (hx i e))).more fun i hi e=>?_⟩
 rcases e with h3|h3
 ·exact h3
 ·omega
theorem Led.go {own o1:Nat→Nat} {w w1 w2:World} (h:Led own o1 w w1) (hb:Below w1.heap.size w1 w2):Led own o1 w w2:=h.trans (Led.below hb)
theorem Led.to_below {own o1:Nat→Nat} {w w':World} {B:Nat} (h:Led own o1 w w') (hB:∀ i,own i≠0→B≤i) (hb:B≤w.heap.size):Below B w w':=h.2.below (fun i hi e=>by have:=hB i e;omega) hb
theorem Led.least {own o1:Nat→Nat} {w w':World} {B:Nat} (h:Led own o1 w w') (hB:∀ i,own i≠0→B≤i) (hb:B≤w.heap.size):∀ i,o1 i≠0→B≤i:=fun i hi=>by
 rcases h.1 i hi with h3|h3
 ·exact hB i h3
 ·omega
end gatew
namespace gatew
open Go Go.RowKit Go.Lib base rowe err wireb wirep writep claimp regn lease fold
def uAnn:ByteArray:=⟨#[97,110,110]⟩
theorem no_lapse (u:Nat→Int) (now:Nat):∀ i,lapse 1 1 u now i=false:=fun i=>by
 unfold lapse isL;have h:¬ (1≤i∧i≤1∧i≠1):=by omega
 rw [decide_eq_false h];rfl
def TabsB (B:Nat) (w:World):Prop:=∀ w',Below B w w'→quota.Tabs w'∧bake.Tabs w'
theorem TabsB.step {B:Nat} {w w':World} (h:TabsB B w) (hb:Below B w w'):TabsB B w':=fun w'' h2=>h w'' (hb.trans h2)
def CookR (own:Nat→Nat) (p:RP) (X:RX) (c v:ByteArray) (f:Bool) (w:World) (e:Ending) (w':World):Prop:=∃ p' own',e=.returned (.tuple #[.agg ⟨respL c v f 0⟩,.slice none 0 0,.nilIface])∧p'.r=p.r∧RegI w' own' p' X∧Led own own' w w'
theorem free_of {own o1:Nat→Nat} {w0 w w':World} (h:Led own o1 w w') (hs:∀ i,own i≠0→i<w0.heap.size) {g:Nat} (h1:w0.heap.size≤g) (h2:g<w.heap.size):o1 g=0:=Classical.byContradiction fun hn=>by
 rcases h.1 g hn with h3|h3
 ·have:=hs g h3;omega
 ·omega
def y0:PC:=⟨[49,45,49],[97,110,110],0,0,0,[]⟩
theorem y0_cells (d:Value):y0.cells d=[.string nm11,.string uAnn,.int .i64 0,.int .i64 0,.int .i64 0,d]:=rfl
theorem give_g {own:Nat→Nat} {p:RP} {x:RX} (y:PC) (d:Value) (k n now:Nat) (w:World) (h:RegI w own p x) (hT:bake.Tabs w) (hm:x.m=m1) (hke:x.key=k) (hap:vec.trimL x.ap=natI [n]) (hn:trN [n] maxNum=true) (hy:({ y with is:=now,ke:=k,cx:=[n] }:PC)=yC k now [n]) (hk:k≤10) (hnow:now≤1000) :
  Calls Tryz.prog 40 #[.pointer (some ⟨p.r,0,none⟩),.agg ⟨y.cells d⟩,.int .i64 now] w fun e w'=>e=.returned (.tuple #[.string (str (giveL m1.data.toList (yC k now [n]))),.nilIface])∧Below w.heap.size w w':=by
 have h:=give_ok y d [n] now w h hT hap (by rw [hke,hy];exact yC_ok (by omega) (by omega) hn) (by rw [hm];decide) (by rw [hm];decide) (by rw [hke];omega);rw [hke,hy,hm] at h;exact h
theorem serve_log {own:Nat→Nat} {p:RP} {k K:Nat} {d:diskp.Dk} {l:List jrnp.Part} (w:World) (h:RegI w own p (xK k d)) (B:Nat) (hT:TabsB B w) (hB:∀ i,own i≠0→B≤i) (hbw:B≤w.heap.size) (hf:Fit K (xK k d,l)) (hK:K≤50000) (hk:k≤10) (ck ky v:ByteArray) :
  Calls Tryz.prog 14 #[.pointer (some ⟨p.r,0,none⟩),.agg ⟨reqL 1 ck uAnn ky v 0⟩,.int .i64 1] w (CookR own p (xL k d l) (str (giveL m1.data.toList (yC k 1 [1]))) ⟨#[]⟩ false w):=by
 have hsm:∀ i,own i≠0→i<w.heap.size:=h.small;obtain ⟨W1,hW1⟩:∃ W1,(w.alloc (.cells (reqL 1 ck uAnn ky v 0).toArray 23)).alloc (.cells (respL ⟨#[]⟩ ⟨#[]⟩ false 0).toArray 28)=W1:=⟨_,rfl⟩;have hcb:Below w.heap.size w W1:=by rw [←hW1];exact (below_new w _).alloc (by simp) _
 have hX:Blk W1 (w.heap.size+1) 28 (respL ⟨#[]⟩ ⟨#[]⟩ false 0).toArray:=by rw [←hW1];exact Blk.newAt _ _ _ (by simp)
 have hQ:Blk W1 w.heap.size 23 (reqL 1 ck uAnn ky v 0).toArray:=by rw [←hW1];exact (Blk.new w _ _).alloc _
 have hs1:W1.heap.size=w.heap.size+2:=by rw [←hW1];simp
 have h0:=h.below hcb;have HD:=qH (down_any h0.reg);have HG:=qH (good_q 1 _ h0.reg rfl rfl h0.lease);have HW1:=qH hW1;have HX:=qH hX;have HQ:=qH hQ;have HCB:=qH hcb;have HR0:=qH h0;have HTB:=qH hT;have HF:=qH hf;have q0:W1.cell? ⟨w.heap.size,0,none⟩=some (.int .i64 1):=hQ.cell 0;have hq0:=hQ.lt;clear hW1 hX hcb h0 h hQ hT hf;unfold reqL respL at *;go_enter Tryz.func14,Tryz.ntmps14;go_wp2_with fail;rw [HW1.out];refine HD.out.mono ?_;rintro e w1 ⟨rfl,hw⟩;subst hw;rw [show (rgOf p (xK k d)).down=false from rfl];go_wp2_with fail;refine HG.out.mono ?_;rintro e w2 ⟨hb2,⟨_,rfl⟩|⟨⟨i,_,hi⟩,_⟩⟩;rotate_left
 ·exfalso
  have hi:lapse 1 1 (xK k d).un 1 i=true:=hi;rw [no_lapse] at hi
  cases hi
 have HX2:=qH (HX.out.below hb2 (by omega));have HQ2:=qH (HQ.out.below hb2 (by omega));have HR2:=qH (HR0.out.below hb2);have HB2:=qH (HCB.out.trans (hb2.mono (by omega)));have hs2:=hb2.size;have q0:w2.cell? ⟨w.heap.size,0,none⟩=some (.int .i64 1):=HQ2.out.cell 0;have q2:w2.cell? ⟨w.heap.size,2,none⟩=some (.string uAnn):=HQ2.out.cell 2;have q5:w2.cell? ⟨w.heap.size,5,none⟩=some (.int .i64 0):=HQ2.out.cell 5;have hq2:=HQ2.out.lt;clear hb2 HX HQ HR0 HCB HD HG;go_wp2_with fail;obtain ⟨gc,hgc⟩:∃ gc,w2.heap.size=gc:=⟨_,rfl⟩;have hcb3:=below_new w2 (.cells #[.string ⟨#[]⟩,.string uAnn,.int .i64 0,.int .i64 0,.int .i64 0,.slice none 0 0] 37);have HC3:=qH (show Blk (w2.alloc (.cells #[.string ⟨#[]⟩,.string uAnn,.int .i64 0,.int .i64 0,.int .i64 0,.slice none 0 0] 37)) gc 37 #[.string ⟨#[]⟩,.string uAnn,.int .i64 0,.int .i64 0,.int .i64 0,.slice none 0 0] from Blk.newAt _ _ _ hgc.symm);have HX3:=qH (HX2.out.below hcb3 (by omega));have HQ3:=qH (HQ2.out.below hcb3 (by omega));have HR3:=qH (HR2.out.below hcb3);have HB3:=qH (HB2.out.trans (hcb3.mono (by omega)));have hs3:gc<(w2.alloc (.cells #[.string ⟨#[]⟩,.string uAnn,.int .i64 0,.int .i64 0,.int .i64 0,.slice none 0 0] 37)).heap.size:=HC3.out.lt;clear hcb3 HX2 HQ2 HR2 HB2 q0 q2 q5;generalize w2.alloc (.cells #[.string ⟨#[]⟩,.string uAnn,.int .i64 0,.int .i64 0,.int .i64 0,.slice none 0 0] 37)=w3 at *;have hBG:=begin_one (w:=w3) 1 uAnn 0 l HR3.out (ok_xK HF.out.well (by omega)) (by decide) (HTB.out _ (HB3.out.mono hbw)).1 (by show 0≤800000;omega) (by show 0≤1000000;omega) (fun q hq=>by cases hq) (by show 0≤1000000;omega) rfl rfl (by show tab.canC [] uAnn 1=0;decide) (by omega) (by omega) (by rw [quota.opens_eq];show 0<32;omega) rfl (by omega);refine hBG.mono ?_;rintro e w4 ⟨s,v4,e4,own4,rfl,hg4,hk4,h4⟩
 rcases h4 with ⟨rfl,rfl,hs,gi,v7,v8,x',o1,hr4,hmx⟩|⟨_,_,_,c,hno,_⟩
 rotate_left
 ·exfalso
  have hno:NoMake (xK k d) l [recN 4 1] [⟨quota.str (dec.nm 1 1),⟨#[]⟩,⟨#[97,110,110]⟩,false,0⟩] c:=hno;rw [nm_one] at hno;exact nomake_one (q:=qB) rfl (by show (0:Int)<_;omega) mkB okB (by show 1≤300;omega) (room_log HF.out (by omega)) hno
 obtain rfl:s=nm11:=hs.trans nm_one;have hx:=made_one (q:=qB) hmx rfl mkB;subst hx;have HR4:=qH (show RegI w4 own4 { p with gi:=gi,va:=v7,vw:=v8 } (xL k d l) from hr4);have HL4:=qH ((Led.below HB3.out).trans (Led.tags hg4 hk4));have z4:∀ g,w.heap.size≤g→g<w3.heap.size→own g=0:=fun g h1 _=>Classical.byContradiction fun hn=>by have:=hsm g hn;omega
 have HX4:=qH (HX3.out.keeps hk4 (fun e=>e.2 (z4 _ (by omega) (by omega))));have HQ4:=qH (HQ3.out.keeps hk4 (fun e=>e.2 (z4 _ (by omega) (by omega))));have HC4:=qH (HC3.out.keeps hk4 (fun e=>e.2 (z4 _ (by omega) (by omega))));have hs4:=hk4.size;have z5:∀ g,w.heap.size≤g→g<w3.heap.size→own4 g=0:=fun g h1 h2=>hg4.zero (z4 g h1 h2) h2;have HT4:=qH (HTB.out.step (HL4.out.to_below hB hbw));clear hs hg4 hk4 hr4 hmx hBG HR3 HX3 HQ3 HC3 z4;have k0:=HC4.out.cell 0;have f0:=HC4.out.frozen 0;have f2:=HC4.out.frozen 2;have q2:w4.cell? ⟨w.heap.size,2,none⟩=some (.string uAnn):=HQ4.out.cell 2;have hc4:=HC4.out.lt;have hq4:=HQ4.out.lt;go_wp2_with fail;obtain ⟨W5,hW5⟩:∃ W5,w4.setCell ⟨gc,0,none⟩ (.string nm11)=W5:=⟨_,rfl⟩;rw [hW5];have hk5:Keeps (fun i=>i=gc) w4 W5:=by rw [←hW5];exact Keeps.set1 _ _ _ _
 have hc5:Blk W5 gc 37 #[.string nm11,.string uAnn,.int .i64 0,.int .i64 0,.int .i64 0,.slice none 0 0]:=by rw [←hW5];exact HC4.out.set_ 0 (.string nm11)
 have zc:=z5 gc (by omega) (by omega);have HR5:=qH (HR4.out.keeps hk5 (fun i hi e=>by rw [e] at hi;exact hi zc));have HX5:=qH (HX4.out.keeps hk5 (by omega));have HL5:=qH (HL4.out.mine hk5 (fun i e=>by omega));have HC5:=qH hc5;have hs5:=hk5.size;obtain ⟨c0,c1,c2,c3,c4,c5⟩:=cells6 hc5;have f2:=hc5.frozen 2;have hc5l:=hc5.lt;have hE:=epoch_any uAnn HR5.out.reg rfl rfl HR5.out.tab (by decide);rw [show list.getL (xL k d l).ep uAnn=0 from rfl] at hE;clear hW5 hk5 hc5 HR4 HX4 HQ4 HC4 HL4 k0 f0 q2;refine hE.mono ?_;rintro e w6 ⟨rfl,hw⟩;subst hw;go_wp2_with fail;obtain ⟨W7,hW7⟩:∃ W7,w6.setCell ⟨gc,2,none⟩ (.int .i64 0)=W7:=⟨_,rfl⟩;rw [hW7];have hk7:Keeps (fun i=>i=gc) w6 W7:=by rw [←hW7];exact Keeps.set1 _ _ _ _
 have HR7:=qH (HR5.out.keeps hk7 (fun i hi e=>by rw [e] at hi;exact hi zc));have HX7:=qH (HX5.out.keeps hk7 (by omega));have HL7:=qH (HL5.out.mine hk7 (fun i e=>by omega));have hs7:=hk7.size;clear hW7 hk7 HR5 HX5 HL5 HC5 c0 c1 c2 c3 c4 c5 f2 hc5l;obtain ⟨GV,hGV⟩:∃ GV,str (giveL m1.data.toList (yC k 1 [1]))=GV:=⟨_,rfl⟩;have hG:=give_g y0 (.slice none 0 0) k 1 1 W7 HR7.out (HTB.out _ (HL7.out.to_below hB hbw)).2 rfl rfl rfl rfl rfl hk (by omega);rw [y0_cells] at hG;rw [hGV] at hG ⊢;refine hG.mono ?_;rintro e w8 ⟨rfl,hb8⟩;have HR8:=qH (HR7.out.below hb8);have HL8:=qH (HL7.out.go hb8);have hX8:=HX7.out.below hb8 (by omega);have hs8:=hb8.size;obtain ⟨p0,p1,p2,p3⟩:=cells4 hX8;have f0:=hX8.frozen 0;have hX9:=hX8.set_ 0 (.string GV);have HX9:=qH hX9;have hx8:=hX8.lt;have hk9:Keeps (fun i=>i=w.heap.size+1) w8 (w8.setCell ⟨w.heap.size+1,0,none⟩ (.string GV)):=Keeps.set1 _ _ _ _;have zx:=z5 (w.heap.size+1) (by omega) (by omega);have HR9:=qH (HR8.out.keeps hk9 (fun i hi e=>by rw [e] at hi;exact hi zx));have HL9:=qH (HL8.out.mine hk9 (fun i e=>by omega));have hs9:=hk9.size;clear hG hb8 hX8 hX9 hk9 HR7 HX7 HL7 HR8 HL8 hE
 go_wp2_with (refine wpList_store_blk rfl 28 (.tmp 6) (.tmp 76) rfl (w.heap.size+1) [.string GV,.string ⟨#[]⟩,.bool false,.int .i64 0] rfl rfl HX9.out (by kernel_rfl) rfl rfl ?_;intro w10 ho hk10 hs10)
 clear p0 p1 p2 p3;obtain ⟨p0,p1,p2,p3⟩:=cells4 ho;have HFIN:=qH (show CookR own p (xL k d l) GV ⟨#[]⟩ false w (.returned (.tuple #[.agg ⟨[.string GV,.string ⟨#[]⟩,.bool false,.int .i64 0]⟩,.slice none 0 0,.nilIface])) w10 from ⟨{ p with gi:=gi,va:=v7,vw:=v8 },own4,rfl,rfl,HR9.out.keeps hk10 (fun i hi e=>by rw [e] at hi;exact hi zx),HL9.out.mine hk10 (fun i e=>by omega)⟩);clear ho hk10;exact bodyPost_ret (v:=.tuple #[.agg ⟨[.string GV,.string ⟨#[]⟩,.bool false,.int .i64 0]⟩,.slice none 0 0,.nilIface]) (by simp [results,Tryz.results14,go_sem,p0,p1,p2,p3]) rfl (by rw [hGV];exact HFIN.out)
end gatew
namespace gatew
open Go Go.RowKit Go.Lib base rowe err wireb wirep claimp tokw regn lease fold
theorem serve_put {own:Nat→Nat} {p:RP} {k:Nat} {d:diskp.Dk} {l l':List jrnp.Part} (w:World) (h:RegI w own p (xL k d l)) (B:Nat) (hT:TabsB B w) (hB:∀ i,own i≠0→B≤i) (hbw:B≤w.heap.size) {K:Nat} (hf:Fit K (xL k d l,l')) (hK:K≤50000) (hk:k≤10) :
  Calls Tryz.prog 14 #[.pointer (some ⟨p.r,0,none⟩),.agg ⟨reqL 3 (str (headT m1.data.toList (yC k 1 [1]))) ⟨#[]⟩ ⟨#[97]⟩ ⟨#[120]⟩ 0⟩,.int .i64 2] w (CookR own p (xP k d l l') (str (giveL m1.data.toList (yC k 2 [2]))) ⟨#[]⟩ false w):=by
 have hsm:∀ i,own i≠0→i<w.heap.size:=h.small;obtain ⟨CK,hCK⟩:∃ CK,str (headT m1.data.toList (yC k 1 [1]))=CK:=⟨_,rfl⟩;rw [hCK];obtain ⟨GV,hGV⟩:∃ GV,str (giveL m1.data.toList (yC k 2 [2]))=GV:=⟨_,rfl⟩;rw [hGV];obtain ⟨W1,hW1⟩:∃ W1,(w.alloc (.cells (reqL 3 CK ⟨#[]⟩ ⟨#[97]⟩ ⟨#[120]⟩ 0).toArray 23)).alloc (.cells (respL ⟨#[]⟩ ⟨#[]⟩ false 0).toArray 28)=W1:=⟨_,rfl⟩;have hcb:Below w.heap.size w W1:=by rw [←hW1];exact (below_new w _).alloc (by simp) _
 have hX:Blk W1 (w.heap.size+1) 28 (respL ⟨#[]⟩ ⟨#[]⟩ false 0).toArray:=by rw [←hW1];exact Blk.newAt _ _ _ (by simp)
 have hQ:Blk W1 w.heap.size 23 (reqL 3 CK ⟨#[]⟩ ⟨#[97]⟩ ⟨#[120]⟩ 0).toArray:=by rw [←hW1];exact (Blk.new w _ _).alloc _
 have hs1:W1.heap.size=w.heap.size+2:=by rw [←hW1];simp
 have h0:=h.below hcb;have HD:=qH (down_any h0.reg);have HG:=qH (good_q 2 _ h0.reg rfl rfl h0.lease);have HW1:=qH hW1;have HX:=qH hX;have HQ:=qH hQ;have HCB:=qH hcb;have HR0:=qH h0;have HTB:=qH hT;have HCK:=qH hCK;have HF:=qH hf;have q0:W1.cell? ⟨w.heap.size,0,none⟩=some (.int .i64 3):=hQ.cell 0;have hq0:=hQ.lt;clear hW1 hX hcb h0 h hQ hT hCK hf;unfold reqL respL at *;go_enter Tryz.func14,Tryz.ntmps14;go_wp2_with fail;rw [HW1.out];refine HD.out.mono ?_;rintro e w1 ⟨rfl,hw⟩;subst hw;rw [show (rgOf p (xL k d l)).down=false from rfl];go_wp2_with fail;refine HG.out.mono ?_;rintro e w2 ⟨hb2,⟨_,rfl⟩|⟨⟨i,_,hi⟩,_⟩⟩;rotate_left
 ·exfalso
  have hi:lapse 1 1 (xL k d l).un 2 i=true:=hi;rw [no_lapse] at hi
  cases hi
 have HX2:=qH (HX.out.below hb2 (by omega));have HQ2:=qH (HQ.out.below hb2 (by omega));have HR2:=qH (HR0.out.below hb2);have HB2:=qH (HCB.out.trans (hb2.mono (by omega)));have hs2:=hb2.size;have q0:w2.cell? ⟨w.heap.size,0,none⟩=some (.int .i64 3):=HQ2.out.cell 0;have q1:w2.cell? ⟨w.heap.size,1,none⟩=some (.string CK):=HQ2.out.cell 1;have hq2:=HQ2.out.lt;clear hb2 HX HQ HR0 HCB HD HG;go_wp2_with fail;have hWH:=who_ok w2 HR2.out (HTB.out _ (HB2.out.mono hbw)).2 (well_L (j:=0) (now:=1) (l':=l') hk (by omega) (by omega));rw [show (xL k d l).m=m1 from rfl,HCK.out] at hWH;refine hWH.mono ?_;rintro e w3 ⟨dv,rfl,hn3,hb3⟩;obtain ⟨Ad,nd,cd,rfl,_⟩:=hn3.1;have HX3:=qH (HX2.out.below hb3 (by omega));have HQ3:=qH (HQ2.out.below hb3 (by omega));have HR3:=qH (HR2.out.below hb3);have HB3:=qH (HB2.out.trans (hb3.mono (by omega)));have hs3:=hb3.size;have q0:w3.cell? ⟨w.heap.size,0,none⟩=some (.int .i64 3):=HQ3.out.cell 0;have q1:w3.cell? ⟨w.heap.size,1,none⟩=some (.string CK):=HQ3.out.cell 1;have q2:w3.cell? ⟨w.heap.size,2,none⟩=some (.string ⟨#[]⟩):=HQ3.out.cell 2;have q3:w3.cell? ⟨w.heap.size,3,none⟩=some (.string ⟨#[97]⟩):=HQ3.out.cell 3;have q4:w3.cell? ⟨w.heap.size,4,none⟩=some (.string ⟨#[120]⟩):=HQ3.out.cell 4;have q5:w3.cell? ⟨w.heap.size,5,none⟩=some (.int .i64 0):=HQ3.out.cell 5;have hq3:=HQ3.out.lt;clear hb3 hn3 hWH HX2 HQ2 HR2 HB2;obtain ⟨gc,hgc⟩:∃ gc,w3.heap.size=gc:=⟨_,rfl⟩;have hcb4:=below_new w3 (.cells zeroC.toArray 37);have HGC:=qH (show Blk (w3.alloc (.cells zeroC.toArray 37)) gc 37 zeroC.toArray from Blk.newAt _ _ _ hgc.symm);have HX3a:=qH (HX3.out.below hcb4 (by omega));have HQ3a:=qH (HQ3.out.below hcb4 (by omega));have HR3a:=qH (HR3.out.below hcb4);have HB3a:=qH (HB3.out.trans (hcb4.mono (by omega)));unfold zeroC at *;have hs4:gc<(w3.alloc (.cells #[.string ⟨#[]⟩,.string ⟨#[]⟩,.int .i64 0,.int .i64 0,.int .i64 0,.slice none 0 0] 37)).heap.size:=HGC.out.lt;obtain ⟨y,hy⟩:∃ y,yC k 1 [1]=y:=⟨_,rfl⟩;rw [hy];have hse:str y.se=nm11:=by rw [←hy];rfl
 have HY:=qH hy;clear hy q0 q1 q2 q3 q4 q5
 go_wp2_with (refine wpList_store_blk rfl 37 (.tmp 11) (.tmp 106) rfl gc (y.cells (.slice Ad nd cd)) (by rw [←hgc];rfl) rfl HGC.out (by kernel_rfl) rfl rfl ?_;intro w5 ho5 hk5 hs5;have HQ5:=qH (HQ3a.out.keeps hk5 (by omega));have q0:=HQ5.out.cell 0;have q1:=HQ5.out.cell 1;have q2:=HQ5.out.cell 2;have q3:=HQ5.out.cell 3;have q4:=HQ5.out.cell 4;have q5:=HQ5.out.cell 5;have hq5:=HQ5.out.lt;have hc5:=ho5.lt;obtain ⟨p0,p1,p2,p3,p4,p5⟩:=cells6 ho5;rw [hse] at p0)
 have HC5:=qH ho5;have HX5:=qH (HX3a.out.keeps hk5 (by omega));have HR5:=qH (HR3a.out.keeps hk5 (fun i hi e=>by have:=hsm i hi;omega));have HL5:=qH ((Led.below HB3a.out:Led own own w _).mine hk5 (fun i e=>by omega));clear ho5 hk5 HGC HX3a HQ3a HR3a HB3a HX3 HQ3 HR3 HB3;have hL7:(xL k d l).Lf.length=1:=rfl;have hW:=put_w y (.slice Ad nd cd) CK ⟨#[]⟩ ⟨#[97]⟩ ⟨#[120]⟩ 0 l' w5 HR5.out (ok_xL HF.out.well (by omega)) (by decide) (by rw [hse];exact fits_L k d l) (by show 1≤1000000;omega) (by rw [←HY.out];show 3≤64;omega) (by omega) rfl rfl;unfold PC.cells reqL at hW;rw [hse] at hW;refine hW.mono ?_;rintro e w7 ⟨w6,hb6,hr6,v7,e7,own7,rfl,hg7,hk7,h7⟩
 rcases h7 with ⟨rfl,gi,v78,v88,x',o1,hr7,hmx,hv⟩|⟨rfl,_,c,hno,_⟩
 rotate_left
 ·exfalso
  exact nomake_one (q:=qW) rfl (by show max 0 (1:Int)<_;omega) mkWW okW (by show 0≤300;omega) (room_put HF.out (by omega)) hno
 obtain rfl:=hv rfl;have hx:=made_one (q:=qW) hmx rfl mkWW;subst hx;have HR7:=qH (show RegI w7 own7 { p with gi:=gi,va:=v78,vw:=v88 } (xP k d l l') from hr7);have z6:∀ g,w.heap.size≤g→own g=0:=fun g h1=>Classical.byContradiction fun hn=>by have:=hsm g hn;omega
 have hk7':Keeps (tags own [1,4,6,9,10]) w6 w7:=hk7.more fun i _ e=>e.elim id (fun e=>by cases e);have hs6:=hb6.size;have hs7:=hk7'.size;have HL7:=qH ((HL5.out.go hb6).trans (Led.tags hg7 hk7'));have HX7:=qH ((HX5.out.below hb6 (by omega)).keeps hk7' (fun e=>e.2 (z6 _ (by omega))));have HQ7:=qH ((HQ5.out.below hb6 (by omega)).keeps hk7' (fun e=>e.2 (z6 _ (by omega))));have HC7:=qH ((HC5.out.below hb6 (by omega)).keeps hk7' (fun e=>e.2 (z6 _ (by omega))));have zx:own7 (w.heap.size+1)=0:=hg7.zero (z6 _ (by omega)) (by omega);clear hb6 hr6 hg7 hk7 hr7 hmx hv hW hk7' HX5 HQ5 HC5 HR5 HL5 p0 p1 p2 p3 p4 p5 q0 q1 q2 q3 q4 q5;obtain ⟨p0,p1,p2,p3,p4,p5⟩:=cells6 HC7.out;rw [hse] at p0;have q0:=HQ7.out.cell 0;have hq7:=HQ7.out.lt;have hc7:=HC7.out.lt;go_wp2_with fail;have hG:=give_g y (.slice Ad nd cd) k 2 2 w7 HR7.out (HTB.out _ (HL7.out.to_below hB hbw)).2 rfl rfl rfl rfl (by rw [←HY.out];rfl) hk (by omega);rw [hGV] at hG;unfold PC.cells at hG;rw [hse] at hG;refine hG.mono ?_;rintro e w8 ⟨rfl,hb8⟩;have HR8:=qH (HR7.out.below hb8);have HL8:=qH (HL7.out.go hb8);have hX8:=HX7.out.below hb8 (by omega);have hs8:=hb8.size;clear p0 p1 p2 p3 p4 p5 q0;obtain ⟨p0,p1,p2,p3⟩:=cells4 hX8;have f0:=hX8.frozen 0;have hX9:=hX8.set_ 0 (.string GV);have HX9:=qH hX9;have hx8:=hX8.lt;have hk9:Keeps (fun i=>i=w.heap.size+1) w8 (w8.setCell ⟨w.heap.size+1,0,none⟩ (.string GV)):=Keeps.set1 _ _ _ _;have HR9:=qH (HR8.out.keeps hk9 (fun i hi e=>by rw [e] at hi;exact hi zx));have HL9:=qH (HL8.out.mine hk9 (fun i e=>by omega));have hs9:=hk9.size;clear hG hb8 hX8 hX9 hk9 HR7 HX7 HL7 HR8 HL8 HC7 HQ7
 go_wp2_with (refine wpList_store_blk rfl 28 (.tmp 6) (.tmp 152) rfl (w.heap.size+1) [.string GV,.string ⟨#[]⟩,.bool false,.int .i64 0] rfl rfl HX9.out (by kernel_rfl) rfl rfl ?_;intro w10 ho hk10 hs10)
 clear p0 p1 p2 p3;obtain ⟨p0,p1,p2,p3⟩:=cells4 ho;have HFIN:=qH (show CookR own p (xP k d l l') GV ⟨#[]⟩ false w (.returned (.tuple #[.agg ⟨[.string GV,.string ⟨#[]⟩,.bool false,.int .i64 0]⟩,.slice none 0 0,.nilIface])) w10 from ⟨{ p with gi:=gi,va:=v78,vw:=v88 },own7,rfl,rfl,HR9.out.keeps hk10 (fun i hi e=>by rw [e] at hi;exact hi zx),HL9.out.mine hk10 (fun i e=>by omega)⟩);clear ho hk10;exact bodyPost_ret (v:=.tuple #[.agg ⟨[.string GV,.string ⟨#[]⟩,.bool false,.int .i64 0]⟩,.slice none 0 0,.nilIface]) (by simp [results,Tryz.results14,go_sem,p0,p1,p2,p3]) rfl HFIN.out
theorem serve_get {own:Nat→Nat} {p:RP} {k:Nat} {d:diskp.Dk} {l l':List jrnp.Part} (w:World) (h:RegI w own p (xP k d l l')) (B:Nat) (hT:TabsB B w) (hB:∀ i,own i≠0→B≤i) (hbw:B≤w.heap.size) (hk:k≤10) :
  Calls Tryz.prog 14 #[.pointer (some ⟨p.r,0,none⟩),.agg ⟨reqL 2 (str (headT m1.data.toList (yC k 2 [2]))) ⟨#[]⟩ ⟨#[97]⟩ ⟨#[]⟩ 0⟩,.int .i64 3] w (CookR own p (xP k d l l') (str (giveL m1.data.toList (yC k 3 [2]))) ⟨#[120]⟩ true w):=by
 have hsm:∀ i,own i≠0→i<w.heap.size:=h.small;obtain ⟨CK,hCK⟩:∃ CK,str (headT m1.data.toList (yC k 2 [2]))=CK:=⟨_,rfl⟩;rw [hCK];obtain ⟨GV,hGV⟩:∃ GV,str (giveL m1.data.toList (yC k 3 [2]))=GV:=⟨_,rfl⟩;rw [hGV];obtain ⟨W1,hW1⟩:∃ W1,(w.alloc (.cells (reqL 2 CK ⟨#[]⟩ ⟨#[97]⟩ ⟨#[]⟩ 0).toArray 23)).alloc (.cells (respL ⟨#[]⟩ ⟨#[]⟩ false 0).toArray 28)=W1:=⟨_,rfl⟩;have hcb:Below w.heap.size w W1:=by rw [←hW1];exact (below_new w _).alloc (by simp) _
 have hX:Blk W1 (w.heap.size+1) 28 (respL ⟨#[]⟩ ⟨#[]⟩ false 0).toArray:=by rw [←hW1];exact Blk.newAt _ _ _ (by simp)
 have hQ:Blk W1 w.heap.size 23 (reqL 2 CK ⟨#[]⟩ ⟨#[97]⟩ ⟨#[]⟩ 0).toArray:=by rw [←hW1];exact (Blk.new w _ _).alloc _
 have hs1:W1.heap.size=w.heap.size+2:=by rw [←hW1];simp
 have h0:=h.below hcb;have HD:=qH (down_any h0.reg);have HG:=qH (good_q 3 _ h0.reg rfl rfl h0.lease);have HW1:=qH hW1;have HX:=qH hX;have HQ:=qH hQ;have HCB:=qH hcb;have HR0:=qH h0;have HTB:=qH hT;have HCK:=qH hCK;have q0:W1.cell? ⟨w.heap.size,0,none⟩=some (.int .i64 2):=hQ.cell 0;have hq0:=hQ.lt;clear hW1 hX hcb h0 h hQ hT hCK;unfold reqL respL at *;go_enter Tryz.func14,Tryz.ntmps14;go_wp2_with fail;rw [HW1.out];refine HD.out.mono ?_;rintro e w1 ⟨rfl,hw⟩;subst hw;rw [show (rgOf p (xP k d l l')).down=false from rfl];go_wp2_with fail;refine HG.out.mono ?_;rintro e w2 ⟨hb2,⟨_,rfl⟩|⟨⟨i,_,hi⟩,_⟩⟩;rotate_left
 ·exfalso
  have hi:lapse 1 1 (xP k d l l').un 3 i=true:=hi;rw [no_lapse] at hi
  cases hi
 have HX2:=qH (HX.out.below hb2 (by omega));have HQ2:=qH (HQ.out.below hb2 (by omega));have HR2:=qH (HR0.out.below hb2);have HB2:=qH (HCB.out.trans (hb2.mono (by omega)));have hs2:=hb2.size;have q0:w2.cell? ⟨w.heap.size,0,none⟩=some (.int .i64 2):=HQ2.out.cell 0;have q1:w2.cell? ⟨w.heap.size,1,none⟩=some (.string CK):=HQ2.out.cell 1;have hq2:=HQ2.out.lt;clear hb2 HX HQ HR0 HCB HD HG;go_wp2_with fail;have hWH:=who_ok w2 HR2.out (HTB.out _ (HB2.out.mono hbw)).2 (well_P (now:=2) hk (by omega));rw [show (xP k d l l').m=m1 from rfl,HCK.out] at hWH;refine hWH.mono ?_;rintro e w3 ⟨dv,rfl,hn3,hb3⟩;obtain ⟨Ad,nd,cd,rfl,_⟩:=hn3.1;have HX3:=qH (HX2.out.below hb3 (by omega));have HQ3:=qH (HQ2.out.below hb3 (by omega));have HR3:=qH (HR2.out.below hb3);have HB3:=qH (HB2.out.trans (hb3.mono (by omega)));have hs3:=hb3.size;have q0:w3.cell? ⟨w.heap.size,0,none⟩=some (.int .i64 2):=HQ3.out.cell 0;have q1:w3.cell? ⟨w.heap.size,1,none⟩=some (.string CK):=HQ3.out.cell 1;have q2:w3.cell? ⟨w.heap.size,2,none⟩=some (.string ⟨#[]⟩):=HQ3.out.cell 2;have q3:w3.cell? ⟨w.heap.size,3,none⟩=some (.string ⟨#[97]⟩):=HQ3.out.cell 3;have q4:w3.cell? ⟨w.heap.size,4,none⟩=some (.string ⟨#[]⟩):=HQ3.out.cell 4;have q5:w3.cell? ⟨w.heap.size,5,none⟩=some (.int .i64 0):=HQ3.out.cell 5;have hq3:=HQ3.out.lt;clear hb3 hn3 hWH HX2 HQ2 HR2 HB2;obtain ⟨gc,hgc⟩:∃ gc,w3.heap.size=gc:=⟨_,rfl⟩;have hcb4:=below_new w3 (.cells zeroC.toArray 37);have HGC:=qH (show Blk (w3.alloc (.cells zeroC.toArray 37)) gc 37 zeroC.toArray from Blk.newAt _ _ _ hgc.symm);have HX3a:=qH (HX3.out.below hcb4 (by omega));have HQ3a:=qH (HQ3.out.below hcb4 (by omega));have HR3a:=qH (HR3.out.below hcb4);have HB3a:=qH (HB3.out.trans (hcb4.mono (by omega)));unfold zeroC at *;have hs4:gc<(w3.alloc (.cells #[.string ⟨#[]⟩,.string ⟨#[]⟩,.int .i64 0,.int .i64 0,.int .i64 0,.slice none 0 0] 37)).heap.size:=HGC.out.lt;obtain ⟨y,hy⟩:∃ y,yC k 2 [2]=y:=⟨_,rfl⟩;rw [hy];have hse:str y.se=nm11:=by rw [←hy];rfl
 have HY:=qH hy;clear hy q0 q1 q2 q3 q4 q5
 go_wp2_with (refine wpList_store_blk rfl 37 (.tmp 11) (.tmp 106) rfl gc (y.cells (.slice Ad nd cd)) (by rw [←hgc];rfl) rfl HGC.out (by kernel_rfl) rfl rfl ?_;intro w5 ho5 hk5 hs5;have HQ5:=qH (HQ3a.out.keeps hk5 (by omega));have q0:=HQ5.out.cell 0;have q1:=HQ5.out.cell 1;have q2:=HQ5.out.cell 2;have q3:=HQ5.out.cell 3;have q4:=HQ5.out.cell 4;have q5:=HQ5.out.cell 5;have hq5:=HQ5.out.lt;have hc5:=ho5.lt;obtain ⟨p0,p1,p2,p3,p4,p5⟩:=cells6 ho5;rw [hse] at p0)
 have HC5:=qH ho5;have HX5:=qH (HX3a.out.keeps hk5 (by omega));have HR5:=qH (HR3a.out.keeps hk5 (fun i hi e=>by have:=hsm i hi;omega));have HL5:=qH ((Led.below HB3a.out:Led own own w _).mine hk5 (fun i e=>by omega));clear ho5 hk5 HGC HX3a HQ3a HR3a HB3a HX3 HQ3 HR3 HB3;have hG0:=get_ok nm11 ⟨#[97]⟩ w5 HR5.out (by decide) (by decide) (by rw [ByteArray.toList_eq];rfl) (by rw [xP_L];exact get_c);rw [xP_L,get_cd] at hG0;refine hG0.mono ?_;rintro e w6 ⟨rfl,hb6⟩;have HX6:=qH (HX5.out.below hb6 (by omega));have HQ6:=qH (HQ5.out.below hb6 (by omega));have HC6:=qH (HC5.out.below hb6 (by omega));have HR6:=qH (HR5.out.below hb6);have HL6:=qH (HL5.out.go hb6);have hs6:=hb6.size;have zx:own (w.heap.size+1)=0:=Classical.byContradiction fun hn=>by have:=hsm _ hn;omega
 clear hb6 hG0 HX5 HQ5 HC5 HR5 HL5 p0 p1 p2 p3 p4 p5 q0 q1 q2 q3 q4 q5;unfold respL
 go_wp2_with (refine wpList_store_blk rfl 28 (.tmp 6) (.tmp 122) rfl (w.heap.size+1) [.string ⟨#[]⟩,.string ⟨#[120]⟩,.bool true,.int .i64 0] rfl rfl HX6.out (by kernel_rfl) rfl rfl ?_;intro w7 ho7 hk7 hs7;have HQ7:=qH (HQ6.out.keeps hk7 (by omega));have q0:=HQ7.out.cell 0;have HC7:=qH (HC6.out.keeps hk7 (by omega));obtain ⟨p0,p1,p2,p3,p4,p5⟩:=cells6 HC7.out;rw [hse] at p0;have hq7:=HQ7.out.lt;have hc7:=HC7.out.lt)
 have HX7:=qH ho7;have HR7:=qH (HR6.out.keeps hk7 (fun i hi e=>by rw [e] at hi;exact hi zx));have HL7:=qH (HL6.out.mine hk7 (fun i e=>by omega));clear ho7 hk7 HX6 HQ6 HC6 HR6 HL6;have hG:=give_g y (.slice Ad nd cd) k 2 3 w7 HR7.out (HTB.out _ (HL7.out.to_below hB hbw)).2 rfl rfl rfl rfl (by rw [←HY.out];rfl) hk (by omega);rw [hGV] at hG;unfold PC.cells at hG;rw [hse] at hG;refine hG.mono ?_;rintro e w8 ⟨rfl,hb8⟩;have HR8:=qH (HR7.out.below hb8);have HL8:=qH (HL7.out.go hb8);have hX8:=HX7.out.below hb8 (by omega);have hs8:=hb8.size;clear p0 p1 p2 p3 p4 p5 q0;obtain ⟨p0,p1,p2,p3⟩:=cells4 hX8;have f0:=hX8.frozen 0;have hX9:=hX8.set_ 0 (.string GV);have HX9:=qH hX9;have hx8:=hX8.lt;have hk9:Keeps (fun i=>i=w.heap.size+1) w8 (w8.setCell ⟨w.heap.size+1,0,none⟩ (.string GV)):=Keeps.set1 _ _ _ _;have HR9:=qH (HR8.out.keeps hk9 (fun i hi e=>by rw [e] at hi;exact hi zx));have HL9:=qH (HL8.out.mine hk9 (fun i e=>by omega));have hs9:=hk9.size;clear hG hb8 hX8 hX9 hk9 HR7 HX7 HL7 HR8 HL8 HC7 HQ7
 go_wp2_with (refine wpList_store_blk rfl 28 (.tmp 6) (.tmp 152) rfl (w.heap.size+1) [.string GV,.string ⟨#[120]⟩,.bool true,.int .i64 0] rfl rfl HX9.out (by kernel_rfl) rfl rfl ?_;intro w10 ho hk10 hs10)
 clear p0 p1 p2 p3;obtain ⟨p0,p1,p2,p3⟩:=cells4 ho;have HFIN:=qH (show CookR own p (xP k d l l') GV ⟨#[120]⟩ true w (.returned (.tuple #[.agg ⟨[.string GV,.string ⟨#[120]⟩,.bool true,.int .i64 0]⟩,.slice none 0 0,.nilIface])) w10 from ⟨p,own,rfl,rfl,HR9.out.keeps hk10 (fun i hi e=>by rw [e] at hi;exact hi zx),HL9.out.mine hk10 (fun i e=>by omega)⟩);clear ho hk10;exact bodyPost_ret (v:=.tuple #[.agg ⟨[.string GV,.string ⟨#[120]⟩,.bool true,.int .i64 0]⟩,.slice none 0 0,.nilIface]) (by simp [results,Tryz.results14,go_sem,p0,p1,p2,p3]) rfl HFIN.out
end gatew
namespace gatew
open Go Go.RowKit Go.Lib base rowe err regn fold
def BadV (k:Nat) (c:Int) (w:World) (e:Ending) (w':World):Prop:=(∃ v,e=.returned (.tuple #[.agg ⟨respL ⟨#[]⟩ ⟨#[]⟩ false 0⟩,.slice none 0 0,v])∧ErrD w' k v c)∧Below w.heap.size w w'
theorem BadS.bad {k:Nat} {c:Int} {w:World} {e:Ending} {w':World} (h:BadS k c w e w'):BadV k c w e w':=by
 obtain ⟨⟨g,rfl,_,h2⟩,hb⟩:=h;exact ⟨⟨_,rfl,h2⟩,hb⟩
theorem serve_up {own:Nat→Nat} {p:RP} {X:RX} {c v:ByteArray} {f:Bool} (op:Int) (ck us ky vl:ByteArray) (life now:Int) (w:World) (hsm:∀ i,own i≠0→i<w.heap.size)
  (h:∀ w1,Below w.heap.size w w1→w.heap.size≤w1.heap.size→Calls Tryz.prog 14 #[.pointer (some ⟨p.r,0,none⟩),.agg ⟨reqL op ck us ky vl life⟩,.int .i64 now] w1 (CookR own p X c v f w1)) :
  Calls Tryz.prog 7 #[.pointer (some ⟨p.r,0,none⟩),.agg ⟨reqL op ck us ky vl life⟩,.int .i64 now] w (CookR own p X c v f w):=by
 obtain ⟨W1,hW1⟩:∃ W1,(w.alloc (.cells (reqL op ck us ky vl life).toArray 23)).alloc (.cells (respL ⟨#[]⟩ ⟨#[]⟩ false 0).toArray 28)=W1:=⟨_,rfl⟩;have hcb:Below w.heap.size w W1:=by rw [←hW1];exact (below_new w _).alloc (by simp) _
 have hX:Blk W1 (w.heap.size+1) 28 (respL ⟨#[]⟩ ⟨#[]⟩ false 0).toArray:=by rw [←hW1];exact Blk.newAt _ _ _ (by simp)
 have hQ:Blk W1 w.heap.size 23 (reqL op ck us ky vl life).toArray:=by rw [←hW1];exact (Blk.new w _ _).alloc _
 have hs1:W1.heap.size=w.heap.size+2:=by rw [←hW1];simp
 have HS:=qH (h W1 hcb (by omega));have HW1:=qH hW1;have HX:=qH hX;have HCB:=qH hcb;unfold reqL at hQ;have q0:W1.cell? ⟨w.heap.size,0,none⟩=some (.int .i64 op):=hQ.cell 0;have q1:W1.cell? ⟨w.heap.size,1,none⟩=some (.string ck):=hQ.cell 1;have q2:W1.cell? ⟨w.heap.size,2,none⟩=some (.string us):=hQ.cell 2;have q3:W1.cell? ⟨w.heap.size,3,none⟩=some (.string ky):=hQ.cell 3;have q4:W1.cell? ⟨w.heap.size,4,none⟩=some (.string vl):=hQ.cell 4;have q5:W1.cell? ⟨w.heap.size,5,none⟩=some (.int .i64 life):=hQ.cell 5;have hq0:=hQ.lt;clear hW1 hX hcb hQ h;unfold reqL respL at *;go_enter Tryz.func7,Tryz.ntmps7;go_wp2_with fail;rw [HW1.out];go_wp2_with fail;refine HS.out.mono ?_;rintro e w2 ⟨p',own',rfl,hpr,hr2,hl2⟩;have z:∀ g,w.heap.size≤g→g<W1.heap.size→own g=0:=fun g h1 _=>Classical.byContradiction fun hn=>by have:=hsm g hn;omega
 have HX2:=qH (HX.out.keeps hl2.2 (fun e=>e (z _ (by omega) (by omega))));have HL2:=qH ((Led.below HCB.out).trans hl2);have HR2:=qH hr2;have zx:own' (w.heap.size+1)=0:=free_of hl2 hsm (by omega) (by omega);have hs2:=hl2.2.size;clear hr2 hl2 HX HCB q0 q1 q2 q3 q4 q5 HS;have hcb3:=below_new w2 (.cells #[.string c,.string v,.bool f,.int .i64 0] 28);have HX3:=qH (HX2.out.below hcb3 (by omega));have HR3:=qH (HR2.out.below hcb3);have HL3:=qH (HL2.out.go hcb3);have hs3:=hcb3.size;clear hcb3 HX2 HR2 HL2;unfold respL
 go_wp2_with (refine wpList_store_blk rfl 28 (.tmp 6) (.tmp 27) rfl (w.heap.size+1) [.string c,.string v,.bool f,.int .i64 0] rfl rfl HX3.out (by kernel_rfl) rfl rfl ?_;intro w10 ho hk10 hs10)
 obtain ⟨p0,p1,p2,p3⟩:=cells4 ho;have HFIN:=qH (show CookR own p X c v f w (.returned (.tuple #[.agg ⟨[.string c,.string v,.bool f,.int .i64 0]⟩,.slice none 0 0,.nilIface])) w10 from ⟨p',own',rfl,hpr,HR3.out.keeps hk10 (fun i hi e=>by rw [e] at hi;exact hi zx),HL3.out.mine hk10 (fun i e=>by omega)⟩);clear ho hk10;exact bodyPost_ret (v:=.tuple #[.agg ⟨[.string c,.string v,.bool f,.int .i64 0]⟩,.slice none 0 0,.nilIface]) (by simp [results,Tryz.results7,go_sem,p0,p1,p2,p3]) rfl HFIN.out
end gatew
namespace gatew
open Go Go.RowKit Go.Lib base rowe err wireb wirep claimp tokw regn fold
def dF:diskp.Dk:=freshD dG
theorem fit_new:Fit 363 (xK 0 dF,l0):=⟨rfl,well_fresh (well_new _),start_len,rfl⟩
theorem give_size {y:PC} (hy:y.Ok):(bake.mkB (bake.headL nameB (str (tokL m1.data.toList y)) ⟨#[47]⟩ (-1) true true 2)).size≤1000000:=by
 have htl:=tok_len (m:=m1.data.toList) hy;rw [str_size] at htl;rw [bake.mkB_size];unfold bake.headL bake.h0;rw [List.length_append,List.length_append,List.length_append,str_list];have h1:(bake.tailL (bake.pP ⟨#[47]⟩++(bake.pA (-1)++(bake.pS true++(bake.pH true++bake.pT 2))))).length≤100:=by decide +kernel
 have h2:nameB.data.toList.length=7:=rfl;have h3:([61]:List UInt8).length=1:=rfl;omega
theorem shown_g {y:PC} (hy:y.Ok) (w:World) (hT:bake.Tabs w):Calls Tryz.prog 11 #[.string (str (giveL m1.data.toList y))] w fun e w'=>e=.returned (.string (str (headT m1.data.toList y)))∧Below w.heap.size w w':=by
 have htl:=tok_len (m:=m1.data.toList) hy;have hrg:=right_give m1.data.toList y;have h:=cookw.shown_ok nameB (str (tokL m1.data.toList y)) ⟨#[47]⟩ (-1) true true 2 w hrg (by decide) (by omega) (give_size hy) hT.m;rw [str_list,tokw.str_l] at h;exact h
theorem awake_g (w:World) (hT:quota.Tabs w∧bake.Tabs w):Calls Tryz.prog 5 #[] w fun e w'=>e=.returned (.bool true)∧Below w.heap.size w w':=by
 obtain ⟨B,hB⟩:∃ B,w.heap.size=B:=⟨_,rfl⟩;have HT:=qH (show TabsB B w from fun w' hb=>by rw [←hB] at hb;exact ⟨hT.1.below hb,hT.2.below hb⟩);clear hT;go_enter Tryz.func5,Tryz.ntmps5;go_wp2_with fail;refine (open_l 1 w (by omega) (by omega)).mono ?_;rintro e w1 ⟨p,own,rfl,hr1,ho1,hb1⟩;rw [hB] at ho1 hb1;have HR1:=qH (show RegI w1 own p (xK 0 dF) from hr1);have HO1:=qH ho1;have HB1:=qH hb1;have hs1:=hb1.size;clear hr1 ho1 hb1;go_wp2_with fail;refine (serve_up 1 ⟨#[]⟩ uAnn ⟨#[]⟩ ⟨#[]⟩ 0 1 w1 HR1.out.small (fun w2 hb hs=>serve_log w2 (HR1.out.below hb) B (HT.out.step (HB1.out.trans (hb.mono (by omega)))) HO1.out (by omega) fit_new (by omega) (by omega) _ _ _)).mono ?_;rintro e w2 ⟨p2,own2,rfl,hp2,hr2,hl2⟩;have HR2:=qH hr2;have HB2:=qH (HB1.out.trans (hl2.to_below HO1.out (by omega)));have HO2:=qH (hl2.least HO1.out (by omega));have hs2:=HB2.out.size;clear hr2 hl2 HB1 HO1 HR1;obtain ⟨G1,hG1⟩:∃ G1,str (giveL m1.data.toList (yC 0 1 [1]))=G1:=⟨_,rfl⟩;rw [hG1];have HG1:=qH hG1;obtain ⟨gx,hgx⟩:∃ gx,w2.heap.size=gx:=⟨_,rfl⟩;have hcb3:=below_new w2 (.cells (respL G1 ⟨#[]⟩ false 0).toArray 28);have HR3:=qH (HR2.out.below hcb3);have HB3:=qH (HB2.out.trans (hcb3.mono (by omega)));have hs3:=HB3.out.size;clear hcb3 HR2 HB2 hG1;unfold respL at *;go_wp2_with fail;generalize w2.alloc _=w3 at *;have hSH:=shown_g (yC_ok (k:=0) (now:=1) (cx:=[1]) (by omega) (by omega) rfl) w3 (HT.out _ HB3.out).2;rw [HG1.out] at hSH;refine hSH.mono ?_;rintro e w4 ⟨rfl,hb4⟩;have HR4:=qH (HR3.out.below hb4);have HB4:=qH (HB3.out.trans (hb4.mono (by omega)));have hs4:=HB4.out.size;clear hb4 HR3 HB3 hSH;have hS:=serve_up (p:=p2) 3 (str (headT m1.data.toList (yC 0 1 [1]))) ⟨#[]⟩ ⟨#[97]⟩ ⟨#[120]⟩ 0 2 w4 HR4.out.small (fun w5 hb hs=>serve_put w5 (HR4.out.below hb) B (HT.out.step (HB4.out.trans (hb.mono (by omega)))) HO2.out (by omega) (fit_log fit_new (by omega)) (by omega) (by omega));rw [hp2] at hS;obtain ⟨C1,hC1⟩:∃ C1,str (headT m1.data.toList (yC 0 1 [1]))=C1:=⟨_,rfl⟩;rw [hC1] at hS ⊢;clear hC1;unfold reqL at hS;go_wp2_with fail;refine hS.mono ?_;rintro e w5 ⟨p5,own5,rfl,hp5,hr5,hl5⟩;rw [hp2] at hp5;have HR5:=qH hr5;have HB5:=qH (HB4.out.trans (hl5.to_below HO2.out (by omega)));have HO5:=qH (hl5.least HO2.out (by omega));have hs5:=HB5.out.size;clear hr5 hl5 HB4 HO2 HR4 hS;obtain ⟨G2,hG2⟩:∃ G2,str (giveL m1.data.toList (yC 0 2 [2]))=G2:=⟨_,rfl⟩;rw [hG2];have HG2:=qH hG2;have hcb6:=below_new w5 (.cells (respL G2 ⟨#[]⟩ false 0).toArray 28);have HR6:=qH (HR5.out.below hcb6);have HB6:=qH (HB5.out.trans (hcb6.mono (by omega)));have hs6:=HB6.out.size;clear hcb6 HR5 HB5 hG2;unfold respL at *;go_wp2_with fail;generalize w5.alloc _=w6 at *;have hSH:=shown_g (yC_ok (k:=0) (now:=2) (cx:=[2]) (by omega) (by omega) rfl) w6 (HT.out _ HB6.out).2;rw [HG2.out] at hSH;refine hSH.mono ?_;rintro e w7 ⟨rfl,hb7⟩;have HR7:=qH (HR6.out.below hb7);have HB7:=qH (HB6.out.trans (hb7.mono (by omega)));have hs7:=HB7.out.size;clear hb7 HR6 HB6 hSH;have hS:=serve_up (p:=p5) 2 (str (headT m1.data.toList (yC 0 2 [2]))) ⟨#[]⟩ ⟨#[97]⟩ ⟨#[]⟩ 0 3 w7 HR7.out.small (fun w8 hb hs=>serve_get w8 (HR7.out.below hb) B (HT.out.step (HB7.out.trans (hb.mono (by omega)))) HO5.out (by omega) (by omega));rw [hp5] at hS;obtain ⟨C2,hC2⟩:∃ C2,str (headT m1.data.toList (yC 0 2 [2]))=C2:=⟨_,rfl⟩;rw [hC2] at hS ⊢;clear hC2;unfold reqL at hS;go_wp2_with fail;refine hS.mono ?_;rintro e w8 ⟨p8,own8,rfl,_,_,hl8⟩;have HB8:=qH (HB7.out.trans (hl8.to_below HO5.out (by omega)));have hs8:=HB8.out.size;clear hl8 HB7 HO5 HR7 hS;have hcb9:=below_new w8 (.cells (respL (str (giveL m1.data.toList (yC 0 3 [2]))) ⟨#[120]⟩ true 0).toArray 28);have HB9:=qH (HB8.out.trans (hcb9.mono (by omega)));clear hcb9 HB8;generalize str (giveL m1.data.toList (yC 0 3 [2]))=G3 at *;unfold respL at *;go_wp2_with fail;go_ret
 exact ⟨rfl,by rw [hB];exact HB9.out⟩
end gatew
namespace gatew
open Go Go.RowKit Go.Lib base rowe err regn fold
theorem wrap_any (s:ByteArray) (n:Int) {k:Nat} {v:Value} {c:Int} {w:World} (h:ErrD w k v c):Calls Tryz.prog 15 #[.string s,.int .i64 n,v] w (WrapD k c w):=by
 cases k with
 | zero=>have h:v=_:=h;subst h;exact wrap_code s n c w
 | succ k=>exact wrap_err s n h
theorem errD_form {w:World} {k:Nat} {v:Value} {c:Int} (h:ErrD w k v c):∃ t x,v=.iface t x:=by
 cases k with
 | zero=>have h:v=_:=h;subst h;exact ⟨_,_,rfl⟩
 | succ k=>obtain ⟨g,v',h,_⟩:=h;exact ⟨_,_,h⟩
theorem serve_none (op:Int) (ck us k v:ByteArray) (life now:Int) (w:World) :
  Calls Tryz.prog 14 #[.pointer none,.agg ⟨reqL op ck us k v life⟩,.int .i64 now] w (BadV 0 5 w):=by
 obtain ⟨W1,hW1⟩:∃ W1,(w.alloc (.cells (reqL op ck us k v life).toArray 23)).alloc (.cells (respL ⟨#[]⟩ ⟨#[]⟩ false 0).toArray 28)=W1:=⟨_,rfl⟩;have hcb:Below w.heap.size w W1:=by rw [←hW1];exact (below_new w _).alloc (by simp) _
 have hX:Blk W1 (w.heap.size+1) 28 (respL ⟨#[]⟩ ⟨#[]⟩ false 0).toArray:=by rw [←hW1];exact Blk.newAt _ _ _ (by simp)
 have hs1:W1.heap.size=w.heap.size+2:=by rw [←hW1];simp
 have HW1:=qH hW1;have HX:=qH hX;have HCB:=qH hcb;obtain ⟨p0,p1,p2,p3⟩:=cells4 hX;clear hW1 hX hcb;unfold reqL respL at *;go_enter Tryz.func14,Tryz.ntmps14;go_wp2_with fail;rw [HW1.out];refine (down_nil _).mono ?_;rintro e w1 ⟨rfl,hw⟩;subst hw
 go_wp2_with (refine wpList_store_blk rfl 28 (.tmp 6) (.tmp 14) rfl (w.heap.size+1) [.string ⟨#[]⟩,.string ⟨#[]⟩,.bool false,.int .i64 0] rfl rfl HX.out (by kernel_rfl) rfl rfl ?_;intro w3 ho hk3 hs3)
 clear p0 p1 p2 p3;obtain ⟨p0,p1,p2,p3⟩:=cells4 ho;have HFIN:=qH (show BadV 0 5 w (.returned (.tuple #[.agg ⟨[.string ⟨#[]⟩,.string ⟨#[]⟩,.bool false,.int .i64 0]⟩,.slice none 0 0,.iface 41 (.int .i64 5)])) w3 from ⟨⟨_,rfl,rfl⟩,HCB.out.trans (hk3.below (fun i hi e=>by omega) (by omega))⟩);clear ho hk3;exact bodyPost_ret (v:=.tuple #[.agg ⟨[.string ⟨#[]⟩,.string ⟨#[]⟩,.bool false,.int .i64 0]⟩,.slice none 0 0,.iface 41 (.int .i64 5)]) (by simp [results,Tryz.results14,go_sem,p0,p1,p2,p3]) rfl HFIN.out
theorem serve_arg {own:Nat→Nat} {p:RP} {x:RX} (op:Int) (ck us k v:ByteArray) (life now:Int) (w:World) (h:RegI w own p x) (hb:now<0∨1099511627776<now∨op<1∨8<op) :
  Calls Tryz.prog 14 #[.pointer (some ⟨p.r,0,none⟩),.agg ⟨reqL op ck us k v life⟩,.int .i64 now] w (BadV 0 1 w):=by
 obtain ⟨W1,hW1⟩:∃ W1,(w.alloc (.cells (reqL op ck us k v life).toArray 23)).alloc (.cells (respL ⟨#[]⟩ ⟨#[]⟩ false 0).toArray 28)=W1:=⟨_,rfl⟩;have hcb:Below w.heap.size w W1:=by rw [←hW1];exact (below_new w _).alloc (by simp) _
 have hX:Blk W1 (w.heap.size+1) 28 (respL ⟨#[]⟩ ⟨#[]⟩ false 0).toArray:=by rw [←hW1];exact Blk.newAt _ _ _ (by simp)
 have hQ:Blk W1 w.heap.size 23 (reqL op ck us k v life).toArray:=by rw [←hW1];exact (Blk.new w _ _).alloc _
 have hs1:W1.heap.size=w.heap.size+2:=by rw [←hW1];simp
 have HD:=qH (down_any (h.below hcb).reg);have HW1:=qH hW1;have HX:=qH hX;have HCB:=qH hcb;obtain ⟨p0,p1,p2,p3⟩:=cells4 hX;have q0:W1.cell? ⟨w.heap.size,0,none⟩=some (.int .i64 op):=hQ.cell 0;have hq0:=hQ.lt;clear hW1 hX hcb hQ h;have hb:(now<0)∨(¬ now<0∧(1099511627776:Int)<now)∨(¬ now<0∧¬ (1099511627776:Int)<now∧op<1)∨(¬ now<0∧¬ (1099511627776:Int)<now∧¬ op<1∧(8:Int)<op):=by omega
 rcases hb with d1|⟨d1,d2⟩|⟨d1,d2,d3⟩|⟨d1,d2,d3,d4⟩
 ·unfold reqL respL at *
  go_enter Tryz.func14,Tryz.ntmps14;go_wp2_with fail;rw [HW1.out];refine HD.out.mono ?_;rintro e w1 ⟨rfl,hw⟩;subst hw;rw [show (rgOf p x).down=false from rfl]
  go_wp2_with (refine wpList_store_blk rfl 28 (.tmp 6) (.tmp 32) rfl (w.heap.size+1) [.string ⟨#[]⟩,.string ⟨#[]⟩,.bool false,.int .i64 0] rfl rfl HX.out (by kernel_rfl) rfl rfl ?_;intro w3 ho hk3 hs3)
  clear p0 p1 p2 p3;obtain ⟨p0,p1,p2,p3⟩:=cells4 ho;have HFIN:=qH (show BadV 0 1 w (.returned (.tuple #[.agg ⟨[.string ⟨#[]⟩,.string ⟨#[]⟩,.bool false,.int .i64 0]⟩,.slice none 0 0,.iface 41 (.int .i64 1)])) w3 from ⟨⟨_,rfl,rfl⟩,HCB.out.trans (hk3.below (fun i hi e=>by omega) (by omega))⟩);clear ho hk3;exact bodyPost_ret (v:=.tuple #[.agg ⟨[.string ⟨#[]⟩,.string ⟨#[]⟩,.bool false,.int .i64 0]⟩,.slice none 0 0,.iface 41 (.int .i64 1)]) (by simp [results,Tryz.results14,go_sem,p0,p1,p2,p3]) rfl HFIN.out
 ·unfold reqL respL at *
  go_enter Tryz.func14,Tryz.ntmps14;go_wp2_with fail;rw [HW1.out];refine HD.out.mono ?_;rintro e w1 ⟨rfl,hw⟩;subst hw;rw [show (rgOf p x).down=false from rfl]
  go_wp2_with (refine wpList_store_blk rfl 28 (.tmp 6) (.tmp 32) rfl (w.heap.size+1) [.string ⟨#[]⟩,.string ⟨#[]⟩,.bool false,.int .i64 0] rfl rfl HX.out (by kernel_rfl) rfl rfl ?_;intro w3 ho hk3 hs3)
  clear p0 p1 p2 p3;obtain ⟨p0,p1,p2,p3⟩:=cells4 ho;have HFIN:=qH (show BadV 0 1 w (.returned (.tuple #[.agg ⟨[.string ⟨#[]⟩,.string ⟨#[]⟩,.bool false,.int .i64 0]⟩,.slice none 0 0,.iface 41 (.int .i64 1)])) w3 from ⟨⟨_,rfl,rfl⟩,HCB.out.trans (hk3.below (fun i hi e=>by omega) (by omega))⟩);clear ho hk3;exact bodyPost_ret (v:=.tuple #[.agg ⟨[.string ⟨#[]⟩,.string ⟨#[]⟩,.bool false,.int .i64 0]⟩,.slice none 0 0,.iface 41 (.int .i64 1)]) (by simp [results,Tryz.results14,go_sem,p0,p1,p2,p3]) rfl HFIN.out
 ·unfold reqL respL at *
  go_enter Tryz.func14,Tryz.ntmps14;go_wp2_with fail;rw [HW1.out];refine HD.out.mono ?_;rintro e w1 ⟨rfl,hw⟩;subst hw;rw [show (rgOf p x).down=false from rfl]
  go_wp2_with (refine wpList_store_blk rfl 28 (.tmp 6) (.tmp 32) rfl (w.heap.size+1) [.string ⟨#[]⟩,.string ⟨#[]⟩,.bool false,.int .i64 0] rfl rfl HX.out (by kernel_rfl) rfl rfl ?_;intro w3 ho hk3 hs3)
  clear p0 p1 p2 p3;obtain ⟨p0,p1,p2,p3⟩:=cells4 ho;have HFIN:=qH (show BadV 0 1 w (.returned (.tuple #[.agg ⟨[.string ⟨#[]⟩,.string ⟨#[]⟩,.bool false,.int .i64 0]⟩,.slice none 0 0,.iface 41 (.int .i64 1)])) w3 from ⟨⟨_,rfl,rfl⟩,HCB.out.trans (hk3.below (fun i hi e=>by omega) (by omega))⟩);clear ho hk3;exact bodyPost_ret (v:=.tuple #[.agg ⟨[.string ⟨#[]⟩,.string ⟨#[]⟩,.bool false,.int .i64 0]⟩,.slice none 0 0,.iface 41 (.int .i64 1)]) (by simp [results,Tryz.results14,go_sem,p0,p1,p2,p3]) rfl HFIN.out
 ·unfold reqL respL at *
  go_enter Tryz.func14,Tryz.ntmps14;go_wp2_with fail;rw [HW1.out];refine HD.out.mono ?_;rintro e w1 ⟨rfl,hw⟩;subst hw;rw [show (rgOf p x).down=false from rfl]
  go_wp2_with (refine wpList_store_blk rfl 28 (.tmp 6) (.tmp 32) rfl (w.heap.size+1) [.string ⟨#[]⟩,.string ⟨#[]⟩,.bool false,.int .i64 0] rfl rfl HX.out (by kernel_rfl) rfl rfl ?_;intro w3 ho hk3 hs3)
  clear p0 p1 p2 p3;obtain ⟨p0,p1,p2,p3⟩:=cells4 ho;have HFIN:=qH (show BadV 0 1 w (.returned (.tuple #[.agg ⟨[.string ⟨#[]⟩,.string ⟨#[]⟩,.bool false,.int .i64 0]⟩,.slice none 0 0,.iface 41 (.int .i64 1)])) w3 from ⟨⟨_,rfl,rfl⟩,HCB.out.trans (hk3.below (fun i hi e=>by omega) (by omega))⟩);clear ho hk3;exact bodyPost_ret (v:=.tuple #[.agg ⟨[.string ⟨#[]⟩,.string ⟨#[]⟩,.bool false,.int .i64 0]⟩,.slice none 0 0,.iface 41 (.int .i64 1)]) (by simp [results,Tryz.results14,go_sem,p0,p1,p2,p3]) rfl HFIN.out
theorem serve_bad {k:Nat} {c:Int} (a0:Value) (op:Int) (ck us ky vl:ByteArray) (life now:Int) (w:World)
  (h:∀ w1,Below w.heap.size w w1→Calls Tryz.prog 14 #[a0,.agg ⟨reqL op ck us ky vl life⟩,.int .i64 now] w1 (BadV k c w1)) :
  Calls Tryz.prog 7 #[a0,.agg ⟨reqL op ck us ky vl life⟩,.int .i64 now] w (BadS (k+1) c w):=by
 obtain ⟨W1,hW1⟩:∃ W1,(w.alloc (.cells (reqL op ck us ky vl life).toArray 23)).alloc (.cells (respL ⟨#[]⟩ ⟨#[]⟩ false 0).toArray 28)=W1:=⟨_,rfl⟩;have hcb:Below w.heap.size w W1:=by rw [←hW1];exact (below_new w _).alloc (by simp) _
 have hX:Blk W1 (w.heap.size+1) 28 (respL ⟨#[]⟩ ⟨#[]⟩ false 0).toArray:=by rw [←hW1];exact Blk.newAt _ _ _ (by simp)
 have hQ:Blk W1 w.heap.size 23 (reqL op ck us ky vl life).toArray:=by rw [←hW1];exact (Blk.new w _ _).alloc _
 have hs1:W1.heap.size=w.heap.size+2:=by rw [←hW1];simp
 have HS:=qH (h W1 hcb);have HW1:=qH hW1;have HX:=qH hX;have HQ:=qH hQ;have HCB:=qH hcb;have q0:W1.cell? ⟨w.heap.size,0,none⟩=some (.int .i64 op):=hQ.cell 0;have q1:W1.cell? ⟨w.heap.size,1,none⟩=some (.string ck):=hQ.cell 1;have q2:W1.cell? ⟨w.heap.size,2,none⟩=some (.string us):=hQ.cell 2;have q3:W1.cell? ⟨w.heap.size,3,none⟩=some (.string ky):=hQ.cell 3;have q4:W1.cell? ⟨w.heap.size,4,none⟩=some (.string vl):=hQ.cell 4;have q5:W1.cell? ⟨w.heap.size,5,none⟩=some (.int .i64 life):=hQ.cell 5;have hq0:=hQ.lt;clear hW1 hX hcb hQ h;unfold reqL respL at *;go_enter Tryz.func7,Tryz.ntmps7;go_wp2_with fail;rw [HW1.out];go_wp2_with fail;refine HS.out.mono ?_;rintro e w2 ⟨⟨v,rfl,he⟩,hb2⟩;have HE:=qH he;obtain ⟨t,x,rfl⟩:=errD_form he;have HX2:=qH (HX.out.below hb2 (by omega));have HB2:=qH (HCB.out.trans (hb2.mono (by omega)));have hs2:=hb2.size;have q0:w2.cell? ⟨w.heap.size,0,none⟩=some (.int .i64 op):=(HQ.out.below hb2 (by omega)).cell 0;have hq2:w.heap.size<w2.heap.size:=by omega
 clear he hb2 HX HQ HCB q1 q2 q3 q4 q5 HS;have hcb3:=below_new w2 (.cells #[.string ⟨#[]⟩,.string ⟨#[]⟩,.bool false,.int .i64 0] 28);have HX3:=qH (HX2.out.below hcb3 (by omega));have HB3:=qH (HB2.out.trans (hcb3.mono (by omega)));have HE3:=qH (HE.out.below hcb3);have hs3:=hcb3.size;clear hcb3 HX2 HB2 HE;unfold respL;go_wp2_with fail;generalize w2.alloc _=w3 at *;refine (wrap_any _ _ HE3.out).mono ?_;rintro e w4 ⟨⟨g,rfl,hg,he4⟩,hb4⟩;have HX4:=qH (HX3.out.below hb4 (by omega));have HB4:=qH (HB3.out.trans (hb4.mono (by omega)));have HE4:=qH he4;have hs4:=hb4.size;clear hb4 he4 HX3 HB3 HE3
 go_wp2_with (refine wpList_store_blk rfl 28 (.tmp 6) (.tmp 22) rfl (w.heap.size+1) [.string ⟨#[]⟩,.string ⟨#[]⟩,.bool false,.int .i64 0] rfl rfl HX4.out (by kernel_rfl) rfl rfl ?_;intro w10 ho hk10 hs10)
 have HE10:=qH (errD_far (HX4.out.cell 2) hk10 HE4.out);obtain ⟨p0,p1,p2,p3⟩:=cells4 ho;have HFIN:=qH (show BadS (k+1) c w (.returned (.tuple #[.agg ⟨[.string ⟨#[]⟩,.string ⟨#[]⟩,.bool false,.int .i64 0]⟩,.slice none 0 0,.iface 121 (.pointer (some ⟨g,0,none⟩))])) w10 from ⟨⟨g,rfl,by omega,HE10.out⟩,HB4.out.trans (hk10.below (fun i hi e=>by omega) (by omega))⟩);clear ho hk10;exact bodyPost_ret (v:=.tuple #[.agg ⟨[.string ⟨#[]⟩,.string ⟨#[]⟩,.bool false,.int .i64 0]⟩,.slice none 0 0,.iface 121 (.pointer (some ⟨g,0,none⟩))]) (by simp [results,Tryz.results7,go_sem,p0,p1,p2,p3]) rfl HFIN.out
end gatew
end Go.Proofs.YthlahcnglacekaaGreatDoor
