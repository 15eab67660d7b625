/- A part of the proof of RegionNone: RegM, AloneP, AwakeW, WRegionNone. -/
import Derived.Test.YtdaphppdmnmicaaGreatDoorA46
import Derived.Test.YtdaphppdmnmicaaGreatDoorA43
import Derived.Test.YtdaphppdmnmicaaGreatDoorA20
import Derived.Test.YtdaphppdmnmicaaGreatDoorA27
import Derived.Test.YtdaphppdmnmicaaGreatDoorA41
import Derived.Test.YtdaphppdmnmicaaGreatDoorA42
import Derived.Test.YtdaphppdmnmicaaGreatDoorA26
import Derived.BigFrame
import Derived.Deep.DeepCutAuto
import Derived.Deep.Cut
import Derived.Deep.CutBlock
namespace Go.Proofs.YtdaphppdmnmicaaGreatDoor.regn
open Go Go.RowKit base err lease fold disk diskp jrnp
def backX (id n:Nat) (m:ByteArray) (y:FX) (L2:List wire.Wr) (key:Nat) (l:List Part) (da db:Dk):RX:=⟨id,n,m,y.ck,y.ap,[],y.L,y.base.toNat,L2,List.replicate n y.base,y.ep,key,fun _=>0,fun _=>0,y.made,jrnp.genL l,db,da⟩
set_option maxHeartbeats 1600000 in
theorem OpenM.regI {Sa Sb : Nat → Prop} {a b : Nat} {da db : Dk} {id n : Nat} {m : ByteArray} {l : List Part} {y : FX} {L2 : List wire.Wr} {key : Nat} {w w' : World} {e : Ending} (h : OpenM a b id n m l y L2 key w e w') (hda : DiskS w Sa a da) (hdb : DiskS w Sb b db) (hab : ∀ i, Sa i → ¬ Sb i) :
    ∃ p own, e = .returned (.tuple #[.pointer (some ⟨p.r, 0, none⟩), .nilIface]) ∧ RegI w' own p (backX id n m y L2 key l da db) ∧ p.gn = b ∧ p.gs = a ∧ (∀ i, own i = 5 ↔ Sa i) ∧ (∀ i, own i = 4 ↔ Sb i) ∧ (∀ i, own i ≠ 0 → Sa i ∨ Sb i ∨ w.heap.size ≤ i) ∧ Keeps nobody w w' := by
  obtain ⟨r, jn, gl, gc, gi, gf, gr, gs, bs, gt, bt, va, Si, Sq, he, h1, h2, h3, h7, h8, h9, h10, h11, h12, hk, f, u, a1, a2, o1, o2, o3, o4, o5, o6, o7, o8, ⟨n1, n2, n3, n4, n5, n6⟩, o9, o10, o15, o16⟩ := h
  have hsa : ∀ i, Sa i → i < w.heap.size := by obtain ⟨v, hv⟩ := hda; exact hv.small
  have hsb : ∀ i, Sb i → i < w.heap.size := by obtain ⟨v, hv⟩ := hdb; exact hv.small
  have hda' : DiskS w' Sa a da := hda.keeps hk (fun i hi hx => hx)
  have hdb' : DiskS w' Sb b db := hdb.keeps hk (fun i hi hx => hx)
  have si0 := o15 gi h8.inG
  have sq0 := o16 gf (by obtain ⟨_, _, _, _, _, h9⟩ := h9; exact h9.inG)
  have dja : ∀ i, Sb i → ¬ Sa i := fun i hi ha => hab i ha hi
  have hp : ([(1, (· = r)), (2, (· = gl)), (3, (· = jn)), (4, Sb), (5, Sa), (6, (· = gc)), (7, Si), (8, (· = gs)), (9, (· = bs)), (10, Sq), (11, (· = gt)), (12, (· = bt)), (13, (· = gr))] : List (Nat × (Nat → Prop))).Pairwise (fun a b => a.1 ≠ b.1 ∧ ∀ i, a.2 i → ¬ b.2 i) := by
    simp only [List.pairwise_cons, List.forall_mem_cons]
    repeat' apply And.intro
    all_goals first
      | exact List.Pairwise.nil
      | (intro q hq; cases hq; done)
      | (show (_ : Nat) ≠ _; decide)
      | (intro i e1 e2
         try dsimp only at e1 e2
         first
         | omega
         | (have z := hsb i e1; omega) | (have z := hsb i e2; omega)
         | (have z := hsa i e1; omega) | (have z := hsa i e2; omega)
         | (have z := o15 i e1; omega) | (have z := o15 i e2; omega)
         | (have z := o16 i e1; omega) | (have z := o16 i e2; omega)
         | (exact dja i e1 e2)
         | (have z := hsb i e1; have z2 := o15 i e2; omega) | (have z := hsb i e1; have z2 := o16 i e2; omega)
         | (have z := hsa i e1; have z2 := o15 i e2; omega) | (have z := hsa i e1; have z2 := o16 i e2; omega)
         | (have z := o15 i e1; have z2 := o16 i e2; omega))
  generalize hl : ([(1, (· = r)), (2, (· = gl)), (3, (· = jn)), (4, Sb), (5, Sa), (6, (· = gc)), (7, Si), (8, (· = gs)), (9, (· = bs)), (10, Sq), (11, (· = gt)), (12, (· = bt)), (13, (· = gr))] : List (Nat × (Nat → Prop))) = ll at hp
  have h0 : ∀ q ∈ ll, q.1 ≠ 0 := by
    rw [← hl]
    simp only [List.forall_mem_cons]
    repeat' apply And.intro
    all_goals first | (intro q hq; cases hq; done) | (show (_ : Nat) ≠ _; decide)
  have at_ : ∀ {t : Nat} {S : Nat → Prop} (i : Nat), (t, S) ∈ ll → (ownOf ll i = t ↔ S i) := fun i hq => ownOf_at hp h0 hq
  have mem : ∀ q : Nat × (Nat → Prop), q ∈ ([(1, (· = r)), (2, (· = gl)), (3, (· = jn)), (4, Sb), (5, Sa), (6, (· = gc)), (7, Si), (8, (· = gs)), (9, (· = bs)), (10, Sq), (11, (· = gt)), (12, (· = bt)), (13, (· = gr))] : List (Nat × (Nat → Prop))) → q ∈ ll := fun q hq => hl ▸ hq
  have m1 := at_ r (mem (1, (· = r)) (by simp))
  have m2 := at_ gl (mem (2, (· = gl)) (by simp))
  have m3 := at_ jn (mem (3, (· = jn)) (by simp))
  have m4 := fun i => at_ i (mem (4, Sb) (by simp))
  have m5 := fun i => at_ i (mem (5, Sa) (by simp))
  have m6 := at_ gc (mem (6, (· = gc)) (by simp))
  have m7 := fun i => at_ i (mem (7, Si) (by simp))
  have m8 := at_ gs (mem (8, (· = gs)) (by simp))
  have m9 := at_ bs (mem (9, (· = bs)) (by simp))
  have m10 := fun i => at_ i (mem (10, Sq) (by simp))
  have m11 := at_ gt (mem (11, (· = gt)) (by simp))
  have m12 := at_ bt (mem (12, (· = bt)) (by simp))
  have m13 := at_ gr (mem (13, (· = gr)) (by simp))
  have e4 : (fun i => ownOf ll i = 4) = Sb := setOf_eq m4
  have e5 : (fun i => ownOf ll i = 5) = Sa := setOf_eq m5
  have e7 : (fun i => ownOf ll i = 7) = Si := setOf_eq m7
  have e10 : (fun i => ownOf ll i = 10) = Sq := setOf_eq m10
  have hsz := hk.size
  have hall : ∀ i, ownOf ll i ≠ 0 → i < w'.heap.size ∧ (Sa i ∨ Sb i ∨ w.heap.size ≤ i) := fun i hi => by
    obtain ⟨q, hq, h⟩ := ownOf_mem hi
    rw [← hl] at hq
    simp only [List.mem_cons, List.not_mem_nil, or_false] at hq
    have k1 := h1.lt; have k2 := h2.lt; have k3 := h3.lt; have k6 := h7.lt; have k8 := h11.lt; have k9 := h11.ltm; have k11 := h12.1.lt; have k12 := h12.2.lt; have k13 := h10.lt
    rcases hq with rfl | rfl | rfl | rfl | rfl | rfl | rfl | rfl | rfl | rfl | rfl | rfl | rfl <;> dsimp only at h
    · omega
    · omega
    · omega
    · exact ⟨by have := hsb i h; omega, .inr (.inl h)⟩
    · exact ⟨by have := hsa i h; omega, .inl h⟩
    · omega
    · exact ⟨h8.small i h, by have := o15 i h; omega⟩
    · omega
    · omega
    · exact ⟨by obtain ⟨_, _, _, _, _, h9⟩ := h9; exact h9.small i h, by have := o16 i h; omega⟩
    · omega
    · omega
    · omega
  refine ⟨⟨r, jn, b, a, gc, gi, gf, gr, gl, gs, bs, gt, bt, va, .slice none 0 0, .map (some (w.heap.size + 1))⟩, ownOf ll, he, ⟨h1, h2, h3, by rw [e4]; exact hdb', by rw [e5]; exact hda', h7, by rw [e7]; exact h8, h11, by rw [e10]; exact h9, h12, h10, m1.2 rfl, m2.2 rfl, m3.2 rfl, m6.2 rfl, m8.2 rfl, m9.2 rfl, m11.2 rfl, m12.2 rfl, m13.2 rfl, fun i hi => (hall i hi).1⟩, rfl, rfl, m5, m4, fun i hi => (hall i hi).2, hk⟩
end Go.Proofs.YtdaphppdmnmicaaGreatDoor.regn
namespace Go.Proofs.YtdaphppdmnmicaaGreatDoor.regn
open Go Go.RowKit base err wire dep vec with_ jrnp diskp jrn writep wireb wirep store rows merge
def nm11:ByteArray:=⟨#[49,45,49]⟩
def chB:Ch:=⟨nm11,⟨#[]⟩,⟨#[97,110,110]⟩,false,0⟩
def chW:Ch:=⟨nm11,⟨#[97]⟩,⟨#[120]⟩,false,0⟩
def qB:PW:=⟨1,1,1,[],[49,45,49],[],[97,110,110],false,0⟩
def qW:PW:=⟨1,2,2,[1],[49,45,49],[97],[120],false,0⟩
theorem nm_one:quota.str (dec.nm 1 1)=nm11:=by
 unfold dec.nm
 rw [dec.dec_small (by omega)]
 rfl
theorem okB:qB.Ok:=(PW.right_iff _).1 (by decide)
theorem okW:qW.Ok:=(PW.right_iff _).1 (by decide)
theorem mkB:mkW ((1:Nat):Int) chB 0 [] (.slice none 0 0)=pabs qB:=rfl
theorem mkWW:mkW ((1:Nat):Int) chW 1 [1] (.slice none 0 0)=pabs qW:=rfl
def m1:ByteArray:=⟨#[109]⟩
def x0 (da db:Dk):RX:=newX 1 1 m1 da db
def l0:List Part:=startL 1 []
def rs1:List (List UInt8):=[recN 4 1,recW qB]
def l1:List Part:=putL 1 l0 rs1
def x1 (da db:Dk):RX:={ takesX (x0 da db) l0 rs1 [qB] [1] [] with made:=((1:Nat):Int) }
def l2:List Part:=putL 1 l1 [recW qW]
def x2 (da db:Dk):RX:=takesX (x1 da db) l1 [recW qW] [qW] [2] []
theorem rs1_le:∀ s ∈ rs1,s.length≤1000:=by
 intro s hs
 unfold rs1 at hs
 simp only [List.mem_cons,List.not_mem_nil,or_false] at hs
 rcases hs with rfl|rfl
 ·exact recN_len 4 1 (by omega) (by omega)
 ·exact rec_len okB
theorem len1:(dev l1).length≤4726:=by
 have h:=put_few (g:=1) (K:=363) (l:=l0) (rs:=rs1) (by omega) (by omega) start_len (by omega) (by show 2≤10;omega) rs1_le
 have e:rs1.length=2:=rfl
 rw [e] at h
 exact h
theorem len2:(dev l2).length≤6968:=by
 have h:=put_few (g:=1) (K:=4726) (l:=l1) (rs:=[recW qW]) (by omega) (by omega) len1 (by omega) (by show 1≤10;omega) (fun s hs=>by rw [List.mem_singleton.1 hs];exact rec_len okW)
 exact h
theorem ok0 {da db:Dk} (h:Well db []):(x0 da db).Ok l0 :=
 ⟨by show 1≤1;omega,by show 1≤1;omega,by show 1≤16;omega,by show 1≤m1.size;decide,by show m1.size≤64;decide,by show (0:Int)≤0;omega,by show (0:Int)≤_;omega,⟨fun r=>by
  have e:atV (x0 da db).ap r=0:=at_nil' r
  rw [e];omega,rfl⟩,fun y hy=>(by cases hy),by show 0≤_;omega,by show (0:Int)≤0;omega,by show (0:Int)≤_;omega,by show 1≤1;omega,by show 1≤_;omega,well_fresh h⟩
theorem dn1 (da db:Dk):(x1 da db).dn=putD 1 l0 rs1 (freshD db):=rfl
theorem dn2 (da db:Dk):(x2 da db).dn=putD 1 l1 [recW qW] (putD 1 l0 rs1 (freshD db)):=rfl
theorem well1 {db:Dk} (h:Well db []):Well (putD 1 l0 rs1 (freshD db)) l1 :=
 put_ok 1 rs1 (well_fresh h) (by omega) (by omega) (fun s hs=>by have:=rs1_le s hs;omega) (by have h:(dev (putL 1 l0 rs1)).length≤4726:=len1;omega)
theorem well2 {db:Dk} (h:Well db []):Well (putD 1 l1 [recW qW] (putD 1 l0 rs1 (freshD db))) l2 :=
 put_ok 1 [recW qW] (well1 h) (by omega) (by omega) (fun s hs=>by rw [List.mem_singleton.1 hs];have:=rec_len okW;omega) (by have h:(dev (putL 1 l1 [recW qW])).length≤6968:=len2;omega)
theorem at_one (r:Int):atV [1] r=if r=1 then 1 else 0:=by
 unfold atV
 by_cases h:r=1
 ·subst h;rfl
 ·rw [if_neg h,if_pos]
  simp
  omega
theorem ok1 {da db:Dk} (h:Well db []):(x1 da db).Ok l1 :=
 ⟨by show 1≤1;omega,by show 1≤1;omega,by show 1≤16;omega,by show 1≤m1.size;decide,by show m1.size≤64;decide,by show (0:Int)≤max 0 1;omega,by show max 0 (1:Int)≤_;omega,⟨fun r=>by
  have e:atV (x1 da db).ap r=if r=1 then 1 else 0:=at_one r
  rw [e]
  split <;> omega,rfl⟩,fun y hy=>(by cases hy),by show 0≤_;omega,by show (0:Int)≤1;omega,by show (1:Int)≤_;omega,by show 1≤1;omega,by show 1≤_;omega,by rw [dn1];exact well1 h⟩
def rcs:List Rc:=[.made 1,.write qB,.write qW]
theorem rec2:recordsL l2=rcs.map Rc.bytes:=rfl
theorem ord2:ordered l2=true:=rfl
theorem last2:(l2.getD (l2.length - 1) pZ).kind=4:=rfl
def y2:FX:=foldF (fold0 1) rcs
theorem all2:AllF (fold0 1) rcs:=⟨by show 1≤1099511627776;omega,⟨okB,rfl,rfl⟩,⟨okW,rfl,rfl⟩,trivial⟩
theorem okY2:OkY 1 1 y2 [pabs qB,pabs qW] 0:=⟨by show (0:Int)≤max (max 0 1) 2;omega,by show max (max 0 1) (2:Int)≤_;omega,rfl,rfl,rfl,rfl,by omega⟩
theorem sto2:y2.L=takeL (takeL [] (nm11,⟨#[]⟩) ⟨1,1,⟨#[97,110,110]⟩,false,0⟩) (nm11,⟨#[97]⟩) ⟨2,1,⟨#[120]⟩,false,0⟩:=rfl
theorem get_ch:atL y2.L (nm11,⟨#[]⟩)=⟨1,1,⟨#[97,110,110]⟩,false,0⟩:=by
 rw [sto2]
 unfold atL
 rw [getL_take (rising_take rising_nil _ _),if_neg (by decide),getL_take rising_nil,if_pos rfl]
 rfl
theorem get_cd:atL y2.L (nm11,⟨#[97]⟩)=⟨2,1,⟨#[120]⟩,false,0⟩:=by
 rw [sto2]
 unfold atL
 rw [getL_take (rising_take rising_nil _ _),if_pos rfl,getL_take rising_nil,if_neg (by decide)]
 rfl
theorem get_c:getC ⟨#[97]⟩ (atL y2.L (nm11,⟨#[]⟩)) (atL y2.L (nm11,⟨#[97]⟩))=0:=by
 rw [get_ch,get_cd]
 unfold getC
 rw [ByteArray.toList_eq,if_neg (by decide),if_neg (by decide),if_neg (by decide)]
end Go.Proofs.YtdaphppdmnmicaaGreatDoor.regn
namespace Go.Proofs.YtdaphppdmnmicaaGreatDoor.regn
open Go Go.RowKit base err wire dep vec with_ jrnp diskp disk jrn writep wireb wirep store rows merge
def d0:Dk:=newD 20000
set_option maxRecDepth 20000 in
set_option maxHeartbeats 4000000 in
theorem awake_w (w:World) (hT:quota.Tabs w):Calls Tryz.prog 4 #[] w fun e w'=>e=.returned (.bool true)∧Below w.heap.size w w':=by
 have HT:=Lib.hid hT
 clear hT
 go_enter Tryz.func4,Tryz.ntmps4
 go_wp2_with fail
 refine (two_w 20000 (by omega) w).mono ?_
 rintro e w1 ⟨a,b,rfl,hda,hdb,hab1,hab2,hab3,hb1⟩
 have HDA:=Lib.hid (show DiskS w1 (· = a) a d0 from hda)
 have HDB:=Lib.hid (show DiskS w1 (· = b) b d0 from hdb)
 have HB1:=Lib.hid hb1
 have hs1:=hb1.size
 clear hda hdb hb1
 go_wp2_with fail
 refine (open_w (· = a) (· = b) a b d0 d0 1 1 m1 w1 HDA.out HDB.out (well_new _) (well_new _) (fun i e1 e2=>by omega) (by have:=start_len;show _≤20000;omega) (by omega) (by omega) (by omega) (by decide) (by decide)).mono ?_
 rintro e w2 h2
 obtain ⟨p,own,rfl,hr2,hpn,hps,ho5,hot,ho4,hk2⟩:=OpenR.regI h2 HDA.out (fun i e1 e2=>by have e1:i=a:=e1;have e2:i=b:=e2;omega) (fun i e=>by have e:i=b:=e;omega)
 clear h2
 have HR2:=Lib.hid (show RegI w2 own p (x0 d0 d0) from hr2)
 have HO2:=Lib.hid (show ∀ i,own i ≠ 0→w.heap.size≤i from fun i hi=>by
  rcases hot i hi with h|h|h
  ·have h:i=a:=h;omega
  ·have h:i=b:=h;omega
  ·omega)
 have HK2:=Lib.hid (show Keeps (fun i=>w.heap.size≤i) w w2 from (Keeps.of_below HB1.out).trans (hk2.more fun i _ e=>by have e:i=b:=e;omega))
 have hs2:=HK2.out.size
 have HPN:=Lib.hid (show p.gn=b∧p.gs=a from ⟨hpn,hps⟩)
 clear hr2 hpn hps ho5 hot ho4 hk2 HDA HDB HB1
 go_wp2_with fail
 have HT2:=Lib.hid (HT.out.below (HK2.out.below (B:=w.heap.size) (fun i hi e=>by have e:w.heap.size≤i:=e;omega) (Nat.le_refl _)))
 refine (begin_one 1 ⟨#[97,110,110]⟩ 0 l0 HR2.out (ok0 (well_new _)) (by decide) HT2.out (by show 0≤800000;omega) (by show 0≤1000000;omega) (fun q hq=>by cases hq) (by show 0≤1000000;omega) rfl rfl (by decide) (by omega) (by omega) (by rw [quota.opens_eq];show 0 < 32;omega) rfl (by omega)).mono ?_
 rintro e w3 ⟨s,v,v2,own3,rfl,hg3,hk3,h3⟩
 rcases h3 with ⟨rfl,rfl,hs,gi,v7,v8,x',o1,hr3,hmx⟩|⟨_,_,k,c,hno,_⟩
 rotate_left
 ·exfalso
  have hno:NoMake (x0 d0 d0) l0 [recN 4 1] [⟨quota.str (dec.nm 1 1),⟨#[]⟩,⟨#[97,110,110]⟩,false,0⟩] c:=hno
  rw [nm_one] at hno
  exact nomake_one (q:=qB) rfl (by show (0:Int) < _;omega) mkB okB (by show 1≤300;omega) (by have h:(dev l1).length≤4726:=len1;show (dev l1).length≤20000;omega) hno
 obtain rfl:s=nm11:=hs.trans nm_one
 have hx:=made_one (q:=qB) hmx rfl mkB
 subst hx
 have HR3:=Lib.hid (show RegI w3 own3 { p with gi:=gi,va:=v7,vw:=v8 } (x1 d0 d0) from hr3)
 have HO3:=Lib.hid (show ∀ i,own3 i ≠ 0→w.heap.size≤i from fun i hi=>by
  rcases hg3 i with h|h|h
  ·exact HO2.out i (by rw [← h];exact hi)
  ·exact absurd h hi
  ·omega)
 have HK3:=Lib.hid (show Keeps (fun i=>w.heap.size≤i) w w3 from HK2.out.trans (hk3.more fun i _ e=>HO2.out i e.2))
 have hs3:=HK3.out.size
 clear hs hg3 hk3 hr3 hmx HR2 HO2 HK2 HT2
 go_wp2_with fail
 have hb4:=below_new w3 (.cells #[.string nm11,.string ⟨#[97]⟩,.string ⟨#[120]⟩,.bool false,.int .i64 0] 87)
 have HR4:=Lib.hid (HR3.out.below hb4)
 have HC4:=Lib.hid (show Reads (w3.alloc (.cells #[.string nm11,.string ⟨#[97]⟩,.string ⟨#[120]⟩,.bool false,.int .i64 0] 87)) (w3.alloc (.cells #[.string nm11,.string ⟨#[97]⟩,.string ⟨#[120]⟩,.bool false,.int .i64 0] 87)).heap.size 5 (some ⟨w3.heap.size,0,none⟩) 1 ([chW].flatMap Ch.cells) from by
  have:=Reads.newAt w3 #[.string nm11,.string ⟨#[97]⟩,.string ⟨#[120]⟩,.bool false,.int .i64 0] 87 (0,0) (g:=w3.heap.size) (n:=1) (size:=5) (by simp) rfl
  simpa [Ch.cells,chW] using this)
 have HK4:=Lib.hid (HK3.out.trans (Keeps.of_below hb4))
 have hs4:=HK4.out.size
 clear hb4 HR3 HK3
 generalize w3.alloc (.cells #[.string nm11,.string ⟨#[97]⟩,.string ⟨#[120]⟩,.bool false,.int .i64 0] 87)=w4 at *
 refine (write_one (w:=w4) [chW] _ 1 1 l1 HR4.out (ok1 (well_new _)) rfl (by omega) HC4.out (by have h:(x1 d0 d0).Lf.length=1:=rfl;omega) rfl rfl).mono ?_
 rintro e w5 ⟨v,v2,own5,rfl,hg5,hk5,h5⟩
 rcases h5 with ⟨rfl,gi5,v75,v85,x5,o5,hr5,hmx5,hv5⟩|⟨rfl,k,c,hno,_⟩
 rotate_left
 ·exfalso
  exact nomake_one (q:=qW) rfl (by show max 0 (1:Int) < _;omega) mkWW okW (by show 0≤300;omega) (by have h:(dev l2).length≤6968:=len2;show (dev l2).length≤20000;omega) hno
 obtain rfl:=hv5 rfl
 have hx:=made_one (q:=qW) hmx5 rfl mkWW
 subst hx
 have HR5:=Lib.hid (show RegI w5 own5 { { p with gi:=gi,va:=v7,vw:=v8 } with gi:=gi5,va:=v75,vw:=v85 } (x2 d0 d0) from hr5)
 have HO5:=Lib.hid (show ∀ i,own5 i ≠ 0→w.heap.size≤i from fun i hi=>by
  rcases hg5 i with h|h|h
  ·exact HO3.out i (by rw [← h];exact hi)
  ·exact absurd h hi
  ·omega)
 have HK5:=Lib.hid (show Keeps (fun i=>w.heap.size≤i) w w5 from HK4.out.trans (hk5.more fun i _ e=>e.elim (fun e=>HO3.out i e.2) (fun e=>by cases e)))
 have hs5:=HK5.out.size
 have HA5:=Lib.hid (show DiskS w5 (fun i=>own5 i=5) a d0 by rw [← HPN.out.2];exact HR5.out.spare)
 have HD5:=Lib.hid (show DiskS w5 (fun i=>own5 i=4) b (x2 d0 d0).dn by rw [← HPN.out.1];exact HR5.out.now)
 clear hg5 hk5 hr5 hmx5 hv5 HR4 HC4 HK4 HO3 HR5
 go_wp2_with fail
 refine (crash_w HA5.out).mono ?_
 rintro e w6 ⟨rfl,hd6,hk6⟩
 have HA6:=Lib.hid hd6
 have HD6:=Lib.hid (HD5.out.keeps hk6 (fun i hi e=>by have hi:own5 i=4:=hi;have e:own5 i=5:=e;omega))
 have HK6:=Lib.hid (show Keeps (fun i=>w.heap.size≤i) w w6 from HK5.out.trans (hk6.more fun i _ e=>HO5.out i (by rw [show own5 i=5 from e];decide)))
 clear hd6 hk6 HA5 HD5 HK5
 go_wp2_with fail
 refine (crash_w HD6.out).mono ?_
 rintro e w7 ⟨rfl,hd7,hk7⟩
 have HD7:=Lib.hid hd7
 have HA7:=Lib.hid (HA6.out.keeps hk7 (fun i hi e=>by have hi:own5 i=5:=hi;have e:own5 i=4:=e;omega))
 have HK7:=Lib.hid (show Keeps (fun i=>w.heap.size≤i) w w7 from HK6.out.trans (hk7.more fun i _ e=>HO5.out i (by rw [show own5 i=4 from e];decide)))
 clear hd7 hk7 HA6 HD6 HK6
 go_wp2_with fail
 refine (open_m (fun i=>own5 i=5) (fun i=>own5 i=4) a b (crash0 d0) (crash0 (x2 d0 d0).dn) 1 1 m1 l2 rcs [pabs qB,pabs qW] 0 w7 HA7.out HD7.out (well_crash (well_new _)) (well_crash (by rw [dn2];exact well2 (well_new _))) (fun i e1 e2=>by have e1:own5 i=5:=e1;have e2:own5 i=4:=e2;omega)
  ord2 (by show 0 < 8;omega) last2 rec2 (by show 3 < 900000;omega) all2 okY2 (by omega) (by omega) (by omega) (by decide) (by decide)).mono ?_
 rintro e w8 h8
 obtain ⟨p8,own8,rfl,hr8,_,_,_,_,_,hk8⟩:=OpenM.regI h8 HA7.out HD7.out (fun i e1 e2=>by have e1:own5 i=5:=e1;have e2:own5 i=4:=e2;omega)
 clear h8
 have HR8:=Lib.hid (show RegI w8 own8 p8 (backX 1 1 m1 y2 [pabs qB,pabs qW] 0 l2 (crash0 d0) (crash0 (x2 d0 d0).dn)) from hr8)
 have HK8:=Lib.hid (HK7.out.trans (hk8.more fun i _ e=>e.elim))
 clear hr8 hk8 HA7 HD7 HK7
 go_wp2_with fail
 have hg:=get_q (gs:=p8.st) (bs:=p8.sb) (L:=y2.L) nm11 ⟨#[97]⟩ HR8.out.reg rfl rfl HR8.out.sto (by decide) (by decide) get_c
 rw [get_cd] at hg
 refine hg.mono ?_
 rintro e w9 ⟨rfl,hb9⟩
 have HK9:=Lib.hid (HK8.out.trans (Keeps.of_below hb9))
 clear hg hb9
 simp only [nm11]
 go_wp2_with fail
 go_ret
 exact ⟨rfl,HK9.out.below (fun i hi e=>by have e:w.heap.size≤i:=e;omega) (Nat.le_refl _)⟩
end Go.Proofs.YtdaphppdmnmicaaGreatDoor.regn
namespace Go.Proofs.YtdaphppdmnmicaaGreatDoor.wRegionNone
open Go Go.RowKit base err rowe list new tab wireb jrnp jrn diskp disk lease fold regn store
theorem OpArgR.below {w w':World} {x:OpD} {Lc:List Ch5} {Lw:List wire.Wr} {L:List Ep} (h:OpArgR w x Lc Lw L) (hb:Below w.heap.size w w'):OpArgR w' x Lc Lw L :=
 ⟨⟨h.1.1,(h.1.2.below hb).more hb.size⟩,⟨h.2.1.1,(h.2.1.2.1.below hb).more hb.size,h.2.1.2.2⟩,(h.2.2.below hb).more hb.size⟩
theorem state_field (w:World):(Instr.field 83 (.agg #[.int .i64 0,.slice none 0 0,.int .i64 0,.int .i64 0,.int .i64 0,.slice none 0 0,.slice none 0 0,.slice none 0 0]) 0).run Tryz.prog w=.ok (.int .i64 0) w:=by kernel_rfl
theorem put_from:∀ (l pre rest:List Value),rest.length=l.length→(l.zipIdx pre.length).foldl (fun (cs:Array Value) (x:Value × Nat)=>cs.setIfInBounds x.2 x.1) (pre ++ rest).toArray=(pre ++ l).toArray
 | [],pre,[],_=>by simp
 | a :: l,pre,b :: rest,h=>by
  have e:(pre ++ b :: rest).toArray.setIfInBounds pre.length a=((pre ++ [a]) ++ rest).toArray:=by simp
  have h2:=put_from l (pre ++ [a]) rest (by simpa using h)
  rw [List.length_append,show [a].length=1 from rfl] at h2
  rw [List.zipIdx_cons,List.foldl_cons]
  show List.foldl _ ((pre ++ b :: rest).toArray.setIfInBounds pre.length a) _=_
  rw [e,h2]
  simp
theorem put_all (l z:List Value) (h:z.length=l.length):l.zipIdx.foldl (fun (cs:Array Value) (x:Value × Nat)=>cs.setIfInBounds x.2 x.1) z.toArray=l.toArray:=put_from l [] z h
set_option maxRecDepth 20000 in
set_option maxHeartbeats 8000000 in
theorem walk (v0 v1:Value) (w:World) (a0:Arg Tryz.prog w 23 v0) (a1:Arg Tryz.prog w 44 v1) (hT:quota.Tabs w∧HandleIs w) :
  Calls Tryz.prog 3 #[v0,v1] w fun e w'=>e=.returned (.bool true)∧Below w.heap.size w w':=by
 obtain ⟨id,n,m,rfl⟩:=cfg_arg a0
 obtain ⟨x,Lc,Lw,L,rfl,hO⟩:=op_arg a1
 have hb0:=below_alloc (below_new w (.cells #[.int .i64 id,.int .i64 n,.string m] 23)) (.cells x.cells.toArray 44)
 obtain ⟨c,hc⟩:∃ c,w.heap.size=c:=⟨_,rfl⟩
 have HC0:=Lib.hid ((Blk.new w 23 #[.int .i64 id,.int .i64 n,.string m]).alloc (.cells x.cells.toArray 44))
 have HX0:=Lib.hid (Blk.newAt (w.alloc (.cells #[.int .i64 id,.int .i64 n,.string m] 23)) 44 x.cells.toArray (g:=w.heap.size + 1) (by simp))
 have HB0:=Lib.hid hb0
 have HT0:=Lib.hid (hT.1.below hb0)
 have HH0:=Lib.hid (hT.2.below hb0)
 have HO0:=Lib.hid (OpArgR.below hO hb0)
 have HXO:=Lib.hid x.one
 have HXL:=Lib.hid x.len
 obtain ⟨cs,hcs⟩:∃ cs,x.cells=cs:=⟨_,rfl⟩
 have HCS:=Lib.hid hcs
 rw [hcs] at HX0 HC0 HB0 HT0 HH0 HO0 HXO HXL ⊢
 clear hcs hb0 hT hO a0 a1
 go_enter Tryz.func3,Tryz.ntmps3
 go_wp2_with fail
 generalize (w.alloc (.cells #[.int .i64 id,.int .i64 n,.string m] 23)).alloc (.cells cs.toArray 44)=w0 at *
 rw [hc] at HC0 HX0
 refine (awake_w w0 HT0.out).mono ?_
 rintro e w1 ⟨rfl,hb1⟩
 have HC1:=Lib.hid (Blk.below HC0.out hb1 HC0.out.lt)
 have HX1:=Lib.hid (Blk.below HX0.out hb1 HX0.out.lt)
 have HB1:=Lib.hid (HB0.out.trans (hb1.mono HB0.out.size))
 have HH1:=Lib.hid (HH0.out.below hb1)
 have HO1:=Lib.hid (OpArgR.below HO0.out hb1)
 have q2:w1.cell? ⟨c,2,none⟩=some (.string m):=HC1.out.cell 2
 have hcl:=HC1.out.lt
 clear hb1 HC0 HX0 HB0 HT0 HH0 HO0
 by_cases hm:1000 < m.size
 ·have d1:decide ((1000:Int) < (m.size:Int))=true:=decide_eq_true (by omega)
  go_wp2_with fail
  go_ret
  exact ⟨rfl,HB1.out⟩
 have d1:decide ((1000:Int) < (m.size:Int))=false:=decide_eq_false (by omega)
 have h40:cs.length=40:=HXL.out
 have hi44:(Tryz.prog.info? 44).map (·.size)=some cs.length:=by rw [HXL.out];kernel_rfl
 go_wp2_with (first|(refine BigFrame.wpList_want (by first|rfl|kernel_rfl|simp [Region.wanted,yielded]) fun K hK=>wp_load_at 44 (.tmp 3) rfl (c + 1) 0 cs rfl Tryz.underlying44 rfl hi44 (blk_cells HX1.out) (hK _ _ ?_);clear hK K)|fail)
 rw [put_all _ _ (by rw [HXL.out];rfl)]
 have HG2:=Lib.hid (Blk.new w1 44 cs.toArray)
 have hb2:=below_new w1 (.cells cs.toArray 44)
 have HC2:=Lib.hid (Blk.below HC1.out hb2 HC1.out.lt)
 have HX2:=Lib.hid (Blk.below HX1.out hb2 HX1.out.lt)
 have HB2:=Lib.hid (HB1.out.trans (hb2.mono HB1.out.size))
 have HH2:=Lib.hid (HH1.out.below hb2)
 have HO2:=Lib.hid (OpArgR.below HO1.out hb2)
 have hgl:=HG2.out.lt
 clear hb2 HC1 HX1 HB1 HH1 HO1 q2 hcl
 generalize w1.alloc (.cells cs.toArray 44)=w2 at *
 refine (great_o w1.heap.size x Lc Lw L w2 (by rw [HCS.out];exact blk_cells HG2.out) hgl HO2.out).mono ?_
 rintro e w3 ⟨bt,rfl,hb3⟩
 have HC3:=Lib.hid (Blk.below HC2.out hb3 HC2.out.lt)
 have HX3:=Lib.hid (Blk.below HX2.out hb3 HX2.out.lt)
 have HB3:=Lib.hid (HB2.out.trans (hb3.mono HB2.out.size))
 have HH3:=Lib.hid (HH2.out.below hb3)
 clear hb3 HC2 HX2 HB2 HH2 HO2 HG2 hgl
 cases bt with
 | true =>
  go_wp2_with fail
  go_ret
  exact ⟨rfl,HB3.out⟩
 | false =>
 go_wp2_with fail
 refine (two_w 1000 (by omega) w3).mono ?_
 rintro e w4 ⟨a,b,rfl,hda,hdb,hab1,hab2,hab3,hb4⟩
 have HDA:=Lib.hid (show DiskS w4 (· = a) a (newD 1000) from hda)
 have HDB:=Lib.hid (show DiskS w4 (· = b) b (newD 1000) from hdb)
 have HC4:=Lib.hid (Blk.below HC3.out hb4 HC3.out.lt)
 have HX4:=Lib.hid (Blk.below HX3.out hb4 HX3.out.lt)
 have HB4:=Lib.hid (HB3.out.trans (hb4.mono HB3.out.size))
 have HH4:=Lib.hid (HH3.out.below hb4)
 have hx3:=HX3.out.lt
 have hs3:=HB3.out.size
 clear hda hdb hb4 HC3 HX3 HB3 HH3
 go_wp2_with fail
 refine (new_r w4).mono ?_
 rintro e w5 ⟨rfl,hr5,hb5⟩
 have HR5:=Lib.hid hr5
 have HDA5:=Lib.hid (disk.DiskS.below HDA.out hb5)
 have HDB5:=Lib.hid (disk.DiskS.below HDB.out hb5)
 have HC5:=Lib.hid (Blk.below HC4.out hb5 HC4.out.lt)
 have HX5:=Lib.hid (Blk.below HX4.out hb5 HX4.out.lt)
 have HB5:=Lib.hid (HB4.out.trans (hb5.mono HB4.out.size))
 have HH5:=Lib.hid (HH4.out.below hb5)
 clear hr5 hb5 HC4 HX4 HB4 HH4 HDA HDB
 obtain ⟨g5,hg5⟩:∃ g,w4.heap.size=g:=⟨_,rfl⟩
 rw [hg5] at HR5 hab3 ⊢
 clear hg5
 go_wp2_with fail
 refine (new_r w5).mono ?_
 rintro e w6 ⟨rfl,hr6,hb6⟩
 have HR6:=Lib.hid hr6
 have HR56:=Lib.hid (Blk.below HR5.out hb6 HR5.out.lt)
 have HDA6:=Lib.hid (disk.DiskS.below HDA5.out hb6)
 have HDB6:=Lib.hid (disk.DiskS.below HDB5.out hb6)
 have HC6:=Lib.hid (Blk.below HC5.out hb6 HC5.out.lt)
 have HX6:=Lib.hid (Blk.below HX5.out hb6 HX5.out.lt)
 have HB6:=Lib.hid (HB5.out.trans (hb6.mono HB5.out.size))
 have HH6:=Lib.hid (HH5.out.below hb6)
 have hg56:=HR5.out.lt
 clear hr6 hb6 HC5 HX5 HB5 HH5 HDA5 HDB5 HR5
 obtain ⟨g6,hg6⟩:∃ g,w5.heap.size=g:=⟨_,rfl⟩
 rw [hg6] at HR6 hg56 ⊢
 clear hg6
 by_cases hl:n < 1 ∨ 16 < n ∨ id < 1 ∨ n < id
 ·go_wp2_with (refine wpList_load_at rfl 23 (.tmp 2) rfl c 0 [.int .i64 id,.int .i64 n,.string m] rfl Tryz.underlying23 rfl (by kernel_rfl) (blk_cells HC6.out) ?_)
  refine (open_lease _ _ id n m w6 hl).mono ?_
  rintro e w7 ⟨ge,ne,ve,rfl,he1,he2,hb7⟩
  have HE7:=Lib.hid he1
  have HW7:=Lib.hid he2
  have HC7:=Lib.hid (Blk.below HC6.out hb7 HC6.out.lt)
  have HX7:=Lib.hid (Blk.below HX6.out hb7 HX6.out.lt)
  have HB7:=Lib.hid (HB6.out.trans (hb7.mono HB6.out.size))
  have HH7:=Lib.hid (HH6.out.below hb7)
  clear he1 he2 hb7 HC6 HX6 HB6 HH6 HR6 HR56 HDA6 HDB6
  go_wp2_with (refine wpList_load_at rfl 23 (.tmp 2) rfl c 0 [.int .i64 id,.int .i64 n,.string m] rfl Tryz.underlying23 rfl (by kernel_rfl) (blk_cells HC7.out) ?_)
  refine (open24_bad _ _ id n m hl w7).mono ?_
  rintro e w8 ⟨rfl,hb8⟩
  have HE8:=Lib.hid (HE7.out.below hb8)
  have HW8:=Lib.hid (Blk.below HW7.out hb8 HW7.out.lt)
  have HX8:=Lib.hid (Blk.below HX7.out hb8 HX7.out.lt)
  have HB8:=Lib.hid (HB7.out.trans (hb8.mono HB7.out.size))
  have HH8:=Lib.hid (HH7.out.below hb8)
  clear hb8 HE7 HW7 HC7 HX7 HB7 HH7
  go_wp2_with fail
  refine (told_one ge ne ve w8 HH8.out HE8.out HW8.out).mono ?_
  rintro e wt ⟨rfl,hbt⟩
  have HXt:=Lib.hid (Blk.below HX8.out hbt HX8.out.lt)
  have HBt:=Lib.hid (HB8.out.trans (hbt.mono HB8.out.size))
  clear hbt HE8 HW8 HX8 HB8 HH8
  have hx:=HXt.out
  rw [← HCS.out] at hx
  have q1:wt.cell? ⟨c + 1,1,none⟩=some (.slice x.A0 x.nl x.c0):=hx.cell 1
  have ql:=hx.lt
  have HX:=Lib.hid hx
  clear hx HXt
  go_wp2_with fail
  refine (write_nil _ _).mono ?_
  rintro e wa ⟨va,rfl,ea,hba⟩
  have HEa:=Lib.hid ea
  have HXa:=Lib.hid (Blk.below HX.out hba ql)
  have HBa:=Lib.hid (HBt.out.trans (hba.mono HBt.out.size))
  have q2:wa.cell? ⟨c + 1,2,none⟩=some (.string x.u):=HXa.out.cell 2
  have q3:wa.cell? ⟨c + 1,3,none⟩=some (.int .i64 x.n):=HXa.out.cell 3
  have qla:=HXa.out.lt
  clear ea hba q1 HX HBt
  go_wp2_with fail
  refine (begin_nil _ _ _).mono ?_
  rintro e wb ⟨vb,rfl,eb,hbb⟩
  have HEb:=Lib.hid eb
  have HEa2:=Lib.hid (HEa.out.below hbb)
  have HXb:=Lib.hid (Blk.below HXa.out hbb qla)
  have HBb:=Lib.hid (HBa.out.trans (hbb.mono HBa.out.size))
  have p3:wb.cell? ⟨c + 1,3,none⟩=some (.int .i64 x.n):=HXb.out.cell 3
  have p4:wb.cell? ⟨c + 1,4,none⟩=some (.int .i64 x.a):=HXb.out.cell 4
  have p12:wb.cell? ⟨c + 1,12,none⟩=some (.string x.tx):=HXb.out.cell 12
  have qlb:=HXb.out.lt
  clear eb hbb q2 q3 HXa HBa HEa
  go_wp2_with fail
  refine (recv_nil _ _ _ _).mono ?_
  rintro e wc ⟨vc,rfl,ec,hbc⟩
  have HEc:=Lib.hid ec
  have HEa:=Lib.hid (HEa2.out.below hbc)
  have HEb3:=Lib.hid (HEb.out.below hbc)
  have HXc:=Lib.hid (Blk.below HXb.out hbc qlb)
  have HBc:=Lib.hid (HBb.out.trans (hbc.mono HBb.out.size))
  have r3:wc.cell? ⟨c + 1,3,none⟩=some (.int .i64 x.n):=HXc.out.cell 3
  have qlc:=HXc.out.lt
  clear ec hbc p3 p4 p12 HXb HBb HEa2 HEb
  go_wp2_with fail
  refine (tick_nil _ _).mono ?_
  rintro e wd ⟨vd,rfl,ed,hbd⟩
  have HEd:=Lib.hid ed
  have HEa4:=Lib.hid (HEa.out.below hbd)
  have HEb4:=Lib.hid (HEb3.out.below hbd)
  have HEc4:=Lib.hid (HEc.out.below hbd)
  have HXd:=Lib.hid (Blk.below HXc.out hbd qlc)
  have HBd:=Lib.hid (HBc.out.trans (hbd.mono HBc.out.size))
  have qld:=HXd.out.lt
  clear ed hbd r3 HXc HBc HEa HEb3 HEc
  go_wp2_with fail
  refine (get_nilr _ _ _).mono ?_
  rintro e we ⟨ve,rfl,ee,hbe⟩
  have HEe:=Lib.hid ee
  have HEa5:=Lib.hid (HEa4.out.below hbe)
  have HEb5:=Lib.hid (HEb4.out.below hbe)
  have HEc5:=Lib.hid (HEc4.out.below hbe)
  have HEd5:=Lib.hid (HEd.out.below hbe)
  have HXe:=Lib.hid (Blk.below HXd.out hbe qld)
  have HBe:=Lib.hid (HBd.out.trans (hbe.mono HBd.out.size))
  have s2:we.cell? ⟨c + 1,2,none⟩=some (.string x.u):=HXe.out.cell 2
  have qle:=HXe.out.lt
  clear ee hbe HXd HBd HEa4 HEb4 HEc4 HEd
  go_wp2_with fail
  refine (is_chain 5 HEa5.out (by omega) (by omega)).mono ?_
  rintro e wf ⟨rfl,hw⟩
  subst hw
  go_wp2_with fail
  refine (is_chain 5 HEb5.out (by omega) (by omega)).mono ?_
  rintro e wf ⟨rfl,hw⟩
  subst hw
  go_wp2_with fail
  refine (is_chain 5 HEc5.out (by omega) (by omega)).mono ?_
  rintro e wf ⟨rfl,hw⟩
  subst hw
  go_wp2_with fail
  refine (is_chain 5 HEd5.out (by omega) (by omega)).mono ?_
  rintro e wf ⟨rfl,hw⟩
  subst hw
  go_wp2_with fail
  refine (is_chain 5 HEe.out (by omega) (by omega)).mono ?_
  rintro e wf ⟨rfl,hw⟩
  subst hw
  go_wp2_with fail
  refine (down_nil _).mono ?_
  rintro e wf ⟨rfl,hw⟩
  subst hw
  go_wp2_with fail
  refine (ring_nil _).mono ?_
  rintro e wf ⟨rfl,hw⟩
  subst hw
  go_wp2_with fail
  refine (epoch_nil _ _).mono ?_
  rintro e wf ⟨rfl,hw⟩
  subst hw
  go_wp2_with fail
  refine (keys_nilR _ _).mono ?_
  rintro e wf ⟨rfl,hw⟩
  subst hw
  go_wp2_with fail
  refine (applied_nilR _).mono ?_
  rintro e wf ⟨rfl,hw⟩
  subst hw
  go_wp2_with fail
  refine (state_nil _).mono ?_
  rintro e wg ⟨rfl,hbg⟩
  have HR:=Lib.hid (HBe.out.trans (hbg.mono HBe.out.size))
  clear hbg
  have hfd:=state_field wg
  unfold stateZ
  go_wp2_with fail
  go_ret
  exact ⟨rfl,HR.out⟩
 obtain ⟨id,rfl⟩:∃ k:Nat,id=(k:Int):=⟨id.toNat,by omega⟩
 obtain ⟨n,rfl⟩:∃ k:Nat,n=(k:Int):=⟨n.toNat,by omega⟩
 have h1:1≤id:=by omega
 have h2:id≤n:=by omega
 have h3:n≤16:=by omega
 clear hl
 by_cases hr:m.size < 1 ∨ 64 < m.size
 ·go_wp2_with (refine wpList_load_at rfl 23 (.tmp 2) rfl c 0 [.int .i64 id,.int .i64 n,.string m] rfl Tryz.underlying23 rfl (by kernel_rfl) (blk_cells HC6.out) ?_)
  refine (open_ring _ _ id n m w6 h1 h2 h3 hr).mono ?_
  rintro e w7 ⟨ge,ne,ve,rfl,he1,he2,hb7⟩
  have HE7:=Lib.hid he1
  have HW7:=Lib.hid he2
  have HC7:=Lib.hid (Blk.below HC6.out hb7 HC6.out.lt)
  have HX7:=Lib.hid (Blk.below HX6.out hb7 HX6.out.lt)
  have HB7:=Lib.hid (HB6.out.trans (hb7.mono HB6.out.size))
  have HH7:=Lib.hid (HH6.out.below hb7)
  clear he1 he2 hb7 HC6 HX6 HB6 HH6 HR6 HR56 HDA6 HDB6
  go_wp2_with (refine wpList_load_at rfl 23 (.tmp 2) rfl c 0 [.int .i64 id,.int .i64 n,.string m] rfl Tryz.underlying23 rfl (by kernel_rfl) (blk_cells HC7.out) ?_)
  refine (open24_ring _ _ id n m h1 h2 h3 hr w7).mono ?_
  rintro e w8 ⟨rfl,hb8⟩
  have HE8:=Lib.hid (HE7.out.below hb8)
  have HW8:=Lib.hid (Blk.below HW7.out hb8 HW7.out.lt)
  have HX8:=Lib.hid (Blk.below HX7.out hb8 HX7.out.lt)
  have HB8:=Lib.hid (HB7.out.trans (hb8.mono HB7.out.size))
  have HH8:=Lib.hid (HH7.out.below hb8)
  clear hb8 HE7 HW7 HC7 HX7 HB7 HH7
  go_wp2_with fail
  refine (told_one ge ne ve w8 HH8.out HE8.out HW8.out).mono ?_
  rintro e wt ⟨rfl,hbt⟩
  have HXt:=Lib.hid (Blk.below HX8.out hbt HX8.out.lt)
  have HBt:=Lib.hid (HB8.out.trans (hbt.mono HB8.out.size))
  clear hbt HE8 HW8 HX8 HB8 HH8
  have hx:=HXt.out
  rw [← HCS.out] at hx
  have q1:wt.cell? ⟨c + 1,1,none⟩=some (.slice x.A0 x.nl x.c0):=hx.cell 1
  have ql:=hx.lt
  have HX:=Lib.hid hx
  clear hx HXt
  go_wp2_with fail
  refine (write_nil _ _).mono ?_
  rintro e wa ⟨va,rfl,ea,hba⟩
  have HEa:=Lib.hid ea
  have HXa:=Lib.hid (Blk.below HX.out hba ql)
  have HBa:=Lib.hid (HBt.out.trans (hba.mono HBt.out.size))
  have q2:wa.cell? ⟨c + 1,2,none⟩=some (.string x.u):=HXa.out.cell 2
  have q3:wa.cell? ⟨c + 1,3,none⟩=some (.int .i64 x.n):=HXa.out.cell 3
  have qla:=HXa.out.lt
  clear ea hba q1 HX HBt
  go_wp2_with fail
  refine (begin_nil _ _ _).mono ?_
  rintro e wb ⟨vb,rfl,eb,hbb⟩
  have HEb:=Lib.hid eb
  have HEa2:=Lib.hid (HEa.out.below hbb)
  have HXb:=Lib.hid (Blk.below HXa.out hbb qla)
  have HBb:=Lib.hid (HBa.out.trans (hbb.mono HBa.out.size))
  have p3:wb.cell? ⟨c + 1,3,none⟩=some (.int .i64 x.n):=HXb.out.cell 3
  have p4:wb.cell? ⟨c + 1,4,none⟩=some (.int .i64 x.a):=HXb.out.cell 4
  have p12:wb.cell? ⟨c + 1,12,none⟩=some (.string x.tx):=HXb.out.cell 12
  have qlb:=HXb.out.lt
  clear eb hbb q2 q3 HXa HBa HEa
  go_wp2_with fail
  refine (recv_nil _ _ _ _).mono ?_
  rintro e wc ⟨vc,rfl,ec,hbc⟩
  have HEc:=Lib.hid ec
  have HEa:=Lib.hid (HEa2.out.below hbc)
  have HEb3:=Lib.hid (HEb.out.below hbc)
  have HXc:=Lib.hid (Blk.below HXb.out hbc qlb)
  have HBc:=Lib.hid (HBb.out.trans (hbc.mono HBb.out.size))
  have r3:wc.cell? ⟨c + 1,3,none⟩=some (.int .i64 x.n):=HXc.out.cell 3
  have qlc:=HXc.out.lt
  clear ec hbc p3 p4 p12 HXb HBb HEa2 HEb
  go_wp2_with fail
  refine (tick_nil _ _).mono ?_
  rintro e wd ⟨vd,rfl,ed,hbd⟩
  have HEd:=Lib.hid ed
  have HEa4:=Lib.hid (HEa.out.below hbd)
  have HEb4:=Lib.hid (HEb3.out.below hbd)
  have HEc4:=Lib.hid (HEc.out.below hbd)
  have HXd:=Lib.hid (Blk.below HXc.out hbd qlc)
  have HBd:=Lib.hid (HBc.out.trans (hbd.mono HBc.out.size))
  have qld:=HXd.out.lt
  clear ed hbd r3 HXc HBc HEa HEb3 HEc
  go_wp2_with fail
  refine (get_nilr _ _ _).mono ?_
  rintro e we ⟨ve,rfl,ee,hbe⟩
  have HEe:=Lib.hid ee
  have HEa5:=Lib.hid (HEa4.out.below hbe)
  have HEb5:=Lib.hid (HEb4.out.below hbe)
  have HEc5:=Lib.hid (HEc4.out.below hbe)
  have HEd5:=Lib.hid (HEd.out.below hbe)
  have HXe:=Lib.hid (Blk.below HXd.out hbe qld)
  have HBe:=Lib.hid (HBd.out.trans (hbe.mono HBd.out.size))
  have s2:we.cell? ⟨c + 1,2,none⟩=some (.string x.u):=HXe.out.cell 2
  have qle:=HXe.out.lt
  clear ee hbe HXd HBd HEa4 HEb4 HEc4 HEd
  go_wp2_with fail
  refine (is_chain 5 HEa5.out (by omega) (by omega)).mono ?_
  rintro e wf ⟨rfl,hw⟩
  subst hw
  go_wp2_with fail
  refine (is_chain 5 HEb5.out (by omega) (by omega)).mono ?_
  rintro e wf ⟨rfl,hw⟩
  subst hw
  go_wp2_with fail
  refine (is_chain 5 HEc5.out (by omega) (by omega)).mono ?_
  rintro e wf ⟨rfl,hw⟩
  subst hw
  go_wp2_with fail
  refine (is_chain 5 HEd5.out (by omega) (by omega)).mono ?_
  rintro e wf ⟨rfl,hw⟩
  subst hw
  go_wp2_with fail
  refine (is_chain 5 HEe.out (by omega) (by omega)).mono ?_
  rintro e wf ⟨rfl,hw⟩
  subst hw
  go_wp2_with fail
  refine (down_nil _).mono ?_
  rintro e wf ⟨rfl,hw⟩
  subst hw
  go_wp2_with fail
  refine (ring_nil _).mono ?_
  rintro e wf ⟨rfl,hw⟩
  subst hw
  go_wp2_with fail
  refine (epoch_nil _ _).mono ?_
  rintro e wf ⟨rfl,hw⟩
  subst hw
  go_wp2_with fail
  refine (keys_nilR _ _).mono ?_
  rintro e wf ⟨rfl,hw⟩
  subst hw
  go_wp2_with fail
  refine (applied_nilR _).mono ?_
  rintro e wf ⟨rfl,hw⟩
  subst hw
  go_wp2_with fail
  refine (state_nil _).mono ?_
  rintro e wg ⟨rfl,hbg⟩
  have HR:=Lib.hid (HBe.out.trans (hbg.mono HBe.out.size))
  clear hbg
  have hfd:=state_field wg
  unfold stateZ
  go_wp2_with fail
  go_ret
  exact ⟨rfl,HR.out⟩
 have m1:1≤m.size:=by omega
 have m2:m.size≤64:=by omega
 clear hr
 have hst:=start_len
 go_wp2_with (refine wpList_load_at rfl 23 (.tmp 2) rfl c 0 [.int .i64 id,.int .i64 n,.string m] rfl Tryz.underlying23 rfl (by kernel_rfl) (blk_cells HC6.out) ?_)
 refine (open_w (· = a) (· = b) a b (newD 1000) (newD 1000) id n m w6 HDA6.out HDB6.out (well_new _) (well_new _) (fun i e1 e2=>by omega) (by show _≤1000;omega) h1 h2 h3 m1 m2).mono ?_
 rintro e w7 h7
 obtain ⟨p,own,rfl,_,_,_,_,_,_,hk7⟩:=OpenR.regI h7 HDA6.out (fun i e1 e2=>by have e1:i=a:=e1;have e2:i=b:=e2;omega) (fun i e=>by have e:i=b:=e;have:=HR6.out.lt;omega)
 have HC7:=Lib.hid (Blk.keeps HC6.out hk7 (show ¬ c=b by omega))
 have HX7:=Lib.hid (Blk.keeps HX6.out hk7 (show ¬ c + 1=b by omega))
 have HR7:=Lib.hid (Blk.keeps HR6.out hk7 (show ¬ g6=b by omega))
 have HR57:=Lib.hid (Blk.keeps HR56.out hk7 (show ¬ g5=b by omega))
 have HB7:=Lib.hid (HB6.out.trans (hk7.below (B:=w.heap.size) (fun i hi e=>by have e:i=b:=e;omega) HB6.out.size))
 clear h7 hk7 HC6 HX6 HB6 HH6 HR6 HR56 HDA6 HDB6 hst
 go_wp2_with (refine wpList_load_at rfl 23 (.tmp 2) rfl c 0 [.int .i64 id,.int .i64 n,.string m] rfl Tryz.underlying23 rfl (by kernel_rfl) (blk_cells HC7.out) ?_)
 refine (open24_r g5 g6 id n m h1 h2 h3 m1 m2 w7 HR57.out HR7.out).mono ?_
 rintro e w8 ⟨gx,rfl,hk8⟩
 have HX8:=Lib.hid (Blk.keeps HX7.out hk8 (show ¬ c + 1=g6 by omega))
 have HB8:=Lib.hid (HB7.out.trans (hk8.below (B:=w.heap.size) (fun i hi e=>by have e:i=g6:=e;omega) HB7.out.size))
 clear hk8 HC7 HX7 HB7 HR7 HR57
 go_wp2_with fail
 refine (told_nil _).mono ?_
 rintro e wt ⟨rfl,hw⟩
 subst hw
 have HXt:=HX8
 have HBt:=HB8
 clear HX8 HB8
 have hx:=HXt.out
 rw [← HCS.out] at hx
 have q1:wt.cell? ⟨c + 1,1,none⟩=some (.slice x.A0 x.nl x.c0):=hx.cell 1
 have ql:=hx.lt
 have HX:=Lib.hid hx
 clear hx HXt
 go_wp2_with fail
 refine (write_nil _ _).mono ?_
 rintro e wa ⟨va,rfl,ea,hba⟩
 have HEa:=Lib.hid ea
 have HXa:=Lib.hid (Blk.below HX.out hba ql)
 have HBa:=Lib.hid (HBt.out.trans (hba.mono HBt.out.size))
 have q2:wa.cell? ⟨c + 1,2,none⟩=some (.string x.u):=HXa.out.cell 2
 have q3:wa.cell? ⟨c + 1,3,none⟩=some (.int .i64 x.n):=HXa.out.cell 3
 have qla:=HXa.out.lt
 clear ea hba q1 HX HBt
 go_wp2_with fail
 refine (begin_nil _ _ _).mono ?_
 rintro e wb ⟨vb,rfl,eb,hbb⟩
 have HEb:=Lib.hid eb
 have HEa2:=Lib.hid (HEa.out.below hbb)
 have HXb:=Lib.hid (Blk.below HXa.out hbb qla)
 have HBb:=Lib.hid (HBa.out.trans (hbb.mono HBa.out.size))
 have p3:wb.cell? ⟨c + 1,3,none⟩=some (.int .i64 x.n):=HXb.out.cell 3
 have p4:wb.cell? ⟨c + 1,4,none⟩=some (.int .i64 x.a):=HXb.out.cell 4
 have p12:wb.cell? ⟨c + 1,12,none⟩=some (.string x.tx):=HXb.out.cell 12
 have qlb:=HXb.out.lt
 clear eb hbb q2 q3 HXa HBa HEa
 go_wp2_with fail
 refine (recv_nil _ _ _ _).mono ?_
 rintro e wc ⟨vc,rfl,ec,hbc⟩
 have HEc:=Lib.hid ec
 have HEa:=Lib.hid (HEa2.out.below hbc)
 have HEb3:=Lib.hid (HEb.out.below hbc)
 have HXc:=Lib.hid (Blk.below HXb.out hbc qlb)
 have HBc:=Lib.hid (HBb.out.trans (hbc.mono HBb.out.size))
 have r3:wc.cell? ⟨c + 1,3,none⟩=some (.int .i64 x.n):=HXc.out.cell 3
 have qlc:=HXc.out.lt
 clear ec hbc p3 p4 p12 HXb HBb HEa2 HEb
 go_wp2_with fail
 refine (tick_nil _ _).mono ?_
 rintro e wd ⟨vd,rfl,ed,hbd⟩
 have HEd:=Lib.hid ed
 have HEa4:=Lib.hid (HEa.out.below hbd)
 have HEb4:=Lib.hid (HEb3.out.below hbd)
 have HEc4:=Lib.hid (HEc.out.below hbd)
 have HXd:=Lib.hid (Blk.below HXc.out hbd qlc)
 have HBd:=Lib.hid (HBc.out.trans (hbd.mono HBc.out.size))
 have qld:=HXd.out.lt
 clear ed hbd r3 HXc HBc HEa HEb3 HEc
 go_wp2_with fail
 refine (get_nilr _ _ _).mono ?_
 rintro e we ⟨ve,rfl,ee,hbe⟩
 have HEe:=Lib.hid ee
 have HEa5:=Lib.hid (HEa4.out.below hbe)
 have HEb5:=Lib.hid (HEb4.out.below hbe)
 have HEc5:=Lib.hid (HEc4.out.below hbe)
 have HEd5:=Lib.hid (HEd.out.below hbe)
 have HXe:=Lib.hid (Blk.below HXd.out hbe qld)
 have HBe:=Lib.hid (HBd.out.trans (hbe.mono HBd.out.size))
 have s2:we.cell? ⟨c + 1,2,none⟩=some (.string x.u):=HXe.out.cell 2
 have qle:=HXe.out.lt
 clear ee hbe HXd HBd HEa4 HEb4 HEc4 HEd
 go_wp2_with fail
 refine (is_chain 5 HEa5.out (by omega) (by omega)).mono ?_
 rintro e wf ⟨rfl,hw⟩
 subst hw
 go_wp2_with fail
 refine (is_chain 5 HEb5.out (by omega) (by omega)).mono ?_
 rintro e wf ⟨rfl,hw⟩
 subst hw
 go_wp2_with fail
 refine (is_chain 5 HEc5.out (by omega) (by omega)).mono ?_
 rintro e wf ⟨rfl,hw⟩
 subst hw
 go_wp2_with fail
 refine (is_chain 5 HEd5.out (by omega) (by omega)).mono ?_
 rintro e wf ⟨rfl,hw⟩
 subst hw
 go_wp2_with fail
 refine (is_chain 5 HEe.out (by omega) (by omega)).mono ?_
 rintro e wf ⟨rfl,hw⟩
 subst hw
 go_wp2_with fail
 refine (down_nil _).mono ?_
 rintro e wf ⟨rfl,hw⟩
 subst hw
 go_wp2_with fail
 refine (ring_nil _).mono ?_
 rintro e wf ⟨rfl,hw⟩
 subst hw
 go_wp2_with fail
 refine (epoch_nil _ _).mono ?_
 rintro e wf ⟨rfl,hw⟩
 subst hw
 go_wp2_with fail
 refine (keys_nilR _ _).mono ?_
 rintro e wf ⟨rfl,hw⟩
 subst hw
 go_wp2_with fail
 refine (applied_nilR _).mono ?_
 rintro e wf ⟨rfl,hw⟩
 subst hw
 go_wp2_with fail
 refine (state_nil _).mono ?_
 rintro e wg ⟨rfl,hbg⟩
 have HR:=Lib.hid (HBe.out.trans (hbg.mono HBe.out.size))
 clear hbg
 have hfd:=state_field wg
 unfold stateZ
 go_wp2_with fail
 go_ret
 exact ⟨rfl,HR.out⟩
end Go.Proofs.YtdaphppdmnmicaaGreatDoor.wRegionNone
