/- A part of the proof of RegionBeats. -/
import Derived.Test.YtlingaebpfdhgaaGreatDoorA48
import Derived.Test.YtlingaebpfdhgaaGreatDoorA43
import Derived.Test.YtlingaebpfdhgaaGreatDoorA20
namespace Go.Proofs.YtlingaebpfdhgaaGreatDoor.regn
open Go Go.RowKit base err lease fold disk diskp jrnp
def backX (id n:Nat) (m:ByteArray) (y:FX) (L2:List wire.Wr) (key:Nat) (l:List Part) (da db:Dk):RX:=⟨id,n,m,y.ck,y.ap,[],y.L,y.base.toNat,L2,List.replicate n y.base,y.ep,key,fun _=>0,fun _=>0,y.made,jrnp.genL l,db,da⟩
set_option maxHeartbeats 1600000 in
theorem OpenM.regI {Sa Sb : Nat → Prop} {a b : Nat} {da db : Dk} {id n : Nat} {m : ByteArray} {l : List Part} {y : FX} {L2 : List wire.Wr} {key : Nat} {w w' : World} {e : Ending} (h : OpenM a b id n m l y L2 key w e w') (hda : DiskS w Sa a da) (hdb : DiskS w Sb b db) (hab : ∀ i, Sa i → ¬ Sb i) :
    ∃ p own, e = .returned (.tuple #[.pointer (some ⟨p.r, 0, none⟩), .nilIface]) ∧ RegI w' own p (backX id n m y L2 key l da db) ∧ p.gn = b ∧ p.gs = a ∧ (∀ i, own i = 5 ↔ Sa i) ∧ (∀ i, own i = 4 ↔ Sb i) ∧ (∀ i, own i ≠ 0 → Sa i ∨ Sb i ∨ w.heap.size ≤ i) ∧ Keeps nobody w w' := by
  obtain ⟨r, jn, gl, gc, gi, gf, gr, gs, bs, gt, bt, va, Si, Sq, he, h1, h2, h3, h7, h8, h9, h10, h11, h12, hk, f, u, a1, a2, o1, o2, o3, o4, o5, o6, o7, o8, ⟨n1, n2, n3, n4, n5, n6⟩, o9, o10, o15, o16⟩ := h
  have hsa : ∀ i, Sa i → i < w.heap.size := by obtain ⟨v, hv⟩ := hda; exact hv.small
  have hsb : ∀ i, Sb i → i < w.heap.size := by obtain ⟨v, hv⟩ := hdb; exact hv.small
  have hda' : DiskS w' Sa a da := hda.keeps hk (fun i hi hx => hx)
  have hdb' : DiskS w' Sb b db := hdb.keeps hk (fun i hi hx => hx)
  have si0 := o15 gi h8.inG
  have sq0 := o16 gf (by obtain ⟨_, _, _, _, _, h9⟩ := h9; exact h9.inG)
  have dja : ∀ i, Sb i → ¬ Sa i := fun i hi ha => hab i ha hi
  have hp : ([(1, (· = r)), (2, (· = gl)), (3, (· = jn)), (4, Sb), (5, Sa), (6, (· = gc)), (7, Si), (8, (· = gs)), (9, (· = bs)), (10, Sq), (11, (· = gt)), (12, (· = bt)), (13, (· = gr))] : List (Nat × (Nat → Prop))).Pairwise (fun a b => a.1 ≠ b.1 ∧ ∀ i, a.2 i → ¬ b.2 i) := by
    simp only [List.pairwise_cons, List.forall_mem_cons]
    repeat' apply And.intro
    all_goals first
      | exact List.Pairwise.nil
      | (intro q hq; cases hq; done)
      | (show (_ : Nat) ≠ _; decide)
      | (intro i e1 e2
         try dsimp only at e1 e2
         first
         | omega
         | (have z := hsb i e1; omega) | (have z := hsb i e2; omega)
         | (have z := hsa i e1; omega) | (have z := hsa i e2; omega)
         | (have z := o15 i e1; omega) | (have z := o15 i e2; omega)
         | (have z := o16 i e1; omega) | (have z := o16 i e2; omega)
         | (exact dja i e1 e2)
         | (have z := hsb i e1; have z2 := o15 i e2; omega) | (have z := hsb i e1; have z2 := o16 i e2; omega)
         | (have z := hsa i e1; have z2 := o15 i e2; omega) | (have z := hsa i e1; have z2 := o16 i e2; omega)
         | (have z := o15 i e1; have z2 := o16 i e2; omega))
  generalize hl : ([(1, (· = r)), (2, (· = gl)), (3, (· = jn)), (4, Sb), (5, Sa), (6, (· = gc)), (7, Si), (8, (· = gs)), (9, (· = bs)), (10, Sq), (11, (· = gt)), (12, (· = bt)), (13, (· = gr))] : List (Nat × (Nat → Prop))) = ll at hp
  have h0 : ∀ q ∈ ll, q.1 ≠ 0 := by
    rw [← hl]
    simp only [List.forall_mem_cons]
    repeat' apply And.intro
    all_goals first | (intro q hq; cases hq; done) | (show (_ : Nat) ≠ _; decide)
  have at_ : ∀ {t : Nat} {S : Nat → Prop} (i : Nat), (t, S) ∈ ll → (ownOf ll i = t ↔ S i) := fun i hq => ownOf_at hp h0 hq
  have mem : ∀ q : Nat × (Nat → Prop), q ∈ ([(1, (· = r)), (2, (· = gl)), (3, (· = jn)), (4, Sb), (5, Sa), (6, (· = gc)), (7, Si), (8, (· = gs)), (9, (· = bs)), (10, Sq), (11, (· = gt)), (12, (· = bt)), (13, (· = gr))] : List (Nat × (Nat → Prop))) → q ∈ ll := fun q hq => hl ▸ hq
  have m1 := at_ r (mem (1, (· = r)) (by simp))
  have m2 := at_ gl (mem (2, (· = gl)) (by simp))
  have m3 := at_ jn (mem (3, (· = jn)) (by simp))
  have m4 := fun i => at_ i (mem (4, Sb) (by simp))
  have m5 := fun i => at_ i (mem (5, Sa) (by simp))
  have m6 := at_ gc (mem (6, (· = gc)) (by simp))
  have m7 := fun i => at_ i (mem (7, Si) (by simp))
  have m8 := at_ gs (mem (8, (· = gs)) (by simp))
  have m9 := at_ bs (mem (9, (· = bs)) (by simp))
  have m10 := fun i => at_ i (mem (10, Sq) (by simp))
  have m11 := at_ gt (mem (11, (· = gt)) (by simp))
  have m12 := at_ bt (mem (12, (· = bt)) (by simp))
  have m13 := at_ gr (mem (13, (· = gr)) (by simp))
  have e4 : (fun i => ownOf ll i = 4) = Sb := setOf_eq m4
  have e5 : (fun i => ownOf ll i = 5) = Sa := setOf_eq m5
  have e7 : (fun i => ownOf ll i = 7) = Si := setOf_eq m7
  have e10 : (fun i => ownOf ll i = 10) = Sq := setOf_eq m10
  have hsz := hk.size
  have hall : ∀ i, ownOf ll i ≠ 0 → i < w'.heap.size ∧ (Sa i ∨ Sb i ∨ w.heap.size ≤ i) := fun i hi => by
    obtain ⟨q, hq, h⟩ := ownOf_mem hi
    rw [← hl] at hq
    simp only [List.mem_cons, List.not_mem_nil, or_false] at hq
    have k1 := h1.lt; have k2 := h2.lt; have k3 := h3.lt; have k6 := h7.lt; have k8 := h11.lt; have k9 := h11.ltm; have k11 := h12.1.lt; have k12 := h12.2.lt; have k13 := h10.lt
    rcases hq with rfl | rfl | rfl | rfl | rfl | rfl | rfl | rfl | rfl | rfl | rfl | rfl | rfl <;> dsimp only at h
    · omega
    · omega
    · omega
    · exact ⟨by have := hsb i h; omega, .inr (.inl h)⟩
    · exact ⟨by have := hsa i h; omega, .inl h⟩
    · omega
    · exact ⟨h8.small i h, by have := o15 i h; omega⟩
    · omega
    · omega
    · exact ⟨by obtain ⟨_, _, _, _, _, h9⟩ := h9; exact h9.small i h, by have := o16 i h; omega⟩
    · omega
    · omega
    · omega
  refine ⟨⟨r, jn, b, a, gc, gi, gf, gr, gl, gs, bs, gt, bt, va, .slice none 0 0, .map (some (w.heap.size + 1))⟩, ownOf ll, he, ⟨h1, h2, h3, by rw [e4]; exact hdb', by rw [e5]; exact hda', h7, by rw [e7]; exact h8, h11, by rw [e10]; exact h9, h12, h10, m1.2 rfl, m2.2 rfl, m3.2 rfl, m6.2 rfl, m8.2 rfl, m9.2 rfl, m11.2 rfl, m12.2 rfl, m13.2 rfl, fun i hi => (hall i hi).1⟩, rfl, rfl, m5, m4, fun i hi => (hall i hi).2, hk⟩
end Go.Proofs.YtlingaebpfdhgaaGreatDoor.regn
namespace Go.Proofs.YtlingaebpfdhgaaGreatDoor.regn
open Go Go.RowKit base err wire dep vec with_ jrnp diskp jrn writep wireb wirep store rows merge
def nm11:ByteArray:=⟨#[49,45,49]⟩
def chB:Ch:=⟨nm11,⟨#[]⟩,⟨#[97,110,110]⟩,false,0⟩
def chW:Ch:=⟨nm11,⟨#[97]⟩,⟨#[120]⟩,false,0⟩
def qB:PW:=⟨1,1,1,[],[49,45,49],[],[97,110,110],false,0⟩
def qW:PW:=⟨1,2,2,[1],[49,45,49],[97],[120],false,0⟩
theorem nm_one:quota.str (dec.nm 1 1)=nm11:=by
 unfold dec.nm
 rw [dec.dec_small (by omega)]
 rfl
theorem okB:qB.Ok:=(PW.right_iff _).1 (by decide)
theorem okW:qW.Ok:=(PW.right_iff _).1 (by decide)
theorem mkB:mkW ((1:Nat):Int) chB 0 [] (.slice none 0 0)=pabs qB:=rfl
theorem mkWW:mkW ((1:Nat):Int) chW 1 [1] (.slice none 0 0)=pabs qW:=rfl
def m1:ByteArray:=⟨#[109]⟩
def x0 (da db:Dk):RX:=newX 1 1 m1 da db
def l0:List Part:=startL 1 []
def rs1:List (List UInt8):=[recN 4 1,recW qB]
def l1:List Part:=putL 1 l0 rs1
def x1 (da db:Dk):RX:={ takesX (x0 da db) l0 rs1 [qB] [1] [] with made:=((1:Nat):Int) }
def l2:List Part:=putL 1 l1 [recW qW]
def x2 (da db:Dk):RX:=takesX (x1 da db) l1 [recW qW] [qW] [2] []
theorem rs1_le:∀ s ∈ rs1,s.length≤1000:=by
 intro s hs
 unfold rs1 at hs
 simp only [List.mem_cons,List.not_mem_nil,or_false] at hs
 rcases hs with rfl|rfl
 ·exact recN_len 4 1 (by omega) (by omega)
 ·exact rec_len okB
theorem len1:(dev l1).length≤4726:=by
 have h:=put_few (g:=1) (K:=363) (l:=l0) (rs:=rs1) (by omega) (by omega) start_len (by omega) (by show 2≤10;omega) rs1_le
 have e:rs1.length=2:=rfl
 rw [e] at h
 exact h
theorem len2:(dev l2).length≤6968:=by
 have h:=put_few (g:=1) (K:=4726) (l:=l1) (rs:=[recW qW]) (by omega) (by omega) len1 (by omega) (by show 1≤10;omega) (fun s hs=>by rw [List.mem_singleton.1 hs];exact rec_len okW)
 exact h
theorem ok0 {da db:Dk} (h:Well db []):(x0 da db).Ok l0 :=
 ⟨by show 1≤1;omega,by show 1≤1;omega,by show 1≤16;omega,by show 1≤m1.size;decide,by show m1.size≤64;decide,by show (0:Int)≤0;omega,by show (0:Int)≤_;omega,⟨fun r=>by
  have e:atV (x0 da db).ap r=0:=at_nil' r
  rw [e];omega,rfl⟩,fun y hy=>(by cases hy),by show 0≤_;omega,by show (0:Int)≤0;omega,by show (0:Int)≤_;omega,by show 1≤1;omega,by show 1≤_;omega,well_fresh h⟩
theorem dn1 (da db:Dk):(x1 da db).dn=putD 1 l0 rs1 (freshD db):=rfl
theorem dn2 (da db:Dk):(x2 da db).dn=putD 1 l1 [recW qW] (putD 1 l0 rs1 (freshD db)):=rfl
theorem well1 {db:Dk} (h:Well db []):Well (putD 1 l0 rs1 (freshD db)) l1 :=
 put_ok 1 rs1 (well_fresh h) (by omega) (by omega) (fun s hs=>by have:=rs1_le s hs;omega) (by have h:(dev (putL 1 l0 rs1)).length≤4726:=len1;omega)
theorem well2 {db:Dk} (h:Well db []):Well (putD 1 l1 [recW qW] (putD 1 l0 rs1 (freshD db))) l2 :=
 put_ok 1 [recW qW] (well1 h) (by omega) (by omega) (fun s hs=>by rw [List.mem_singleton.1 hs];have:=rec_len okW;omega) (by have h:(dev (putL 1 l1 [recW qW])).length≤6968:=len2;omega)
theorem at_one (r:Int):atV [1] r=if r=1 then 1 else 0:=by
 unfold atV
 by_cases h:r=1
 ·subst h;rfl
 ·rw [if_neg h,if_pos]
  simp
  omega
theorem ok1 {da db:Dk} (h:Well db []):(x1 da db).Ok l1 :=
 ⟨by show 1≤1;omega,by show 1≤1;omega,by show 1≤16;omega,by show 1≤m1.size;decide,by show m1.size≤64;decide,by show (0:Int)≤max 0 1;omega,by show max 0 (1:Int)≤_;omega,⟨fun r=>by
  have e:atV (x1 da db).ap r=if r=1 then 1 else 0:=at_one r
  rw [e]
  split <;> omega,rfl⟩,fun y hy=>(by cases hy),by show 0≤_;omega,by show (0:Int)≤1;omega,by show (1:Int)≤_;omega,by show 1≤1;omega,by show 1≤_;omega,by rw [dn1];exact well1 h⟩
def rcs:List Rc:=[.made 1,.write qB,.write qW]
theorem rec2:recordsL l2=rcs.map Rc.bytes:=rfl
theorem ord2:ordered l2=true:=rfl
theorem last2:(l2.getD (l2.length - 1) pZ).kind=4:=rfl
def y2:FX:=foldF (fold0 1) rcs
theorem all2:AllF (fold0 1) rcs:=⟨by show 1≤1099511627776;omega,⟨okB,rfl,rfl⟩,⟨okW,rfl,rfl⟩,trivial⟩
theorem okY2:OkY 1 1 y2 [pabs qB,pabs qW] 0:=⟨by show (0:Int)≤max (max 0 1) 2;omega,by show max (max 0 1) (2:Int)≤_;omega,rfl,rfl,rfl,rfl,by omega⟩
theorem sto2:y2.L=takeL (takeL [] (nm11,⟨#[]⟩) ⟨1,1,⟨#[97,110,110]⟩,false,0⟩) (nm11,⟨#[97]⟩) ⟨2,1,⟨#[120]⟩,false,0⟩:=rfl
theorem get_ch:atL y2.L (nm11,⟨#[]⟩)=⟨1,1,⟨#[97,110,110]⟩,false,0⟩:=by
 rw [sto2]
 unfold atL
 rw [getL_take (rising_take rising_nil _ _),if_neg (by decide),getL_take rising_nil,if_pos rfl]
 rfl
theorem get_cd:atL y2.L (nm11,⟨#[97]⟩)=⟨2,1,⟨#[120]⟩,false,0⟩:=by
 rw [sto2]
 unfold atL
 rw [getL_take (rising_take rising_nil _ _),if_pos rfl,getL_take rising_nil,if_neg (by decide)]
 rfl
theorem get_c:getC ⟨#[97]⟩ (atL y2.L (nm11,⟨#[]⟩)) (atL y2.L (nm11,⟨#[97]⟩))=0:=by
 rw [get_ch,get_cd]
 unfold getC
 rw [ByteArray.toList_eq,if_neg (by decide),if_neg (by decide),if_neg (by decide)]
end Go.Proofs.YtlingaebpfdhgaaGreatDoor.regn
namespace Go.Proofs.YtlingaebpfdhgaaGreatDoor.regn
open Go Go.RowKit base err wire dep vec with_ jrnp diskp disk jrn writep wireb wirep store rows merge
def d0:Dk:=newD 20000
set_option maxRecDepth 20000 in
set_option maxHeartbeats 4000000 in
theorem awake_w (w:World) (hT:quota.Tabs w):Calls Tryz.prog 4 #[] w fun e w'=>e=.returned (.bool true)∧Below w.heap.size w w':=by
 have HT:=Lib.hid hT
 clear hT
 go_enter Tryz.func4,Tryz.ntmps4
 go_wp2_with fail
 refine (two_w 20000 (by omega) w).mono ?_
 rintro e w1 ⟨a,b,rfl,hda,hdb,hab1,hab2,hab3,hb1⟩
 have HDA:=Lib.hid (show DiskS w1 (· = a) a d0 from hda)
 have HDB:=Lib.hid (show DiskS w1 (· = b) b d0 from hdb)
 have HB1:=Lib.hid hb1
 have hs1:=hb1.size
 clear hda hdb hb1
 go_wp2_with fail
 refine (open_w (· = a) (· = b) a b d0 d0 1 1 m1 w1 HDA.out HDB.out (well_new _) (well_new _) (fun i e1 e2=>by omega) (by have:=start_len;show _≤20000;omega) (by omega) (by omega) (by omega) (by decide) (by decide)).mono ?_
 rintro e w2 h2
 obtain ⟨p,own,rfl,hr2,hpn,hps,ho5,hot,ho4,hk2⟩:=OpenR.regI h2 HDA.out (fun i e1 e2=>by have e1:i=a:=e1;have e2:i=b:=e2;omega) (fun i e=>by have e:i=b:=e;omega)
 clear h2
 have HR2:=Lib.hid (show RegI w2 own p (x0 d0 d0) from hr2)
 have HO2:=Lib.hid (show ∀ i,own i ≠ 0→w.heap.size≤i from fun i hi=>by
  rcases hot i hi with h|h|h
  ·have h:i=a:=h;omega
  ·have h:i=b:=h;omega
  ·omega)
 have HK2:=Lib.hid (show Keeps (fun i=>w.heap.size≤i) w w2 from (Keeps.of_below HB1.out).trans (hk2.more fun i _ e=>by have e:i=b:=e;omega))
 have hs2:=HK2.out.size
 have HPN:=Lib.hid (show p.gn=b∧p.gs=a from ⟨hpn,hps⟩)
 clear hr2 hpn hps ho5 hot ho4 hk2 HDA HDB HB1
 go_wp2_with fail
 have HT2:=Lib.hid (HT.out.below (HK2.out.below (B:=w.heap.size) (fun i hi e=>by have e:w.heap.size≤i:=e;omega) (Nat.le_refl _)))
 refine (begin_one 1 ⟨#[97,110,110]⟩ 0 l0 HR2.out (ok0 (well_new _)) (by decide) HT2.out (by show 0≤800000;omega) (by show 0≤1000000;omega) (fun q hq=>by cases hq) (by show 0≤1000000;omega) rfl rfl (by decide) (by omega) (by omega) (by rw [quota.opens_eq];show 0 < 32;omega) rfl (by omega)).mono ?_
 rintro e w3 ⟨s,v,v2,own3,rfl,hg3,hk3,h3⟩
 rcases h3 with ⟨rfl,rfl,hs,gi,v7,v8,x',o1,hr3,hmx⟩|⟨_,_,k,c,hno,_⟩
 rotate_left
 ·exfalso
  have hno:NoMake (x0 d0 d0) l0 [recN 4 1] [⟨quota.str (dec.nm 1 1),⟨#[]⟩,⟨#[97,110,110]⟩,false,0⟩] c:=hno
  rw [nm_one] at hno
  exact nomake_one (q:=qB) rfl (by show (0:Int) < _;omega) mkB okB (by show 1≤300;omega) (by have h:(dev l1).length≤4726:=len1;show (dev l1).length≤20000;omega) hno
 obtain rfl:s=nm11:=hs.trans nm_one
 have hx:=made_one (q:=qB) hmx rfl mkB
 subst hx
 have HR3:=Lib.hid (show RegI w3 own3 { p with gi:=gi,va:=v7,vw:=v8 } (x1 d0 d0) from hr3)
 have HO3:=Lib.hid (show ∀ i,own3 i ≠ 0→w.heap.size≤i from fun i hi=>by
  rcases hg3 i with h|h|h
  ·exact HO2.out i (by rw [← h];exact hi)
  ·exact absurd h hi
  ·omega)
 have HK3:=Lib.hid (show Keeps (fun i=>w.heap.size≤i) w w3 from HK2.out.trans (hk3.more fun i _ e=>HO2.out i e.2))
 have hs3:=HK3.out.size
 clear hs hg3 hk3 hr3 hmx HR2 HO2 HK2 HT2
 go_wp2_with fail
 have hb4:=below_new w3 (.cells #[.string nm11,.string ⟨#[97]⟩,.string ⟨#[120]⟩,.bool false,.int .i64 0] 72)
 have HR4:=Lib.hid (HR3.out.below hb4)
 have HC4:=Lib.hid (show Reads (w3.alloc (.cells #[.string nm11,.string ⟨#[97]⟩,.string ⟨#[120]⟩,.bool false,.int .i64 0] 72)) (w3.alloc (.cells #[.string nm11,.string ⟨#[97]⟩,.string ⟨#[120]⟩,.bool false,.int .i64 0] 72)).heap.size 5 (some ⟨w3.heap.size,0,none⟩) 1 ([chW].flatMap Ch.cells) from by
  have:=Reads.newAt w3 #[.string nm11,.string ⟨#[97]⟩,.string ⟨#[120]⟩,.bool false,.int .i64 0] 72 (0,0) (g:=w3.heap.size) (n:=1) (size:=5) (by simp) rfl
  simpa [Ch.cells,chW] using this)
 have HK4:=Lib.hid (HK3.out.trans (Keeps.of_below hb4))
 have hs4:=HK4.out.size
 clear hb4 HR3 HK3
 generalize w3.alloc (.cells #[.string nm11,.string ⟨#[97]⟩,.string ⟨#[120]⟩,.bool false,.int .i64 0] 72)=w4 at *
 refine (write_one (w:=w4) [chW] _ 1 1 l1 HR4.out (ok1 (well_new _)) rfl (by omega) HC4.out (by have h:(x1 d0 d0).Lf.length=1:=rfl;omega) rfl rfl).mono ?_
 rintro e w5 ⟨v,v2,own5,rfl,hg5,hk5,h5⟩
 rcases h5 with ⟨rfl,gi5,v75,v85,x5,o5,hr5,hmx5,hv5⟩|⟨rfl,k,c,hno,_⟩
 rotate_left
 ·exfalso
  exact nomake_one (q:=qW) rfl (by show max 0 (1:Int) < _;omega) mkWW okW (by show 0≤300;omega) (by have h:(dev l2).length≤6968:=len2;show (dev l2).length≤20000;omega) hno
 obtain rfl:=hv5 rfl
 have hx:=made_one (q:=qW) hmx5 rfl mkWW
 subst hx
 have HR5:=Lib.hid (show RegI w5 own5 { { p with gi:=gi,va:=v7,vw:=v8 } with gi:=gi5,va:=v75,vw:=v85 } (x2 d0 d0) from hr5)
 have HO5:=Lib.hid (show ∀ i,own5 i ≠ 0→w.heap.size≤i from fun i hi=>by
  rcases hg5 i with h|h|h
  ·exact HO3.out i (by rw [← h];exact hi)
  ·exact absurd h hi
  ·omega)
 have HK5:=Lib.hid (show Keeps (fun i=>w.heap.size≤i) w w5 from HK4.out.trans (hk5.more fun i _ e=>e.elim (fun e=>HO3.out i e.2) (fun e=>by cases e)))
 have hs5:=HK5.out.size
 have HA5:=Lib.hid (show DiskS w5 (fun i=>own5 i=5) a d0 by rw [← HPN.out.2];exact HR5.out.spare)
 have HD5:=Lib.hid (show DiskS w5 (fun i=>own5 i=4) b (x2 d0 d0).dn by rw [← HPN.out.1];exact HR5.out.now)
 clear hg5 hk5 hr5 hmx5 hv5 HR4 HC4 HK4 HO3 HR5
 go_wp2_with fail
 refine (crash_w HA5.out).mono ?_
 rintro e w6 ⟨rfl,hd6,hk6⟩
 have HA6:=Lib.hid hd6
 have HD6:=Lib.hid (HD5.out.keeps hk6 (fun i hi e=>by have hi:own5 i=4:=hi;have e:own5 i=5:=e;omega))
 have HK6:=Lib.hid (show Keeps (fun i=>w.heap.size≤i) w w6 from HK5.out.trans (hk6.more fun i _ e=>HO5.out i (by rw [show own5 i=5 from e];decide)))
 clear hd6 hk6 HA5 HD5 HK5
 go_wp2_with fail
 refine (crash_w HD6.out).mono ?_
 rintro e w7 ⟨rfl,hd7,hk7⟩
 have HD7:=Lib.hid hd7
 have HA7:=Lib.hid (HA6.out.keeps hk7 (fun i hi e=>by have hi:own5 i=5:=hi;have e:own5 i=4:=e;omega))
 have HK7:=Lib.hid (show Keeps (fun i=>w.heap.size≤i) w w7 from HK6.out.trans (hk7.more fun i _ e=>HO5.out i (by rw [show own5 i=4 from e];decide)))
 clear hd7 hk7 HA6 HD6 HK6
 go_wp2_with fail
 refine (open_m (fun i=>own5 i=5) (fun i=>own5 i=4) a b (crash0 d0) (crash0 (x2 d0 d0).dn) 1 1 m1 l2 rcs [pabs qB,pabs qW] 0 w7 HA7.out HD7.out (well_crash (well_new _)) (well_crash (by rw [dn2];exact well2 (well_new _))) (fun i e1 e2=>by have e1:own5 i=5:=e1;have e2:own5 i=4:=e2;omega)
  ord2 (by show 0 < 8;omega) last2 rec2 (by show 3 < 900000;omega) all2 okY2 (by omega) (by omega) (by omega) (by decide) (by decide)).mono ?_
 rintro e w8 h8
 obtain ⟨p8,own8,rfl,hr8,_,_,_,_,_,hk8⟩:=OpenM.regI h8 HA7.out HD7.out (fun i e1 e2=>by have e1:own5 i=5:=e1;have e2:own5 i=4:=e2;omega)
 clear h8
 have HR8:=Lib.hid (show RegI w8 own8 p8 (backX 1 1 m1 y2 [pabs qB,pabs qW] 0 l2 (crash0 d0) (crash0 (x2 d0 d0).dn)) from hr8)
 have HK8:=Lib.hid (HK7.out.trans (hk8.more fun i _ e=>e.elim))
 clear hr8 hk8 HA7 HD7 HK7
 go_wp2_with fail
 have hg:=get_q (gs:=p8.st) (bs:=p8.sb) (L:=y2.L) nm11 ⟨#[97]⟩ HR8.out.reg rfl rfl HR8.out.sto (by decide) (by decide) get_c
 rw [get_cd] at hg
 refine hg.mono ?_
 rintro e w9 ⟨rfl,hb9⟩
 have HK9:=Lib.hid (HK8.out.trans (Keeps.of_below hb9))
 clear hg hb9
 simp only [nm11]
 go_wp2_with fail
 go_ret
 exact ⟨rfl,HK9.out.below (fun i hi e=>by have e:w.heap.size≤i:=e;omega) (Nat.le_refl _)⟩
end Go.Proofs.YtlingaebpfdhgaaGreatDoor.regn
