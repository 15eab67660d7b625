/- A part of the proof of RegionNone: Law, PlainS. -/
import Derived.Test.YtdaphppdmnmicaaGreatDoorA03
namespace Go.Proofs.YtdaphppdmnmicaaGreatDoor.law
open cmp above merge
theorem bytesLess_tri:∀ a b:List UInt8,(a=b∧Op.bytesLess a b=false∧Op.bytesLess b a=false) ∨ (a ≠ b∧Op.bytesLess a b=true∧Op.bytesLess b a=false) ∨ (a ≠ b∧Op.bytesLess a b=false∧Op.bytesLess b a=true)
 | [],[]=>.inl ⟨rfl,rfl,rfl⟩
 | [],b :: y=>.inr (.inl ⟨by simp,rfl,rfl⟩)
 | a :: x,[]=>.inr (.inr ⟨by simp,rfl,rfl⟩)
 | a :: x,b :: y=>by
  have ih:=bytesLess_tri x y
  simp only [Op.bytesLess,List.cons.injEq,ne_eq]
  by_cases h:a=b
  ·subst h
   have hl:decide (a < a)=false:=by simp
   simp only [hl,Bool.false_or,beq_self_eq_true,Bool.true_and,true_and]
   exact ih
  ·have h1:(a == b)=false:=by simpa using h
   have h2:(b == a)=false:=by simpa using fun e:b=a=>h e.symm
   simp only [h1,h2,h,Bool.false_and,Bool.or_false,false_and,not_false_eq_true,true_and,false_or]
   rcases Nat.lt_trichotomy a.toNat b.toNat with hl|hl|hl
   ·left;simp [UInt8.lt_iff_toNat_lt];omega
   ·exact absurd (UInt8.toNat_inj.1 hl) h
   ·right;simp [UInt8.lt_iff_toNat_lt];omega
theorem bytesLess_trans:∀ a b c:List UInt8,Op.bytesLess a b=true→Op.bytesLess b c=true→Op.bytesLess a c=true
 | _,[],_,h,_=>by simp [Op.bytesLess] at h
 | _,_ :: _,[],_,h=>by simp [Op.bytesLess] at h
 | [],_ :: _,_ :: _,_,_=>rfl
 | a :: x,b :: y,c :: z,h1,h2=>by
  have ih:=bytesLess_trans x y z
  simp only [Op.bytesLess,Bool.or_eq_true,decide_eq_true_eq,Bool.and_eq_true,beq_iff_eq,UInt8.lt_iff_toNat_lt] at h1 h2 ⊢
  rcases h1 with h1|⟨e1,h1⟩ <;> rcases h2 with h2|⟨e2,h2⟩
  ·left;omega
  ·left;subst e2;exact h1
  ·left;subst e1;exact h2
  ·right;exact ⟨e1.trans e2,ih h1 h2⟩
def Ab (a b:C):Prop:=b.t < a.t ∨ (a.t=b.t∧(b.r < a.r ∨ (a.r=b.r∧((a.g=true∧b.g=false) ∨ (a.g=b.g∧(Op.bytesLess b.v.toList a.v.toList=true ∨ (a.v.toList=b.v.toList∧b.l < a.l)))))))
theorem above_iff (a b:C):above a b=true ↔ Ab a b:=by
 unfold above Ab
 by_cases h1:a.t=b.t
 ·by_cases h2:a.r=b.r
  ·by_cases h4:a.g=b.g
   ·have key:∀ x y:Int,(x=y→cmpI x y=0)∧(x < y→cmpI x y=-1)∧(y < x→cmpI x y=1):=by
     intro x y;unfold cmpI;refine ⟨?_,?_,?_⟩ <;> intro h <;> (repeat' split) <;> omega
    rcases bytesLess_tri a.v.toList b.v.toList with ⟨e,l1,l2⟩|⟨e,l1,l2⟩|⟨e,l1,l2⟩
    ·have s1:cmpS a.v b.v=0:=by unfold cmpS;rw [l1,e];simp
     rcases (by omega:a.l=b.l ∨ a.l < b.l ∨ b.l < a.l) with h5|h5|h5
     ·simp [h1,h2,h4,h5,s1,or2,l2,(key b.l b.l).1 rfl]
     ·simp [h1,h2,h4,s1,or2,l2,(key a.l b.l).2.1 h5];omega
     ·simp [h1,h2,h4,s1,or2,l2,(key a.l b.l).2.2 h5];exact ⟨e,h5⟩
    ·have s1:cmpS a.v b.v=-1:=by unfold cmpS;rw [l1];simp
     simp [h1,h2,h4,s1,or2,l2,e]
    ·have s1:cmpS a.v b.v=1:=by unfold cmpS;rw [l1];simp [e]
     simp [h1,h2,h4,s1,or2,l2]
   ·simp only [h1,h2,h4,and_self,if_true,if_false,false_and,or_false,Int.lt_irrefl,false_or,true_and]
    revert h4;cases a.g <;> cases b.g <;> simp
  ·have h2':¬ b.r=a.r:=fun e=>h2 e.symm
   simp [h1,h2,lessS]
 ·have h1':¬ b.t=a.t:=fun e=>h1 e.symm
  simp [h1,h1',lessS]
theorem above_trans {a b c:C} (h1:above a b=true) (h2:above b c=true):above a c=true:=by
 rw [above_iff] at *
 unfold Ab at *
 rcases h1 with h1|⟨e1,h1⟩
 ·rcases h2 with h2|⟨e2,_⟩ <;> (left;omega)
 ·rcases h2 with h2|⟨e2,h2⟩
  ·left;omega
  ·right;refine ⟨e1.trans e2,?_⟩
   rcases h1 with h1|⟨f1,h1⟩
   ·rcases h2 with h2|⟨f2,_⟩ <;> (left;omega)
   ·rcases h2 with h2|⟨f2,h2⟩
    ·left;omega
    ·right;refine ⟨f1.trans f2,?_⟩
     rcases h1 with ⟨g1,g2⟩|⟨g1,h1⟩
     ·rcases h2 with ⟨g3,_⟩|⟨g3,_⟩
      ·rw [g2] at g3;cases g3
      ·left;exact ⟨g1,g3 ▸ g2⟩
     ·rcases h2 with ⟨g3,g4⟩|⟨g3,h2⟩
      ·left;exact ⟨g1.trans g3,g4⟩
      ·right;refine ⟨g1.trans g3,?_⟩
       rcases h1 with h1|⟨e3,h1⟩
       ·rcases h2 with h2|⟨e4,h2⟩
        ·left;exact bytesLess_trans _ _ _ h2 h1
        ·left;rw [← e4];exact h1
       ·rcases h2 with h2|⟨e4,h2⟩
        ·left;rw [e3];exact h2
        ·right;exact ⟨e3.trans e4,by omega⟩
theorem C.ext' {a b:C} (h1:a.t=b.t) (h2:a.r=b.r) (h3:a.v.toList=b.v.toList) (h4:a.g=b.g) (h5:a.l=b.l):a=b:=by
 obtain ⟨t,r,v,g,l⟩:=a
 obtain ⟨t',r',v',g',l'⟩:=b
 dsimp only at *
 have:v=v':=Go.WideShapes.bytes_inj (by rw [← ByteArray.toList_eq,← ByteArray.toList_eq];exact h3)
 subst h1 h2 this h4 h5
 rfl
theorem above_irrefl (a:C):above a a=false:=by
 rw [Bool.eq_false_iff,ne_eq,above_iff]
 unfold Ab
 have:=bytesLess_irrefl a.v.toList
 rintro (h|⟨_,h|⟨_,⟨h1,h2⟩|⟨_,h|⟨_,h⟩⟩⟩⟩)
 ·omega
 ·omega
 ·rw [h1] at h2;cases h2
 ·rw [this] at h;cases h
 ·omega
end Go.Proofs.YtdaphppdmnmicaaGreatDoor.law
namespace Go.Proofs.YtdaphppdmnmicaaGreatDoor.rows
open cmp above merge law
abbrev Nm:=ByteArray × ByteArray
abbrev R:=Nm × C
def ltN (a b:Nm):Bool:=Op.bytesLess a.1.toList b.1.toList || (a.1.toList == b.1.toList && Op.bytesLess a.2.toList b.2.toList)
def cmpN (a b:Nm):Int:=or2 (cmpS a.1 b.1) (cmpS a.2 b.2)
theorem ba_ext {a b:ByteArray} (h:a.toList=b.toList):a=b:=Go.WideShapes.bytes_inj (by rw [← ByteArray.toList_eq,← ByteArray.toList_eq];exact h)
theorem ltN_iff (a b:Nm):ltN a b=true ↔ Op.bytesLess a.1.toList b.1.toList=true ∨ (a.1=b.1∧Op.bytesLess a.2.toList b.2.toList=true):=by
 unfold ltN
 simp only [Bool.or_eq_true,Bool.and_eq_true,beq_iff_eq]
 constructor
 ·rintro (h|⟨h1,h2⟩)
  ·exact .inl h
  ·exact .inr ⟨ba_ext h1,h2⟩
 ·rintro (h|⟨h1,h2⟩)
  ·exact .inl h
  ·exact .inr ⟨by rw [h1],h2⟩
theorem ltN_irrefl (a:Nm):ltN a a=false:=by
 rw [Bool.eq_false_iff,ne_eq,ltN_iff]
 rintro (h|⟨_,h⟩)
 ·rw [bytesLess_irrefl] at h;cases h
 ·rw [bytesLess_irrefl] at h;cases h
theorem ltN_trans {a b c:Nm} (h1:ltN a b=true) (h2:ltN b c=true):ltN a c=true:=by
 rw [ltN_iff] at *
 rcases h1 with h1|⟨e1,h1⟩ <;> rcases h2 with h2|⟨e2,h2⟩
 ·exact .inl (bytesLess_trans _ _ _ h1 h2)
 ·exact .inl (by rw [← e2];exact h1)
 ·exact .inl (by rw [e1];exact h2)
 ·exact .inr ⟨e1.trans e2,bytesLess_trans _ _ _ h1 h2⟩
theorem ltN_tri (a b:Nm):a=b ∨ ltN a b=true ∨ ltN b a=true:=by
 obtain ⟨a1,a2⟩:=a
 obtain ⟨b1,b2⟩:=b
 rw [ltN_iff,ltN_iff]
 rcases bytesLess_tri a1.toList b1.toList with ⟨e,_,_⟩|⟨_,h,_⟩|⟨_,_,h⟩
 ·obtain rfl:=ba_ext e
  rcases bytesLess_tri a2.toList b2.toList with ⟨e,_,_⟩|⟨_,h,_⟩|⟨_,_,h⟩
  ·obtain rfl:=ba_ext e;exact .inl rfl
  ·exact .inr (.inl (.inr ⟨rfl,h⟩))
  ·exact .inr (.inr (.inr ⟨rfl,h⟩))
 ·exact .inr (.inl (.inl h))
 ·exact .inr (.inr (.inl h))
theorem ltN_asymm {a b:Nm} (h:ltN a b=true):ltN b a=false:=by
 rw [Bool.eq_false_iff]
 intro h'
 have:=ltN_trans h h'
 rw [ltN_irrefl] at this;cases this
theorem ltN_ne {a b:Nm} (h:ltN a b=true):a ≠ b:=by rintro rfl;rw [ltN_irrefl] at h;cases h
theorem cmpN_lt (a b:Nm):decide (cmpN a b < 0)=ltN a b:=by
 unfold cmpN or2 ltN
 rcases cmpS_cases a.1 b.1 with ⟨h1,h2⟩|⟨h1,h2,h3⟩|⟨h1,h2,h3⟩
 ·rw [h2,h1];simp
 ·rw [h3,h1,h2]
  rcases cmpS_cases a.2 b.2 with ⟨k1,k2⟩|⟨k1,k2,k3⟩|⟨k1,k2,k3⟩
  ·rw [k2,k1];simp
  ·rw [k3,k1];simp
  ·rw [k3,k1];simp
 ·rw [h3,h1,h2];simp
def Rising (L:List R):Prop:=L.Pairwise (fun a b=>ltN a.1 b.1=true)
def getL (L:List R) (x:Nm):Option C:=(L.find? fun p=>decide (p.1=x)).map (·.2)
def putL:List R→Nm→C→List R
 | [],x,c=>[(x,c)]
 | p :: r,x,c=>if p.1=x then (x,c) :: r else if ltN x p.1=true then (x,c) :: p :: r else p :: putL r x c
theorem rising_nil:Rising []:=List.Pairwise.nil
theorem getL_cons (p:R) (L:List R) (x:Nm):getL (p :: L) x=if p.1=x then some p.2 else getL L x:=by
 unfold getL
 rw [List.find?_cons]
 by_cases h:p.1=x <;> simp [h]
theorem getL_none {L:List R} {x:Nm}:getL L x=none ↔ ∀ p ∈ L,p.1 ≠ x:=by
 unfold getL
 simp
theorem getL_mem {L:List R} {x:Nm} {c:C} (h:getL L x=some c):(x,c) ∈ L:=by
 unfold getL at h
 cases hf:L.find? fun p=>decide (p.1=x) with
 | none=>rw [hf] at h;cases h
 | some p =>
  rw [hf] at h
  injection h with h
  have h1:=List.mem_of_find?_eq_some hf
  have h2:=List.find?_some hf
  simp at h2
  rw [← h2,← h];exact h1
theorem getL_of {L:List R} (hr:Rising L) {x:Nm} {c:C} (h:(x,c) ∈ L):getL L x=some c:=by
 induction L with
 | nil=>cases h
 | cons p L ih =>
  rw [getL_cons]
  obtain ⟨h1,h2⟩:=List.pairwise_cons.1 hr
  rcases List.mem_cons.1 h with h|h
  ·subst h;simp
  ·have:=ltN_ne (h1 _ h)
   rw [if_neg this]
   exact ih h2 h
theorem getL_put (L:List R) (hr:Rising L) (x:Nm) (c:C) (y:Nm):getL (putL L x c) y=if y=x then some c else getL L y:=by
 induction L with
 | nil=>unfold putL;rw [getL_cons];by_cases h:x=y <;> simp [h,eq_comm]
 | cons p L ih =>
  obtain ⟨h1,h2⟩:=List.pairwise_cons.1 hr
  unfold putL
  by_cases hpx:p.1=x
  ·rw [if_pos hpx,getL_cons,getL_cons]
   by_cases h:x=y
   ·rw [if_pos h,if_pos h.symm]
   ·rw [if_neg h,if_neg (fun e=>h e.symm),if_neg (by rw [hpx];exact h)]
  ·rw [if_neg hpx]
   by_cases hlt:ltN x p.1=true
   ·rw [if_pos hlt,getL_cons]
    by_cases h:x=y
    ·rw [if_pos h,if_pos h.symm]
    ·rw [if_neg h,if_neg (fun e=>h e.symm)]
   ·rw [if_neg hlt,getL_cons,ih h2,getL_cons]
    by_cases h:y=x
    ·rw [if_pos h,if_pos h,if_neg (by rw [h];exact hpx)]
    ·rw [if_neg h,if_neg h]
theorem mem_put {L:List R} {x:Nm} {c:C} {q:R} (h:q ∈ putL L x c):q=(x,c) ∨ q ∈ L:=by
 induction L with
 | nil=>unfold putL at h;simp at h;exact .inl h
 | cons p L ih =>
  unfold putL at h
  split at h
  ·rcases List.mem_cons.1 h with h|h
   ·exact .inl h
   ·exact .inr (List.mem_cons_of_mem _ h)
  ·split at h
   ·rcases List.mem_cons.1 h with h|h
    ·exact .inl h
    ·exact .inr h
   ·rcases List.mem_cons.1 h with h|h
    ·exact .inr (by rw [h];exact List.mem_cons_self)
    ·exact (ih h).imp id (List.mem_cons_of_mem _)
theorem rising_put {L:List R} (hr:Rising L) (x:Nm) (c:C):Rising (putL L x c):=by
 induction L with
 | nil=>exact List.pairwise_singleton _ _
 | cons p L ih =>
  obtain ⟨h1,h2⟩:=List.pairwise_cons.1 hr
  unfold putL
  by_cases hpx:p.1=x
  ·rw [if_pos hpx]
   exact List.pairwise_cons.2 ⟨fun q hq=>by rw [← hpx];exact h1 q hq,h2⟩
  ·rw [if_neg hpx]
   by_cases hlt:ltN x p.1=true
   ·rw [if_pos hlt]
    refine List.pairwise_cons.2 ⟨fun q hq=>?_,hr⟩
    rcases List.mem_cons.1 hq with rfl|hq
    ·exact hlt
    ·exact ltN_trans hlt (h1 q hq)
   ·rw [if_neg hlt]
    refine List.pairwise_cons.2 ⟨fun q hq=>?_,ih h2⟩
    rcases mem_put hq with rfl|hq
    ·rcases ltN_tri x p.1 with e|e|e
     ·exact absurd e.symm hpx
     ·exact absurd e hlt
     ·exact e
    ·exact h1 q hq
theorem Rising.filter {L:List R} (hr:Rising L) (p:R→Bool):Rising (L.filter p):=List.Pairwise.filter p hr
theorem Rising.nodup {L:List R} (hr:Rising L):(L.map (·.1)).Nodup:=by
 induction L with
 | nil=>simp
 | cons p L ih =>
  obtain ⟨h1,h2⟩:=List.pairwise_cons.1 hr
  rw [List.map_cons,List.nodup_cons]
  refine ⟨fun h=>?_,ih h2⟩
  obtain ⟨q,hq,e⟩:=List.mem_map.1 h
  exact ltN_ne (h1 q hq) e.symm
theorem Rising.nodup' {L:List R} (hr:Rising L):L.Nodup:=by
 have:=hr.nodup
 exact List.Pairwise.of_map (·.1) (fun a b h e=>h (by rw [e])) this
theorem Rising.weak {L:List R} (hr:Rising L):L.Pairwise fun (a b:R)=>ltN b.1 a.1=false:=List.Pairwise.imp (fun {a b:R} (h:ltN a.1 b.1=true)=>ltN_asymm h) hr
theorem perm_rising {l L:List R} (hr:Rising L) (hp:l.Perm L) (hs:l.Pairwise fun a b=>ltN b.1 a.1=false):l=L:=by
 refine List.Perm.eq_of_pairwise (le:=fun a b=>ltN b.1 a.1=false) (fun a b ha hb h1 h2=>?_) hs hr.weak hp
 rcases ltN_tri a.1 b.1 with e|e|e
 ·have ha':=getL_of hr (hp.mem_iff.1 ha)
  have hb':=getL_of hr (x:=b.1) (c:=b.2) hb
  rw [e,hb'] at ha'
  injection ha' with e2
  exact Prod.ext e e2.symm
 ·rw [h2] at e;cases e
 ·rw [h1] at e;cases e
theorem rising_ext {a b:List R} (ha:Rising a) (hb:Rising b) (h:∀ x,getL a x=getL b x):a=b:=by
 refine perm_rising hb ?_ ha.weak
 rw [List.perm_ext_iff_of_nodup ha.nodup' hb.nodup']
 rintro ⟨x,c⟩
 exact ⟨fun hm=>getL_mem (by rw [← h];exact getL_of ha hm),fun hm=>getL_mem (by rw [h];exact getL_of hb hm)⟩
theorem getL_filter {L:List R} (hr:Rising L) (p:R→Bool) (x:Nm):getL (L.filter p) x=(getL L x).bind fun c=>if p (x,c) then some c else none:=by
 cases hg:getL L x with
 | none =>
  rw [getL_none] at hg
  simp only [Option.bind_none]
  exact getL_none.2 fun q hq=>hg q (List.mem_filter.1 hq).1
 | some c =>
  simp only [Option.bind_some]
  by_cases hp:p (x,c)=true
  ·rw [if_pos hp]
   exact getL_of (hr.filter p) (List.mem_filter.2 ⟨getL_mem hg,hp⟩)
  ·rw [if_neg hp]
   refine getL_none.2 fun q hq e=>?_
   obtain ⟨h1,h2⟩:=List.mem_filter.1 hq
   obtain ⟨qx,qc⟩:=q
   simp only at e
   subst e
   rw [getL_of hr h1] at hg
   injection hg with hg
   subst hg
   exact hp h2
def takeC (o:Option C) (c:C):C:=match o with|none=>c|some d=>if above c d=true then c else d
def newC (o:Option C) (c:C):Bool:=match o with|none=>true|some d=>above c d
def takeL (L:List R) (x:Nm) (c:C):List R:=putL L x (takeC (getL L x) c)
theorem putL_self {L:List R} (hr:Rising L) {x:Nm} {c:C} (h:getL L x=some c):putL L x c=L :=
 rising_ext (rising_put hr x c) hr fun y=>by
  rw [getL_put L hr]
  by_cases e:y=x
  ·rw [if_pos e,e,h]
  ·rw [if_neg e]
theorem takeL_old {L:List R} (hr:Rising L) {x:Nm} {c:C} (h:newC (getL L x) c=false):takeL L x c=L:=by
 unfold takeL
 cases hg:getL L x with
 | none=>rw [hg] at h;cases h
 | some d =>
  rw [hg] at h
  unfold newC at h
  simp only at h
  show putL L x (if above c d=true then c else d)=L
  rw [if_neg (by rw [h];decide)]
  exact putL_self hr hg
theorem rising_take {L:List R} (hr:Rising L) (x:Nm) (c:C):Rising (takeL L x c):=rising_put hr _ _
theorem getL_take {L:List R} (hr:Rising L) (x:Nm) (c:C) (y:Nm):getL (takeL L x c) y=if y=x then some (takeC (getL L x) c) else getL L y:=getL_put L hr _ _ _
theorem mg_two (d c:C):mg [d,c] 2=if above c d=true then c else d:=by
 show (if 1=0 ∨ above ([d,c].getD 1 zeroC) (mg [d,c] 1)=true then [d,c].getD 1 zeroC else mg [d,c] 1)=_
 have:mg [d,c] 1=d:=by
  show (if 0=0 ∨ _ then [d,c].getD 0 zeroC else _)=d
  rw [if_pos (.inl rfl)];rfl
 rw [this]
 simp
end Go.Proofs.YtdaphppdmnmicaaGreatDoor.rows
