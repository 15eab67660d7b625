/- Part of GateRetires. -/
import Derived.Test.YthlahcnglacekaaGreatDoorB04
set_option maxRecDepth 100000
set_option maxHeartbeats 16000000
namespace Go.Proofs.YthlahcnglacekaaGreatDoor
namespace rows
open cmp above merge law
abbrev Nm:=ByteArray × ByteArray
abbrev R:=Nm × C
def ltN (a b:Nm):Bool:=Op.bytesLess a.1.toList b.1.toList || (a.1.toList==b.1.toList&&Op.bytesLess a.2.toList b.2.toList)
def cmpN (a b:Nm):Int:=or2 (cmpS a.1 b.1) (cmpS a.2 b.2)
theorem ba_ext {a b:ByteArray} (h:a.toList=b.toList):a=b:=Go.WideShapes.bytes_inj (by rw [←ByteArray.toList_eq,←ByteArray.toList_eq];exact h)
theorem ltN_iff (a b:Nm):ltN a b=true↔Op.bytesLess a.1.toList b.1.toList=true∨(a.1=b.1∧Op.bytesLess a.2.toList b.2.toList=true):=by
 unfold ltN;simp only [Bool.or_eq_true,Bool.and_eq_true,beq_iff_eq]
 constructor
 ·rintro (h|⟨h1,h2⟩)
  ·exact .inl h
  ·exact .inr ⟨ba_ext h1,h2⟩
 ·rintro (h|⟨h1,h2⟩)
  ·exact .inl h
  ·exact .inr ⟨by rw [h1],h2⟩
theorem ltN_irrefl (a:Nm):ltN a a=false:=by
 rw [Bool.eq_false_iff,ne_eq,ltN_iff];rintro (h|⟨_,h⟩)
 ·rw [bytesLess_irrefl] at h;cases h
 ·rw [bytesLess_irrefl] at h;cases h
theorem ltN_trans {a b c:Nm} (h1:ltN a b=true) (h2:ltN b c=true):ltN a c=true:=by
 rw [ltN_iff] at *
 rcases h1 with h1|⟨e1,h1⟩ <;> rcases h2 with h2|⟨e2,h2⟩
 ·exact .inl (bytesLess_trans _ _ _ h1 h2)
 ·exact .inl (by rw [←e2];exact h1)
 ·exact .inl (by rw [e1];exact h2)
 ·exact .inr ⟨e1.trans e2,bytesLess_trans _ _ _ h1 h2⟩
theorem ltN_tri (a b:Nm):a=b∨ltN a b=true∨ltN b a=true:=by
 obtain ⟨a1,a2⟩:=a;obtain ⟨b1,b2⟩:=b;rw [ltN_iff,ltN_iff]
 rcases bytesLess_tri a1.toList b1.toList with ⟨e,_,_⟩|⟨_,h,_⟩|⟨_,_,h⟩
 ·obtain rfl:=ba_ext e
  rcases bytesLess_tri a2.toList b2.toList with ⟨e,_,_⟩|⟨_,h,_⟩|⟨_,_,h⟩
  ·obtain rfl:=ba_ext e;exact .inl rfl
  ·exact .inr (.inl (.inr ⟨rfl,h⟩))
  ·exact .inr (.inr (.inr ⟨rfl,h⟩))
 ·exact .inr (.inl (.inl h))
 ·exact .inr (.inr (.inl h))
theorem ltN_asymm {a b:Nm} (h:ltN a b=true):ltN b a=false:=by
 rw [Bool.eq_false_iff];intro h';have:=ltN_trans h h';rw [ltN_irrefl] at this;cases this
theorem ltN_ne {a b:Nm} (h:ltN a b=true):a≠b:=by rintro rfl;rw [ltN_irrefl] at h;cases h
theorem cmpN_lt (a b:Nm):decide (cmpN a b<0)=ltN a b:=by
 unfold cmpN or2 ltN
 rcases cmpS_cases a.1 b.1 with ⟨h1,h2⟩|⟨h1,h2,h3⟩|⟨h1,h2,h3⟩
 ·rw [h2,h1];simp
 ·rw [h3,h1,h2]
  rcases cmpS_cases a.2 b.2 with ⟨k1,k2⟩|⟨k1,k2,k3⟩|⟨k1,k2,k3⟩
  ·rw [k2,k1];simp
  ·rw [k3,k1];simp
  ·rw [k3,k1];simp
 ·rw [h3,h1,h2];simp
def Rising (L:List R):Prop:=L.Pairwise (fun a b=>ltN a.1 b.1=true)
def getL (L:List R) (x:Nm):Option C:=(L.find? fun p=>decide (p.1=x)).map (·.2)
def putL:List R→Nm→C→List R
 | [],x,c=>[(x,c)]
 | p :: r,x,c=>if p.1=x then (x,c) :: r else if ltN x p.1=true then (x,c) :: p :: r else p :: putL r x c
theorem rising_nil:Rising []:=List.Pairwise.nil
theorem getL_cons (p:R) (L:List R) (x:Nm):getL (p :: L) x=if p.1=x then some p.2 else getL L x:=by
 unfold getL;rw [List.find?_cons]
 by_cases h:p.1=x <;> simp [h]
theorem getL_mem {L:List R} {x:Nm} {c:C} (h:getL L x=some c):(x,c) ∈ L:=by
 unfold getL at h
 cases hf:L.find? fun p=>decide (p.1=x) with
 | none=>rw [hf] at h;cases h
 | some p =>
  rw [hf] at h;injection h with h;have h1:=List.mem_of_find?_eq_some hf;have h2:=List.find?_some hf;simp at h2
  rw [←h2,←h];exact h1
theorem getL_of {L:List R} (hr:Rising L) {x:Nm} {c:C} (h:(x,c) ∈ L):getL L x=some c:=by
 induction L with
 | nil=>cases h
 | cons p L ih =>
  rw [getL_cons];obtain ⟨h1,h2⟩:=List.pairwise_cons.1 hr
  rcases List.mem_cons.1 h with h|h
  ·subst h;simp
  ·have:=ltN_ne (h1 _ h)
   rw [if_neg this];exact ih h2 h
theorem getL_put (L:List R) (hr:Rising L) (x:Nm) (c:C) (y:Nm):getL (putL L x c) y=if y=x then some c else getL L y:=by
 induction L with
 | nil=>unfold putL;rw [getL_cons];by_cases h:x=y <;> simp [h,eq_comm]
 | cons p L ih =>
  obtain ⟨h1,h2⟩:=List.pairwise_cons.1 hr;unfold putL
  by_cases hpx:p.1=x
  ·rw [if_pos hpx,getL_cons,getL_cons]
   by_cases h:x=y
   ·rw [if_pos h,if_pos h.symm]
   ·rw [if_neg h,if_neg (fun e=>h e.symm),if_neg (by rw [hpx];exact h)]
  ·rw [if_neg hpx]
   by_cases hlt:ltN x p.1=true
   ·rw [if_pos hlt,getL_cons]
    by_cases h:x=y
    ·rw [if_pos h,if_pos h.symm]
    ·rw [if_neg h,if_neg (fun e=>h e.symm)]
   ·rw [if_neg hlt,getL_cons,ih h2,getL_cons]
    by_cases h:y=x
    ·rw [if_pos h,if_pos h,if_neg (by rw [h];exact hpx)]
    ·rw [if_neg h,if_neg h]
theorem mem_put {L:List R} {x:Nm} {c:C} {q:R} (h:q ∈ putL L x c):q=(x,c)∨q ∈ L:=by
 induction L with
 | nil=>unfold putL at h;simp at h;exact .inl h
 | cons p L ih =>
  unfold putL at h
  split at h
  ·rcases List.mem_cons.1 h with h|h
   ·exact .inl h
   ·exact .inr (List.mem_cons_of_mem _ h)
  ·split at h
   ·rcases List.mem_cons.1 h with h|h
    ·exact .inl h
    ·exact .inr h
   ·rcases List.mem_cons.1 h with h|h
    ·exact .inr (by rw [h];exact List.mem_cons_self)
    ·exact (ih h).imp id (List.mem_cons_of_mem _)
theorem rising_put {L:List R} (hr:Rising L) (x:Nm) (c:C):Rising (putL L x c):=by
 induction L with
 | nil=>exact List.pairwise_singleton _ _
 | cons p L ih =>
  obtain ⟨h1,h2⟩:=List.pairwise_cons.1 hr;unfold putL
  by_cases hpx:p.1=x
  ·rw [if_pos hpx]
   exact List.pairwise_cons.2 ⟨fun q hq=>by rw [←hpx];exact h1 q hq,h2⟩
  ·rw [if_neg hpx]
   by_cases hlt:ltN x p.1=true
   ·rw [if_pos hlt]
    refine List.pairwise_cons.2 ⟨fun q hq=>?_,hr⟩
    rcases List.mem_cons.1 hq with rfl|hq
    ·exact hlt
    ·exact ltN_trans hlt (h1 q hq)
   ·rw [if_neg hlt]
    refine List.pairwise_cons.2 ⟨fun q hq=>?_,ih h2⟩
    rcases mem_put hq with rfl|hq
    ·rcases ltN_tri x p.1 with e|e|e
     ·exact absurd e.symm hpx
     ·exact absurd e hlt
     ·exact e
    ·exact h1 q hq
theorem Rising.nodup {L:List R} (hr:Rising L):(L.map (·.1)).Nodup:=by
 induction L with
 | nil=>simp
 | cons p L ih =>
  obtain ⟨h1,h2⟩:=List.pairwise_cons.1 hr;rw [List.map_cons,List.nodup_cons];refine ⟨fun h=>?_,ih h2⟩;obtain ⟨q,hq,e⟩:=List.mem_map.1 h;exact ltN_ne (h1 q hq) e.symm
theorem Rising.nodup' {L:List R} (hr:Rising L):L.Nodup:=by
 have:=hr.nodup;exact List.Pairwise.of_map (·.1) (fun a b h e=>h (by rw [e])) this
theorem Rising.weak {L:List R} (hr:Rising L):L.Pairwise fun (a b:R)=>ltN b.1 a.1=false:=List.Pairwise.imp (fun {a b:R} (h:ltN a.1 b.1=true)=>ltN_asymm h) hr
theorem perm_rising {l L:List R} (hr:Rising L) (hp:l.Perm L) (hs:l.Pairwise fun a b=>ltN b.1 a.1=false):l=L:=by
 refine List.Perm.eq_of_pairwise (le:=fun a b=>ltN b.1 a.1=false) (fun a b ha hb h1 h2=>?_) hs hr.weak hp
 rcases ltN_tri a.1 b.1 with e|e|e
 ·have ha':=getL_of hr (hp.mem_iff.1 ha)
  have hb':=getL_of hr (x:=b.1) (c:=b.2) hb;rw [e,hb'] at ha';injection ha' with e2;exact Prod.ext e e2.symm
 ·rw [h2] at e;cases e
 ·rw [h1] at e;cases e
theorem rising_ext {a b:List R} (ha:Rising a) (hb:Rising b) (h:∀ x,getL a x=getL b x):a=b:=by
 refine perm_rising hb ?_ ha.weak;rw [List.perm_ext_iff_of_nodup ha.nodup' hb.nodup'];rintro ⟨x,c⟩;exact ⟨fun hm=>getL_mem (by rw [←h];exact getL_of ha hm),fun hm=>getL_mem (by rw [h];exact getL_of hb hm)⟩
def takeC (o:Option C) (c:C):C:=match o with|none=>c|some d=>if above c d=true then c else d
def newC (o:Option C) (c:C):Bool:=match o with|none=>true|some d=>above c d
def takeL (L:List R) (x:Nm) (c:C):List R:=putL L x (takeC (getL L x) c)
theorem putL_self {L:List R} (hr:Rising L) {x:Nm} {c:C} (h:getL L x=some c):putL L x c=L :=
 rising_ext (rising_put hr x c) hr fun y=>by
  rw [getL_put L hr]
  by_cases e:y=x
  ·rw [if_pos e,e,h]
  ·rw [if_neg e]
theorem takeL_old {L:List R} (hr:Rising L) {x:Nm} {c:C} (h:newC (getL L x) c=false):takeL L x c=L:=by
 unfold takeL
 cases hg:getL L x with
 | none=>rw [hg] at h;cases h
 | some d =>
  rw [hg] at h;unfold newC at h;simp only at h;show putL L x (if above c d=true then c else d)=L;rw [if_neg (by rw [h];decide)];exact putL_self hr hg
theorem rising_take {L:List R} (hr:Rising L) (x:Nm) (c:C):Rising (takeL L x c):=rising_put hr _ _
theorem getL_take {L:List R} (hr:Rising L) (x:Nm) (c:C) (y:Nm):getL (takeL L x c) y=if y=x then some (takeC (getL L x) c) else getL L y:=getL_put L hr _ _ _
theorem mg_two (d c:C):mg [d,c] 2=if above c d=true then c else d:=by
 show (if 1=0∨above ([d,c].getD 1 zeroC) (mg [d,c] 1)=true then [d,c].getD 1 zeroC else mg [d,c] 1)=_
 have:mg [d,c] 1=d:=by
  show (if 0=0∨_ then [d,c].getD 0 zeroC else _)=d;rw [if_pos (.inl rfl)];rfl
 rw [this];simp
end rows
end Go.Proofs.YthlahcnglacekaaGreatDoor
