/- Part of GateRetires. -/
import Derived.Lib.ItoaNum
import Derived.Lib.IndexMore
set_option maxRecDepth 100000
set_option maxHeartbeats 16000000
namespace Go.Proofs.YthlahcnglacekaaGreatDoor
namespace dec
open Go.Lib
def val (l:List UInt8):Nat:=l.foldl (fun a c=>a*10+(c.toNat-48)) 0
def digit (c:UInt8):Bool:=decide (48≤c.toNat)&&decide (c.toNat≤57)
theorem head_app {p q:List UInt8} (h:p≠[]):(p++q).head?=p.head?:=by
 cases p with
 | nil=>exact absurd rfl h
 | cons x p=>rfl
structure Canon (l:List UInt8):Prop where
 ne:l≠[]
 dig:∀ c ∈ l,digit c=true
 hd:l.head?≠some 48
theorem val_snoc (l:List UInt8) (c:UInt8):val (l++[c])=val l*10+(c.toNat-48):=by simp [val,List.foldl_append]
theorem toNat_dig {d:Nat} (h:d<10):(UInt8.ofNat (48+d)).toNat=48+d:=by
 rw [UInt8.toNat_ofNat'];omega
theorem dec_small {u:Nat} (h:u<10):decDigits u=[UInt8.ofNat (48+u)]:=by rw [decDigits,dif_pos h]
theorem dec_big {u:Nat} (h:¬ u<10):decDigits u=decDigits (u / 10)++[UInt8.ofNat (48+u % 10)]:=by rw [decDigits,dif_neg h]
theorem dec_val (u:Nat):val (decDigits u)=u:=by
 induction u using Nat.strongRecOn with
 | _ u ih =>
  by_cases h:u<10
  ·rw [dec_small h]
   show 0*10+((UInt8.ofNat (48+u)).toNat-48)=u;rw [toNat_dig h];omega
  ·rw [dec_big h,val_snoc,ih _ (by omega),toNat_dig (by omega)]
   omega
theorem dec_dig (u:Nat):∀ c ∈ decDigits u,digit c=true:=by
 have key:∀ d,d<10→digit (UInt8.ofNat (48+d))=true:=fun d hd=>by
  unfold digit;rw [toNat_dig hd];simp;omega
 induction u using Nat.strongRecOn with
 | _ u ih =>
  intro c hc
  by_cases h:u<10
  ·rw [dec_small h,List.mem_singleton] at hc
   rw [hc];exact key u h
  ·rw [dec_big h,List.mem_append,List.mem_singleton] at hc
   rcases hc with hc|hc
   ·exact ih _ (by omega) c hc
   ·rw [hc];exact key _ (by omega)
theorem dec_ne (u:Nat):decDigits u≠[]:=by
 by_cases h:u<10
 ·rw [dec_small h];simp
 ·rw [dec_big h];simp
theorem dec_hd (u:Nat):1≤u→(decDigits u).head?≠some 48:=by
 induction u using Nat.strongRecOn with
 | _ u ih =>
  intro h1
  by_cases h:u<10
  ·rw [dec_small h]
   intro e;have e2:UInt8.ofNat (48+u)=48:=by simpa using e
   have:=toNat_dig h;rw [e2] at this;have h48:(48:UInt8).toNat=48:=rfl;omega
  ·rw [dec_big h,head_app (dec_ne _)]
   exact ih _ (by omega) (by omega)
theorem dec_canon:∀ (n:Nat) (l:List UInt8),l.length=n→Canon l→l=decDigits (val l)∧1≤val l:=by
 intro n
 induction n with
 | zero=>intro l hl h;exact absurd (List.length_eq_zero_iff.1 hl) h.ne
 | succ n ih =>
  intro l hl h;obtain ⟨p,c,rfl⟩:∃ p c,l=p++[c]:=⟨l.dropLast,l.getLast h.ne,(List.dropLast_concat_getLast h.ne).symm⟩;have hc:=h.dig c (by simp);unfold digit at hc;simp only [Bool.and_eq_true,decide_eq_true_eq] at hc
  have hcc:∀ d,d=c.toNat-48→UInt8.ofNat (48+d)=c:=fun d hd=>by
   have:48+d=c.toNat:=by omega
   rw [this];exact UInt8.ofNat_toNat
  rw [val_snoc]
  by_cases hp:p=[]
  ·subst hp
   have hne:c≠48:=fun e=>h.hd (by simp [e]);have hn48:c.toNat≠48:=fun e=>hne (by rw [←UInt8.ofNat_toNat (x:=c),e];rfl);have e0:val []=0:=rfl;rw [e0,Nat.zero_mul,Nat.zero_add,dec_small (by omega),hcc _ rfl];exact ⟨rfl,by omega⟩
  ·have hcp:Canon p:=⟨hp,fun d hd=>h.dig d (by simp [hd]),fun e=>h.hd (by rw [head_app hp];exact e)⟩
   obtain ⟨e1,e2⟩:=ih p (by simpa using hl) hcp;have hbig:¬ (val p*10+(c.toNat-48)<10):=by omega
   rw [dec_big hbig];have d1:(val p*10+(c.toNat-48)) / 10=val p:=by omega
   have d2:(val p*10+(c.toNat-48)) % 10=c.toNat-48:=by omega
   rw [d1,d2,hcc _ rfl,←e1];exact ⟨rfl,by omega⟩
theorem canon_eq {l:List UInt8} (h:Canon l):l=decDigits (val l):=(dec_canon _ l rfl h).1
theorem canon_pos {l:List UInt8} (h:Canon l):1≤val l:=(dec_canon _ l rfl h).2
theorem fold_le (l:List UInt8):∀ a:Nat,a≤l.foldl (fun a c=>a*10+(c.toNat-48)) a:=by
 induction l with
 | nil=>intro a;exact Nat.le_refl _
 | cons c l ih=>intro a;exact Nat.le_trans (show a≤a*10+(c.toNat-48) by omega) (ih _)
theorem val_le (p q:List UInt8):val p≤val (p++q):=by
 unfold val;rw [List.foldl_append];exact fold_le q _
def NumOf (l:List UInt8) (most:Nat) (R:Nat):Prop:=(R=0∧∀ v,1≤v→v≤most→l≠decDigits v)∨(1≤R∧R≤most∧l=decDigits R)
theorem no_dash (u:Nat):∀ c ∈ decDigits u,c≠45:=fun c hc e=>by
 have:=dec_dig u c hc;rw [e] at this;exact absurd this (by decide)
def nm (r n:Nat):List UInt8:=decDigits r++[45]++decDigits n
theorem split_dash:∀ (a b c d:List UInt8),(∀ x ∈ a,x≠45)→(∀ x ∈ c,x≠45)→a++45 :: b=c++45 :: d→a=c∧b=d
 | [],b,[],d,_,_,h=>⟨rfl,by simpa using h⟩
 | [],b,y :: c,d,_,hc,h=>by
  simp at h
  exact absurd h.1.symm (hc y (by simp))
 | x :: a,b,[],d,ha,_,h=>by
  simp at h
  exact absurd h.1 (ha x (by simp))
 | x :: a,b,y :: c,d,ha,hc,h=>by
  simp only [List.cons_append,List.cons.injEq] at h;obtain ⟨h1,h2⟩:=split_dash a b c d (fun z hz=>ha z (by simp [hz])) (fun z hz=>hc z (by simp [hz])) h.2;exact ⟨by rw [h.1,h1],h2⟩
theorem nm_eq (r n:Nat):nm r n=decDigits r++45 :: decDigits n:=by simp [nm]
theorem dec_inj {a b:Nat} (h:decDigits a=decDigits b):a=b:=by rw [←dec_val a,h,dec_val]
theorem nm_inj {r n r' n':Nat} (h:nm r n=nm r' n'):r=r'∧n=n':=by
 rw [nm_eq,nm_eq] at h;obtain ⟨h1,h2⟩:=split_dash _ _ _ _ (no_dash r) (no_dash r') h;exact ⟨dec_inj h1,dec_inj h2⟩
theorem dec_len_le:∀ (k u:Nat),u<10 ^ (k+1)→(decDigits u).length≤k+1
 | 0,u,h=>by rw [dec_small (by simpa using h)];simp
 | k+1,u,h=>by
  by_cases hs:u<10
  ·rw [dec_small hs];simp
  ·rw [dec_big hs]
   have:=dec_len_le k (u / 10) (by rw [Nat.pow_succ] at h;omega);simp
   omega
end dec
end Go.Proofs.YthlahcnglacekaaGreatDoor
