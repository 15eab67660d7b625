/- Part of GateRetires. -/
import Derived.Test.YthlahcnglacekaaGreatDoorB06
import Derived.BigQuiet
set_option maxRecDepth 100000
set_option maxHeartbeats 16000000
namespace Go.Proofs.YthlahcnglacekaaGreatDoor
namespace ref
open Go.RowKit base vec
theorem atV_succ (zs:List Int) (k:Nat) (h:k<zs.length):atV zs ((k:Int)+1)=zs.getD k 0:=by
 unfold atV;rw [if_neg (by omega)]
 congr 1
theorem atV_out (zs:List Int) (r:Int) (h:∀ j:Nat,j<zs.length→(j:Int)+1≠r):atV zs r=0:=by
 unfold atV
 by_cases h1:r<1∨(zs.length:Int)<r
 ·rw [if_pos h1]
 ·exact absurd (by omega) (h (r.toNat-1) (by omega))
end ref
namespace made
open Go.RowKit base vec ref
theorem trimN_zero (zs:List Int):∀ n j,trimN zs n≤j→j<n→zs.getD j 0=0
 | 0,j,_,h=>by omega
 | n+1,j,h1,h2=>by
  unfold trimN at h1
  split at h1
  ·next hz =>
   rcases Nat.lt_or_eq_of_le (Nat.le_of_lt_succ h2) with h|h
   ·exact trimN_zero zs n j h1 h
   ·subst h;exact hz
  ·omega
theorem trimN_last (zs:List Int):∀ n,trimN zs n=0∨zs.getD (trimN zs n-1) 0≠0
 | 0=>.inl rfl
 | n+1=>by
  unfold trimN
  split
  ·exact trimN_last zs n
  ·next hz=>right;simpa using hz
theorem enc_snoc (zs:List Int) (z:Int):enc (zs++[z])=enc zs++[.int .i64 z]:=by simp [enc]
end made
namespace with_
open Go.RowKit base vec ref made
theorem owns_low {w:World} {base base':Nat} {e:TypeId} {size n:Nat} {v:Value} {xs:List Value} (h:w.ownsRow base' e size v n xs) (hb:base≤base'):w.ownsRow base e size v n xs :=
 ⟨h.1,h.2.imp id fun ⟨g,cap,cur,e,h1,r⟩=>⟨g,cap,cur,e,Nat.le_trans hb h1,r⟩⟩
theorem atV_getD (zs:List Int) (k:Nat):atV zs ((k:Int)+1)=zs.getD k 0:=by
 by_cases h:k<zs.length
 ·exact atV_succ zs k h
 ·rw [atV_out zs _ (fun j hj=>by omega),List.getD_eq_getElem?_getD,List.getElem?_eq_none (by omega)];rfl
theorem trim_getD (zs:List Int) (k:Nat):(trimL zs).getD k 0=zs.getD k 0:=by
 unfold trimL
 by_cases h:k<trimN zs zs.length
 ·rw [List.getD_eq_getElem?_getD,List.getD_eq_getElem?_getD,List.getElem?_take,if_pos h]
 ·rw [List.getD_eq_getElem?_getD,List.getElem?_take,if_neg h]
  by_cases hk:k<zs.length
  ·exact (trimN_zero zs _ k (by omega) hk).symm
  ·rw [List.getD_eq_getElem?_getD,List.getElem?_eq_none (by omega)]
def slen:Value→Nat
 | .slice _ n _=>n
 | _=>0
def setL (zs:List Int) (k:Nat) (n:Int):List Int:=(zs++List.replicate (k+1-zs.length) 0).set k n
def withL (zs:List Int) (r n:Int):List Int:=if 1≤r∧r≤16 then trimL (setL zs (r.toNat-1) n) else trimL zs
theorem setL_getD (zs:List Int) (k:Nat) (n:Int):(setL zs k n).getD k 0=n:=by
 unfold setL;rw [List.getD_eq_getElem?_getD,List.getElem?_set_self (by simp;omega)];rfl
theorem setL_len (zs:List Int) (k:Nat) (n:Int):(setL zs k n).length=max zs.length (k+1):=by
 unfold setL;simp
 omega
theorem with_at (zs:List Int) (r n:Int) (h:1≤r∧r≤16):atV (withL zs r n) r=n:=by
 obtain ⟨k,rfl⟩:∃ k:Nat,r=(k:Int)+1:=⟨(r-1).toNat,by omega⟩;unfold withL;rw [if_pos h,atV_getD,trim_getD,show ((k:Int)+1).toNat-1=k by omega,setL_getD]
theorem enc_set (zs:List Int) (k:Nat) (n:Int):(enc zs).set k (.int .i64 n)=enc (zs.set k n):=by simp only [enc,List.map_set]
theorem rep_snoc (zs:List Int) (m:Nat):zs++List.replicate (m+1) (0:Int)=(zs++List.replicate m 0)++[0]:=by rw [List.replicate_succ',List.append_assoc]
theorem with_any (A:Option Addr) (len cap:Nat) (zs:List Int) (r n:Int) (w:World) (h:Vec w w.heap.size A len cap zs) (hl:len≤1000) :
  Calls Tryz.prog 145 #[.slice A len cap,.int .i64 r,.int .i64 n] w (OwnL w (withL zs r n)):=by
 obtain ⟨i0,hi,hz0,hz1,hz2⟩:=info_parts int_info;have Hlen:=qH h.1;have H:=qH h;clear h
 by_cases hr:1≤r∧r≤16
 ·have hw:withL zs r n=trimL (setL zs (r.toNat-1) n):=by unfold withL;rw [if_pos hr]
  rw [hw];clear hw;obtain ⟨k,rfl⟩:∃ k:Nat,r=(k:Int)+1:=⟨(r-1).toNat,by omega⟩;rw [show ((k:Int)+1).toNat-1=k by omega];have hk:k<16:=by omega
  clear hr;have hd:decide ((k:Int)+1≤16)=true:=by simp;omega
  generalize hS:trimL (setL zs k n)=S;have HS:=qH hS;clear hS;go_enter Tryz.func145,Tryz.ntmps145;go_wp2_with fail;refine (clone_any _ _ _ _ _ H.out (by omega)).mono ?_;rintro e w1 ⟨v,rfl,hown,hb⟩;have Hown:=qH hown;clear hown;have Hb:=qH hb;clear hb;go_wp2
  go_loopw [7] (fun o wr=>∃ m:Nat,(m=0∨len+m≤k+1)∧wr.ownsRow w.heap.size 3 1 o (len+m) (enc (zs++List.replicate m 0))∧Below w.heap.size w wr) (fun o _=>k+1-slen o)
  case atStart=>exact ⟨0,.inl rfl,by simpa using Hown.out,Hb.out⟩
  case round =>
   clear Hown Hb;obtain ⟨m,hm,hown,hb⟩:=hrel;obtain ⟨oA,oc,rfl⟩:=ownsRow_slice hown;have Hown:=qH hown;clear hown;have Hb:=qH hb;clear hb
   by_cases hlt:len+m<k+1
   ·have hes:=enc_snoc (zs++List.replicate m 0) 0
    rw [←rep_snoc] at hes;have Hes:=qH hes;clear hes
    go_wp2_with (at_builtin;refine wpList_append_new rfl (.tmp 20) (.tmp 21) _ rfl w.heap.size 3 i0 (.int .i64 0) 1 8 Tryz.underlying35 hi hz0 hz1 hz2 rfl (by decide) _ _ _ rfl Hown.out 1 1 [.int .i64 0] rfl rfl (by simp [Value.oneCell']) (by unfold maxLen;omega) (by omega) Hb.out.size ?_;intro v1 w1 hown1 hbw1 _ _;obtain ⟨oA1,oc1,rfl⟩:=ownsRow_slice hown1;have Hown1:=qH hown1;have Hbw1:=qH (Hb.out.trans hbw1);clear hown1 hbw1)
    go_roundw
    case rel=>exact ⟨m+1,.inr (by omega),by rw [Hes.out];exact Hown1.out,Hbw1.out⟩
    case measure=>simp only [slen];omega
   ·have hfin:(zs++List.replicate m 0).set k n=setL zs k n:=by
     unfold setL;rw [show k+1-zs.length=m by rw [Hlen.out];omega]
    obtain ⟨g,c,e,hbg,hgl⟩:=Hown.out.form (by omega);injection e with e1 _ e2;subst e1 e2;have hfr:wr.frozen? ⟨g,k,none⟩=false:=Hown.out.frozenAt k
    have hcell:wr.cell? ⟨g,k,none⟩=some (.int .i64 ((zs++List.replicate m 0).getD k 0)):=by
     rw [Hown.out.cellAt k (by omega)];have hkl:k<(zs++List.replicate m 0).length:=by simp [Hlen.out];omega
     simp only [enc,List.getElem?_map,List.getElem?_eq_getElem hkl,Option.map_some,List.getD_eq_getElem?_getD,Option.getD_some]
    generalize (zs++List.replicate m 0).getD k 0=old at hcell;have hst:=(Hown.out.stored k (.int .i64 n)).1;rw [enc_set,hfin] at hst;have hb2:=Hb.out.setCell (p:=⟨g,k,none⟩) hbg (.int .i64 n);obtain ⟨sA,sc,e,hv⟩:=Vec.of_own hst;injection e with e1 _ e2;subst e1 e2;have hv:=qH hv;have Hst:=qH hst;clear hst hfin;have Hb2:=qH hb2;clear hb2;go_wp2_with fail;refine (trim_any _ _ _ _ _ hv.out (by omega)).mono ?_;rintro e w2 ⟨v,rfl,hown2,hbw2⟩;have Hown2:=qH hown2;clear hown2;have Hbw2:=qH hbw2;clear hbw2;go_wp2;go_ret
    rw [←HS.out];exact ⟨v,rfl,owns_low Hown2.out Hb2.out.size,Hb2.out.trans (Hbw2.out.mono Hb2.out.size)⟩
 ·have hw:withL zs r n=trimL zs:=by unfold withL;rw [if_neg hr]
  rw [hw];clear hw;generalize hS:trimL zs=S;have HS:=qH hS;clear hS
  by_cases h1:1≤r
  ·have hd1:decide (1≤r)=true:=by simpa using h1
   have hd2:decide (r≤16)=false:=by simp;omega
   clear hr;go_enter Tryz.func145,Tryz.ntmps145;go_wp2_with fail;refine (clone_any _ _ _ _ _ H.out (by omega)).mono ?_;rintro e w1 ⟨v,rfl,hown,hb⟩;obtain ⟨oA,oc,rfl,hv⟩:=Vec.of_own hown;have Hv:=qH hv;clear hv hown;have Hb:=qH hb;clear hb;go_wp2_with fail;refine (trim_any _ _ _ _ _ Hv.out (by omega)).mono ?_;rintro e w2 ⟨v,rfl,hown2,hbw2⟩;have Hown2:=qH hown2;clear hown2;have Hbw2:=qH hbw2;clear hbw2;go_wp2;go_ret
   rw [←HS.out];exact ⟨v,rfl,owns_low Hown2.out Hb.out.size,Hb.out.trans (Hbw2.out.mono Hb.out.size)⟩
  ·have hd1:decide (1≤r)=false:=by simpa using h1
   clear hr;go_enter Tryz.func145,Tryz.ntmps145;go_wp2_with fail;refine (clone_any _ _ _ _ _ H.out (by omega)).mono ?_;rintro e w1 ⟨v,rfl,hown,hb⟩;obtain ⟨oA,oc,rfl,hv⟩:=Vec.of_own hown;have Hv:=qH hv;clear hv hown;have Hb:=qH hb;clear hb;go_wp2_with fail;refine (trim_any _ _ _ _ _ Hv.out (by omega)).mono ?_;rintro e w2 ⟨v,rfl,hown2,hbw2⟩;have Hown2:=qH hown2;clear hown2;have Hbw2:=qH hbw2;clear hbw2;go_wp2;go_ret
   rw [←HS.out];exact ⟨v,rfl,owns_low Hown2.out Hb.out.size,Hb.out.trans (Hbw2.out.mono Hb.out.size)⟩
end with_
end Go.Proofs.YthlahcnglacekaaGreatDoor
