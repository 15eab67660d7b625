/- Part of GateRetires. -/
import Derived.Test.YthlahcnglacekaaGreatDoorB01
import Derived.WalkSpells
set_option maxRecDepth 100000
set_option maxHeartbeats 16000000
namespace Go.Proofs.YthlahcnglacekaaGreatDoor
namespace vec
open Go.RowKit base
theorem int_info:(Tryz.prog.info? 3).map (fun i=>(i.zero,i.size,i.bytes))=some (some (.int .i64 0),1,8):=by kernel_rfl
def enc (zs:List Int):List Value:=zs.map (Value.int .i64)
theorem enc_one (zs:List Int):∀ u ∈ enc zs,u.oneCell'=true:=by simp [enc,Value.oneCell']
def atV (zs:List Int) (r:Int):Int:=if r<1∨(zs.length:Int)<r then 0 else zs.getD (r.toNat-1) 0
def Vec (w:World) (B:Nat) (A:Option Addr) (len cap:Nat) (zs:List Int):Prop:=zs.length=len∧len≤cap∧cap≤maxLen∧Reads w B 1 A len (enc zs)∧(A=none→len=0∧cap=0)
theorem Vec.cell {w:World} {B b off len cap:Nat} {zs:List Int} {k:Nat} (h:Vec w B (some ⟨b,off,none⟩) len cap zs) (hk:k<len):w.cell? ⟨b,off+k,none⟩=some (.int .i64 (zs.getD k 0)):=by
 obtain ⟨h1,_,_,h4,_⟩:=h;obtain ⟨b',off',e,_,hc⟩:=h4.2 (by omega);injection e with e;injection e with e1 e2 _;subst e1 e2;exact Reads.int_at hc (by omega)
theorem Vec.at_some {w:World} {B len cap:Nat} {A:Option Addr} {zs:List Int} (h:Vec w B A len cap zs) (hl:0<len):∃ b off,A=some ⟨b,off,none⟩∧b<B:=by
 obtain ⟨b,off,e,hb,_⟩:=h.2.2.2.1.2 hl;exact ⟨b,off,e,hb⟩
theorem Vec.below {w w':World} {B len cap:Nat} {A:Option Addr} {zs:List Int} (h:Vec w B A len cap zs) (hb:Below B w w'):Vec w' B A len cap zs:=⟨h.1,h.2.1,h.2.2.1,h.2.2.2.1.below hb,h.2.2.2.2⟩
theorem Vec.more {w:World} {B B' len cap:Nat} {A:Option Addr} {zs:List Int} (h:Vec w B A len cap zs) (hb:B≤B'):Vec w B' A len cap zs:=⟨h.1,h.2.1,h.2.2.1,h.2.2.2.1.more hb,h.2.2.2.2⟩
theorem Vec.of_own {w:World} {base n:Nat} {v:Value} {zs:List Int} (h:w.ownsRow base 3 1 v n (enc zs)):∃ A c,v=.slice A n c∧Vec w w.heap.size A n c zs:=by
 have hl:zs.length=n:=by have:=h.1;simpa [enc] using this
 rcases h.2 with ⟨rfl,rfl⟩|⟨g,cap,cur,rfl,_,_,h1,h2,_⟩
 ·exact ⟨none,0,rfl,hl,Nat.le_refl _,Nat.zero_le _,by have:=Reads.of_own h;exact this,fun _=>⟨rfl,rfl⟩⟩
 ·exact ⟨_,cap,rfl,hl,h1,h2,Reads.of_own h,fun e=>by cases e⟩
theorem at_any (A:Option Addr) (len cap:Nat) (zs:List Int) (r:Int) (w:World) (B:Nat) (h:Vec w B A len cap zs) (hr:-9223372036854775808≤r∧r≤9223372036854775807) :
  Calls Tryz.prog 93 #[.slice A len cap,.int .i64 r] w fun e w'=>e=.returned (.int .i64 (atV zs r))∧w=w':=by
 have hl:=h.1;have hc:=h.2.2.1;have hlc:=h.2.1;unfold maxLen at hc
 by_cases h1:r<1
 ·have hv:atV zs r=0:=by unfold atV;rw [if_pos (.inl h1)]
  rw [hv];clear hv h hl;have hd:decide (r<1)=true:=by simpa using h1
  go_enter Tryz.func93,Tryz.ntmps93;go_wp2;go_ret
  exact ⟨rfl,rfl⟩
 ·by_cases h2:(len:Int)<r
  ·have hv:atV zs r=0:=by unfold atV;rw [if_pos (.inr (by rw [hl];exact h2))]
   rw [hv];clear hv h hl;have hd:decide (r<1)=false:=by simpa using h1
   have hd2:decide ((len:Int)<r)=true:=by simpa using h2
   go_enter Tryz.func93,Tryz.ntmps93;go_wp2;go_ret
   exact ⟨rfl,rfl⟩
  ·obtain ⟨k,rfl⟩:∃ k:Nat,r=(k:Int)+1:=⟨(r-1).toNat,by omega⟩
   obtain ⟨b,off,rfl,hb⟩:=h.at_some (by omega);have hcell:=h.cell (k:=k) (by omega)
   have hv:atV zs (k+1)=zs.getD k 0:=by
    unfold atV;rw [if_neg (by rw [hl];omega)]
    congr 1
   rw [hv];clear hv h hl;generalize zs.getD k 0=z at *;have hd:decide ((k:Int)+1<1)=false:=by simp;omega
   have hd2:decide ((len:Int)<(k:Int)+1)=false:=by simp;omega
   go_enter Tryz.func93,Tryz.ntmps93;go_wp2;go_ret
   exact ⟨rfl,rfl⟩
theorem clone_any (A:Option Addr) (len cap:Nat) (zs:List Int) (w:World) (h:Vec w w.heap.size A len cap zs) (hl:len≤1000000) :
  Calls Tryz.prog 188 #[.slice A len cap] w fun e w'=>∃ v,e=.returned v∧w'.ownsRow w.heap.size 3 1 v len (enc zs)∧Below w.heap.size w w':=by
 obtain ⟨i0,hi,hz0,hz1,hz2⟩:=info_parts int_info;have hlen:=h.1;have hr:=h.2.2.2.1
 cases A with
 | none =>
  obtain ⟨rfl,rfl⟩:=h.2.2.2.2 rfl;have:zs=[]:=List.eq_nil_of_length_eq_zero hlen;subst this;clear h hr;have hn:=Lib.run_eql_slice_nil (P:=Tryz.prog);go_enter Tryz.func188,Tryz.ntmps188;go_wp2;go_ret
  exact ⟨_,rfl,World.ownsRow_nil _ _ _ _,Below.refl _ _⟩
 | some a =>
  clear h;have hn:=Lib.run_eql_slice_nil (P:=Tryz.prog);go_enter Tryz.func188,Tryz.ntmps188
  go_wp2_with (at_builtin;refine wpList_append_any _ rfl (.tmp 5) (.tmp 6) _ rfl (w.heap.size) 3 i0 _ 1 8 Tryz.underlying35 hi hz0 hz1 hz2 rfl (by omega) (.slice (some ⟨w.heap.size,0,none⟩) 0 0) 0 [] rfl (ownsRow_new0 _ _ _ _) w.heap.size _ len cap (enc zs) rfl (hr.alloc (Nat.le_refl _) _) (enc_one zs) (by unfold maxLen;omega) (by omega) (by simp) ?_;intro v1 w1 hown hg _;simp only [Nat.zero_add,List.nil_append] at hown;have Hown:=qH hown;have Hb:=qH (((Below.refl w.heap.size w).alloc (Nat.le_refl _) _).grown hg (by simp) (by simp [Value.ownBlock]));clear hown hg)
  go_ret
  exact ⟨_,rfl,Hown.out,Hb.out⟩
def trimN (zs:List Int):Nat→Nat
 | 0=>0
 | n+1=>if zs.getD n 0=0 then trimN zs n else n+1
def trimL (zs:List Int):List Int:=zs.take (trimN zs zs.length)
theorem trimN_le (zs:List Int):∀ n,trimN zs n≤n
 | 0=>Nat.le_refl _
 | n+1=>by
  unfold trimN
  split
  ·have:=trimN_le zs n;omega
  ·exact Nat.le_refl _
theorem Vec.takeN {w:World} {B b off len cap n:Nat} {zs:List Int} (h:Vec w B (some ⟨b,off,none⟩) len cap zs) (hn:n≤len) (h0:0<len):Vec w B (some ⟨b,off,none⟩) n n (zs.take n):=by
 obtain ⟨h1,h2,h3,h4,h5⟩:=h;refine ⟨by simp;omega,Nat.le_refl _,by omega,?_,fun e=>by cases e⟩;obtain ⟨h6,h7⟩:=h4;obtain ⟨b',off',e,hb,hc⟩:=h7 h0;injection e with e;injection e with e1 e2 _;subst e1 e2;refine ⟨by simp [enc];omega,fun _=>⟨b,off,rfl,hb,fun j hj=>?_⟩⟩;simp only [enc,List.length_map,List.length_take] at hj;rw [hc j (by simp [enc];omega)];simp only [enc,List.map_take,List.getElem?_take];rw [if_pos (by omega)]
def OwnL (w:World) (zs:List Int) (e:Ending) (w':World):Prop:=∃ v,e=.returned v∧w'.ownsRow w.heap.size 3 1 v zs.length (enc zs)∧Below w.heap.size w w'
theorem trim_any (A:Option Addr) (len cap:Nat) (zs:List Int) (w:World) (h:Vec w w.heap.size A len cap zs) (hl:len≤1000000) :
  Calls Tryz.prog 151 #[.slice A len cap] w (OwnL w (trimL zs)):=by
 have hlc:=h.2.1;have hcm:=h.2.2.1;unfold maxLen at hcm
 by_cases h0:len=0
 ·subst h0
  have hz:zs=[]:=List.eq_nil_of_length_eq_zero h.1;subst hz;have htr:trimL []=[]:=rfl;rw [htr];clear htr
  cases A with
  | none =>
   obtain ⟨_,rfl⟩:=h.2.2.2.2 rfl;have H:=qH h;clear h;go_enter Tryz.func151,Tryz.ntmps151;go_wp2
   go_loop [3] (fun n=>n=.int .i64 0) (fun _=>0)
   case atStart=>rfl
   case round =>
    subst hrel;go_wp2_with fail;refine (clone_any none 0 0 [] _ H.out (by omega)).mono ?_;rintro e w1 ⟨v,rfl,hown,hb⟩;have Hown:=qH hown;clear hown;have Hb:=qH hb;clear hb;go_wp2;go_ret
    exact ⟨v,rfl,Hown.out,Hb.out⟩
  | some a =>
   have hv:Vec w w.heap.size (some a) 0 0 []:=⟨rfl,Nat.le_refl _,Nat.zero_le _,Reads.none_,fun e=>by cases e⟩;have H:=qH hv;clear h hv;go_enter Tryz.func151,Tryz.ntmps151;go_wp2
   go_loop [3] (fun n=>n=.int .i64 0) (fun _=>0)
   case atStart=>rfl
   case round =>
    subst hrel;go_wp2_with fail;refine (clone_any (some a) 0 0 [] _ H.out (by omega)).mono ?_;rintro e w1 ⟨v,rfl,hown,hb⟩;have Hown:=qH hown;clear hown;have Hb:=qH hb;clear hb;go_wp2;go_ret
    exact ⟨v,rfl,Hown.out,Hb.out⟩
 ·obtain ⟨b,off,rfl,hb⟩:=h.at_some (by omega)
  have hN:trimN zs zs.length=trimN zs len:=by rw [h.1]
  have HN:=qH hN;clear hN;have H:=qH h;clear h;go_enter Tryz.func151,Tryz.ntmps151;go_wp2
  go_loop [3] (fun n=>∃ k:Nat,k≤len∧n=.int .i64 k∧trimN zs len=trimN zs k) (fun n=>(intOf n).toNat)
  case atStart=>exact ⟨len,Nat.le_refl _,rfl,rfl⟩
  case round =>
   obtain ⟨k,hk,rfl,hn⟩:=hrel
   cases k with
   | zero =>
    have hfin:trimL zs=[]:=by unfold trimL;rw [HN.out,hn];rfl
    have Hfin:=qH hfin;clear hn hfin;have hv:=qH (H.out.takeN (n:=0) (by omega) (by omega));go_wp2_with fail;refine (clone_any _ 0 0 [] _ hv.out (by omega)).mono ?_;rintro e w1 ⟨v,rfl,hown,hb⟩;have Hown:=qH hown;clear hown;have Hb:=qH hb;clear hb;go_wp2;go_ret
    exact ⟨v,rfl,by rw [Hfin.out];exact Hown.out,Hb.out⟩
   | succ j =>
    have hcell:=H.out.cell (k:=j) (by omega);have hun:trimN zs (j+1)=if zs.getD j 0=0 then trimN zs j else j+1:=rfl;rw [hun] at hn;generalize zs.getD j 0=z at *
    by_cases hz:z=0
    ·subst hz
     rw [if_pos rfl] at hn;have Hn:=qH hn;clear hn hun;go_wp2
     go_round
     case rel=>exact ⟨j,by omega,by go_num,Hn.out⟩
     case measure=>simp [intOf]
    ·rw [if_neg hz] at hn
     have hz':(z==0)=false:=by simpa using hz
     have hfin:trimL zs=zs.take (j+1):=by unfold trimL;rw [HN.out,hn]
     have Hfin:=qH hfin;clear hn hun hfin;have hv:=qH (H.out.takeN (n:=j+1) (by omega) (by omega));have hlen:(zs.take (j+1)).length=j+1:=by rw [List.length_take,H.out.1];omega
     have Hlen:=qH hlen;clear hlen;go_wp2_with fail;refine (clone_any _ (j+1) (j+1) (zs.take (j+1)) _ hv.out (by omega)).mono ?_;rintro e w1 ⟨v,rfl,hown,hb⟩;have Hown:=qH hown;clear hown;have Hb:=qH hb;clear hb;go_wp2;go_ret
     exact ⟨v,rfl,by rw [Hfin.out,Hlen.out];exact Hown.out,Hb.out⟩
def coversB (a b:List Int):Bool:=(List.range (max a.length b.length)).all fun r=>!decide (atV a (r+1)<atV b (r+1))
theorem all_range_succ (p:Nat→Bool) (n:Nat):(List.range (n+1)).all p=((List.range n).all p&&p n):=by rw [List.range_succ,List.all_append];simp
theorem all_range_false (p:Nat→Bool) (n m:Nat) (h:n<m) (hp:p n=false):(List.range m).all p=false:=by
 rw [Bool.eq_false_iff];intro hh;have:=List.all_eq_true.1 hh n (by simpa using h);rw [hp] at this;cases this
theorem covers_any (A:Option Addr) (len cap:Nat) (xs:List Int) (A':Option Addr) (len' cap':Nat) (ys:List Int) (w:World) (B:Nat) (h:Vec w B A len cap xs) (h':Vec w B A' len' cap' ys) (hs:len≤1000000) (hs':len'≤1000000) :
  Calls Tryz.prog 49 #[.slice A len cap,.slice A' len' cap'] w fun e w'=>e=.returned (.bool (coversB xs ys))∧w=w':=by
 have hc:=h.2.2.1;have hc':=h'.2.2.1;have hl:=h.2.1;have hl':=h'.2.1;unfold maxLen at hc hc';have hco:coversB xs ys=(List.range (max len len')).all fun r=>!decide (atV xs (r+1)<atV ys (r+1)):=by unfold coversB;rw [h.1,h'.1]
 generalize coversB xs ys=cv at hco;have hM:(len<len'→max len len'=len')∧(¬ len<len'→max len len'=len):=⟨fun h=>by rw [Nat.max_def];split <;> omega,fun h=>by rw [Nat.max_def];split <;> omega⟩;generalize max len len'=M at hco hM;have Hco:=qH hco;clear hco;have H:=qH h;clear h;have H':=qH h';clear h';go_enter Tryz.func49,Tryz.ntmps49;go_wp2
 go_loop [5] (fun i=>∃ n:Nat,n≤M∧i=.int .i64 ((n:Int)+1)∧(List.range n).all (fun r=>!decide (atV xs (r+1)<atV ys (r+1)))=true) (fun i=>M+1-(intOf i).toNat)
 case atStart=>exact ⟨0,by omega,rfl,rfl⟩
 case round =>
  obtain ⟨n,hn,rfl,hall⟩:=hrel
  by_cases hle:len<len'
  all_goals
   first|(have hMe:=hM.1 hle)|(have hMe:=hM.2 hle)
   have hM1:len≤M:=by omega
   have hM2:len'≤M:=by omega
   have hM3:M≤len∨M≤len':=by omega
   clear hMe hM
   by_cases hlt:n<M
   ·have hss:=all_range_succ (fun r=>!decide (atV xs (r+1)<atV ys (r+1))) n
    rw [hall,Bool.true_and] at hss
    by_cases hab:atV xs (n+1)<atV ys (n+1)
    ·have hcf:cv=false:=by rw [Hco.out];exact all_range_false _ n _ hlt (by simp [hab])
     have Hcf:=qH hcf;clear hcf hss hall;have hd:decide (atV xs (n+1)<atV ys (n+1))=true:=by simpa using hab
     clear hab;go_wp2_with fail;refine (at_any A len cap xs ((n:Int)+1) _ B H.out (by omega)).mono ?_;rintro e w1 ⟨rfl,rfl⟩;go_wp2_with fail;refine (at_any A' len' cap' ys ((n:Int)+1) _ B H'.out (by omega)).mono ?_;rintro e w1 ⟨rfl,rfl⟩;go_wp2;go_ret
     exact ⟨ret_bool Hcf.out.symm,rfl⟩
    ·have Hs:=qH hss;clear hss hall
     have hd:decide (atV xs (n+1)<atV ys (n+1))=false:=by simpa using hab
     have Hd:=qH hd;clear hab;go_wp2_with fail;refine (at_any A len cap xs ((n:Int)+1) _ B H.out (by omega)).mono ?_;rintro e w1 ⟨rfl,rfl⟩;go_wp2_with fail;refine (at_any A' len' cap' ys ((n:Int)+1) _ B H'.out (by omega)).mono ?_;rintro e w1 ⟨rfl,rfl⟩;go_wp2
     go_round
     case rel=>exact ⟨n+1,by omega,val_int (by omega),by rw [Hs.out,Hd.out];rfl⟩
     case measure=>simp [intOf];omega
   ·have hct:cv=true:=by rw [Hco.out,show M=n by omega];exact hall
    have Hct:=qH hct;clear hct hall;go_wp2;go_ret
    exact ⟨ret_bool Hct.out.symm,rfl⟩
end vec
end Go.Proofs.YthlahcnglacekaaGreatDoor
