/- Part of GateRetires. -/
import Derived.Test.YthlahcnglacekaaGreatDoorB02
import Derived.BigQuiet
set_option maxRecDepth 100000
set_option maxHeartbeats 16000000
namespace Go.Proofs.YthlahcnglacekaaGreatDoor
namespace lease
open Go Go.RowKit base err
def larr (u:Nat→Int):List Value:=[.int .i64 (u 0),.int .i64 (u 1),.int .i64 (u 2),.int .i64 (u 3),.int .i64 (u 4),.int .i64 (u 5),.int .i64 (u 6),.int .i64 (u 7),.int .i64 (u 8),.int .i64 (u 9),.int .i64 (u 10),.int .i64 (u 11),.int .i64 (u 12),.int .i64 (u 13),.int .i64 (u 14),.int .i64 (u 15),.int .i64 (u 16)]
def LeaseB (w:World) (g r n:Nat) (u:Nat→Int):Prop:=Blk w g 163 (.int .i64 r :: .int .i64 n :: larr u).toArray
theorem larr_get (u:Nat→Int) {i:Nat} (h:i<17):(larr u)[i]?=some (.int .i64 (u i)):=by
 match i,h with
 | 0,_|1,_|2,_|3,_|4,_|5,_|6,_|7,_|8,_|9,_|10,_|11,_|12,_|13,_|14,_|15,_|16,_=>rfl
 | k+17,h=>exact absurd h (by omega)
section
variable {w:World}
theorem new_ok (r n:Nat) (h1:1≤r) (h2:r≤n) (h3:n≤16) (w:World) :
  Calls Tryz.prog 29 #[.int .i64 r,.int .i64 n] w fun e w'=>e=.returned (.tuple #[.pointer (some ⟨w.heap.size,0,none⟩),.nilIface])∧LeaseB w' w.heap.size r n (fun _=>0)∧Below w.heap.size w w':=by
 have d1:decide ((n:Int)<1)=false:=decide_eq_false (by omega);have d2:decide ((16:Int)<(n:Int))=false:=decide_eq_false (by omega);have d3:decide ((r:Int)<1)=false:=decide_eq_false (by omega);have d4:decide ((n:Int)<(r:Int))=false:=decide_eq_false (by omega);go_enter Tryz.func29,Tryz.ntmps29;go_wp2;go_ret2
 exact ⟨rfl,Blk.new _ _ _,below_new _ _⟩
def isL (r n f:Nat):Bool:=decide (1≤f∧f≤n∧f≠r)
theorem is_any (g r n f:Nat) (u:Nat→Int) (w:World) (h:LeaseB w g r n u):Calls Tryz.prog 154 #[.pointer (some ⟨g,0,none⟩),.int .i64 f] w fun e w'=>e=.returned (.bool (isL r n f))∧w'=w:=by
 have c0:w.cell? ⟨g,0,none⟩=_:=h.cell 0;have c1:w.cell? ⟨g,1,none⟩=_:=h.cell 1;have hlt:=h.lt;simp at c0 c1
 clear h;obtain ⟨b,hb⟩:∃ b,isL r n f=b:=⟨_,rfl⟩;rw [hb];unfold isL at hb
 by_cases h1:1≤f
 ·by_cases h2:f≤n
  ·have d2:decide (f≤n)=true:=decide_eq_true (by omega)
   have d1:decide ((1:Int)≤(f:Int))=true:=decide_eq_true (by omega)
   by_cases h3:f=r
   ·have hb:b=false:=by rw [←hb];exact decide_eq_false (by omega)
    subst hb;subst h3;have h3:((f:Int) != (f:Int))=false:=by simp
    clear h1;go_enter Tryz.func154,Tryz.ntmps154;go_wp2;go_ret
    exact ⟨rfl,rfl⟩
   ·have hb:b=true:=by rw [←hb];exact decide_eq_true (by omega)
    subst hb;have d3:((f:Int) != (r:Int))=true:=by simp;omega
    clear h1 h3;go_enter Tryz.func154,Tryz.ntmps154;go_wp2;go_ret
    exact ⟨rfl,rfl⟩
  ·have d2:decide (f≤n)=false:=decide_eq_false (by omega)
   have d1:decide ((1:Int)≤(f:Int))=true:=decide_eq_true (by omega);have hb:b=false:=by rw [←hb];exact decide_eq_false (by omega)
   subst hb;have h2:=Nat.lt_of_not_le h2;clear h1;go_enter Tryz.func154,Tryz.ntmps154;go_wp2;go_ret
   exact ⟨rfl,rfl⟩
 ·have d1:decide ((1:Int)≤(f:Int))=false:=decide_eq_false (by omega)
  have hb:b=false:=by rw [←hb];exact decide_eq_false (by omega)
  subst hb;clear h1;go_enter Tryz.func154,Tryz.ntmps154;go_wp2;go_ret
  exact ⟨rfl,rfl⟩
end
end lease
namespace lease
open Go Go.RowKit base err
theorem idx_run (u:Nat→Int) (k:Nat) (hk:k<17) (w:World):(Instr.index 68 (.agg (larr u).toArray) (.int .i64 k)).run Tryz.prog w=.ok (.int .i64 (u k)) w:=by
 match k,hk with
 | 0,_|1,_|2,_|3,_|4,_|5,_|6,_|7,_|8,_|9,_|10,_|11,_|12,_|13,_|14,_|15,_|16,_=>unfold larr;go_simp;first|done|rfl
 | k+17,h=>exact absurd h (by omega)
end lease
namespace lease
open Go Go.RowKit base err
section
variable {w:World}
def lapse (r n:Nat) (u:Nat→Int) (now i:Nat):Bool:=isL r n i&&decide (u i≤now)
def GoodR (r n:Nat) (u:Nat→Int) (now:Nat) (w:World) (e:Ending) (w':World):Prop :=
 ((∀ i,i<17→lapse r n u now i=false)∧e=.returned .nilIface∧Below w.heap.size w w')∨((∃ i,i<17∧lapse r n u now i=true)∧ErrNew 12 w e w')
theorem good_w (g r n now:Nat) (u:Nat→Int) (w:World) (h:LeaseB w g r n u) :
  Calls Tryz.prog 94 #[.pointer (some ⟨g,0,none⟩),.int .i64 now] w (GoodR r n u now w):=by
 have H:=qH h;have hlt:=h.lt;have l0:w.cell? ⟨g,2,none⟩=some (.int .i64 (u 0)):=h.cell 2;have l1:w.cell? ⟨g,3,none⟩=some (.int .i64 (u 1)):=h.cell 3;have l2:w.cell? ⟨g,4,none⟩=some (.int .i64 (u 2)):=h.cell 4;have l3:w.cell? ⟨g,5,none⟩=some (.int .i64 (u 3)):=h.cell 5;have l4:w.cell? ⟨g,6,none⟩=some (.int .i64 (u 4)):=h.cell 6;have l5:w.cell? ⟨g,7,none⟩=some (.int .i64 (u 5)):=h.cell 7;have l6:w.cell? ⟨g,8,none⟩=some (.int .i64 (u 6)):=h.cell 8;have l7:w.cell? ⟨g,9,none⟩=some (.int .i64 (u 7)):=h.cell 9;have l8:w.cell? ⟨g,10,none⟩=some (.int .i64 (u 8)):=h.cell 10;have l9:w.cell? ⟨g,11,none⟩=some (.int .i64 (u 9)):=h.cell 11;have l10:w.cell? ⟨g,12,none⟩=some (.int .i64 (u 10)):=h.cell 12;have l11:w.cell? ⟨g,13,none⟩=some (.int .i64 (u 11)):=h.cell 13;have l12:w.cell? ⟨g,14,none⟩=some (.int .i64 (u 12)):=h.cell 14;have l13:w.cell? ⟨g,15,none⟩=some (.int .i64 (u 13)):=h.cell 15;have l14:w.cell? ⟨g,16,none⟩=some (.int .i64 (u 14)):=h.cell 16;have l15:w.cell? ⟨g,17,none⟩=some (.int .i64 (u 15)):=h.cell 17;have l16:w.cell? ⟨g,18,none⟩=some (.int .i64 (u 16)):=h.cell 18;clear h;go_enter Tryz.func94,Tryz.ntmps94;go_wp2_with fail;clear l0 l1 l2 l3 l4 l5 l6 l7 l8 l9 l10 l11 l12 l13 l14 l15 l16;obtain ⟨ar,har⟩:∃ ar,Hid (ar=(larr u).toArray):=⟨_,qH rfl⟩;rw [show #[Value.int .i64 (u 0),.int .i64 (u 1),.int .i64 (u 2),.int .i64 (u 3),.int .i64 (u 4),.int .i64 (u 5),.int .i64 (u 6),.int .i64 (u 7),.int .i64 (u 8),.int .i64 (u 9),.int .i64 (u 10),.int .i64 (u 11),.int .i64 (u 12),.int .i64 (u 13),.int .i64 (u 14),.int .i64 (u 15),.int .i64 (u 16)]=ar from har.out.symm]
 go_loopw [15] (fun i wr=>∃ k:Nat,k≤17∧i=.int .i64 k∧(∀ i,i<k→lapse r n u now i=false)∧wr=w) (fun i _=>17-(intOf i).toNat)
 case atStart=>exact ⟨0,by omega,rfl,fun i hi=>absurd hi (by omega),rfl⟩
 case round =>
  obtain ⟨k,hk,rfl,hp,rfl⟩:=hrel;have HP:=qH hp
  by_cases hlk:k<17
  ·have hg:=larr_get u hlk
   have HI:=qH (is_any g r n k u wr H.out);have hx:(Instr.index 68 (.agg ar) (.int .i64 k)).run Tryz.prog wr=.ok (.int .i64 (u k)) wr:=by rw [har.out];exact idx_run u k hlk wr
   have hke:∀ b,lapse r n u now k=b→b=false→∀ i,i<k+1→lapse r n u now i=false:=fun b hb hf i hi=>by
    rcases Nat.lt_succ_iff_lt_or_eq.1 hi with h|rfl
    ·exact hp i h
    ·rw [hb,hf]
   have HKE:=qH hke;have HL:=qH (show lapse r n u now k=(isL r n k&&decide (u k≤now)) from rfl);clear hp hg hke;go_wp2_with fail;refine HI.out.mono ?_;rintro e w1 ⟨rfl,hw1⟩;subst hw1
   cases hb:isL r n k with
   | false =>
    have HF:=qH (HKE.out _ HL.out (by rw [hb];rfl));clear hb;go_wp2_with fail;go_roundw
    case rel=>exact ⟨k+1,by omega,rfl,HF.out,trivial⟩
    case measure=>simp [intOf];omega
   | true =>
    by_cases hu:u k≤now
    ·have d1:decide (u k≤(now:Int))=true:=decide_eq_true hu
     have HT:=qH (show lapse r n u now k=true by rw [HL.out,hb,d1];rfl);clear hb hu;go_wp2_with fail;refine (at_any _ _ _ _).mono ?_;rintro e w2 h2;have HR:=qH (show GoodR r n u now w1 e w2 from .inr ⟨⟨k,hlk,HT.out⟩,h2⟩);obtain ⟨x,rfl,_⟩:=h2;go_wp2_with fail;go_ret
     exact HR.out
    ·have d1:decide (u k≤(now:Int))=false:=decide_eq_false hu
     have HF:=qH (HKE.out _ HL.out (by rw [hb,d1];rfl));clear hb hu;go_wp2_with fail;go_roundw
     case rel=>exact ⟨k+1,by omega,rfl,HF.out,trivial⟩
     case measure=>simp [intOf];omega
  ·have h17:k=17:=by omega
   subst h17;clear hk hlk hp;go_wp2_with fail;go_ret
   exact .inl ⟨HP.out,rfl,Below.refl _ _⟩
end
end lease
end Go.Proofs.YthlahcnglacekaaGreatDoor
