/- Part of GateRetires. -/
import Derived.Test.YthlahcnglacekaaGreatDoorB07
import Derived.Lib.SplitLaws
import Derived.Test.YthlahcnglacekaaGreatDoorB02
import Derived.BigQuiet
set_option maxRecDepth 100000
set_option maxHeartbeats 16000000
namespace Go.Proofs.YthlahcnglacekaaGreatDoor
namespace bake
open Go Go.RowKit base dec
def blN (n:Nat):Bool:=decide (n=32) || decide (n=9)
def bl (c:UInt8):Bool:=blN c.toNat
def trimR (l:List UInt8):List UInt8:=(l.reverse.dropWhile bl).reverse
def trimB (l:List UInt8):List UInt8:=trimR (l.dropWhile bl)
def vlen:Value→Nat|.string b=>b.size|_=>0
theorem ext_toList (t:ByteArray) (a b:Nat):(t.extract a b).data.toList=(t.data.toList.take b).drop a:=by
 rw [ByteArray.data_extract,Array.toList_extract];rw [List.extract_eq_take_drop,List.drop_take]
theorem cons_of {t:ByteArray} (h:0<t.size):t.data.toList=t[0] :: (t.extract 1 t.size).data.toList:=by
 rw [ext_toList,show t.size=t.data.toList.length from rfl,List.take_length];have h2:0<t.data.toList.length:=h;rw [←List.drop_zero (l:=t.data.toList),List.drop_eq_getElem_cons h2];rfl
theorem snoc_of {t:ByteArray} (h:t.size-1<t.size):t.data.toList=(t.extract 0 (t.size-1)).data.toList++[t[t.size-1]]:=by
 rw [ext_toList,List.drop_zero];have h2:t.size-1<t.data.toList.length:=h;have h3:=List.take_succ_eq_append_getElem h2;rw [show t.size-1+1=t.data.toList.length from by have:t.size=t.data.toList.length:=rfl;omega,List.take_length] at h3;exact h3
theorem drop_hit {t:ByteArray} (h:0<t.size) (hb:bl t[0]=true):t.data.toList.dropWhile bl=(t.extract 1 t.size).data.toList.dropWhile bl:=by
 rw [cons_of h,List.dropWhile_cons_of_pos hb]
theorem drop_miss {t:ByteArray} (h:0<t.size) (hb:blN t[0].toNat=false):t.data.toList.dropWhile bl=t.data.toList:=by
 rw [cons_of h,List.dropWhile_cons_of_neg (by unfold bl;rw [hb];simp)]
theorem drop_none {t:ByteArray} (h:¬ 0<t.size):t.data.toList=[]:=by
 have:t.data.toList.length=t.size:=rfl;exact List.eq_nil_of_length_eq_zero (by omega)
theorem back_hit {t:ByteArray} (h:t.size-1<t.size) (hb:bl t[t.size-1]=true):trimR t.data.toList=trimR (t.extract 0 (t.size-1)).data.toList:=by
 rw [snoc_of h];unfold trimR;rw [List.reverse_append,List.reverse_singleton,List.singleton_append,List.dropWhile_cons_of_pos hb]
theorem back_miss {t:ByteArray} (h:t.size-1<t.size) (hb:blN t[t.size-1].toNat=false):trimR t.data.toList=t.data.toList:=by
 rw [snoc_of h];unfold trimR;rw [List.reverse_append,List.reverse_singleton,List.singleton_append,List.dropWhile_cons_of_neg (by unfold bl;rw [hb];simp),List.reverse_cons,List.reverse_reverse]
theorem blank_any (n:Nat) (w:World) (_:n<256):Calls Tryz.prog 181 #[.int .u8 n] w fun e w'=>e=.returned (.bool (blN n))∧w'=w:=by
 cases e1:((n:Int)==32)
 all_goals
  go_enter Tryz.func181,Tryz.ntmps181;go_wp2
  all_goals
   go_ret
   refine ⟨ret_bool ?_,rfl⟩;simp at e1
   unfold blN;rw [Bool.eq_iff_iff];simp
   try omega
def TrimI (s t:ByteArray):Prop:=t.size≤s.size∧trimR t.data.toList=trimB s.data.toList
theorem trim_any (s:ByteArray) (w:World) (hs:s.size≤1000000):Calls Tryz.prog 125 #[.string s] w fun e w'=>(∃ t:ByteArray,e=.returned (.string t)∧t.size≤s.size∧t.data.toList=trimB s.data.toList)∧w'=w:=by
 go_enter Tryz.func125,Tryz.ntmps125;go_wp2
 go_loop [0] (fun v=>∃ t:ByteArray,v=.string t∧t.size≤s.size∧t.data.toList.dropWhile bl=s.data.toList.dropWhile bl) (fun v=>vlen v)
 case atStart=>exact ⟨s,rfl,Nat.le_refl _,rfl⟩
 case round =>
  obtain ⟨t,rfl,hts,ht⟩:=hrel;have hse:=str_ne t
  by_cases h0:0<t.size
  ·have d0:t.toList.isEmpty=false:=by rw [decide_eq_true h0] at hse;simpa using hse
   have h256:t[0].toNat<256:=t[0].toNat_lt;clear hse
   cases hb:blN t[0].toNat with
   | true =>
    have HT:=qH ((drop_hit h0 hb).symm.trans ht);have HB:=qH hb;clear ht hb;go_wp2_with fail;refine (blank_any t[0].toNat w h256).mono ?_;rw [HB.out];rintro e w1 ⟨rfl,hw1⟩;subst w1;go_wp2_with fail
    go_round
    case rel=>exact ⟨_,rfl,by simp [ByteArray.size_extract];omega,HT.out⟩
    case measure=>simp [vlen,ByteArray.size_extract];omega
   | false =>
    have HT:=qH (show TrimI s t from ⟨hts,by unfold trimB;rw [←ht,drop_miss h0 hb]⟩);have HB:=qH hb;clear ht hb;go_wp2_with fail;refine (blank_any t[0].toNat w h256).mono ?_;rw [HB.out];rintro e w1 ⟨rfl,hw1⟩;subst w1;go_wp2_with fail
    go_loop [0] (fun v=>∃ t:ByteArray,v=.string t∧TrimI s t) (fun v=>vlen v)
    case atStart=>exact ⟨t,rfl,HT.out⟩
    case round =>
     obtain ⟨t,rfl,hI⟩:=hrel;have hse:=str_ne t
     by_cases h0:0<t.size
     ·have d0:t.toList.isEmpty=false:=by rw [decide_eq_true h0] at hse;simpa using hse
      have hl:t.size-1<t.size:=by omega
      have h256:t[t.size-1].toNat<256:=t[t.size-1].toNat_lt;have hcast:((t.size:Int)-1)=((t.size-1:Nat):Int):=by omega
      clear hse
      cases hb:blN t[t.size-1].toNat with
      | true =>
       have HI:=qH (show TrimI s (t.extract 0 (t.size-1)) from ⟨by have:=hI.1;simp [ByteArray.size_extract];omega,(back_hit hl hb).symm.trans hI.2⟩);have HB:=qH hb;have HS:=qH hI;have hts:=hI.1;clear hI hb;go_wp2_with fail;refine (blank_any t[t.size-1].toNat w h256).mono ?_;rw [HB.out];rintro e w1 ⟨rfl,hw1⟩;subst w1;go_wp2_with fail
       go_round
       case rel=>exact ⟨_,rfl,HI.out⟩
       case measure=>simp [vlen,ByteArray.size_extract];omega
      | false =>
       have HI:=qH (show t.data.toList=trimB s.data.toList from (back_miss hl hb).symm.trans hI.2);have HB:=qH hb;have hts:=hI.1;clear hI hb;go_wp2_with fail;refine (blank_any t[t.size-1].toNat w h256).mono ?_;rw [HB.out];rintro e w1 ⟨rfl,hw1⟩;subst w1;go_wp2_with fail;go_ret
       exact ⟨⟨t,rfl,hts,HI.out⟩,rfl⟩
     ·have HI:=qH (show t.data.toList=trimB s.data.toList from by rw [drop_none h0,←hI.2,drop_none h0];rfl)
      have d0:t.toList.isEmpty=true:=by rw [decide_eq_false h0] at hse;simpa using hse
      have hts:=hI.1;clear hI hse;go_wp2_with fail;go_ret
      exact ⟨⟨t,rfl,hts,HI.out⟩,rfl⟩
  ·have HT:=qH (show TrimI s t from ⟨hts,by unfold trimB;rw [←ht,drop_none h0];rfl⟩)
   have d0:t.toList.isEmpty=true:=by rw [decide_eq_false h0] at hse;simpa using hse
   clear hse ht;go_wp2_with fail
   go_loop [0] (fun v=>∃ t:ByteArray,v=.string t∧TrimI s t) (fun v=>vlen v)
   case atStart=>exact ⟨t,rfl,HT.out⟩
   case round =>
    obtain ⟨t,rfl,hI⟩:=hrel;have hse:=str_ne t
    by_cases h0:0<t.size
    ·have d0:t.toList.isEmpty=false:=by rw [decide_eq_true h0] at hse;simpa using hse
     have hl:t.size-1<t.size:=by omega
     have h256:t[t.size-1].toNat<256:=t[t.size-1].toNat_lt;have hcast:((t.size:Int)-1)=((t.size-1:Nat):Int):=by omega
     clear hse
     cases hb:blN t[t.size-1].toNat with
     | true =>
      have HI:=qH (show TrimI s (t.extract 0 (t.size-1)) from ⟨by have:=hI.1;simp [ByteArray.size_extract];omega,(back_hit hl hb).symm.trans hI.2⟩);have HB:=qH hb;have HS:=qH hI;have hts:=hI.1;clear hI hb;go_wp2_with fail;refine (blank_any t[t.size-1].toNat w h256).mono ?_;rw [HB.out];rintro e w1 ⟨rfl,hw1⟩;subst w1;go_wp2_with fail
      go_round
      case rel=>exact ⟨_,rfl,HI.out⟩
      case measure=>simp [vlen,ByteArray.size_extract];omega
     | false =>
      have HI:=qH (show t.data.toList=trimB s.data.toList from (back_miss hl hb).symm.trans hI.2);have HB:=qH hb;have hts:=hI.1;clear hI hb;go_wp2_with fail;refine (blank_any t[t.size-1].toNat w h256).mono ?_;rw [HB.out];rintro e w1 ⟨rfl,hw1⟩;subst w1;go_wp2_with fail;go_ret
      exact ⟨⟨t,rfl,hts,HI.out⟩,rfl⟩
    ·have HI:=qH (show t.data.toList=trimB s.data.toList from by rw [drop_none h0,←hI.2,drop_none h0];rfl)
     have d0:t.toList.isEmpty=true:=by rw [decide_eq_false h0] at hse;simpa using hse
     have hts:=hI.1;clear hI hse;go_wp2_with fail;go_ret
     exact ⟨⟨t,rfl,hts,HI.out⟩,rfl⟩
end bake
namespace bake
open Go Go.RowKit base dec
def trimA (s:ByteArray):ByteArray:=⟨(trimB s.data.toList).toArray⟩
theorem bytes_eq {a b:ByteArray} (h:a.data.toList=b.data.toList):a=b:=by
 cases a;cases b
 simpa using Array.toList_inj.mp h
theorem trim_text (s:ByteArray) (w:World) (hs:s.size≤1000000):Calls Tryz.prog 125 #[.string s] w fun e w'=>(e=.returned (.string (trimA s))∧(trimA s).size≤s.size)∧w'=w:=by
 refine (trim_any s w hs).mono ?_;rintro e w1 ⟨⟨t,rfl,hts,ht⟩,rfl⟩;obtain rfl:t=trimA s:=bytes_eq ht;exact ⟨⟨rfl,hts⟩,rfl⟩
end bake
namespace bake
open Go Go.RowKit
def untilL (c:UInt8):List UInt8→List UInt8 × List UInt8 × Bool
 | []=>([],[],false)
 | b :: l=>if b=c then ([],l,true) else (b :: (untilL c l).1,(untilL c l).2.1,(untilL c l).2.2)
theorem until_hit {c:UInt8} (a b:List UInt8) (h:∀ x ∈ a,x≠c):untilL c (a++c :: b)=(a,b,true):=by
 induction a with
 | nil=>simp [untilL]
 | cons x a ih =>
  rw [List.cons_append,untilL,if_neg (h x (by simp)),ih (fun y hy=>h y (by simp [hy]))]
theorem until_miss {c:UInt8} (a:List UInt8) (h:∀ x ∈ a,x≠c):untilL c a=(a,[],false):=by
 induction a with
 | nil=>rfl
 | cons x a ih=>rw [untilL,if_neg (h x (by simp)),ih (fun y hy=>h y (by simp [hy]))]
theorem until_cases (c:UInt8) (l:List UInt8):(∃ a b,l=a++c :: b∧(∀ x ∈ a,x≠c)∧untilL c l=(a,b,true))∨((∀ x ∈ l,x≠c)∧untilL c l=(l,[],false)):=by
 induction l with
 | nil=>exact Or.inr ⟨by simp,rfl⟩
 | cons x l ih =>
  by_cases hx:x=c
  ·subst hx;exact Or.inl ⟨[],l,rfl,by simp,by simp [untilL]⟩
  ·rcases ih with ⟨a,b,h1,h2,h3⟩|⟨h2,h3⟩
   ·refine Or.inl ⟨x :: a,b,by rw [h1];rfl,?_,by rw [untilL,if_neg hx,h3]⟩
    intro y hy
    rcases List.mem_cons.mp hy with rfl|hy
    ·exact hx
    ·exact h2 y hy
   ·refine Or.inr ⟨?_,by rw [untilL,if_neg hx,h3]⟩
    intro y hy
    rcases List.mem_cons.mp hy with rfl|hy
    ·exact hx
    ·exact h2 y hy
theorem pre_one (c x:UInt8) (l:List UInt8):[c].isPrefixOf (x :: l)=(c==x):=by simp [List.isPrefixOf]
theorem index_hit {c:UInt8} (a b:List UInt8) (h:∀ x ∈ a,x≠c):Lib.index (a++c :: b) [c]=a.length:=by
 induction a with
 | nil=>rw [List.nil_append,Lib.index,pre_one,if_pos (by simp)];rfl
 | cons x a ih =>
  have hx:¬ (c==x)=true:=by have:=h x (by simp);simpa using fun e=>this e.symm
  rw [List.cons_append,Lib.index,pre_one,if_neg hx,ih (fun y hy=>h y (by simp [hy])),if_neg (by simp)];simp
theorem index_miss {c:UInt8} (a:List UInt8) (h:∀ x ∈ a,x≠c):Lib.index a [c]=-1:=by
 induction a with
 | nil=>rfl
 | cons x a ih =>
  have hx:¬ (c==x)=true:=by have:=h x (by simp);simpa using fun e=>this e.symm
  rw [Lib.index,pre_one,if_neg hx,ih (fun y hy=>h y (by simp [hy])),if_pos (by rfl)]
theorem cut_until (c:UInt8) (l:List UInt8):Lib.cut l [c]=untilL c l:=by
 rcases until_cases c l with ⟨a,b,rfl,h2,h3⟩|⟨h2,h3⟩
 ·rw [h3]
  unfold Lib.cut;rw [index_hit a b h2,if_pos (by omega)];simp
 ·rw [h3]
  unfold Lib.cut;rw [index_miss l h2,if_neg (by omega)]
def pcs (c:UInt8):Nat→List UInt8→List (List UInt8)
 | 0,l=>[l]
 | k+1,l=>if (untilL c l).2.2 then (untilL c l).1 :: pcs c k (untilL c l).2.1 else [l]
theorem split_pcs (c:UInt8):∀ (k:Nat) (l:List UInt8),Lib.splitK [c] 0 k l=pcs c k l
 | 0,_=>rfl
 | k+1,l=>by
  unfold Lib.splitK pcs
  rcases until_cases c l with ⟨a,b,rfl,h2,h3⟩|⟨h2,h3⟩
  ·rw [h3,index_hit a b h2,if_neg (by simp),if_pos rfl,split_pcs c k]
   simp
  ·rw [h3,index_miss l h2,if_pos (by rfl),if_neg (by simp)]
theorem pcs_ne (c:UInt8) (k:Nat) (l:List UInt8):pcs c k l≠[]:=by
 cases k with
 | zero=>simp [pcs]
 | succ k=>unfold pcs;split <;> simp
theorem count_until (c:UInt8) (l:List UInt8):l.count c=if (untilL c l).2.2 then (untilL c l).2.1.count c+1 else 0:=by
 rcases until_cases c l with ⟨a,b,rfl,h2,h3⟩|⟨h2,h3⟩
 ·rw [h3,if_pos rfl,List.count_append,List.count_eq_zero_of_not_mem (fun h=>h2 c h rfl)]
  simp
 ·rw [h3,if_neg (by simp)]
  exact List.count_eq_zero_of_not_mem (fun h=>h2 c h rfl)
def parts (c:UInt8) (l:List UInt8):List (List UInt8):=pcs c (l.count c) l
theorem parts_eq (c:UInt8) (l:List UInt8):parts c l=if (untilL c l).2.2 then (untilL c l).1 :: parts c (untilL c l).2.1 else [l]:=by
 unfold parts;rw [count_until]
 cases h:(untilL c l).2.2 with
 | true=>rw [if_pos rfl,if_pos rfl,pcs,if_pos h]
 | false=>rfl
end bake
namespace bake
open Go Go.RowKit base dec
def mkB (l:List UInt8):ByteArray:=⟨l.toArray⟩
theorem mkB_data (l:List UInt8):(mkB l).data.toList=l:=by simp [mkB]
theorem mkB_size (l:List UInt8):(mkB l).size=l.length:=by simp [mkB,ByteArray.size]
theorem mkB_of (s:ByteArray):mkB s.data.toList=s:=bytes_eq (mkB_data _)
theorem until_len (c:UInt8) (l:List UInt8):(untilL c l).1.length≤l.length∧(untilL c l).2.1.length≤l.length:=by
 rcases until_cases c l with ⟨a,b,rfl,h2,h3⟩|⟨h2,h3⟩
 ·rw [h3];simp;omega
 ·rw [h3];simp
theorem split_any (s:ByteArray) (m:Int) (w:World) (hs:s.size≤1000000) (hm:w.cell? ⟨1,0,none⟩=some (.int .i64 m)):Calls Tryz.prog 57 #[.string s] w fun e w'=>e=.returned (.tuple #[.string (trimA (mkB (untilL 61 s.data.toList).1)),.string (trimA (mkB (untilL 61 s.data.toList).2.1)),.bool (untilL 61 s.data.toList).2.2])∧∃ n,w'=w.drewN n:=by
 have HM:=qH hm;clear hm;go_enter Tryz.func57,Tryz.ntmps57;have hl:=until_len 61 s.data.toList;rw [show s.data.toList.length=s.size from rfl] at hl;go_wp2_with fail;refine (Tryz.strings_Cut s ⟨#[61]⟩ m w (by omega) HM.out).mono ?_;rintro e w1 ⟨rfl,hw1⟩;rw [show (⟨#[61]⟩:ByteArray).data.toList=[61] from rfl,cut_until] at *;generalize hu:untilL 61 s.data.toList=u at *;obtain ⟨u1,u2,u3⟩:=u;dsimp only at hl;have HU:=qH hu;clear hu;have HL:=qH hl;have HW:=qH hw1;clear hl hw1;go_wp2_with fail;refine (trim_text (mkB u1) w1 (by rw [mkB_size];have:=HL.out;omega)).mono ?_;rintro e w2 ⟨⟨rfl,_⟩,rfl⟩;go_wp2_with fail;refine (trim_text (mkB u2) _ (by rw [mkB_size];have:=HL.out;omega)).mono ?_;rintro e w3 ⟨⟨rfl,_⟩,rfl⟩;go_wp2_with fail
 go_ret3
 rw [HU.out];exact ⟨rfl,HW.out⟩
end bake
namespace bake
open Go Go.RowKit base dec
def lowC (c:UInt8):UInt8:=if 65≤c.toNat∧c.toNat≤90 then UInt8.ofNat (c.toNat+32) else c
def lowL (l:List UInt8):List UInt8:=l.map lowC
theorem lowC_big {c:UInt8} (h:65≤c.toNat∧c.toNat≤90):((lowC c).toNat:Int)=(c.toNat:Int)+32:=by
 unfold lowC;rw [if_pos h,UInt8.toNat_ofNat'];omega
theorem lowC_small {c:UInt8} (h:¬ (65≤c.toNat∧c.toNat≤90)):lowC c=c:=by
 unfold lowC;rw [if_neg h]
def LowI (s:ByteArray) (g k:Nat) (w wr:World):Prop :=
 Below w.heap.size w wr∧w.heap.size≤g∧g<wr.heap.size ∧
 (∀ j (h:j<s.size),wr.cell? ⟨g,j,none⟩=some (.int .u8 (if j<k then (lowC s[j]).toNat else s[j].toNat:Nat))) ∧
 (∀ j,j<s.size→wr.frozen? ⟨g,j,none⟩=false)
theorem row_at (s:ByteArray) (cap:Nat) {j:Nat} (h:j<s.size):(bytesRow s cap)[j]?=some (.int .u8 (s[j].toNat:Nat)):=by
 have h2:j<s.data.size:=h;unfold bytesRow;rw [Array.getElem?_append_left (by simpa using h2),Array.getElem?_map,Array.getElem?_eq_getElem h2];rfl
theorem low_start {s:ByteArray} {cap:Nat} {C:Array Value} {w:World} (hC:bytesRow s cap=C):LowI s w.heap.size 0 w (w.alloc (.cells C 5 (C.size,C.size+1))).drew:=by
 subst hC;refine ⟨(below_new w _).drew,Nat.le_refl _,by simp,?_,?_⟩
 ·intro j hj
  rw [if_neg (Nat.not_lt_zero j),World.cell?_drew,World.cell?_alloc_mark,row_at s cap hj]
 ·intro j hj
  have hn:j<(bytesRow s cap).size:=by
   have:=row_at s cap hj;exact (Array.getElem?_eq_some_iff.1 this).1
  show (w.alloc _).frozen? _=false;rw [World.frozen?_alloc_mark];simp
  omega
theorem low_next {s:ByteArray} {g k:Nat} {w wr:World} {x:Int} (h:LowI s g k w wr) (hk:k<s.size) (hx:x=((lowC s[k]).toNat:Int)):LowI s g (k+1) w (wr.setCell ⟨g,k,none⟩ (.int .u8 x)):=by
 obtain ⟨h1,h2,h3,h4,h5⟩:=h;refine ⟨h1.setCell h2 _,h2,by simpa [World.setCell] using h3,?_,fun j hj=>by rw [World.frozen?_setCell];exact h5 j hj⟩;intro j hj
 by_cases e:j=k
 ·subst e
  rw [World.cell?_setCell_same _ _ _ (h4 j hj),if_pos (by omega),hx]
 ·rw [World.cell?_setCell_other _ _ _ _ (fun he=>by injection he with _ he2;exact e he2.symm),h4 j hj]
  by_cases hjk:j<k
  ·rw [if_pos hjk,if_pos (by omega)]
  ·rw [if_neg hjk,if_neg (by omega)]
theorem low_skip {s:ByteArray} {g k:Nat} {w wr:World} (h:LowI s g k w wr) (hk:k<s.size) (hx:lowC s[k]=s[k]):LowI s g (k+1) w wr:=by
 obtain ⟨h1,h2,h3,h4,h5⟩:=h;refine ⟨h1,h2,h3,?_,h5⟩;intro j hj
 by_cases e:j=k
 ·subst e
  rw [h4 j hj,if_neg (by omega),if_pos (by omega),hx]
 ·rw [h4 j hj]
  by_cases hjk:j<k
  ·rw [if_pos hjk,if_pos (by omega)]
  ·rw [if_neg hjk,if_neg (by omega)]
theorem low_end {s:ByteArray} {g cap:Nat} {w wr:World} (h:LowI s g s.size w wr):(convert 86 9 (.slice (some ⟨g,0,none⟩) s.size cap)).run Tryz.prog wr=.ok (.string (mkB (lowL s.data.toList))) wr:=by
 obtain ⟨h1,h2,h3,h4,h5⟩:=h;have hl:(lowL s.data.toList).length=s.size:=by unfold lowL;rw [List.length_map];rfl
 rw [←hl];refine run_convert_bytes_back wr 86 9 5 ⟨g,0,none⟩ cap (lowL s.data.toList) Tryz.underlying86 Tryz.underlying5 Tryz.underlying9 ?_;intro j hj;have hj2:j<s.size:=by omega
 have h6:=h4 j hj2;rw [if_pos hj2] at h6;have h7:(lowL s.data.toList)[j]=lowC s[j]:=by simp [lowL];rfl
 rw [h7,←h6];simp [Addr.add]
 split
 ·rename_i e;rw [e]
 ·rfl
theorem lower_any (s:ByteArray) (w:World) (hs:s.size≤1000000):Calls Tryz.prog 59 #[.string s] w fun e w'=>e=.returned (.string (mkB (lowL s.data.toList)))∧Below w.heap.size w w':=by
 have hconv:=run_bytes_of_string (P:=Tryz.prog) w 9 86 5 s Tryz.underlying9 Tryz.underlying86 Tryz.underlying5;generalize hcap:grownCap w s.size 0 5=cap at hconv;generalize hC:bytesRow s cap=C at hconv;have HC:=qH hC;clear hC hcap;go_enter Tryz.func59,Tryz.ntmps59;go_wp2_with fail
 go_loopw [10] (fun x wr=>∃ k:Nat,k≤s.size∧x=.int .i64 k∧LowI s w.heap.size k w wr) (fun x _=>s.size-(intOf x).toNat)
 case atStart=>exact ⟨0,by omega,rfl,low_start HC.out⟩
 case round =>
  obtain ⟨k,hk,rfl,hI⟩:=hrel;have HI:=qH hI
  by_cases h0:k<s.size
  ·have hc:=hI.2.2.2.1 k h0
   rw [if_neg (Nat.lt_irrefl k)] at hc;have hf:=hI.2.2.2.2 k h0;have h256:s[k].toNat<256:=s[k].toNat_lt;clear hI
   by_cases hb:65≤s[k].toNat∧s[k].toNat≤90
   ·have d1:decide ((65:Int)≤(s[k].toNat:Int))=true:=by simp;omega
    have d2:decide ((s[k].toNat:Int)≤90)=true:=by simp;omega
    have HB:=qH (lowC_big hb);have HB2:=qH hb;clear hb;go_wp2_with fail
    go_round
    case rel=>exact ⟨k+1,by omega,by go_num,low_next HI.out h0 (by rw [HB.out];have:=HB2.out;omega)⟩
    case measure=>simp [intOf];omega
   ·have HB:=qH (lowC_small hb)
    by_cases h65:65≤s[k].toNat
    ·have d1:decide ((65:Int)≤(s[k].toNat:Int))=true:=by simp;omega
     have d2:decide ((s[k].toNat:Int)≤90)=false:=by simp;omega
     clear hb;go_wp2_with fail
     go_round
     case rel=>exact ⟨k+1,by omega,by go_num,low_skip HI.out h0 HB.out⟩
     case measure=>simp [intOf];omega
    ·have d1:decide ((65:Int)≤(s[k].toNat:Int))=false:=by simp;omega
     clear hb;go_wp2_with fail
     go_round
     case rel=>exact ⟨k+1,by omega,by go_num,low_skip HI.out h0 HB.out⟩
     case measure=>simp [intOf];omega
  ·obtain rfl:k=s.size:=by omega
   have hback:=low_end (cap:=cap) hI;clear hI;go_wp2_with fail;go_ret
   exact ⟨rfl,HI.out.1⟩
end bake
namespace cookw
open Go Go.RowKit Go.Lib base bake
def runL (p:UInt8→Bool) (l:List UInt8) (a:Nat):Nat:=a+((l.drop a).takeWhile p).length
theorem run_end (p:UInt8→Bool) {l:List UInt8} {i:Nat} (h:i=l.length):runL p l i=i:=by
 unfold runL;rw [h,List.drop_length];rfl
theorem run_step (p:UInt8→Bool) {l:List UInt8} {i:Nat} (h:i<l.length):runL p l i=if p l[i] then runL p l (i+1) else i:=by
 unfold runL;rw [List.drop_eq_getElem_cons h,List.takeWhile_cons]
 split
 ·rw [List.length_cons];omega
 ·rfl
theorem one_list (s:ByteArray) {i:Nat} (h:i<s.size):(s.extract i (i+1)).data.toList=[s[i]]:=by
 rw [ext_toList,List.take_add_one,List.getElem?_eq_getElem (show i<s.data.toList.length from h)];rw [List.drop_append_of_le_length (by rw [List.length_take];show i≤min i s.data.toList.length;have:s.data.toList.length=s.size:=rfl;omega)];rw [List.drop_eq_nil_of_le (by rw [List.length_take];omega)];rfl
def tokC (c:UInt8):Bool:=tokN c.toNat
def octC (c:UInt8):Bool:=octN c.toNat
theorem tok_one {t:ByteArray} {c:UInt8} (h:t.data.toList=[c]):tokB t=tokN c.toNat:=by
 have h1:t.size=1:=congrArg List.length h;unfold tokB;rw [h,h1];simp
theorem oct_one {t:ByteArray} {c:UInt8} (h:t.data.toList=[c]):octsB t=octN c.toNat:=by
 unfold octsB;rw [h];simp
theorem run_tok (s:ByteArray) (a:Nat) (w:World) (hs:s.size≤1000000) (ha:a≤s.size):Calls Tryz.prog 173 #[.string s,.int .i64 a,.func (.func 63) #[] #[]] w fun e w'=>e=.returned (.int .i64 (runL tokC s.data.toList a:Nat))∧w'=w:=by
 have hsl:s.data.toList.length=s.size:=rfl;go_enter Tryz.func173,Tryz.ntmps173;go_wp2_with fail
 go_loopw [1] (fun x wr=>∃ i:Nat,i≤s.size∧x=.int .i64 i∧runL tokC s.data.toList i=runL tokC s.data.toList a∧wr=w) (fun x _=>s.size-(RowKit.intOf x).toNat)
 case atStart=>exact ⟨a,ha,rfl,rfl,rfl⟩
 case round =>
  obtain ⟨i,hi,rfl,hr,hw⟩:=hrel;subst hw
  by_cases hie:i=s.size
  ·have hr2:=run_end tokC (l:=s.data.toList) (i:=i) (by omega)
   rw [hr] at hr2;have HR:=qH hr2;have d1:¬ (i:Int)<(s.size:Int):=by omega
   clear hr hr2;go_wp2_with fail;go_ret
   exact ⟨ret_int (by rw [HR.out];omega),rfl⟩
  ·have hlt:i<s.size:=by omega
   have d1:(i:Int)<(s.size:Int):=by omega
   have d2:(i:Int)+1≤(s.size:Int):=by omega
   have hst:=run_step tokC (l:=s.data.toList) (i:=i) hlt;have hex:(s.extract i (i+1)).data.toList=[s[i]]:=one_list s hlt;have hsz:(s.extract i (i+1)).size=1:=congrArg List.length hex;obtain ⟨t,ht⟩:∃ t,s.extract i (i+1)=t:=⟨_,rfl⟩;rw [ht] at hex hsz;have HF:=token_any t wr (by omega);rw [tok_one hex] at HF;have HT:=qH ht;have HR:=qH hr;have HS:=qH hst;clear hr hst ht
   cases hp:tokC s[i] with
   | true =>
    rw [show tokN s[i].toNat=true from hp] at HF;go_wp2_with fail;rw [HT.out];refine HF.mono ?_;rintro e w1 ⟨rfl,hw⟩;subst hw;clear HF;go_wp2_with fail;go_roundw
    case rel=>exact ⟨i+1,by omega,by go_num,by rw [←HR.out,HS.out];exact (if_pos hp).symm,by first|rfl|trivial⟩
    case measure=>simp [RowKit.intOf];omega
   | false =>
    rw [show tokN s[i].toNat=false from hp] at HF;have HE:=qH (show runL tokC s.data.toList a=i from by rw [←HR.out,HS.out,if_neg (by show ¬ tokC s[i]=true;rw [hp];simp)]);go_wp2_with fail;rw [HT.out];refine HF.mono ?_;rintro e w1 ⟨rfl,hw⟩;subst hw;clear HF;go_wp2_with fail;go_ret
    exact ⟨ret_int (by rw [HE.out]),rfl⟩
theorem run_oct (s:ByteArray) (a:Nat) (w:World) (hs:s.size≤1000000) (ha:a≤s.size):Calls Tryz.prog 173 #[.string s,.int .i64 a,.func (.func 64) #[] #[]] w fun e w'=>e=.returned (.int .i64 (runL octC s.data.toList a:Nat))∧w'=w:=by
 have hsl:s.data.toList.length=s.size:=rfl;go_enter Tryz.func173,Tryz.ntmps173;go_wp2_with fail
 go_loopw [1] (fun x wr=>∃ i:Nat,i≤s.size∧x=.int .i64 i∧runL octC s.data.toList i=runL octC s.data.toList a∧wr=w) (fun x _=>s.size-(RowKit.intOf x).toNat)
 case atStart=>exact ⟨a,ha,rfl,rfl,rfl⟩
 case round =>
  obtain ⟨i,hi,rfl,hr,hw⟩:=hrel;subst hw
  by_cases hie:i=s.size
  ·have hr2:=run_end octC (l:=s.data.toList) (i:=i) (by omega)
   rw [hr] at hr2;have HR:=qH hr2;have d1:¬ (i:Int)<(s.size:Int):=by omega
   clear hr hr2;go_wp2_with fail;go_ret
   exact ⟨ret_int (by rw [HR.out];omega),rfl⟩
  ·have hlt:i<s.size:=by omega
   have d1:(i:Int)<(s.size:Int):=by omega
   have d2:(i:Int)+1≤(s.size:Int):=by omega
   have hst:=run_step octC (l:=s.data.toList) (i:=i) hlt;have hex:(s.extract i (i+1)).data.toList=[s[i]]:=one_list s hlt;have hsz:(s.extract i (i+1)).size=1:=congrArg List.length hex;obtain ⟨t,ht⟩:∃ t,s.extract i (i+1)=t:=⟨_,rfl⟩;rw [ht] at hex hsz;have HF:=octets_any t wr (by omega);rw [oct_one hex] at HF;have HT:=qH ht;have HR:=qH hr;have HS:=qH hst;clear hr hst ht
   cases hp:octC s[i] with
   | true =>
    rw [show octN s[i].toNat=true from hp] at HF;go_wp2_with fail;rw [HT.out];refine HF.mono ?_;rintro e w1 ⟨rfl,hw⟩;subst hw;clear HF;go_wp2_with fail;go_roundw
    case rel=>exact ⟨i+1,by omega,by go_num,by rw [←HR.out,HS.out];exact (if_pos hp).symm,by first|rfl|trivial⟩
    case measure=>simp [RowKit.intOf];omega
   | false =>
    rw [show octN s[i].toNat=false from hp] at HF;have HE:=qH (show runL octC s.data.toList a=i from by rw [←HR.out,HS.out,if_neg (by show ¬ octC s[i]=true;rw [hp];simp)]);go_wp2_with fail;rw [HT.out];refine HF.mono ?_;rintro e w1 ⟨rfl,hw⟩;subst hw;clear HF;go_wp2_with fail;go_ret
    exact ⟨ret_int (by rw [HE.out]),rfl⟩
end cookw
namespace cookw
open Go Go.RowKit Go.Lib base rowe bake monoj
theorem pair_info:(Tryz.prog.info? 84).map (fun i=>(i.zero,i.size,i.bytes))=some (some (.agg #[.string ⟨#[]⟩,.string ⟨#[]⟩]),2,32):=by kernel_rfl
theorem tw_all {p:UInt8→Bool}:∀ {l:List UInt8},l.all p=true→l.takeWhile p=l
 | [],_=>rfl
 | x :: l,h=>by
  rw [List.all_cons,Bool.and_eq_true] at h;rw [List.takeWhile_cons,if_pos h.1,tw_all h.2]
theorem run_all (p:UInt8→Bool) {l:List UInt8} {a:Nat} (ha:a≤l.length) (h:(l.drop a).all p=true):runL p l a=l.length:=by
 unfold runL;rw [tw_all h,List.length_drop];omega
theorem run_name {n v:List UInt8} (h:n.all tokC=true):runL tokC (n++61 :: v) 0=n.length:=by
 unfold runL;rw [List.drop_zero,List.takeWhile_append_of_pos (fun x hx=>List.all_eq_true.1 h x hx),List.takeWhile_cons,if_neg (by decide)];simp
def ParseOne (n v:ByteArray) (w:World) (e:Ending) (w':World):Prop:=∃ g c,e=.returned (.tuple #[.slice (some ⟨g,0,none⟩) 1 c,.nilIface])∧w.heap.size≤g∧g<w'.heap.size ∧
 w'.cell? ⟨g,0,none⟩=some (.string n)∧w'.cell? ⟨g,1,none⟩=some (.string v)∧Below w.heap.size w w'
theorem parse_one (s n v:ByteArray) (w:World) (hs:s.data.toList=n.data.toList++61 :: v.data.toList) (hsz:s.size≤100000) (hn:tokB n=true) (hv:octsB v=true) :
  Calls Tryz.prog 110 #[.string s] w (ParseOne n v w):=by
 obtain ⟨i0,hi,hz⟩:=Option.map_eq_some_iff.1 pair_info;simp only [Prod.mk.injEq] at hz;obtain ⟨hz0,hz1,hz2⟩:=hz;have hnl:n.data.toList.length=n.size:=rfl;have hvl:v.data.toList.length=v.size:=rfl;have hsl:s.data.toList.length=s.size:=rfl;have hss:s.size=n.size+1+v.size:=by rw [←hsl,hs,List.length_append,List.length_cons,hnl,hvl];omega
 have hns:n.size<s.size:=by rw [hss];omega
 have hn':0<n.size∧(n.data.toList.all fun c=>tokN c.toNat)=true:=by unfold tokB at hn;simpa using hn
 have r1:runL tokC s.data.toList 0=n.size:=by rw [hs];exact run_name hn'.2
 have r2:runL octC s.data.toList (n.size+1)=s.size:=by
  rw [run_all octC (by omega),hsl];rw [hs,show n.data.toList++61 :: v.data.toList=(n.data.toList++[61])++v.data.toList by simp,List.drop_left' (by simp [hnl])];exact hv
 have x1:s.extract 0 n.size=n:=bytes_eq (by rw [ext_toList,hs,List.drop_zero,List.take_left' hnl])
 have x2:s.extract (n.size+1) s.size=v:=bytes_eq (by
  rw [ext_toList,←hsl,List.take_length,hs,show n.data.toList++61 :: v.data.toList=(n.data.toList++[61])++v.data.toList by simp,List.drop_left' (by simp [hnl])])
 have HR1:=qH (run_tok s 0 w (by omega) (Nat.zero_le _));have HR2:=qH (run_oct s (n.size+1) w (by omega) (by omega));rw [r1] at HR1;rw [r2] at HR2
 have h61:s[n.size]'hns=61:=by
  have h1:s.data.toList[n.size]'hns=61:=by simp only [hs];rw [List.getElem_append_right (by omega)];simp [hnl]
  exact h1
 have h61':(s[n.size]'hns).toNat=61:=by rw [h61];rfl
 have h61z:(((s[n.size]'hns).toNat:Nat):Int)=61:=by rw [h61'];rfl
 have hne:¬ n.size=0:=by omega
 have hnz:¬ (n.size:Int)=0:=by omega
 have hnq:¬ (n.size:Int)=(s.size:Int):=by omega
 have hq1:(n.size:Int)<(s.size:Int):=by omega
 have hq2:(n.size:Int)+1≤(s.size:Int):=by omega
 have hqn:n.size+1≤s.size:=by omega
 have hemp:s.toList.isEmpty=false:=by
  have h1:=str_ne s;rw [decide_eq_true (by omega)] at h1
  simpa using h1
 have b1:((n.size:Int)==0)=false:=by rw [beq_eq_false_iff_ne];omega
 have b2:((n.size:Int)==(s.size:Int))=false:=by rw [beq_eq_false_iff_ne];omega
 have hle:n.size≤s.size:=by omega
 have ew:IntKind.i64.wrap ((n.size:Int)+1)=((n.size+1:Nat):Int):=by rw [IntKind.wrap_i64];omega
 have hqn':((n.size+1:Nat):Int)≤(s.size:Int):=by omega
 have HSS:=qH hss;clear hs hv hn hn' r1 r2 hnl hvl hsl hss;go_enter Tryz.func110,Tryz.ntmps110;go_wp2_with fail
 go_loopw [4,6] (fun ov x wr=>ov=.slice none 0 0∧x=.int .i64 0∧wr=w) (fun _ _ _=>0)
 case atStart=>exact ⟨rfl,rfl,rfl⟩
 case round =>
  obtain ⟨rfl,rfl,hw⟩:=hrel;subst hw;go_wp2_with fail;refine HR1.out.mono ?_;rintro e w1 ⟨rfl,hw⟩;subst hw;go_wp2_with fail;refine HR2.out.mono ?_;rintro e w2 ⟨rfl,hw⟩;subst hw;clear HR1 HR2;go_wp2_with fail;refine wp_region_mono nobody (by kernel_rfl) ?_
  iterate 11
   first|refine qT 0 (v:=?_) ?_ ?_|refine qT 1 (v:=?_) ?_ ?_|refine qT 2 (v:=?_) ?_ ?_|refine qT 3 (v:=?_) ?_ ?_|refine qT 4 (v:=?_) ?_ ?_|refine qT 5 (v:=?_) ?_ ?_|refine qT 6 (v:=?_) ?_ ?_|refine qT 7 (v:=?_) ?_ ?_|refine qT 8 (v:=?_) ?_ ?_|refine qT 9 (v:=?_) ?_ ?_|refine qT 10 (v:=?_) ?_ ?_
   rotate_left
   ·(intro W hSw;(have hcW:=hSw.cells;try simp only [qSd] at hcW);go_simp <;> rfl)
   try simp only [qPA]
  refine wpMono_one' 11 (by kernel_rfl) rfl (by rfl) (fun K hK=>?_)
  go_simp
  refine hK.out _ _ ?_ ?_
  ·exact Keeps.alloc _
  clear hK K
  try simp only [qPA]
  refine wpMono_one' 12 (by kernel_rfl) rfl (by rfl) (fun K hK=>?_);refine wp_append_any ((w2.alloc (.cells #[.string n,.string v] 84)).drew) (.tmp 39) (.tmp 50) 85 rfl w2.heap.size 84 i0 _ 2 32 Tryz.underlying85 hi hz0 hz1 hz2 rfl (by decide) (.slice none 0 0) 0 [] rfl ⟨rfl,.inl ⟨rfl,rfl⟩⟩ _ (some ⟨w2.heap.size,0,none⟩) 1 1 [.string n,.string v] rfl (Reads.newAtD w2 #[.string n,.string v] 84 (0,0) rfl rfl) (by simp [Value.oneCell']) (by unfold maxLen;omega) (by omega) (by show _≤(w2.alloc _).heap.size;simp) (fun v3 w3 h2 h3 _=>?_);refine hK.out _ _ ?_ ?_
  ·exact Keeps.grown h3 (fun g h=>by cases h)
  clear hK K
  try simp only [qPA]
  refine qT 13 (v:=?_) ?_ ?_;rotate_left
  ·(intro W hSw;(have hcW:=hSw.cells;try simp only [qSd] at hcW);go_simp <;> rfl)
  try simp only [qPA]
  refine wpMono_done (by kernel_rfl) ?_ _;obtain ⟨g,cap,rfl,hbg,hgl⟩:=World.ownsRow.form h2 (by omega);have hrd:=(Reads.of_own h2).2 (by omega);obtain ⟨b,off,eb,_,hc⟩:=hrd;obtain ⟨rfl,rfl⟩:g=b∧0=off:=by simpa using eb
  have k0:w3.cell? ⟨g,0,none⟩=some (.string n):=hc 0 (by simp);have k1:w3.cell? ⟨g,1,none⟩=some (.string v):=hc 1 (by simp);have HB3:=qH (show Below w2.heap.size w2 w3 from ((Below.refl _ w2).alloc (Nat.le_refl _) _).drew.trans (Keeps.below (X:=nobody) (Keeps.grown h3 (fun g h=>by cases h)) (fun _ _ h=>h) (by show _≤(w2.alloc _).heap.size;simp)));have HK:=qH (And.intro k0 k1);clear h2 h3 hc k0 k1;go_wp2_with fail;go_ret2
  exact ⟨g,cap,rfl,hbg,hgl,HK.out.1,HK.out.2,HB3.out⟩
end cookw
namespace cookw
open Go Go.RowKit Go.Lib base rowe bake monoj
def valI (v:ByteArray) (i:Nat):ByteArray:=if i=0 then ⟨#[]⟩ else v
theorem find_one (s n v:ByteArray) (w:World) (hs:s.data.toList=n.data.toList++61 :: v.data.toList) (hsz:s.size≤4096) (hn:tokB n=true) (hv:octsB v=true) :
  Calls Tryz.prog 45 #[.string s,.string n] w fun e w'=>e=.returned (.tuple #[.string v,.nilIface])∧Below w.heap.size w w':=by
 have HP:=qH (parse_one s n v (w.alloc (.cells #[.string s] 9)) hs (by omega) hn hv);have hb0:=qH (below_new w (.cells #[.string s] 9));have hq:¬ (4096:Int)<(s.size:Int):=by omega
 clear hs hn hv;go_enter Tryz.func45,Tryz.ntmps45;go_wp2_with fail;refine HP.out.mono ?_;rintro e w1 ⟨g,c,rfl,hg1,hg2,k0,k1,hb1⟩;have HB1:=qH (hb0.out.trans (hb1.mono (by simp)));clear HP hb0 hb1;go_wp2_with fail
 go_loopw [9,10,36] (fun fv vv iv wr=>∃ i:Nat,i≤1∧iv=.int .i64 i∧fv=.int .i64 i∧vv=.string (valI v i)∧Below w1.heap.size w1 wr) (fun _ _ iv _=>1-(RowKit.intOf iv).toNat)
 case atStart=>exact ⟨0,by omega,rfl,rfl,rfl,Below.refl _ _⟩
 case round =>
  obtain ⟨i,hi,rfl,rfl,rfl,hbw⟩:=hrel;have hws:=hbw.size
  by_cases h1:i=1
  ·subst h1
   have HBW:=qH hbw;clear hbw;go_wp2_with fail;go_ret2
   exact ⟨rfl,HB1.out.trans (HBW.out.mono HB1.out.size)⟩
  ·obtain rfl:i=0:=by omega
   have k0':wr.cell? ⟨g,0,none⟩=some (.string n):=(hbw.cell (p:=⟨g,0,none⟩) hg2).trans k0;have k1':wr.cell? ⟨g,1,none⟩=some (.string v):=(hbw.cell (p:=⟨g,1,none⟩) hg2).trans k1;have hgw:g<wr.heap.size:=by omega
   have HBW:=qH hbw;clear hbw;go_wp2_with fail
   go_quiet (fail)
   go_wp2_with fail;go_roundw
   case rel=>exact ⟨1,by omega,by first|rfl|go_num,by first|rfl|go_num,rfl,by first|exact HBW.out.alloc hws _|exact below_drewN (HBW.out.alloc hws _) _|exact (HBW.out.alloc hws _).drew⟩
   case measure=>simp [RowKit.intOf]
end cookw
namespace cookw
open Go Go.RowKit Go.Lib base rowe bake monoj
theorem str_inf:(Tryz.prog.info? 9).map (fun i=>(i.zero,i.size,i.bytes))=some (some (.string ⟨#[]⟩),1,16):=by kernel_rfl
def outI (x:ByteArray) (i:Nat):List Value:=if i=0 then [] else [.string x]
theorem write_one (n v : ByteArray) (g c : Nat) (w : World) (hg : g < w.heap.size) (k0 : w.cell? ⟨g, 0, none⟩ = some (.string n)) (k1 : w.cell? ⟨g, 1, none⟩ = some (.string v)) (hn : tokB n = true) (hv : octsB v = true) (hns : n.size ≤ 100000) (hvs : v.size ≤ 100000) :
    Calls Tryz.prog 26 #[.slice (some ⟨g, 0, none⟩) 1 c] w fun e w' => e = .returned (.tuple #[.string ⟨(n.data.toList++61 :: v.data.toList).toArray⟩, .nilIface]) ∧ Below w.heap.size w w' := by
  obtain ⟨i0, hi0, hz⟩ := Option.map_eq_some_iff.1 str_inf;simp only [Prod.mk.injEq] at hz;obtain ⟨hz0, hz1, hz2⟩ := hz;have HT := qH (fun w' => token_any n w' (by omega));have HO := qH (fun w' => octets_any v w' (by omega));rw [hn] at HT;rw [hv] at HO;obtain ⟨X, hX⟩ : ∃ X : ByteArray, n++(⟨#[61]⟩ : ByteArray)++v = X := ⟨_, rfl⟩;have HX := qH (show n.data.toList++61 :: v.data.toList = X.data.toList from by rw [←hX]; simp [ByteArray.data_append]);have q1 : ¬ 9223372036854775807<n.size+1 := by omega
  have q2 : ¬ 9223372036854775807<n.size+1+v.size := by omega
  rw [HX.out];clear hn hv;go_enter Tryz.func26, Tryz.ntmps26;go_wp2_with fail
  go_loopw [4, 9] (fun ov iv wr => ∃ i : Nat, i ≤ 1 ∧ iv = .int .i64 i ∧ wr.ownsRow w.heap.size 9 1 ov i (outI X i) ∧ Below w.heap.size w wr) (fun _ iv _ => 1-(RowKit.intOf iv).toNat)
  case atStart => exact ⟨0, by omega, rfl, ⟨rfl, .inl ⟨rfl, rfl⟩⟩, Below.refl _ _⟩
  case round =>
    obtain ⟨i, hi, rfl, hv, hbw⟩ := hrel;have hws := hbw.size
    by_cases h1 : i = 1
    · subst h1
      obtain ⟨g', cap, rfl, hbg, hgl⟩ := World.ownsRow.form hv (by omega)
      have hcap : 1 ≤ cap := by
        rcases hv.2 with ⟨h', _⟩ | ⟨_, cap', cur, h', _, _, hnc, _⟩
        · cases h'
        · have := (Value.slice.inj h').2.2
          omega
      obtain ⟨b, off, eb, _, hc⟩ := (Reads.of_own hv).2 (by omega);obtain ⟨rfl, rfl⟩ : g' = b ∧ 0 = off := by simpa using eb
      have hx0 : wr.cell? ⟨g', 0+0, none⟩ = some (.string X) := hc 0 (by simp [outI]);have hjn : Lib.join ([X].map (·.data.toList)) (⟨#[59, 32]⟩ : ByteArray).data.toList = X.data.toList := by simp [Lib.join]
      have hJ := Tryz.strings_Join g' 0 cap [X] ⟨#[59, 32]⟩ wr (fun j x hj => by
        cases j with
        | zero => obtain rfl : X = x := by simpa using hj
                  exact hx0
        | succ j => simp at hj) hgl (by simp) (by simpa using hcap) (by rw [hjn, ← HX.out]; simp; show n.data.toList.length+(v.data.toList.length+1) ≤ _; have : n.data.toList.length = n.size := rfl; have : v.data.toList.length = v.size := rfl; omega)
      rw [hjn] at hJ;have HJ := qH hJ;have HBW := qH hbw;clear hv hbw hc hJ hx0 hjn;go_wp2_with fail;refine HJ.out.mono ?_;rintro e w1 ⟨rfl, hb1⟩;have HB1 := qH (HBW.out.trans (hb1.mono hws));clear hb1;go_wp2_with fail;go_ret2
      exact ⟨rfl, HB1.out⟩
    · obtain rfl : i = 0 := by omega
      have k0' : wr.cell? ⟨g, 0, none⟩ = some (.string n) := (hbw.cell (p := ⟨g, 0, none⟩) hg).trans k0;have k1' : wr.cell? ⟨g, 1, none⟩ = some (.string v) := (hbw.cell (p := ⟨g, 1, none⟩) hg).trans k1;have hgw : g<wr.heap.size := by omega
      have HV := qH hv;have HBW := qH hbw;clear hv hbw;go_wp2_with fail;refine (HT.out _).mono ?_;rintro e w1 ⟨rfl, hw⟩;subst hw;go_wp2_with fail;refine (HO.out _).mono ?_;rintro e w2 ⟨rfl, hw⟩;subst hw;have HV2 := qH (base.own_keeps HV.out (X := nobody) (w' := wr.alloc (.cells #[.string n, .string v] 84)) (.of_below (below_new wr _)) (fun _ _ h => h))
      go_wp2_with (at_builtin; refine wpList_append_newAt rfl (.tmp 27) (.tmp 34) _ rfl w.heap.size 9 i0 _ 1 16 Tryz.underlying75 hi0 hz0 hz1 hz2 rfl (by decide) _ 0 _ rfl HV2.out 1 1 (wr.heap.size+1) (by simp) [_] rfl rfl (by simp [Value.oneCell']) (by unfold maxLen; omega) (by omega) (by simp; omega) ?_; intro v5 w5 hv5 hb5 _ _)
      have hrel5 : ∃ i : Nat, i ≤ 1 ∧ Value.int .i64 1 = .int .i64 i ∧ w5.ownsRow w.heap.size 9 1 v5 i (outI X i) ∧ Below w.heap.size w w5 := ⟨1, by omega, rfl, hv5, (HBW.out.alloc hws _).trans hb5⟩;have HREL := qH hrel5;clear hv5 hb5 hrel5;go_wp2_with fail;refine ⟨?rel, ?measure⟩
      case rel =>
        first | exact HREL.out | exact ⟨_, _, HREL.out, rfl, rfl⟩ | exact ⟨_, _, _, HREL.out, rfl, rfl, rfl⟩
      case measure => simp [RowKit.intOf]
end cookw
end Go.Proofs.YthlahcnglacekaaGreatDoor
