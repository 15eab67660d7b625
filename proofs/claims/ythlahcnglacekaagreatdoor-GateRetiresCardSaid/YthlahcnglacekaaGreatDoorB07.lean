/- Part of GateRetires. -/
import Derived.Test.YthlahcnglacekaaGreatDoorB09
import Derived.Test.YthlahcnglacekaaGreatDoorB05
import Derived.Deep.DeepCutAuto
import Derived.Deep.CutBlock
set_option maxRecDepth 100000
set_option maxHeartbeats 16000000
namespace Go.Proofs.YthlahcnglacekaaGreatDoor
namespace quota
open Go Go.RowKit base dec err
open Go.Lib (decDigits)
structure Tabs (w:World):Prop where
 m:∃ m,w.cell? ⟨1,0,none⟩=some (.int .i64 m)
 t : Lib.TabIs Tryz.prog w "internal/strconv.uint64pow10" .u64 Lib.pow10Tab
 s:max 1 2<w.heap.size
theorem pow_at : Tryz.prog.globalNamed "internal/strconv.uint64pow10" = some 2 := by kernel_rfl
theorem Tabs.below {w w':World} (h:Tabs w) (hb:Below w.heap.size w w'):Tabs w':=by
 have hs:=h.s;refine ⟨?_,?_,by have:=hb.size;omega⟩
 ·obtain ⟨m,hm⟩:=h.m
  exact ⟨m,(hb.cell (p:=⟨1,0,none⟩) (by show 1<w.heap.size;omega)).trans hm⟩
 ·have ht:=h.t
  unfold Lib.TabIs World.var? at ht ⊢;rw [pow_at] at ht ⊢;simp only [Option.bind_some] at ht ⊢;rw [hb.block 2 (by omega)];exact ht
theorem below_grow (w:World) (k:Nat) (os:Array Obj):Below w.heap.size w (Sort.grow (w.drewN k) os) :=
 ⟨rfl,rfl,rfl,by simp [Sort.grow],fun i hi=>by
  unfold Sort.grow;exact Array.getElem?_append_left hi⟩
def str (l:List UInt8):ByteArray:=⟨l.toArray⟩
theorem str_app (a b:List UInt8):str a++str b=str (a++b):=by
 apply ByteArray.ext
 simp [str,ByteArray.data_append]
theorem str_list (l:List UInt8):(str l).data.toList=l:=rfl
theorem str_of (s:ByteArray):str s.data.toList=s:=rfl
def OkN (a b:Nat):Prop:=1≤a∧a≤16∧1≤b∧b≤1099511627776
def BadN (r n:Int):Prop:=r<1∨16<r∨n<1∨1099511627776<n
def NameR (r n:Int) (w:World) (e:Ending) (w':World):Prop :=
 (∃ a b:Nat,r=a∧n=b∧OkN a b∧e=.returned (.tuple #[.string (str (nm a b)),.nilIface])∧Below w.heap.size w w') ∨
 (BadN r n∧∃ v,e=.returned (.tuple #[.string ⟨#[]⟩,v])∧Err w' v 1∧v≠.nilIface∧Below w.heap.size w w')
theorem itoa_nat (a:Nat):Lib.itoa (a:Int)=decDigits a:=by
 unfold Lib.itoa;rw [if_neg (by omega)];rfl
theorem bad_any (c:Int) (w:World):Calls Tryz.prog 156 #[.int .i64 c] w (ErrNew c w):=by
 go_enter Tryz.func156,Tryz.ntmps156;go_wp2_with fail;refine (at_any _ _ c w).mono ?_;rintro e w1 ⟨v,rfl,h⟩;go_wp2_with fail;go_ret
 exact ⟨v,rfl,h⟩
theorem name_any (r n:Int) (w:World) (ht:Tabs w):Calls Tryz.prog 96 #[.int .i64 r,.int .i64 n] w (NameR r n w):=by
 have HT:=qH ht;clear ht
 by_cases hb:BadN r n
 ·have HB:=qH hb
  go_enter Tryz.func96,Tryz.ntmps96
  have fin:∀ w1 v,ErrNew 1 w (.returned v) w1→NameR r n w (.returned (.tuple #[.string ⟨#[]⟩,v])) w1:=fun w1 v h=>by
   obtain ⟨v2,e,h1,h2,h3,_⟩:=h;injection e with e;subst e;exact .inr ⟨HB.out,v,rfl,h1,h2,h3⟩
  have HF:=qH fin;clear fin
  by_cases h1:r<1
  ·skip
   go_wp2_with fail;refine (bad_any 1 w).mono ?_;rintro e w1 hE;obtain ⟨v,rfl,_⟩:=id hE;have HE:=qH (HF.out w1 v hE);clear hE;go_wp2_with fail;go_ret2
   exact HE.out
  ·by_cases h2:16<r
   ·skip
    go_wp2_with fail;refine (bad_any 1 w).mono ?_;rintro e w1 hE;obtain ⟨v,rfl,_⟩:=id hE;have HE:=qH (HF.out w1 v hE);clear hE;go_wp2_with fail;go_ret2
    exact HE.out
   ·by_cases h3:n<1
    ·skip
     go_wp2_with fail;refine (bad_any 1 w).mono ?_;rintro e w1 hE;obtain ⟨v,rfl,_⟩:=id hE;have HE:=qH (HF.out w1 v hE);clear hE;go_wp2_with fail;go_ret2
     exact HE.out
    ·have h4:1099511627776<n:=by unfold BadN at hb;omega
     clear hb;go_wp2_with fail;refine (bad_any 1 w).mono ?_;rintro e w1 hE;obtain ⟨v,rfl,_⟩:=id hE;have HE:=qH (HF.out w1 v hE);clear hE;go_wp2_with fail;go_ret2
     exact HE.out
 ·have hv:OkN r.toNat n.toNat:=by unfold BadN at hb;unfold OkN;omega
  obtain ⟨a,rfl⟩:=Int.eq_ofNat_of_zero_le (show 0≤r by unfold BadN at hb;omega);obtain ⟨b,rfl⟩:=Int.eq_ofNat_of_zero_le (show 0≤n by unfold BadN at hb;omega);have h1:¬ (a:Int)<1:=by unfold BadN at hb;omega
  have h2:¬ (16:Int)<a:=by unfold BadN at hb;omega
  have h3:¬ (b:Int)<1:=by unfold BadN at hb;omega
  have h4:¬ (1099511627776:Int)<b:=by unfold BadN at hb;omega
  clear hb;go_enter Tryz.func96,Tryz.ntmps96;go_wp2_with fail;refine (Tryz.strconv_Itoa a (by omega) (by omega) w HT.out.t).mono ?_;rintro e w1 ⟨rfl,k1,os1,hw1⟩;have hb1:Below w.heap.size w w1:=by rw [hw1];exact below_grow _ _ _
  clear hw1;have hla:(decDigits a).length≤2:=dec_len_le 1 a (by omega);have hlb:(decDigits b).length≤13:=dec_len_le 12 b (by omega);rw [itoa_nat];obtain ⟨A,hA⟩:∃ A,str (decDigits a)=A:=⟨_,rfl⟩;obtain ⟨B,hB⟩:∃ B,str (decDigits b)=B:=⟨_,rfl⟩;have hsA:A.size≤2:=by rw [←hA];simpa [str,ByteArray.size] using hla
  have hsB:B.size≤13:=by rw [←hB];simpa [str,ByteArray.size] using hlb
  have hsA1:(A++{ data:=#[45] }:ByteArray).size=A.size+1:=by rw [ByteArray.size_append];rfl
  rw [show (⟨(decDigits a).toArray⟩:ByteArray)=A from hA];go_wp2_with fail;refine (Tryz.strconv_Itoa b (by omega) (by omega) w1 (HT.out.below hb1).t).mono ?_;rintro e w2 ⟨rfl,k2,os2,hw2⟩;have hb2:Below w1.heap.size w1 w2:=by rw [hw2];exact below_grow _ _ _
  clear hw2;rw [itoa_nat,show (⟨(decDigits b).toArray⟩:ByteArray)=B from hB];go_wp2_with fail;go_ret2
  refine .inl ⟨a,b,rfl,rfl,hv,?_,hb1.trans (hb2.mono hb1.size)⟩;rw [←hA,←hB,show ({ data:=#[45] }:ByteArray)=str [45] from rfl,str_app,str_app];rfl
end quota
namespace quota
open Go Go.RowKit base dec err
open Go.Lib (decDigits)
theorem index_dash:∀ (a b:List UInt8),(∀ x ∈ a,x≠45)→Lib.index (a++45 :: b) [45]=a.length
 | [],b,_=>by unfold Lib.index;simp [List.isPrefixOf]
 | x :: a,b,h=>by
  have ih:=index_dash a b (fun y hy=>h y (by simp [hy]));have hx:(45:UInt8)≠x:=fun e=>h x (by simp) e.symm;show Lib.index (x :: (a++45 :: b)) [45]=_;unfold Lib.index;rw [ih];simp [List.isPrefixOf,hx]
  try omega
theorem index_free:∀ (l:List UInt8),(∀ x ∈ l,x≠45)→Lib.index l [45]=-1
 | [],_=>by unfold Lib.index;rfl
 | x :: l,h=>by
  have ih:=index_free l (fun y hy=>h y (by simp [hy]));have hx:(45:UInt8)≠x:=fun e=>h x (by simp) e.symm;unfold Lib.index;rw [ih];simp [List.isPrefixOf,hx]
theorem dash_cases:∀ (l:List UInt8),(∀ x ∈ l,x≠45)∨∃ a b,l=a++45 :: b∧∀ x ∈ a,x≠45
 | []=>.inl (by simp)
 | x :: l=>by
  by_cases hx:x=45
  ·exact .inr ⟨[],l,by rw [hx];rfl,by simp⟩
  ·rcases dash_cases l with h|⟨a,b,h1,h2⟩
   ·exact .inl fun y hy=>by
     rcases List.mem_cons.1 hy with h3|h3
     ·rw [h3];exact hx
     ·exact h y h3
   ·exact .inr ⟨x :: a,b,by rw [h1];rfl,fun y hy=>by
     rcases List.mem_cons.1 hy with h3|h3
     ·rw [h3];exact hx
     ·exact h2 y h3⟩
theorem cut_dash (a b:List UInt8) (h:∀ x ∈ a,x≠45):Lib.cut (a++45 :: b) [45]=(a,b,true):=by
 unfold Lib.cut;rw [index_dash a b h,if_pos (by omega)];simp
theorem cut_free (l:List UInt8) (h:∀ x ∈ l,x≠45):Lib.cut l [45]=(l,[],false):=by
 unfold Lib.cut;rw [index_free l h,if_neg (by omega)]
theorem parse_yes {l:List UInt8} {r n:Nat} (h1:NumOf (Lib.cut l [45]).1 16 r) (h2:NumOf (Lib.cut l [45]).2.1 1099511627776 n) (hr:r≠0) (hn:n≠0):OkN r n∧l=nm r n:=by
 rcases dash_cases l with h|⟨a,b,rfl,h⟩
 ·rw [cut_free l h] at h2
  rcases h2 with ⟨e,_⟩|⟨_,_,e⟩
  ·exact absurd e hn
  ·exact absurd e.symm (dec_ne n)
 ·rw [cut_dash a b h] at h1 h2
  rcases h1 with ⟨e,_⟩|⟨a1,a2,a3⟩
  ·exact absurd e hr
  ·rcases h2 with ⟨e,_⟩|⟨b1,b2,b3⟩
   ·exact absurd e hn
   ·exact ⟨⟨a1,a2,b1,b2⟩,by rw [nm_eq,←a3,←b3]⟩
theorem parse_no {l:List UInt8} {r n:Nat} (h1:NumOf (Lib.cut l [45]).1 16 r) (h2:NumOf (Lib.cut l [45]).2.1 1099511627776 n) (h0:r=0∨n=0):∀ a b,OkN a b→l≠nm a b:=by
 rintro a b ⟨a1,a2,b1,b2⟩ rfl;rw [nm_eq,cut_dash _ _ (no_dash a)] at h1 h2
 rcases h0 with rfl|rfl
 ·rcases h1 with ⟨_,h⟩|⟨h,_⟩
  ·exact h a a1 a2 rfl
  ·omega
 ·rcases h2 with ⟨_,h⟩|⟨h,_⟩
  ·exact h b b1 b2 rfl
  ·omega
def ParseR (l:List UInt8) (w:World) (e:Ending) (w':World):Prop :=
 (∃ a b:Nat,OkN a b∧l=nm a b∧e=.returned (.tuple #[.int .i64 a,.int .i64 b,.nilIface])∧Below w.heap.size w w') ∨
 ((∀ a b,OkN a b→l≠nm a b)∧∃ v,e=.returned (.tuple #[.int .i64 0,.int .i64 0,v])∧Err w' v 2∧v≠.nilIface∧Below w.heap.size w w')
theorem parse_any (s:ByteArray) (w:World) (hs:s.size≤1000000) (ht:Tabs w):Calls Tryz.prog 196 #[.string s] w (ParseR s.data.toList w):=by
 obtain ⟨m,hm⟩:=ht.m;have HM:=qH hm;clear hm ht;go_enter Tryz.func196,Tryz.ntmps196;go_wp2_with fail;refine (Tryz.strings_Cut s ⟨#[45]⟩ m w (by omega) HM.out).mono ?_;rintro e w1 ⟨rfl,k1,hw1⟩;have hb1:Below w.heap.size w w1:=by rw [hw1];exact (Keeps.drewN (X:=nobody) k1).below'
 clear hw1
 have hl1:(Lib.cut s.data.toList [45]).1.length≤s.size:=by
  rcases dash_cases s.data.toList with h|⟨a,b,h1,h2⟩
  ·rw [cut_free _ h];exact Nat.le_of_eq Array.length_toList
  ·rw [h1,cut_dash a b h2]
   have:=congrArg List.length h1;rw [Array.length_toList] at this;simp at this
   show a.length≤s.size;omega
 have hl2:(Lib.cut s.data.toList [45]).2.1.length≤s.size:=by
  rcases dash_cases s.data.toList with h|⟨a,b,h1,h2⟩
  ·rw [cut_free _ h];exact Nat.zero_le _
  ·rw [h1,cut_dash a b h2]
   have:=congrArg List.length h1;rw [Array.length_toList] at this;simp at this
   show b.length≤s.size;omega
 have HY:=qH (fun (r n:Nat)=>@parse_yes s.data.toList r n);have HN:=qH (fun (r n:Nat)=>@parse_no s.data.toList r n);rw [show ([45]:List UInt8).toArray.toList=[45] from rfl] at *;generalize Lib.cut s.data.toList [45]=c at *;obtain ⟨c1,c2,c3⟩:=c;dsimp only at hl1 hl2;go_wp2_with fail;refine (number_any ⟨c1.toArray⟩ 16 w1 (by show c1.toArray.size≤_;rw [List.size_toArray];omega) (by omega)).mono ?_;rintro e w2 ⟨⟨r,rfl,hr⟩,rfl⟩;go_wp2_with fail;refine (number_any ⟨c2.toArray⟩ 1099511627776 w2 (by show c2.toArray.size≤_;rw [List.size_toArray];omega) (by omega)).mono ?_;rintro e w3 ⟨⟨n,rfl,hn⟩,rfl⟩;have HR:=qH hr;have HNN:=qH hn;clear hr hn
 by_cases h0:r=0∨n=0
 ·have hno:=HN.out r n HR.out HNN.out h0
  have HNO:=qH hno;clear hno
  by_cases hr0:r=0
  ·subst hr0
   go_wp2_with fail;refine (bad_any 2 w3).mono ?_;rintro e w4 ⟨v,rfl,h1,h2,h3,_⟩;go_wp2_with fail;exact bodyPost_ret (v:=.tuple #[.int .i64 0,.int .i64 0,v]) (by simp [results,Tryz.results196,go_sem]) rfl (.inr ⟨HNO.out,v,rfl,h1,h2,hb1.trans (h3.mono hb1.size)⟩)
  ·obtain rfl:n=0:=by omega
   have hrb:((r:Int)==0)=false:=by simp;omega
   go_wp2_with fail;refine (bad_any 2 w3).mono ?_;rintro e w4 ⟨v,rfl,h1,h2,h3,_⟩;go_wp2_with fail;exact bodyPost_ret (v:=.tuple #[.int .i64 0,.int .i64 0,v]) (by simp [results,Tryz.results196,go_sem]) rfl (.inr ⟨HNO.out,v,rfl,h1,h2,hb1.trans (h3.mono hb1.size)⟩)
 ·obtain ⟨hok,hl⟩:=HY.out r n HR.out HNN.out (by omega) (by omega)
  have HOK:=qH hok;have HL:=qH hl;clear hok hl;have hrb:((r:Int)==0)=false:=by simp;omega
  have hnb:((n:Int)==0)=false:=by simp;omega
  go_wp2_with fail;exact bodyPost_ret (v:=.tuple #[.int .i64 r,.int .i64 n,.nilIface]) (by simp [results,Tryz.results196,go_sem]) rfl (.inl ⟨r,n,HOK.out,HL.out,rfl,hb1⟩)
end quota
namespace bake
open Go Go.RowKit base dec
def alN (n:Nat):Bool:=decide (97≤n)&&decide (n≤122) || (decide (65≤n)&&decide (n≤90) || decide (48≤n)&&decide (n≤57))
def signs:List Nat:=[33,35,36,37,38,39,42,43,45,46,94,95,96,124,126]
def tokN (n:Nat):Bool:=alN n || signs.contains n
def tokB (s:ByteArray):Bool:=decide (0<s.size)&&s.data.toList.all fun c=>tokN c.toNat
theorem sign_index:∀ n:Fin 256,decide (0≤Lib.indexByte [33,35,36,37,38,39,42,43,45,46,94,95,96,124,126] (UInt8.ofNat n.val))=signs.contains n.val:=by decide +kernel
theorem str_ne (s:ByteArray):(!s.toList.isEmpty)=decide (0<s.size):=by
 have hl:s.toList.length=s.size:=by rw [ByteArray.toList_eq];rfl
 cases hs:s.toList with
 | nil=>rw [hs] at hl;simp at hl;rw [←hl];rfl
 | cons a l=>rw [hs] at hl;simp at hl;rw [show decide (0<s.size)=true by simp;omega];rfl
theorem token_any (s : ByteArray) (w : World) (hs : s.size ≤ 1000000) : Calls Tryz.prog 63 #[.string s] w fun e w' => e = .returned (.bool (tokB s)) ∧ w' = w := by
  go_enter Tryz.func63, Tryz.ntmps63;go_wp2
  go_loop [3] (fun k => ∃ n : Nat, n ≤ s.size ∧ k = .int .i64 n ∧ tokB s = (decide (0<s.size)&&(s.data.toList.drop n).all fun c => tokN c.toNat)) (fun k => s.size-(intOf k).toNat)
  case atStart => exact ⟨0, by omega, rfl, rfl⟩
  case round =>
    obtain ⟨n, hn, rfl, ha⟩ := hrel
    by_cases hlt : n<s.size
    · rw [all_next hlt] at ha
      have h256 : s[n].toNat<256 := s[n].toNat_lt;have HF := qH (show tokN s[n].toNat = false → tokB s = false from fun h => by rw [ha, h]; simp);have HT := qH (show tokN s[n].toNat = true → tokB s = (decide (0<s.size)&&(s.data.toList.drop (n+1)).all fun c => tokN c.toNat) from fun h => by rw [ha, h]; rfl)
      have HI := qH (show decide (0 ≤ Lib.indexByte [33, 35, 36, 37, 38, 39, 42, 43, 45, 46, 94, 95, 96, 124, 126] s[n]) = signs.contains s[n].toNat from by
        have := sign_index ⟨s[n].toNat, h256⟩
        simpa using this)
      clear ha;have hu : ((s[n].toNat : Int)).toNat.toUInt8 = s[n] := by simp
      have HU := qH hu;clear hu
      cases hal : alN s[n].toNat with
      | true =>
        have HG := qH (HT.out (by unfold tokN; rw [hal]; rfl));have HAL := qH hal;clear hal;go_wp2_with fail
        all_goals first
          | (go_round
             case rel => exact ⟨n+1, by omega, by go_num, HG.out⟩
             case measure => simp [intOf]; omega)
          | (exfalso; have := HAL.out; unfold alN at this; simp at this; omega)
      | false =>
        have HAL := qH hal;clear hal;go_wp2_with fail
        all_goals first
          | (exfalso; have := HAL.out; unfold alN at this; simp at this; omega)
          | (refine (Tryz.strings_IndexByte ⟨#[33, 35, 36, 37, 38, 39, 42, 43, 45, 46, 94, 95, 96, 124, 126]⟩ (s[n].toNat : Int) w).mono ?_
             rintro e w1 ⟨rfl, hw1⟩;subst w1;rw [HU.out];have hi := HI.out
             cases hs : signs.contains s[n].toNat with
             | true =>
               rw [hs] at hi;have HG := qH (HT.out (by unfold tokN; rw [hs, Bool.or_true]));clear hs;generalize Lib.indexByte [33, 35, 36, 37, 38, 39, 42, 43, 45, 46, 94, 95, 96, 124, 126] s[n] = q at *;go_wp2_with fail
               go_round
               case rel => exact ⟨n+1, by omega, by go_num, HG.out⟩
               case measure => simp [intOf]; omega
             | false =>
               rw [hs] at hi;have HG := qH (HF.out (by unfold tokN; rw [hs, HAL.out]; rfl));clear hs;generalize Lib.indexByte [33, 35, 36, 37, 38, 39, 42, 43, 45, 46, 94, 95, 96, 124, 126] s[n] = q at *;go_wp2_with fail;go_ret
               exact ⟨ret_bool HG.out.symm, rfl⟩)
    · obtain rfl : n = s.size := by omega
      rw [all_end, Bool.and_true] at ha;have HA := qH ha;have HS := qH (str_ne s);clear ha;go_wp2;go_ret
      exact ⟨ret_bool (by rw [HA.out, ← HS.out]), rfl⟩
end bake
end Go.Proofs.YthlahcnglacekaaGreatDoor
