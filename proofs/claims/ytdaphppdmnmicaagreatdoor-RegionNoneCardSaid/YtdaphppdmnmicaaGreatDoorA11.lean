/- A part of the proof of RegionNone: NameQ. -/
import Derived.Test.YtdaphppdmnmicaaGreatDoorA10
import Derived.Test.YtdaphppdmnmicaaGreatDoorA07
namespace Go.Proofs.YtdaphppdmnmicaaGreatDoor.quota
open Go Go.RowKit base dec err
open Go.Lib (decDigits)
structure Tabs (w:World):Prop where
 m:∃ m,w.cell? ⟨2,0,none⟩=some (.int .i64 m)
 t : Lib.TabIs Tryz.prog w "internal/strconv.uint64pow10" .u64 Lib.pow10Tab
 s:2 < w.heap.size
theorem pow_at : Tryz.prog.globalNamed "internal/strconv.uint64pow10" = some 1 := by kernel_rfl
theorem Tabs.below {w w':World} (h:Tabs w) (hb:Below w.heap.size w w'):Tabs w':=by
 have hs:=h.s
 refine ⟨?_,?_,by have:=hb.size;omega⟩
 ·obtain ⟨m,hm⟩:=h.m
  exact ⟨m,(hb.cell (p:=⟨2,0,none⟩) (by show 2 < w.heap.size;omega)).trans hm⟩
 ·have ht:=h.t
  unfold Lib.TabIs World.var? at ht ⊢
  rw [pow_at] at ht ⊢
  simp only [Option.bind_some] at ht ⊢
  rw [hb.block 1 (by omega)]
  exact ht
theorem below_grow (w:World) (k:Nat) (os:Array Obj):Below w.heap.size w (Sort.grow (w.drewN k) os) :=
 ⟨rfl,rfl,rfl,by simp [Sort.grow],fun i hi=>by
  unfold Sort.grow
  exact Array.getElem?_append_left hi⟩
def str (l:List UInt8):ByteArray:=⟨l.toArray⟩
theorem str_app (a b:List UInt8):str a ++ str b=str (a ++ b):=by
 apply ByteArray.ext
 simp [str,ByteArray.data_append]
theorem str_list (l:List UInt8):(str l).data.toList=l:=rfl
theorem str_of (s:ByteArray):str s.data.toList=s:=rfl
def OkN (a b:Nat):Prop:=1≤a∧a≤16∧1≤b∧b≤1099511627776
def BadN (r n:Int):Prop:=r < 1 ∨ 16 < r ∨ n < 1 ∨ 1099511627776 < n
def NameR (r n:Int) (w:World) (e:Ending) (w':World):Prop :=
 (∃ a b:Nat,r=a∧n=b∧OkN a b∧e=.returned (.tuple #[.string (str (nm a b)),.nilIface])∧Below w.heap.size w w') ∨
 (BadN r n∧∃ v,e=.returned (.tuple #[.string ⟨#[]⟩,v])∧Err w' v 1∧v ≠ .nilIface∧Below w.heap.size w w')
theorem itoa_nat (a:Nat):Lib.itoa (a:Int)=decDigits a:=by
 unfold Lib.itoa
 rw [if_neg (by omega)]
 rfl
theorem bad_any (c:Int) (w:World):Calls Tryz.prog 115 #[.int .i64 c] w (ErrNew c w):=by
 go_enter Tryz.func115,Tryz.ntmps115
 go_wp2_with fail
 refine (at_any _ _ c w).mono ?_
 rintro e w1 ⟨v,rfl,h⟩
 go_wp2_with fail
 go_ret
 exact ⟨v,rfl,h⟩
set_option maxHeartbeats 1600000 in
theorem name_any (r n:Int) (w:World) (ht:Tabs w):Calls Tryz.prog 45 #[.int .i64 r,.int .i64 n] w (NameR r n w):=by
 have HT:=Lib.hid ht
 clear ht
 by_cases hb:BadN r n
 ·have HB:=Lib.hid hb
  go_enter Tryz.func45,Tryz.ntmps45
  have fin:∀ w1 v,ErrNew 1 w (.returned v) w1→NameR r n w (.returned (.tuple #[.string ⟨#[]⟩,v])) w1:=fun w1 v h=>by
   obtain ⟨v2,e,h1,h2,h3,_⟩:=h
   injection e with e
   subst e
   exact .inr ⟨HB.out,v,rfl,h1,h2,h3⟩
  have HF:=Lib.hid fin
  clear fin
  by_cases h1:r < 1
  ·skip
   go_wp2_with fail
   refine (bad_any 1 w).mono ?_
   rintro e w1 hE
   obtain ⟨v,rfl,_⟩:=id hE
   have HE:=Lib.hid (HF.out w1 v hE)
   clear hE
   go_wp2_with fail
   go_ret2
   exact HE.out
  ·by_cases h2:16 < r
   ·skip
    go_wp2_with fail
    refine (bad_any 1 w).mono ?_
    rintro e w1 hE
    obtain ⟨v,rfl,_⟩:=id hE
    have HE:=Lib.hid (HF.out w1 v hE)
    clear hE
    go_wp2_with fail
    go_ret2
    exact HE.out
   ·by_cases h3:n < 1
    ·skip
     go_wp2_with fail
     refine (bad_any 1 w).mono ?_
     rintro e w1 hE
     obtain ⟨v,rfl,_⟩:=id hE
     have HE:=Lib.hid (HF.out w1 v hE)
     clear hE
     go_wp2_with fail
     go_ret2
     exact HE.out
    ·have h4:1099511627776 < n:=by unfold BadN at hb;omega
     clear hb
     go_wp2_with fail
     refine (bad_any 1 w).mono ?_
     rintro e w1 hE
     obtain ⟨v,rfl,_⟩:=id hE
     have HE:=Lib.hid (HF.out w1 v hE)
     clear hE
     go_wp2_with fail
     go_ret2
     exact HE.out
 ·have hv:OkN r.toNat n.toNat:=by unfold BadN at hb;unfold OkN;omega
  obtain ⟨a,rfl⟩:=Int.eq_ofNat_of_zero_le (show 0≤r by unfold BadN at hb;omega)
  obtain ⟨b,rfl⟩:=Int.eq_ofNat_of_zero_le (show 0≤n by unfold BadN at hb;omega)
  have h1:¬ (a:Int) < 1:=by unfold BadN at hb;omega
  have h2:¬ (16:Int) < a:=by unfold BadN at hb;omega
  have h3:¬ (b:Int) < 1:=by unfold BadN at hb;omega
  have h4:¬ (1099511627776:Int) < b:=by unfold BadN at hb;omega
  clear hb
  go_enter Tryz.func45,Tryz.ntmps45
  go_wp2_with fail
  refine (Tryz.strconv_Itoa a (by omega) (by omega) w HT.out.t).mono ?_
  rintro e w1 ⟨rfl,k1,os1,hw1⟩
  have hb1:Below w.heap.size w w1:=by rw [hw1];exact below_grow _ _ _
  clear hw1
  have hla:(decDigits a).length≤2:=dec_len_le 1 a (by omega)
  have hlb:(decDigits b).length≤13:=dec_len_le 12 b (by omega)
  rw [itoa_nat]
  obtain ⟨A,hA⟩:∃ A,str (decDigits a)=A:=⟨_,rfl⟩
  obtain ⟨B,hB⟩:∃ B,str (decDigits b)=B:=⟨_,rfl⟩
  have hsA:A.size≤2:=by rw [← hA];simpa [str,ByteArray.size] using hla
  have hsB:B.size≤13:=by rw [← hB];simpa [str,ByteArray.size] using hlb
  have hsA1:(A ++ { data:=#[45] }:ByteArray).size=A.size + 1:=by rw [ByteArray.size_append];rfl
  rw [show (⟨(decDigits a).toArray⟩:ByteArray)=A from hA]
  go_wp2_with fail
  refine (Tryz.strconv_Itoa b (by omega) (by omega) w1 (HT.out.below hb1).t).mono ?_
  rintro e w2 ⟨rfl,k2,os2,hw2⟩
  have hb2:Below w1.heap.size w1 w2:=by rw [hw2];exact below_grow _ _ _
  clear hw2
  rw [itoa_nat,show (⟨(decDigits b).toArray⟩:ByteArray)=B from hB]
  go_wp2_with fail
  go_ret2
  refine .inl ⟨a,b,rfl,rfl,hv,?_,hb1.trans (hb2.mono hb1.size)⟩
  rw [← hA,← hB,show ({ data:=#[45] }:ByteArray)=str [45] from rfl,str_app,str_app]
  rfl
end Go.Proofs.YtdaphppdmnmicaaGreatDoor.quota
