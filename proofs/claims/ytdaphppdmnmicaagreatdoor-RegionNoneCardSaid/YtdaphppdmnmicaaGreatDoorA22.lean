/- A part of the proof of RegionNone: ParseQ, AwakeQ. -/
import Derived.Test.YtdaphppdmnmicaaGreatDoorA11
namespace Go.Proofs.YtdaphppdmnmicaaGreatDoor.quota
open Go Go.RowKit base dec err
open Go.Lib (decDigits)
theorem index_dash:∀ (a b:List UInt8),(∀ x ∈ a,x ≠ 45)→Lib.index (a ++ 45 :: b) [45]=a.length
 | [],b,_=>by unfold Lib.index;simp [List.isPrefixOf]
 | x :: a,b,h=>by
  have ih:=index_dash a b (fun y hy=>h y (by simp [hy]))
  have hx:(45:UInt8) ≠ x:=fun e=>h x (by simp) e.symm
  show Lib.index (x :: (a ++ 45 :: b)) [45]=_
  unfold Lib.index
  rw [ih]
  simp [List.isPrefixOf,hx]
  try omega
theorem index_free:∀ (l:List UInt8),(∀ x ∈ l,x ≠ 45)→Lib.index l [45]=-1
 | [],_=>by unfold Lib.index;rfl
 | x :: l,h=>by
  have ih:=index_free l (fun y hy=>h y (by simp [hy]))
  have hx:(45:UInt8) ≠ x:=fun e=>h x (by simp) e.symm
  unfold Lib.index
  rw [ih]
  simp [List.isPrefixOf,hx]
theorem dash_cases:∀ (l:List UInt8),(∀ x ∈ l,x ≠ 45) ∨ ∃ a b,l=a ++ 45 :: b∧∀ x ∈ a,x ≠ 45
 | []=>.inl (by simp)
 | x :: l=>by
  by_cases hx:x=45
  ·exact .inr ⟨[],l,by rw [hx];rfl,by simp⟩
  ·rcases dash_cases l with h|⟨a,b,h1,h2⟩
   ·exact .inl fun y hy=>by
     rcases List.mem_cons.1 hy with h3|h3
     ·rw [h3];exact hx
     ·exact h y h3
   ·exact .inr ⟨x :: a,b,by rw [h1];rfl,fun y hy=>by
     rcases List.mem_cons.1 hy with h3|h3
     ·rw [h3];exact hx
     ·exact h2 y h3⟩
theorem cut_dash (a b:List UInt8) (h:∀ x ∈ a,x ≠ 45):Lib.cut (a ++ 45 :: b) [45]=(a,b,true):=by
 unfold Lib.cut
 rw [index_dash a b h,if_pos (by omega)]
 simp
theorem cut_free (l:List UInt8) (h:∀ x ∈ l,x ≠ 45):Lib.cut l [45]=(l,[],false):=by
 unfold Lib.cut
 rw [index_free l h,if_neg (by omega)]
theorem parse_yes {l:List UInt8} {r n:Nat} (h1:NumOf (Lib.cut l [45]).1 16 r) (h2:NumOf (Lib.cut l [45]).2.1 1099511627776 n) (hr:r ≠ 0) (hn:n ≠ 0):OkN r n∧l=nm r n:=by
 rcases dash_cases l with h|⟨a,b,rfl,h⟩
 ·rw [cut_free l h] at h2
  rcases h2 with ⟨e,_⟩|⟨_,_,e⟩
  ·exact absurd e hn
  ·exact absurd e.symm (dec_ne n)
 ·rw [cut_dash a b h] at h1 h2
  rcases h1 with ⟨e,_⟩|⟨a1,a2,a3⟩
  ·exact absurd e hr
  ·rcases h2 with ⟨e,_⟩|⟨b1,b2,b3⟩
   ·exact absurd e hn
   ·exact ⟨⟨a1,a2,b1,b2⟩,by rw [nm_eq,← a3,← b3]⟩
theorem parse_no {l:List UInt8} {r n:Nat} (h1:NumOf (Lib.cut l [45]).1 16 r) (h2:NumOf (Lib.cut l [45]).2.1 1099511627776 n) (h0:r=0 ∨ n=0):∀ a b,OkN a b→l ≠ nm a b:=by
 rintro a b ⟨a1,a2,b1,b2⟩ rfl
 rw [nm_eq,cut_dash _ _ (no_dash a)] at h1 h2
 rcases h0 with rfl|rfl
 ·rcases h1 with ⟨_,h⟩|⟨h,_⟩
  ·exact h a a1 a2 rfl
  ·omega
 ·rcases h2 with ⟨_,h⟩|⟨h,_⟩
  ·exact h b b1 b2 rfl
  ·omega
def ParseR (l:List UInt8) (w:World) (e:Ending) (w':World):Prop :=
 (∃ a b:Nat,OkN a b∧l=nm a b∧e=.returned (.tuple #[.int .i64 a,.int .i64 b,.nilIface])∧Below w.heap.size w w') ∨
 ((∀ a b,OkN a b→l ≠ nm a b)∧∃ v,e=.returned (.tuple #[.int .i64 0,.int .i64 0,v])∧Err w' v 2∧v ≠ .nilIface∧Below w.heap.size w w')
set_option maxHeartbeats 1600000 in
theorem parse_any (s:ByteArray) (w:World) (hs:s.size≤1000000) (ht:Tabs w):Calls Tryz.prog 133 #[.string s] w (ParseR s.data.toList w):=by
 obtain ⟨m,hm⟩:=ht.m
 have HM:=Lib.hid hm
 clear hm ht
 go_enter Tryz.func133,Tryz.ntmps133
 go_wp2_with fail
 refine (Tryz.strings_Cut s ⟨#[45]⟩ m w (by omega) HM.out).mono ?_
 rintro e w1 ⟨rfl,k1,hw1⟩
 have hb1:Below w.heap.size w w1:=by rw [hw1];exact (Keeps.drewN (X:=nobody) k1).below'
 clear hw1
 have hl1:(Lib.cut s.data.toList [45]).1.length≤s.size:=by
  rcases dash_cases s.data.toList with h|⟨a,b,h1,h2⟩
  ·rw [cut_free _ h];exact Nat.le_of_eq Array.length_toList
  ·rw [h1,cut_dash a b h2]
   have:=congrArg List.length h1
   rw [Array.length_toList] at this
   simp at this
   show a.length≤s.size
   omega
 have hl2:(Lib.cut s.data.toList [45]).2.1.length≤s.size:=by
  rcases dash_cases s.data.toList with h|⟨a,b,h1,h2⟩
  ·rw [cut_free _ h];exact Nat.zero_le _
  ·rw [h1,cut_dash a b h2]
   have:=congrArg List.length h1
   rw [Array.length_toList] at this
   simp at this
   show b.length≤s.size
   omega
 have HY:=Lib.hid (fun (r n:Nat)=>@parse_yes s.data.toList r n)
 have HN:=Lib.hid (fun (r n:Nat)=>@parse_no s.data.toList r n)
 rw [show ([45]:List UInt8).toArray.toList=[45] from rfl] at *
 generalize Lib.cut s.data.toList [45]=c at *
 obtain ⟨c1,c2,c3⟩:=c
 dsimp only at hl1 hl2
 go_wp2_with fail
 refine (number_any ⟨c1.toArray⟩ 16 w1 (by show c1.toArray.size≤_;rw [List.size_toArray];omega) (by omega)).mono ?_
 rintro e w2 ⟨⟨r,rfl,hr⟩,rfl⟩
 go_wp2_with fail
 refine (number_any ⟨c2.toArray⟩ 1099511627776 w2 (by show c2.toArray.size≤_;rw [List.size_toArray];omega) (by omega)).mono ?_
 rintro e w3 ⟨⟨n,rfl,hn⟩,rfl⟩
 have HR:=Lib.hid hr
 have HNN:=Lib.hid hn
 clear hr hn
 by_cases h0:r=0 ∨ n=0
 ·have hno:=HN.out r n HR.out HNN.out h0
  have HNO:=Lib.hid hno
  clear hno
  by_cases hr0:r=0
  ·subst hr0
   go_wp2_with fail
   refine (bad_any 2 w3).mono ?_
   rintro e w4 ⟨v,rfl,h1,h2,h3,_⟩
   go_wp2_with fail
   exact bodyPost_ret (v:=.tuple #[.int .i64 0,.int .i64 0,v]) (by simp [results,Tryz.results133,go_sem]) rfl (.inr ⟨HNO.out,v,rfl,h1,h2,hb1.trans (h3.mono hb1.size)⟩)
  ·obtain rfl:n=0:=by omega
   have hrb:((r:Int) == 0)=false:=by simp;omega
   go_wp2_with fail
   refine (bad_any 2 w3).mono ?_
   rintro e w4 ⟨v,rfl,h1,h2,h3,_⟩
   go_wp2_with fail
   exact bodyPost_ret (v:=.tuple #[.int .i64 0,.int .i64 0,v]) (by simp [results,Tryz.results133,go_sem]) rfl (.inr ⟨HNO.out,v,rfl,h1,h2,hb1.trans (h3.mono hb1.size)⟩)
 ·obtain ⟨hok,hl⟩:=HY.out r n HR.out HNN.out (by omega) (by omega)
  have HOK:=Lib.hid hok
  have HL:=Lib.hid hl
  clear hok hl
  have hrb:((r:Int) == 0)=false:=by simp;omega
  have hnb:((n:Int) == 0)=false:=by simp;omega
  go_wp2_with fail
  exact bodyPost_ret (v:=.tuple #[.int .i64 r,.int .i64 n,.nilIface]) (by simp [results,Tryz.results133,go_sem]) rfl (.inl ⟨r,n,HOK.out,HL.out,rfl,hb1⟩)
end Go.Proofs.YtdaphppdmnmicaaGreatDoor.quota
namespace Go.Proofs.YtdaphppdmnmicaaGreatDoor.quota
open Go Go.RowKit base dec err
open Go.Lib (decDigits)
end Go.Proofs.YtdaphppdmnmicaaGreatDoor.quota
