/- Part of GateRetires. -/
import Derived.Test.YthlahcnglacekaaGreatDoorB18
set_option maxRecDepth 100000
set_option maxHeartbeats 16000000
namespace Go.Proofs.YthlahcnglacekaaGreatDoor
namespace bake
open Go Go.RowKit base dec rowe
theorem byte_info:(Tryz.prog.info? 5).map (fun i=>(i.zero,i.size,i.bytes))=some (some (.int .u8 0),1,1):=by kernel_rfl
def cells (l:List UInt8):List Value:=l.map fun b=>Value.int .u8 (b.toNat:Nat)
end bake
namespace bake
open Go Go.RowKit base dec
def digC (c:UInt8):Bool:=decide (48≤c.toNat)&&decide (c.toNat≤57)
def valL (l:List UInt8):Nat:=l.foldl (fun n c=>min (n*10+(c.toNat-48)) 1099511627776) 0
def numL (below:Bool) (l:List UInt8):Option Nat:=if l.all digC&&!l.isEmpty then some (if below then 0 else valL l) else none
def ageL (l:List UInt8):Option Nat:=if [45].isPrefixOf l then numL true (l.drop 1) else numL false l
theorem val_le (l:List UInt8):valL l≤1099511627776:=by
 unfold valL
 rcases List.eq_nil_or_concat l with rfl|⟨a,c,rfl⟩
 ·simp
 ·rw [List.concat_eq_append,List.foldl_append]
  simp
  omega
theorem val_next {s:ByteArray} {k:Nat} (h:k<s.size):valL (s.data.toList.take (k+1))=min (valL (s.data.toList.take k)*10+(s[k].toNat-48)) 1099511627776:=by
 have h2:k<s.data.toList.length:=h;rw [List.take_succ_eq_append_getElem h2];unfold valL;rw [List.foldl_append];rfl
theorem all_take {s:ByteArray} {k:Nat} (h:k<s.size) (ha:(s.data.toList.take k).all digC=true) (hc:digC s[k]=true):(s.data.toList.take (k+1)).all digC=true:=by
 have h2:k<s.data.toList.length:=h;rw [List.take_succ_eq_append_getElem h2,List.all_append,ha];simp
 exact hc
theorem all_bad {s:ByteArray} {k:Nat} (h:k<s.size) (hc:digC s[k]=false):s.data.toList.all digC=false:=by
 rw [List.all_eq_false];exact ⟨s[k],by exact List.getElem_mem (l:=s.data.toList) h,by rw [hc];simp⟩
theorem num_bad {s:ByteArray} {k:Nat} (h:k<s.size) (hc:digC s[k]=false) (b:Bool):numL b s.data.toList=none:=by
 unfold numL;rw [all_bad h hc];rfl
theorem num_end {s:ByteArray} (ha:(s.data.toList.take s.size).all digC=true) (b:Bool):numL b s.data.toList=if 0<s.size then some (if b then 0 else valL s.data.toList) else none:=by
 have htk:s.data.toList.take s.size=s.data.toList:=List.take_of_length_le (Nat.le_refl _);rw [htk] at ha;unfold numL;rw [ha]
 by_cases h:0<s.size
 ·rw [if_pos h,if_pos]
  have:s.data.toList≠[]:=fun e=>by have h2:s.data.toList.length=s.size:=rfl;rw [e] at h2;simp at h2;omega
  simpa using this
 ·rw [if_neg h,if_neg]
  have:s.data.toList=[]:=List.eq_nil_of_length_eq_zero (by have h2:s.data.toList.length=s.size:=rfl;omega);rw [this];simp
theorem num_last {s:ByteArray} (ha:(s.data.toList.take s.size).all digC=true) (b:Bool):(numL b s.data.toList).getD 0=cond b 0 (valL (s.data.toList.take s.size))∧(numL b s.data.toList).isSome=decide (0<s.size):=by
 rw [num_end ha b];have htk:s.data.toList.take s.size=s.data.toList:=List.take_of_length_le (Nat.le_refl _);rw [htk]
 by_cases h:0<s.size
 ·rw [if_pos h,decide_eq_true h]
  cases b <;> simp
 ·have he:s.data.toList=[]:=List.eq_nil_of_length_eq_zero (by have h2:s.data.toList.length=s.size:=rfl;omega)
  rw [if_neg h,decide_eq_false h,he]
  cases b <;> simp [valL]
theorem age_any (s:ByteArray) (w:World) (hs:s.size≤1000000):Calls Tryz.prog 61 #[.string s] w fun e w'=>e=.returned (.tuple #[.int .i64 ((ageL s.data.toList).getD 0:Nat),.bool (ageL s.data.toList).isSome])∧w'=w:=by
 go_enter Tryz.func61,Tryz.ntmps61;go_wp2_with fail;refine (Tryz.strings_HasPrefix s ⟨#[45]⟩ w).mono ?_;rintro e w1 ⟨rfl,rfl⟩
 cases hp:[45].isPrefixOf s.data.toList with
 | true =>
  have hag:ageL s.data.toList=numL true (s.data.toList.drop 1):=by unfold ageL;rw [if_pos hp]
  have h1:1≤s.size:=by
   cases hd:s.data.toList with
   | nil=>rw [hd] at hp;simp at hp
   | cons a l=>have h2:s.data.toList.length=s.size:=rfl;rw [hd] at h2;simp at h2;omega
  have hpx:Lib.hasPrefix s.data.toList (⟨#[45]⟩:ByteArray).data.toList=true:=hp;clear hp;rw [hpx];go_wp2_with fail;obtain ⟨D,hD⟩:∃ D,s.extract 1 s.size=D:=⟨_,rfl⟩;rw [hD]
  have HAG:=qH (show ageL s.data.toList=numL true D.data.toList from by
   rw [hag,←hD,ext_toList,show s.size=s.data.toList.length from rfl,List.take_length])
  have hsz:D.size≤1000000:=by rw [←hD];simp [ByteArray.size_extract];omega
  clear hD hag
  go_loop [6,7] (fun n x=>∃ k:Nat,k≤D.size∧x=.int .i64 k∧n=.int .i64 (valL (D.data.toList.take k):Nat)∧(D.data.toList.take k).all digC=true) (fun _ x=>D.size-(intOf x).toNat)
  case atStart=>exact ⟨0,by omega,rfl,rfl,rfl⟩
  case round =>
   obtain ⟨k,hk,rfl,rfl,ha⟩:=hrel;have hv:=val_le (D.data.toList.take k)
   by_cases h0:k<D.size
   ·have h256:D[k].toNat<256:=D[k].toNat_lt
    cases hc:digC D[k] with
    | true =>
     have HA:=qH (all_take h0 ha hc);have HV:=qH (val_next h0);unfold digC at hc;simp at hc
     obtain ⟨g1,g2⟩:=hc;have d1:decide ((D[k].toNat:Int)<48)=false:=by simp;omega
     have d2:decide ((57:Int)<(D[k].toNat:Int))=false:=by simp;omega
     clear ha;generalize valL (D.data.toList.take k)=v at *;go_wp2_with fail
     go_round
     case rel=>exact ⟨k+1,by omega,by go_num,by rw [HV.out];congr 1;omega,HA.out⟩
     case measure=>simp [intOf];omega
    | false =>
     have HN:=qH (num_bad h0 hc true);clear ha;have hbad:D[k].toNat<48∨57<D[k].toNat:=by unfold digC at hc;simp at hc;omega
     clear hc
     by_cases g1:D[k].toNat<48
     ·have d1:decide ((D[k].toNat:Int)<48)=true:=by simp;omega
      go_wp2_with fail;go_ret2
      refine ⟨?_,rfl⟩;rw [HAG.out,HN.out];rfl
     ·have d1:decide ((D[k].toNat:Int)<48)=false:=by simp;omega
      have d2:decide ((57:Int)<(D[k].toNat:Int))=true:=by simp;omega
      go_wp2_with fail;go_ret2
      refine ⟨?_,rfl⟩;rw [HAG.out,HN.out];rfl
   ·obtain rfl:k=D.size:=by omega
    have HN:=qH (num_last ha true);have hse:=str_ne D;have HS:=qH hse;clear ha hse;go_wp2_with fail;go_ret2
    refine ⟨?_,rfl⟩;rw [HAG.out,HN.out.1,HN.out.2,←HS.out];rfl
 | false =>
  have hag:ageL s.data.toList=numL false s.data.toList:=by unfold ageL;rw [if_neg (by rw [hp];simp)]
  have hpx:Lib.hasPrefix s.data.toList (⟨#[45]⟩:ByteArray).data.toList=false:=hp;have HAG:=qH hag;clear hp hag;rw [hpx];go_wp2_with fail
  go_loop [6,7] (fun n x=>∃ k:Nat,k≤s.size∧x=.int .i64 k∧n=.int .i64 (valL (s.data.toList.take k):Nat)∧(s.data.toList.take k).all digC=true) (fun _ x=>s.size-(intOf x).toNat)
  case atStart=>exact ⟨0,by omega,rfl,rfl,rfl⟩
  case round =>
   obtain ⟨k,hk,rfl,rfl,ha⟩:=hrel;have hv:=val_le (s.data.toList.take k)
   by_cases h0:k<s.size
   ·have h256:s[k].toNat<256:=s[k].toNat_lt
    cases hc:digC s[k] with
    | true =>
     have HA:=qH (all_take h0 ha hc);have HV:=qH (val_next h0);unfold digC at hc;simp at hc
     obtain ⟨g1,g2⟩:=hc;have d1:decide ((s[k].toNat:Int)<48)=false:=by simp;omega
     have d2:decide ((57:Int)<(s[k].toNat:Int))=false:=by simp;omega
     clear ha;generalize valL (s.data.toList.take k)=v at *;go_wp2_with fail
     go_round
     case rel=>exact ⟨k+1,by omega,by go_num,by rw [HV.out];congr 1;omega,HA.out⟩
     case measure=>simp [intOf];omega
    | false =>
     have HN:=qH (num_bad h0 hc false);clear ha;have hbad:s[k].toNat<48∨57<s[k].toNat:=by unfold digC at hc;simp at hc;omega
     clear hc
     by_cases g1:s[k].toNat<48
     ·have d1:decide ((s[k].toNat:Int)<48)=true:=by simp;omega
      go_wp2_with fail;go_ret2
      refine ⟨?_,rfl⟩;rw [HAG.out,HN.out];rfl
     ·have d1:decide ((s[k].toNat:Int)<48)=false:=by simp;omega
      have d2:decide ((57:Int)<(s[k].toNat:Int))=true:=by simp;omega
      go_wp2_with fail;go_ret2
      refine ⟨?_,rfl⟩;rw [HAG.out,HN.out];rfl
   ·obtain rfl:k=s.size:=by omega
    have HN:=qH (num_last ha false);have hse:=str_ne s;have HS:=qH hse;clear ha hse;go_wp2_with fail;go_ret2
    refine ⟨?_,rfl⟩;rw [HAG.out,HN.out.1,HN.out.2,←HS.out];rfl
end bake
namespace bake
open Go Go.RowKit base dec
def numI (l:List UInt8):Int:=match ageL l with|some n=>(n:Int)|none=>-1
end bake
namespace bake
open Go Go.RowKit base dec
def siteL:Nat→List UInt8
 | 1=>[83,116,114,105,99,116]
 | 2=>[76,97,120]
 | 3=>[78,111,110,101]
 | _=>[]
theorem site_any (n:Nat) (w:World) (hn:n≤3):Calls Tryz.prog 62 #[.int .i64 n] w fun e w'=>e=.returned (.string (mkB (siteL n)))∧Below w.heap.size w w':=by
 have h4:n=0∨n=1∨n=2∨n=3:=by omega
 rcases h4 with rfl|rfl|rfl|rfl
 all_goals
  go_enter Tryz.func62,Tryz.ntmps62;go_wp2;go_ret
  exact ⟨rfl,below_new w _⟩
end bake
namespace bake
open Go Go.RowKit base dec
def pathC (c:UInt8):Bool:=decide (32≤c.toNat)&&decide (c.toNat≤126)&&!decide (c.toNat=59)
def pathL (l:List UInt8):Bool:=match l with
 | []=>true
 | c :: r=>decide (c=47)&&decide (trimB r=r)&&l.all pathC
theorem text_eq (a b:ByteArray):(a.toList==b.toList)=decide (a=b):=by
 rw [ByteArray.toList_eq,ByteArray.toList_eq,Bool.eq_iff_iff];simp
 exact ⟨fun h=>bytes_eq (by rw [h]),fun h=>by rw [h]⟩
theorem path_cons {s:ByteArray} (h:0<s.size):pathL s.data.toList=(decide (s[0]=47)&&decide (trimB (s.extract 1 s.size).data.toList=(s.extract 1 s.size).data.toList)&&s.data.toList.all pathC):=by
 conv=>lhs;rw [cons_of h]
 conv=>rhs;rw [cons_of h]
 simp [pathL]
theorem trim_same {t:ByteArray}:decide (trimB t.data.toList=t.data.toList)=decide (trimA t=t):=by
 rw [decide_eq_decide];exact ⟨fun h=>bytes_eq h,fun h=>by conv=>{ rhs;rw [←h] };simp [trimA]⟩
theorem pall_take {s:ByteArray} {k:Nat} (h:k<s.size) (ha:(s.data.toList.take k).all pathC=true) (hc:pathC s[k]=true):(s.data.toList.take (k+1)).all pathC=true:=by
 have h2:k<s.data.toList.length:=h;rw [List.take_succ_eq_append_getElem h2,List.all_append,ha];simp
 exact hc
theorem pall_bad {s:ByteArray} {k:Nat} (h:k<s.size) (hc:pathC s[k]=false):s.data.toList.all pathC=false:=by
 rw [List.all_eq_false];exact ⟨s[k],by exact List.getElem_mem (l:=s.data.toList) h,by rw [hc];simp⟩
theorem path_any (s : ByteArray) (w : World) (hs : s.size ≤ 1000000) : Calls Tryz.prog 107 #[.string s] w fun e w' => e = .returned (.bool (pathL s.data.toList)) ∧ ∃ n, w' = w.drewN n := by
  have hse := str_ne s;go_enter Tryz.func107, Tryz.ntmps107
  by_cases h0 : 0<s.size
  · have d0 : s.toList.isEmpty = false := by rw [decide_eq_true h0] at hse; simpa using hse
    have h256 : s[0].toNat<256 := s[0].toNat_lt;clear hse
    by_cases h47 : s[0] = 47
    · have e1 : ((s[0].toNat : Int)==47) = true := by rw [h47]; rfl
      have e1b : ((s[0].toNat : Int) != 47) = false := by rw [bne, e1]; rfl
      have c1 : 0 ≤ (1 : Int) ∧ (1 : Int) ≤ (s.size : Int) := by omega
      go_wp2_with fail;refine wp_region_mono nobody (by kernel_rfl) ?_;refine qT 0 (v := ?_) ?_ ?_; rotate_left
      · (intro W hSw; have hcW := hSw.cells; try simp only [qSd] at hcW
         go_simp; first | done | rfl | (rw [if_pos c1]; rfl))
      try simp only [qPA]
      (try rw [d0]); (try rw [e1b]); (try rw [Bool.false_or])
      refine qT 1 (v := ?_) ?_ ?_; rotate_left
      · (intro W hSw; have hcW := hSw.cells; try simp only [qSd] at hcW
         go_simp; first | done | rfl | (rw [if_pos c1]; rfl))
      try simp only [qPA]
      (try rw [d0]); (try rw [e1b]); (try rw [Bool.false_or])
      refine qT 2 (v := ?_) ?_ ?_; rotate_left
      · (intro W hSw; have hcW := hSw.cells; try simp only [qSd] at hcW
         go_simp; first | done | rfl | (rw [if_pos c1]; rfl))
      try simp only [qPA]
      (try rw [d0]); (try rw [e1b]); (try rw [Bool.false_or])
      refine qT 3 (v := ?_) ?_ ?_; rotate_left
      · (intro W hSw; have hcW := hSw.cells; try simp only [qSd] at hcW
         go_simp; first | done | rfl | (rw [if_pos c1]; rfl))
      try simp only [qPA]
      (try rw [d0]); (try rw [e1b]); (try rw [Bool.false_or])
      refine qT 4 (v := ?_) ?_ ?_; rotate_left
      · (intro W hSw; have hcW := hSw.cells; try simp only [qSd] at hcW
         go_simp; first | done | rfl | (rw [if_pos c1]; rfl))
      try simp only [qPA]
      (try rw [d0]); (try rw [e1b]); (try rw [Bool.false_or])
      refine qT 5 (v := ?_) ?_ ?_; rotate_left
      · (intro W hSw; have hcW := hSw.cells; try simp only [qSd] at hcW
         go_simp; first | done | rfl | (rw [if_pos c1]; rfl))
      try simp only [qPA]
      (try rw [d0]); (try rw [e1b]); (try rw [Bool.false_or])
      refine qT 6 (v := ?_) ?_ ?_; rotate_left
      · (intro W hSw; have hcW := hSw.cells; try simp only [qSd] at hcW
         go_simp; first | done | rfl | (rw [if_pos c1]; rfl))
      try simp only [qPA]
      (try rw [d0]); (try rw [e1b]); (try rw [Bool.false_or])
      refine qT 7 (v := ?_) ?_ ?_; rotate_left
      · (intro W hSw; have hcW := hSw.cells; try simp only [qSd] at hcW
         go_simp; first | done | rfl | (rw [if_pos c1]; rfl))
      try simp only [qPA]
      (try rw [d0]); (try rw [e1b]); (try rw [Bool.false_or])
      refine qT 8 (v := ?_) ?_ ?_; rotate_left
      · (intro W hSw; have hcW := hSw.cells; try simp only [qSd] at hcW
         go_simp; first | done | rfl | (rw [if_pos c1]; rfl))
      try simp only [qPA]
      (try rw [d0]); (try rw [e1b]); (try rw [Bool.false_or])
      refine qT 9 (v := ?_) ?_ ?_; rotate_left
      · (intro W hSw; have hcW := hSw.cells; try simp only [qSd] at hcW
         go_simp; first | done | rfl | (rw [if_pos c1]; rfl))
      try simp only [qPA]
      (try rw [d0]); (try rw [e1b]); (try rw [Bool.false_or])
      refine qT 11 (v := ?_) ?_ ?_; rotate_left
      · (intro W hSw; have hcW := hSw.cells; try simp only [qSd] at hcW
         go_simp; first | done | rfl | (rw [if_pos c1]; rfl))
      try simp only [qPA]
      (try rw [d0]); (try rw [e1b]); (try rw [Bool.false_or])
      refine qT 12 (v := ?_) ?_ ?_; rotate_left
      · (intro W hSw; have hcW := hSw.cells; try simp only [qSd] at hcW
         go_simp; first | done | rfl | (rw [if_pos c1]; rfl))
      try simp only [qPA]
      (try rw [d0]); (try rw [e1b]); (try rw [Bool.false_or])
      refine wpMono_one' 10 (by kernel_rfl) rfl (by rfl) (fun K hK => ?_)
      go_simp
      refine (trim_text (s.extract 1 s.size) _ (by simp [ByteArray.size_extract]; omega)).mono ?_;rintro e w2 ⟨⟨rfl, _⟩, rfl⟩;refine hK.out _ _ ?_ ?_
      · exact .refl _ _
      clear hK K
      try simp only [qPA]
      (try rw [d0]); (try rw [e1b]); (try rw [Bool.false_or])
      refine qT 13 (v := ?_) ?_ ?_; rotate_left
      · (intro W hSw; have hcW := hSw.cells; try simp only [qSd] at hcW
         go_simp; first | done | rfl | (rw [if_pos c1]; rfl))
      try simp only [qPA]
      (try rw [d0]); (try rw [e1b]); (try rw [Bool.false_or])
      refine qT 14 (v := ?_) ?_ ?_; rotate_left
      · (intro W hSw; have hcW := hSw.cells; try simp only [qSd] at hcW
         go_simp; first | done | rfl | (rw [if_pos c1]; rfl))
      try simp only [qPA]
      (try rw [d0]); (try rw [e1b]); (try rw [Bool.false_or])
      refine wpMono_done (by kernel_rfl) ?_ _;have heq := text_eq (trimA (s.extract 1 s.size)) (s.extract 1 s.size);rw [heq];clear heq
      have hpl : pathL s.data.toList = (decide (trimA (s.extract 1 s.size) = s.extract 1 s.size)&&s.data.toList.all pathC) := by
        rw [path_cons h0, h47, trim_same]; simp
      cases hT : decide (trimA (s.extract 1 s.size) = s.extract 1 s.size) with
      | false =>
        rw [hT] at hpl;have HP := qH (show pathL s.data.toList = false from by rw [hpl]; rfl);clear hpl hT;go_wp2_with fail;go_ret
        exact ⟨ret_bool HP.out.symm, 1, rfl⟩
      | true =>
        rw [hT, Bool.true_and] at hpl;have HP := qH hpl;clear hpl hT e1 e1b h47 c1;obtain ⟨X, hX⟩ : ∃ X, s.extract 1 s.size = X := ⟨_, rfl⟩;rw [hX];obtain ⟨Y, hY⟩ : ∃ Y, trimA X = Y := ⟨_, rfl⟩;rw [hY];clear hX hY;go_wp2_with fail
        go_loop [3] (fun x => ∃ k : Nat, k ≤ s.size ∧ x = .int .i64 k ∧ (s.data.toList.take k).all pathC = true) (fun x => s.size-(intOf x).toNat)
        case atStart => exact ⟨0, by omega, rfl, rfl⟩
        case round =>
          obtain ⟨k, hk, rfl, ha⟩ := hrel
          by_cases h1 : k<s.size
          · have h256k : s[k].toNat<256 := s[k].toNat_lt
            cases hc : pathC s[k] with
            | true =>
              have HA := qH (pall_take h1 ha hc);unfold pathC at hc;simp at hc
              obtain ⟨⟨g1, g2⟩, g3⟩ := hc;have d1 : decide ((s[k].toNat : Int)<32) = false := by simp; omega
              have d2 : decide ((126 : Int)<(s[k].toNat : Int)) = false := by simp; omega
              have e3 : ((s[k].toNat : Int)==59) = false := by rw [beq_eq_false_iff_ne]; omega
              clear ha g1 g2 g3;go_wp2_with fail
              go_round
              case rel => exact ⟨k+1, by omega, by go_num, HA.out⟩
              case measure => simp [intOf]; omega
            | false =>
              have HN := qH (pall_bad h1 hc);clear ha;have hbad : s[k].toNat<32∨126<s[k].toNat∨s[k].toNat = 59 := by unfold pathC at hc; simp at hc; omega
              clear hc
              by_cases g1 : s[k].toNat<32
              · have d1 : decide ((s[k].toNat : Int)<32) = true := by simp; omega
                go_wp2_with fail;go_ret
                exact ⟨ret_bool (by rw [HP.out, HN.out]), 1, rfl⟩
              · have d1 : decide ((s[k].toNat : Int)<32) = false := by simp; omega
                by_cases g2 : 126<s[k].toNat
                · have d2 : decide ((126 : Int)<(s[k].toNat : Int)) = true := by simp; omega
                  go_wp2_with fail;go_ret
                  exact ⟨ret_bool (by rw [HP.out, HN.out]), 1, rfl⟩
                · have d2 : decide ((126 : Int)<(s[k].toNat : Int)) = false := by simp; omega
                  have e3 : ((s[k].toNat : Int)==59) = true := by rw [beq_iff_eq]; omega
                  go_wp2_with fail;go_ret
                  exact ⟨ret_bool (by rw [HP.out, HN.out]), 1, rfl⟩
          · obtain rfl : k = s.size := by omega
            have HN := qH (show s.data.toList.all pathC = true from by rw [show s.size = s.data.toList.length from rfl, List.take_length] at ha; exact ha);clear ha;go_wp2_with fail;go_ret
            exact ⟨ret_bool (by rw [HP.out, HN.out]), 1, rfl⟩
    · have e1 : ((s[0].toNat : Int) == 47) = false := by
        rw [beq_eq_false_iff_ne];intro h;exact h47 (UInt8.toNat_inj.mp (show s[0].toNat = 47 by omega))
      have e1b : ((s[0].toNat : Int) != 47) = true := by rw [bne, e1]; rfl
      have HP := qH (show pathL s.data.toList = false from by rw [cons_of h0]; simp [pathL, h47]);go_wp2_with fail;refine wp_region_mono nobody (by kernel_rfl) ?_
      iterate 8
        first | refine qT 0 (v := ?_) ?_ ?_ | refine qT 1 (v := ?_) ?_ ?_ | refine qT 2 (v := ?_) ?_ ?_ | refine qT 3 (v := ?_) ?_ ?_ | refine qT 4 (v := ?_) ?_ ?_ | refine qT 5 (v := ?_) ?_ ?_ | refine qT 6 (v := ?_) ?_ ?_ | refine qT 7 (v := ?_) ?_ ?_
        rotate_left
        · (intro W hSw; (have hcW := hSw.cells; try simp only [qSd] at hcW); go_simp <;> rfl)
        try simp only [qPA]
        (try rw [d0]); (try rw [e1b]); (try rw [Bool.false_or])
      refine wpMono_skip' 8 rfl (by kernel_rfl) (by kernel_rfl) (by kernel_rfl) (fun _ _ _ h => h) (by rfl) ?_
      try simp only [qPA]
      (try rw [d0]); (try rw [e1b]); (try rw [Bool.false_or])
      refine wpMono_skip' 9 rfl (by kernel_rfl) (by kernel_rfl) (by kernel_rfl) (fun _ _ _ h => h) (by rfl) ?_
      try simp only [qPA]
      (try rw [d0]); (try rw [e1b]); (try rw [Bool.false_or])
      refine wpMono_skip' 10 rfl (by kernel_rfl) (by kernel_rfl) (by kernel_rfl) (fun _ _ _ h => h) (by rfl) ?_
      try simp only [qPA]
      (try rw [d0]); (try rw [e1b]); (try rw [Bool.false_or])
      refine wpMono_skip' 11 rfl (by kernel_rfl) (by kernel_rfl) (by kernel_rfl) (fun _ _ _ h => h) (by rfl) ?_
      try simp only [qPA]
      (try rw [d0]); (try rw [e1b]); (try rw [Bool.false_or])
      refine wpMono_skip' 12 rfl (by kernel_rfl) (by kernel_rfl) (by kernel_rfl) (fun _ _ _ h => h) (by rfl) ?_
      try simp only [qPA]
      (try rw [d0]); (try rw [e1b]); (try rw [Bool.false_or])
      refine wpMono_skip' 13 rfl (by kernel_rfl) (by kernel_rfl) (by kernel_rfl) (fun _ _ _ h => h) (by rfl) ?_
      try simp only [qPA]
      (try rw [d0]); (try rw [e1b]); (try rw [Bool.false_or])
      refine qT 14 (v := ?_) ?_ ?_; rotate_left
      · (intro W hSw; (have hcW := hSw.cells; try simp only [qSd] at hcW); go_simp <;> rfl)
      try simp only [qPA]
      (try rw [d0]); (try rw [e1b]); (try rw [Bool.false_or])
      refine wpMono_done (by kernel_rfl) ?_ _;go_wp2_with fail;go_ret
      exact ⟨ret_bool HP.out.symm, 1, rfl⟩
  · have d0 : s.toList.isEmpty = true := by rw [decide_eq_false h0] at hse; simpa using hse
    have HP := qH (show pathL s.data.toList = true from by rw [drop_none h0]; rfl);clear hse;go_wp2_with fail;refine wp_region_mono nobody (by kernel_rfl) ?_
    iterate 3
      first | refine qT 0 (v := ?_) ?_ ?_ | refine qT 1 (v := ?_) ?_ ?_ | refine qT 2 (v := ?_) ?_ ?_
      rotate_left
      · (intro W hSw; (have hcW := hSw.cells; try simp only [qSd] at hcW); go_simp <;> rfl)
      try simp only [qPA]
      (try rw [d0]); (try rw [Bool.true_or])
    refine wpMono_skip' 3 rfl (by kernel_rfl) (by kernel_rfl) (by kernel_rfl) (fun _ _ _ h => h) (by rfl) ?_
    try simp only [qPA]
    (try rw [d0]); (try rw [Bool.true_or])
    refine wpMono_skip' 4 rfl (by kernel_rfl) (by kernel_rfl) (by kernel_rfl) (fun _ _ _ h => h) (by rfl) ?_
    try simp only [qPA]
    (try rw [d0]); (try rw [Bool.true_or])
    refine wpMono_skip' 5 rfl (by kernel_rfl) (by kernel_rfl) (by kernel_rfl) (fun _ _ _ h => h) (by rfl) ?_
    try simp only [qPA]
    (try rw [d0]); (try rw [Bool.true_or])
    iterate 2
      first | refine qT 6 (v := ?_) ?_ ?_ | refine qT 7 (v := ?_) ?_ ?_
      rotate_left
      · (intro W hSw; (have hcW := hSw.cells; try simp only [qSd] at hcW); go_simp <;> rfl)
      try simp only [qPA]
      (try rw [d0]); (try rw [Bool.true_or])
    refine wpMono_skip' 8 rfl (by kernel_rfl) (by kernel_rfl) (by kernel_rfl) (fun _ _ _ h => h) (by rfl) ?_
    try simp only [qPA]
    (try rw [d0]); (try rw [Bool.true_or])
    refine wpMono_skip' 9 rfl (by kernel_rfl) (by kernel_rfl) (by kernel_rfl) (fun _ _ _ h => h) (by rfl) ?_
    try simp only [qPA]
    (try rw [d0]); (try rw [Bool.true_or])
    refine wpMono_skip' 10 rfl (by kernel_rfl) (by kernel_rfl) (by kernel_rfl) (fun _ _ _ h => h) (by rfl) ?_
    try simp only [qPA]
    (try rw [d0]); (try rw [Bool.true_or])
    refine wpMono_skip' 11 rfl (by kernel_rfl) (by kernel_rfl) (by kernel_rfl) (fun _ _ _ h => h) (by rfl) ?_
    try simp only [qPA]
    (try rw [d0]); (try rw [Bool.true_or])
    refine wpMono_skip' 12 rfl (by kernel_rfl) (by kernel_rfl) (by kernel_rfl) (fun _ _ _ h => h) (by rfl) ?_
    try simp only [qPA]
    (try rw [d0]); (try rw [Bool.true_or])
    refine wpMono_skip' 13 rfl (by kernel_rfl) (by kernel_rfl) (by kernel_rfl) (fun _ _ _ h => h) (by rfl) ?_
    try simp only [qPA]
    (try rw [d0]); (try rw [Bool.true_or])
    refine qT 14 (v := ?_) ?_ ?_; rotate_left
    · (intro W hSw; (have hcW := hSw.cells; try simp only [qSd] at hcW); go_simp <;> rfl)
    try simp only [qPA]
    (try rw [d0]); (try rw [Bool.true_or])
    refine wpMono_done (by kernel_rfl) ?_ _;go_wp2_with fail;go_ret
    exact ⟨ret_bool HP.out.symm, 1, rfl⟩
end bake
end Go.Proofs.YthlahcnglacekaaGreatDoor
