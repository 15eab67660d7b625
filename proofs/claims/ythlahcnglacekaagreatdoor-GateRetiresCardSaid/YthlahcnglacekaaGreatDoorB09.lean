/- Part of GateRetires. -/
import Derived.Test.YthlahcnglacekaaGreatDoorB14
import Derived.Test.YthlahcnglacekaaGreatDoorB02
set_option maxRecDepth 100000
set_option maxHeartbeats 16000000
namespace Go.Proofs.YthlahcnglacekaaGreatDoor
namespace quota
open Go.RowKit base dec Go.Lib
theorem take_next (l:List UInt8) (n:Nat) (h:n<l.length):l.take (n+1)=l.take n++[l[n]]:=by rw [List.take_add_one,List.getElem?_eq_getElem h];rfl
theorem stop_dig {l:List UInt8} {n most:Nat} (h:n<l.length) (hd:digit l[n]=false):NumOf l most 0 :=
 .inl ⟨rfl,fun v _ _ e=>by
  have:=dec_dig v l[n] (by rw [←e];exact List.getElem_mem h);rw [hd] at this;cases this⟩
theorem stop_hd {l:List UInt8} {most:Nat} (h:0<l.length) (hd:l[0]=48):NumOf l most 0 :=
 .inl ⟨rfl,fun v h1 _ e=>by
  refine dec_hd v h1 ?_;rw [←e,List.head?_eq_getElem?,List.getElem?_eq_getElem h,hd]⟩
theorem stop_val {l:List UInt8} {n most:Nat} (hv:most<val (l.take n)):NumOf l most 0 :=
 .inl ⟨rfl,fun v _ h2 e=>by
  have h1:=val_le (l.take n) (l.drop n);rw [List.take_append_drop,e,dec_val,←e] at h1;omega⟩
theorem canon_next {l:List UInt8} {n:Nat} (h:n<l.length) (hc:0<n→Canon (l.take n)) (hd:digit l[n]=true) (h0:n=0→l[n]≠48):Canon (l.take (n+1)):=by
 rw [take_next l n h];refine ⟨List.append_ne_nil_of_right_ne_nil _ (by simp),fun c hm=>?_,?_⟩
 ·rcases List.mem_append.1 hm with hm|hm
  ·rcases Nat.eq_zero_or_pos n with e|e
   ·subst e;simp at hm
   ·exact (hc e).dig c hm
  ·rw [List.mem_singleton.1 hm];exact hd
 ·rcases Nat.eq_zero_or_pos n with e|e
  ·subst e;simpa using h0 rfl
  ·rw [head_app (hc e).ne];exact (hc e).hd
theorem num_end {l:List UInt8} {most:Nat} (hc:0<l.length→Canon l) (hv:val l≤most):NumOf l most (val l):=by
 rcases Nat.eq_zero_or_pos l.length with e|e
 ·have:=List.length_eq_zero_iff.1 e
  subst this;exact .inl ⟨rfl,fun v _ _ e=>dec_ne v e.symm⟩
 ·exact .inr ⟨canon_pos (hc e),hv,canon_eq (hc e)⟩
theorem number_any (s : ByteArray) (most : Nat) (w : World) (hs : s.size ≤ 1000000) (hm : most ≤ 1099511627776) :
    Calls Tryz.prog 233 #[.string s, .int .i64 most] w fun e w' => (∃ R : Nat, e = .returned (.int .i64 R) ∧ NumOf s.data.toList most R) ∧ w' = w := by
  have hsl : s.data.toList.length = s.size := Array.length_toList;go_enter Tryz.func233, Tryz.ntmps233;go_wp2
  go_loop [5, 6, 7] (fun x k _ => ∃ n m : Nat, n ≤ s.size ∧ k = .int .i64 n ∧ x = .int .i64 m ∧ val (s.data.toList.take n) = m ∧ (0<n → Canon (s.data.toList.take n)) ∧ m ≤ most*10+9) (fun _ k _ => s.size-(intOf k).toNat)
  case atStart => exact ⟨0, 0, by omega, rfl, rfl, rfl, by omega, by omega⟩
  case round =>
    obtain ⟨n, m, hn, rfl, rfl, hv, hc, hmm⟩ := hrel
    by_cases hlt : n<s.size
    · have hl : n<s.data.toList.length := by omega
      have hx : s.data.toList[n] = s[n] := by simp [ByteArray.getElem_eq_getElem_data]
      have hxd : digit s.data.toList[n] = (decide (48 ≤ s[n].toNat)&&decide (s[n].toNat ≤ 57)) := by rw [hx]; rfl
      have hvn : val (s.data.toList.take (n+1)) = m*10+(s[n].toNat-48) := by rw [take_next _ n hl, val_snoc, hv, hx]
      have h255 : s[n].toNat<256 := s[n].toNat_lt;have Hsl := qH hsl;have HC := qH hc;have HV := qH hv;have HX := qH hx;have HXD := qH hxd;have HVN := qH hvn;clear hsl hc hv hx hxd hvn
      by_cases h1 : (s[n].toNat : Int)<48
      · go_wp2
        go_ret
        exact ⟨⟨0, rfl, stop_dig hl (by rw [HXD.out]; simp; omega)⟩, rfl⟩
      · by_cases h2 : (57 : Int)<(s[n].toNat : Int)
        · go_wp2
          go_ret
          exact ⟨⟨0, rfl, stop_dig hl (by rw [HXD.out]; simp; omega)⟩, rfl⟩
        · have hd : digit s.data.toList[n] = true := by rw [HXD.out]; simp; omega
          by_cases h0 : n = 0
          · subst h0
            have hm0 : m = 0 := by rw [←HV.out]; rfl
            subst hm0
            by_cases h3 : (s[0].toNat : Int) = 48
            · go_wp2
              all_goals
                go_ret
                exact ⟨⟨0, rfl, stop_hd hl (by rw [HX.out, ← UInt8.ofNat_toNat (x := s[0])]; have : s[0].toNat = 48 := by omega
                                               rw [this]; rfl)⟩, rfl⟩
            · have h3b : ((s[0].toNat : Int)==48) = false := by simpa using h3
              go_wp2
              go_round
              case rel => exact ⟨1, s[0].toNat-48, by omega, rfl, by congr 1; omega, by rw [HVN.out]; omega, fun _ => canon_next hl HC.out hd (fun _ e => h3 (by rw [HX.out] at e; rw [e]; rfl)), by omega⟩
              case measure => simp [intOf]; omega
          · by_cases h4 : (most : Int)<(m : Int)
            · go_wp2
              all_goals
                go_ret
                exact ⟨⟨0, rfl, stop_val (n := n) (by rw [HV.out]; omega)⟩, rfl⟩
            · have hw := IntWalk.i64_in ((m : Int)*10) (by omega)
              go_wp2
              go_round
              case rel => exact ⟨n+1, m*10+(s[n].toNat-48), by omega, by go_num, by congr 1; omega, HVN.out, fun _ => canon_next hl HC.out hd (fun e => absurd e h0), by omega⟩
              case measure => simp [intOf]; omega
    · obtain rfl : n = s.size := by omega
      have ht : s.data.toList.take s.size = s.data.toList := List.take_of_length_le (by omega);rw [ht] at hv hc
      by_cases h4 : (most : Int)<(m : Int)
      · go_wp2
        go_ret
        exact ⟨⟨0, rfl, stop_val (n := s.size) (by rw [ht, hv]; omega)⟩, rfl⟩
      · go_wp2
        go_ret
        exact ⟨⟨m, rfl, by rw [←hv]; exact num_end (by rw [hsl]; exact hc) (by omega)⟩, rfl⟩
end quota
namespace bake
open Go Go.RowKit base dec
def octN (n:Nat):Bool:=decide (33≤n)&&(decide (n≤126)&&(!decide (n=34)&&(!decide (n=44)&&(!decide (n=59)&&!decide (n=92)))))
def octsB (s:ByteArray):Bool:=s.data.toList.all fun c=>octN c.toNat
theorem all_next {s:ByteArray} {k:Nat} (h:k<s.size) (p:UInt8→Bool):(s.data.toList.drop k).all p=(p s[k]&&(s.data.toList.drop (k+1)).all p):=by
 have hl:k<s.data.toList.length:=by rw [Array.length_toList];exact h
 rw [List.drop_eq_getElem_cons hl,List.all_cons];rfl
theorem all_end (s:ByteArray) (p:UInt8→Bool):(s.data.toList.drop s.size).all p=true:=by
 rw [List.drop_eq_nil_of_le (by rw [Array.length_toList];exact Nat.le_refl _)];rfl
theorem octets_any (s:ByteArray) (w:World) (hs:s.size≤1000000):Calls Tryz.prog 64 #[.string s] w fun e w'=>e=.returned (.bool (octsB s))∧w'=w:=by
 go_enter Tryz.func64,Tryz.ntmps64;go_wp2
 go_loop [3] (fun k=>∃ n:Nat,n≤s.size∧k=.int .i64 n∧octsB s=(s.data.toList.drop n).all fun c=>octN c.toNat) (fun k=>s.size-(intOf k).toNat)
 case atStart=>exact ⟨0,by omega,rfl,rfl⟩
 case round =>
  obtain ⟨n,hn,rfl,ha⟩:=hrel
  by_cases hlt:n<s.size
  ·rw [all_next hlt] at ha
   have h256:s[n].toNat<256:=s[n].toNat_lt;have HF:=qH (show octN s[n].toNat=false→octsB s=false from fun h=>by rw [ha,h];rfl);have HT:=qH (show octN s[n].toNat=true→octsB s=(s.data.toList.drop (n+1)).all fun c=>octN c.toNat from fun h=>by rw [ha,h];rfl);clear ha
   by_cases h1:(s[n].toNat:Int)<33
   ·skip
    go_wp2;go_ret
    exact ⟨ret_bool (HF.out (by unfold octN;simp;omega)).symm,rfl⟩
   by_cases h2:(126:Int)<(s[n].toNat:Int)
   ·skip
    go_wp2;go_ret
    exact ⟨ret_bool (HF.out (by unfold octN;simp;omega)).symm,rfl⟩
   by_cases h3:(s[n].toNat:Int)=34
   ·have e3:((s[n].toNat:Int)==34)=true:=by simpa using h3
    have H3:=qH h3;clear h3;go_wp2;go_ret
    exact ⟨ret_bool (HF.out (by have:=H3.out;unfold octN;simp;omega)).symm,rfl⟩
   have e3:((s[n].toNat:Int)==34)=false:=by simpa using h3
   by_cases h4:(s[n].toNat:Int)=44
   ·have e4:((s[n].toNat:Int)==44)=true:=by simpa using h4
    have H4:=qH h4;clear h4;go_wp2;go_ret
    exact ⟨ret_bool (HF.out (by have:=H4.out;unfold octN;simp;omega)).symm,rfl⟩
   have e4:((s[n].toNat:Int)==44)=false:=by simpa using h4
   by_cases h5:(s[n].toNat:Int)=59
   ·have e5:((s[n].toNat:Int)==59)=true:=by simpa using h5
    have H5:=qH h5;clear h5;go_wp2;go_ret
    exact ⟨ret_bool (HF.out (by have:=H5.out;unfold octN;simp;omega)).symm,rfl⟩
   have e5:((s[n].toNat:Int)==59)=false:=by simpa using h5
   by_cases h6:(s[n].toNat:Int)=92
   ·have e6:((s[n].toNat:Int)==92)=true:=by simpa using h6
    have H6:=qH h6;clear h6;go_wp2;go_ret
    exact ⟨ret_bool (HF.out (by have:=H6.out;unfold octN;simp;omega)).symm,rfl⟩
   have e6:((s[n].toNat:Int)==92)=false:=by simpa using h6
   have HG:=qH (HT.out (by unfold octN;simp;omega));clear h3 h4 h5 h6;go_wp2
   go_round
   case rel=>exact ⟨n+1,by omega,by go_num,HG.out⟩
   case measure=>simp [intOf];omega
  ·obtain rfl:n=s.size:=by omega
   rw [all_end] at ha;have HA:=qH ha;clear ha;go_wp2;go_ret
   exact ⟨ret_bool HA.out.symm,rfl⟩
end bake
end Go.Proofs.YthlahcnglacekaaGreatDoor
