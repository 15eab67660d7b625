/- A part of the proof of RegionNone: NumberQ. -/
import Derived.Test.YtdaphppdmnmicaaGreatDoorA09
import Derived.Test.YtdaphppdmnmicaaGreatDoorA02
namespace Go.Proofs.YtdaphppdmnmicaaGreatDoor.quota
open Go.RowKit base dec Go.Lib
theorem take_next (l:List UInt8) (n:Nat) (h:n < l.length):l.take (n + 1)=l.take n ++ [l[n]]:=by rw [List.take_add_one,List.getElem?_eq_getElem h];rfl
theorem stop_dig {l:List UInt8} {n most:Nat} (h:n < l.length) (hd:digit l[n]=false):NumOf l most 0 :=
 .inl ⟨rfl,fun v _ _ e=>by
  have:=dec_dig v l[n] (by rw [← e];exact List.getElem_mem h)
  rw [hd] at this;cases this⟩
theorem stop_hd {l:List UInt8} {most:Nat} (h:0 < l.length) (hd:l[0]=48):NumOf l most 0 :=
 .inl ⟨rfl,fun v h1 _ e=>by
  refine dec_hd v h1 ?_
  rw [← e,List.head?_eq_getElem?,List.getElem?_eq_getElem h,hd]⟩
theorem stop_val {l:List UInt8} {n most:Nat} (hv:most < val (l.take n)):NumOf l most 0 :=
 .inl ⟨rfl,fun v _ h2 e=>by
  have h1:=val_le (l.take n) (l.drop n)
  rw [List.take_append_drop,e,dec_val,← e] at h1
  omega⟩
theorem canon_next {l:List UInt8} {n:Nat} (h:n < l.length) (hc:0 < n→Canon (l.take n)) (hd:digit l[n]=true) (h0:n=0→l[n] ≠ 48):Canon (l.take (n + 1)):=by
 rw [take_next l n h]
 refine ⟨List.append_ne_nil_of_right_ne_nil _ (by simp),fun c hm=>?_,?_⟩
 ·rcases List.mem_append.1 hm with hm|hm
  ·rcases Nat.eq_zero_or_pos n with e|e
   ·subst e;simp at hm
   ·exact (hc e).dig c hm
  ·rw [List.mem_singleton.1 hm];exact hd
 ·rcases Nat.eq_zero_or_pos n with e|e
  ·subst e;simpa using h0 rfl
  ·rw [head_app (hc e).ne];exact (hc e).hd
theorem num_end {l:List UInt8} {most:Nat} (hc:0 < l.length→Canon l) (hv:val l≤most):NumOf l most (val l):=by
 rcases Nat.eq_zero_or_pos l.length with e|e
 ·have:=List.length_eq_zero_iff.1 e
  subst this
  exact .inl ⟨rfl,fun v _ _ e=>dec_ne v e.symm⟩
 ·exact .inr ⟨canon_pos (hc e),hv,canon_eq (hc e)⟩
set_option maxHeartbeats 1600000 in
theorem number_any (s : ByteArray) (most : Nat) (w : World) (hs : s.size ≤ 1000000) (hm : most ≤ 1099511627776) :
    Calls Tryz.prog 233 #[.string s, .int .i64 most] w fun e w' => (∃ R : Nat, e = .returned (.int .i64 R) ∧ NumOf s.data.toList most R) ∧ w' = w := by
  have hsl : s.data.toList.length = s.size := Array.length_toList
  go_enter Tryz.func233, Tryz.ntmps233
  go_wp2
  go_loop [5, 6, 7] (fun x k _ => ∃ n m : Nat, n ≤ s.size ∧ k = .int .i64 n ∧ x = .int .i64 m ∧ val (s.data.toList.take n) = m ∧ (0 < n → Canon (s.data.toList.take n)) ∧ m ≤ most * 10 + 9) (fun _ k _ => s.size - (intOf k).toNat)
  case atStart => exact ⟨0, 0, by omega, rfl, rfl, rfl, by omega, by omega⟩
  case round =>
    obtain ⟨n, m, hn, rfl, rfl, hv, hc, hmm⟩ := hrel
    by_cases hlt : n < s.size
    · have hl : n < s.data.toList.length := by omega
      have hx : s.data.toList[n] = s[n] := by simp [ByteArray.getElem_eq_getElem_data]
      have hxd : digit s.data.toList[n] = (decide (48 ≤ s[n].toNat) && decide (s[n].toNat ≤ 57)) := by rw [hx]; rfl
      have hvn : val (s.data.toList.take (n + 1)) = m * 10 + (s[n].toNat - 48) := by rw [take_next _ n hl, val_snoc, hv, hx]
      have h255 : s[n].toNat < 256 := s[n].toNat_lt
      have Hsl := Lib.hid hsl
      have HC := Lib.hid hc
      have HV := Lib.hid hv
      have HX := Lib.hid hx
      have HXD := Lib.hid hxd
      have HVN := Lib.hid hvn
      clear hsl hc hv hx hxd hvn
      by_cases h1 : (s[n].toNat : Int) < 48
      · go_wp2
        go_ret
        exact ⟨⟨0, rfl, stop_dig hl (by rw [HXD.out]; simp; omega)⟩, rfl⟩
      · by_cases h2 : (57 : Int) < (s[n].toNat : Int)
        · go_wp2
          go_ret
          exact ⟨⟨0, rfl, stop_dig hl (by rw [HXD.out]; simp; omega)⟩, rfl⟩
        · have hd : digit s.data.toList[n] = true := by rw [HXD.out]; simp; omega
          by_cases h0 : n = 0
          · subst h0
            have hm0 : m = 0 := by rw [← HV.out]; rfl
            subst hm0
            by_cases h3 : (s[0].toNat : Int) = 48
            · go_wp2
              all_goals
                go_ret
                exact ⟨⟨0, rfl, stop_hd hl (by rw [HX.out, ← UInt8.ofNat_toNat (x := s[0])]; have : s[0].toNat = 48 := by omega
                                               rw [this]; rfl)⟩, rfl⟩
            · have h3b : ((s[0].toNat : Int) == 48) = false := by simpa using h3
              go_wp2
              go_round
              case rel => exact ⟨1, s[0].toNat - 48, by omega, rfl, by congr 1; omega, by rw [HVN.out]; omega, fun _ => canon_next hl HC.out hd (fun _ e => h3 (by rw [HX.out] at e; rw [e]; rfl)), by omega⟩
              case measure => simp [intOf]; omega
          · by_cases h4 : (most : Int) < (m : Int)
            · go_wp2
              all_goals
                go_ret
                exact ⟨⟨0, rfl, stop_val (n := n) (by rw [HV.out]; omega)⟩, rfl⟩
            · have hw := IntWalk.i64_in ((m : Int) * 10) (by omega)
              go_wp2
              go_round
              case rel => exact ⟨n + 1, m * 10 + (s[n].toNat - 48), by omega, by go_num, by congr 1; omega, HVN.out, fun _ => canon_next hl HC.out hd (fun e => absurd e h0), by omega⟩
              case measure => simp [intOf]; omega
    · obtain rfl : n = s.size := by omega
      have ht : s.data.toList.take s.size = s.data.toList := List.take_of_length_le (by omega)
      rw [ht] at hv hc
      by_cases h4 : (most : Int) < (m : Int)
      · go_wp2
        go_ret
        exact ⟨⟨0, rfl, stop_val (n := s.size) (by rw [ht, hv]; omega)⟩, rfl⟩
      · go_wp2
        go_ret
        exact ⟨⟨m, rfl, by rw [← hv]; exact num_end (by rw [hsl]; exact hc) (by omega)⟩, rfl⟩
end Go.Proofs.YtdaphppdmnmicaaGreatDoor.quota
