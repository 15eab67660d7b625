/- Tokens; texts without the blanks around them. -/
import Derived.Test.YticlnjfndjnfhaaDoorTextB
import Derived.Test.YticlnjfndjnfhaaDoorShelfC
import Derived.Deep.DeepCutAuto
import Derived.Deep.Cut
import Derived.Deep.CutBlock
namespace Go.Proofs.YticlnjfndjnfhaaDoor.bake
open Go Go.RowKit Go.Proofs.YticlnjfndjnfhaaDoor.base Go.Proofs.YticlnjfndjnfhaaDoor.dec

set_option maxHeartbeats 1600000 in
theorem octets_ref (s : ByteArray) (w : World) (hs : s.size ≤ 1000000) : Calls Tryd.prog 26 #[.string s] w fun e w' => e = .returned (.bool (octsB s)) ∧ w' = w := by
  go_enter Tryd.func26, Tryd.ntmps26
  go_wp2
  go_loop [3] (fun k => ∃ n : Nat, n ≤ s.size ∧ k = .int .i64 n ∧ octsB s = (s.data.toList.drop n).all fun c => octN c.toNat) (fun k => s.size - (intOf k).toNat)
  case atStart => exact ⟨0, by omega, rfl, rfl⟩
  case round =>
    obtain ⟨n, hn, rfl, ha⟩ := hrel
    by_cases hlt : n < s.size
    · rw [all_next hlt] at ha
      have h256 : s[n].toNat < 256 := s[n].toNat_lt
      have HF := Lib.hid (show octN s[n].toNat = false → octsB s = false from fun h => by rw [ha, h]; rfl)
      have HT := Lib.hid (show octN s[n].toNat = true → octsB s = (s.data.toList.drop (n + 1)).all fun c => octN c.toNat from fun h => by rw [ha, h]; rfl)
      clear ha
      go_wp2_with fail
      refine (octet_ref s[n].toNat w h256).mono ?_
      rintro e w1 ⟨rfl, hw1⟩
      subst w1
      cases ho : octN s[n].toNat with
      | false =>
        have HG := Lib.hid (HF.out ho)
        clear ho
        go_wp2
        go_ret
        exact ⟨ret_bool HG.out.symm, rfl⟩
      | true =>
        have HG := Lib.hid (HT.out ho)
        clear ho
        go_wp2
        go_round
        case rel => exact ⟨n + 1, by omega, by go_num, HG.out⟩
        case measure => simp [intOf]; omega
    · obtain rfl : n = s.size := by omega
      rw [all_end] at ha
      have HA := Lib.hid ha
      clear ha
      go_wp2
      go_ret
      exact ⟨ret_bool HA.out.symm, rfl⟩
def alN (n : Nat) : Bool := decide (97 ≤ n) && decide (n ≤ 122) || (decide (65 ≤ n) && decide (n ≤ 90) || decide (48 ≤ n) && decide (n ≤ 57))
def signs : List Nat := [33, 35, 36, 37, 38, 39, 42, 43, 45, 46, 94, 95, 96, 124, 126]
def tokN (n : Nat) : Bool := alN n || signs.contains n
def tokB (s : ByteArray) : Bool := decide (0 < s.size) && s.data.toList.all fun c => tokN c.toNat
theorem sign_index : ∀ n : Fin 256, decide (0 ≤ Lib.indexByte [33, 35, 36, 37, 38, 39, 42, 43, 45, 46, 94, 95, 96, 124, 126] (UInt8.ofNat n.val)) = signs.contains n.val := by decide +kernel
theorem str_ne (s : ByteArray) : (!s.toList.isEmpty) = decide (0 < s.size) := by
  have hl : s.toList.length = s.size := by rw [ByteArray.toList_eq]; rfl
  cases hs : s.toList with
  | nil => rw [hs] at hl; simp at hl; rw [← hl]; rfl
  | cons a l => rw [hs] at hl; simp at hl; rw [show decide (0 < s.size) = true by simp; omega]; rfl
set_option maxHeartbeats 3200000 in
theorem token_any (s : ByteArray) (w : World) (hs : s.size ≤ 1000000) : Calls Tryd.prog 20 #[.string s] w fun e w' => e = .returned (.bool (tokB s)) ∧ w' = w := by
  go_enter Tryd.func20, Tryd.ntmps20
  go_wp2
  go_loop [3] (fun k => ∃ n : Nat, n ≤ s.size ∧ k = .int .i64 n ∧ tokB s = (decide (0 < s.size) && (s.data.toList.drop n).all fun c => tokN c.toNat)) (fun k => s.size - (intOf k).toNat)
  case atStart => exact ⟨0, by omega, rfl, rfl⟩
  case round =>
    obtain ⟨n, hn, rfl, ha⟩ := hrel
    by_cases hlt : n < s.size
    · rw [all_next hlt] at ha
      have h256 : s[n].toNat < 256 := s[n].toNat_lt
      have HF := Lib.hid (show tokN s[n].toNat = false → tokB s = false from fun h => by rw [ha, h]; simp)
      have HT := Lib.hid (show tokN s[n].toNat = true → tokB s = (decide (0 < s.size) && (s.data.toList.drop (n + 1)).all fun c => tokN c.toNat) from fun h => by rw [ha, h]; rfl)
      have HI := Lib.hid (show decide (0 ≤ Lib.indexByte [33, 35, 36, 37, 38, 39, 42, 43, 45, 46, 94, 95, 96, 124, 126] s[n]) = signs.contains s[n].toNat from by
        have := sign_index ⟨s[n].toNat, h256⟩
        simpa using this)
      clear ha
      have hu : ((s[n].toNat : Int)).toNat.toUInt8 = s[n] := by simp
      have HU := Lib.hid hu
      clear hu
      cases hal : alN s[n].toNat with
      | true =>
        have HG := Lib.hid (HT.out (by unfold tokN; rw [hal]; rfl))
        have HAL := Lib.hid hal
        clear hal
        go_wp2_with fail
        all_goals first
          | (go_round
             case rel => exact ⟨n + 1, by omega, by go_num, HG.out⟩
             case measure => simp [intOf]; omega)
          | (exfalso; have := HAL.out; unfold alN at this; simp at this; omega)
      | false =>
        have HAL := Lib.hid hal
        clear hal
        go_wp2_with fail
        all_goals first
          | (exfalso; have := HAL.out; unfold alN at this; simp at this; omega)
          | (refine (Tryd.strings_IndexByte ⟨#[33, 35, 36, 37, 38, 39, 42, 43, 45, 46, 94, 95, 96, 124, 126]⟩ (s[n].toNat : Int) w).mono ?_
             rintro e w1 ⟨rfl, hw1⟩
             subst w1
             rw [HU.out]
             have hi := HI.out
             cases hs : signs.contains s[n].toNat with
             | true =>
               rw [hs] at hi
               have HG := Lib.hid (HT.out (by unfold tokN; rw [hs, Bool.or_true]))
               clear hs
               generalize Lib.indexByte [33, 35, 36, 37, 38, 39, 42, 43, 45, 46, 94, 95, 96, 124, 126] s[n] = q at *
               go_wp2_with fail
               go_round
               case rel => exact ⟨n + 1, by omega, by go_num, HG.out⟩
               case measure => simp [intOf]; omega
             | false =>
               rw [hs] at hi
               have HG := Lib.hid (HF.out (by unfold tokN; rw [hs, HAL.out]; rfl))
               clear hs
               generalize Lib.indexByte [33, 35, 36, 37, 38, 39, 42, 43, 45, 46, 94, 95, 96, 124, 126] s[n] = q at *
               go_wp2_with fail
               go_ret
               exact ⟨ret_bool HG.out.symm, rfl⟩)
    · obtain rfl : n = s.size := by omega
      rw [all_end, Bool.and_true] at ha
      have HA := Lib.hid ha
      have HS := Lib.hid (str_ne s)
      clear ha
      go_wp2
      go_ret
      exact ⟨ret_bool (by rw [HA.out, ← HS.out]), rfl⟩
def okK (n k : Nat) : Bool := alN n || (signs.take k).any fun c => decide (n = c)
theorem ok_end (n : Nat) : okK n 15 = tokN n := by
  unfold okK tokN
  congr 1
theorem sign_at (k : Nat) (h : k < 15) (h2 : k < (⟨#[33, 35, 36, 37, 38, 39, 42, 43, 45, 46, 94, 95, 96, 124, 126]⟩ : ByteArray).size) : signs[k]? = some ((⟨#[33, 35, 36, 37, 38, 39, 42, 43, 45, 46, 94, 95, 96, 124, 126]⟩ : ByteArray)[k]'h2).toNat := by
  have hkk : k = 0 ∨ k = 1 ∨ k = 2 ∨ k = 3 ∨ k = 4 ∨ k = 5 ∨ k = 6 ∨ k = 7 ∨ k = 8 ∨ k = 9 ∨ k = 10 ∨ k = 11 ∨ k = 12 ∨ k = 13 ∨ k = 14 := by omega
  rcases hkk with rfl | rfl | rfl | rfl | rfl | rfl | rfl | rfl | rfl | rfl | rfl | rfl | rfl | rfl | rfl <;> rfl
theorem ok_next (n k : Nat) (c : Nat) (h : signs[k]? = some c) : okK n (k + 1) = (okK n k || decide (n = c)) := by
  unfold okK
  rw [List.take_add_one, h, List.any_append, Bool.or_assoc]
  simp
set_option maxHeartbeats 6400000 in
theorem token_ref (s : ByteArray) (w : World) (hs : s.size ≤ 1000000) : Calls Tryd.prog 25 #[.string s] w fun e w' => e = .returned (.bool (tokB s)) ∧ w' = w := by
  go_enter Tryd.func25, Tryd.ntmps25
  go_wp2
  go_loop [3] (fun k => ∃ n : Nat, n ≤ s.size ∧ k = .int .i64 n ∧ tokB s = (decide (0 < s.size) && (s.data.toList.drop n).all fun c => tokN c.toNat)) (fun k => s.size - (intOf k).toNat)
  case atStart => exact ⟨0, by omega, rfl, rfl⟩
  case round =>
    obtain ⟨n, hn, rfl, ha⟩ := hrel
    by_cases hlt : n < s.size
    · rw [all_next hlt] at ha
      have h256 : s[n].toNat < 256 := s[n].toNat_lt
      have HF := Lib.hid (show tokN s[n].toNat = false → tokB s = false from fun h => by rw [ha, h]; simp)
      have HT := Lib.hid (show tokN s[n].toNat = true → tokB s = (decide (0 < s.size) && (s.data.toList.drop (n + 1)).all fun c => tokN c.toNat) from fun h => by rw [ha, h]; rfl)
      clear ha
      go_upto_region 5 with fail
      go_cut [5] (fun s5 wx => s5 = .bool (alN s[n].toNat) ∧ wx = w)
      case first =>
        go_wp2_with fail
        all_goals
          go_meet
          case rel =>
            refine ⟨?_, rfl⟩
            congr 1
            unfold alN
            rw [Bool.eq_iff_iff]
            simp
            try omega
      case rest =>
        obtain ⟨rfl, rfl⟩ := hcut
        go_wp2_with fail
        go_loop [5, 6] (fun so sk => ∃ k : Nat, k ≤ 15 ∧ sk = .int .i64 k ∧ so = .bool (okK s[n].toNat k)) (fun _ sk => 15 - (intOf sk).toNat)
        case atStart => exact ⟨0, by omega, rfl, by unfold okK; simp⟩
        case round =>
          obtain ⟨k, hk, rfl, rfl⟩ := hrel
          by_cases hk15 : k < 15
          · have HNX := Lib.hid (fun (c : Nat) (h : signs[k]? = some c) => ok_next s[n].toNat k c h)
            generalize s[n].toNat = q at *
            cases hok : okK q k with
            | true =>
              have HOK := Lib.hid hok
              go_wp2_with fail
              go_round
              case rel => exact ⟨k + 1, by omega, by go_num, by rw [HNX.out _ (sign_at k hk15 hk15), HOK.out, Bool.true_or]⟩
              case measure => simp [intOf]; omega
            | false =>
              have HOK := Lib.hid hok
              go_wp2_with fail
              go_round
              case rel =>
                refine ⟨k + 1, by omega, by go_num, ?_⟩
                rw [HNX.out _ (sign_at k hk15 hk15), HOK.out, Bool.false_or]
                congr 1
                rw [Bool.eq_iff_iff]
                simp
                try omega
              case measure => simp [intOf]; omega
          · obtain rfl : k = 15 := by omega
            rw [ok_end]
            cases ht : tokN s[n].toNat with
            | true =>
              have HG := Lib.hid (HT.out ht)
              clear ht
              go_wp2_with fail
              go_round
              case rel => exact ⟨n + 1, by omega, by go_num, HG.out⟩
              case measure => simp [intOf]; omega
            | false =>
              have HG := Lib.hid (HF.out ht)
              clear ht
              go_wp2_with fail
              go_ret
              exact ⟨ret_bool HG.out.symm, rfl⟩
    · obtain rfl : n = s.size := by omega
      rw [all_end, Bool.and_true] at ha
      have HA := Lib.hid ha
      clear ha
      by_cases h0 : 0 < s.size
      · have d0 : decide ((0 : Int) < (s.size : Int)) = true := by simp; omega
        go_wp2
        go_ret
        exact ⟨ret_bool (by rw [HA.out]; simp [h0]), rfl⟩
      · have d0 : decide ((0 : Int) < (s.size : Int)) = false := decide_eq_false (by omega)
        go_wp2
        go_ret
        exact ⟨ret_bool (by rw [HA.out, decide_eq_false h0]), rfl⟩
end Go.Proofs.YticlnjfndjnfhaaDoor.bake
