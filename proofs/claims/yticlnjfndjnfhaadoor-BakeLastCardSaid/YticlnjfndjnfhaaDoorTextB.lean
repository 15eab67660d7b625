/- Bytes of a cookie: octets; a text's octets, the document's too. -/
import Derived.Test.YticlnjfndjnfhaaDoorNumberQ
namespace Go.Proofs.YticlnjfndjnfhaaDoor.bake
open Go Go.RowKit Go.Proofs.YticlnjfndjnfhaaDoor.base Go.Proofs.YticlnjfndjnfhaaDoor.dec

def octN (n : Nat) : Bool := decide (33 ≤ n) && (decide (n ≤ 126) && (!decide (n = 34) && (!decide (n = 44) && (!decide (n = 59) && !decide (n = 92)))))
def octsB (s : ByteArray) : Bool := s.data.toList.all fun c => octN c.toNat
theorem all_next {s : ByteArray} {k : Nat} (h : k < s.size) (p : UInt8 → Bool) : (s.data.toList.drop k).all p = (p s[k] && (s.data.toList.drop (k + 1)).all p) := by
  have hl : k < s.data.toList.length := by rw [Array.length_toList]; exact h
  rw [List.drop_eq_getElem_cons hl, List.all_cons]
  rfl
theorem all_end (s : ByteArray) (p : UInt8 → Bool) : (s.data.toList.drop s.size).all p = true := by
  rw [List.drop_eq_nil_of_le (by rw [Array.length_toList]; exact Nat.le_refl _)]; rfl
set_option maxHeartbeats 1600000 in
theorem octets_any (s : ByteArray) (w : World) (hs : s.size ≤ 1000000) : Calls Tryd.prog 21 #[.string s] w fun e w' => e = .returned (.bool (octsB s)) ∧ w' = w := by
  go_enter Tryd.func21, Tryd.ntmps21
  go_wp2
  go_loop [3] (fun k => ∃ n : Nat, n ≤ s.size ∧ k = .int .i64 n ∧ octsB s = (s.data.toList.drop n).all fun c => octN c.toNat) (fun k => s.size - (intOf k).toNat)
  case atStart => exact ⟨0, by omega, rfl, rfl⟩
  case round =>
    obtain ⟨n, hn, rfl, ha⟩ := hrel
    by_cases hlt : n < s.size
    · rw [all_next hlt] at ha
      have h256 : s[n].toNat < 256 := s[n].toNat_lt
      have HF := Lib.hid (show octN s[n].toNat = false → octsB s = false from fun h => by rw [ha, h]; rfl)
      have HT := Lib.hid (show octN s[n].toNat = true → octsB s = (s.data.toList.drop (n + 1)).all fun c => octN c.toNat from fun h => by rw [ha, h]; rfl)
      clear ha
      by_cases h1 : (s[n].toNat : Int) < 33
      · skip
        go_wp2
        go_ret
        exact ⟨ret_bool (HF.out (by unfold octN; simp; omega)).symm, rfl⟩
      by_cases h2 : (126 : Int) < (s[n].toNat : Int)
      · skip
        go_wp2
        go_ret
        exact ⟨ret_bool (HF.out (by unfold octN; simp; omega)).symm, rfl⟩
      by_cases h3 : (s[n].toNat : Int) = 34
      · have e3 : ((s[n].toNat : Int) == 34) = true := by simpa using h3
        have H3 := Lib.hid h3
        clear h3
        go_wp2
        go_ret
        exact ⟨ret_bool (HF.out (by have := H3.out; unfold octN; simp; omega)).symm, rfl⟩
      have e3 : ((s[n].toNat : Int) == 34) = false := by simpa using h3
      by_cases h4 : (s[n].toNat : Int) = 44
      · have e4 : ((s[n].toNat : Int) == 44) = true := by simpa using h4
        have H4 := Lib.hid h4
        clear h4
        go_wp2
        go_ret
        exact ⟨ret_bool (HF.out (by have := H4.out; unfold octN; simp; omega)).symm, rfl⟩
      have e4 : ((s[n].toNat : Int) == 44) = false := by simpa using h4
      by_cases h5 : (s[n].toNat : Int) = 59
      · have e5 : ((s[n].toNat : Int) == 59) = true := by simpa using h5
        have H5 := Lib.hid h5
        clear h5
        go_wp2
        go_ret
        exact ⟨ret_bool (HF.out (by have := H5.out; unfold octN; simp; omega)).symm, rfl⟩
      have e5 : ((s[n].toNat : Int) == 59) = false := by simpa using h5
      by_cases h6 : (s[n].toNat : Int) = 92
      · have e6 : ((s[n].toNat : Int) == 92) = true := by simpa using h6
        have H6 := Lib.hid h6
        clear h6
        go_wp2
        go_ret
        exact ⟨ret_bool (HF.out (by have := H6.out; unfold octN; simp; omega)).symm, rfl⟩
      have e6 : ((s[n].toNat : Int) == 92) = false := by simpa using h6
      have HG := Lib.hid (HT.out (by unfold octN; simp; omega))
      clear h3 h4 h5 h6
      go_wp2
      go_round
      case rel => exact ⟨n + 1, by omega, by go_num, HG.out⟩
      case measure => simp [intOf]; omega
    · obtain rfl : n = s.size := by omega
      rw [all_end] at ha
      have HA := Lib.hid ha
      clear ha
      go_wp2
      go_ret
      exact ⟨ret_bool HA.out.symm, rfl⟩
set_option maxHeartbeats 1600000 in
theorem octet_ref (n : Nat) (w : World) (h : n < 256) : Calls Tryd.prog 44 #[.int .u8 n] w fun e w' => e = .returned (.bool (octN n)) ∧ w' = w := by
  cases e1 : ((n : Int) == 33)
  all_goals
    go_enter Tryd.func44, Tryd.ntmps44
    go_wp2
    all_goals
      go_ret
      refine ⟨ret_bool ?_, rfl⟩
      simp at e1
      unfold octN
      rw [Bool.eq_iff_iff]
      simp
      try omega
end Go.Proofs.YticlnjfndjnfhaaDoor.bake
