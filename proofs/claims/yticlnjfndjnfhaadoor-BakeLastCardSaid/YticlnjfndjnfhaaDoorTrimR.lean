/- A text without the blanks around it: the document's. -/
import Derived.Test.YticlnjfndjnfhaaDoorTrimT
namespace Go.Proofs.YticlnjfndjnfhaaDoor.bake
open Go Go.RowKit Go.Proofs.YticlnjfndjnfhaaDoor.base Go.Proofs.YticlnjfndjnfhaaDoor.dec

def trimA (s : ByteArray) : ByteArray := ⟨(trimB s.data.toList).toArray⟩
theorem bytes_eq {a b : ByteArray} (h : a.data.toList = b.data.toList) : a = b := by
  cases a; cases b
  simpa using Array.toList_inj.mp h
theorem trim_text (s : ByteArray) (w : World) (hs : s.size ≤ 1000000) : Calls Tryd.prog 36 #[.string s] w fun e w' => (e = .returned (.string (trimA s)) ∧ (trimA s).size ≤ s.size) ∧ w' = w := by
  refine (trim_any s w hs).mono ?_
  rintro e w1 ⟨⟨t, rfl, hts, ht⟩, rfl⟩
  obtain rfl : t = trimA s := bytes_eq ht
  exact ⟨⟨rfl, hts⟩, rfl⟩
theorem dropn_hit {s : ByteArray} {n : Nat} (h : n < s.size) (hb : bl s[n] = true) : (s.data.toList.drop n).dropWhile bl = (s.data.toList.drop (n + 1)).dropWhile bl := by
  have h2 : n < s.data.toList.length := h
  rw [List.drop_eq_getElem_cons h2]
  exact List.dropWhile_cons_of_pos hb
theorem dropn_miss {s : ByteArray} {n : Nat} (h : n < s.size) (hb : blN s[n].toNat = false) : (s.data.toList.drop n).dropWhile bl = s.data.toList.drop n := by
  have h2 : n < s.data.toList.length := h
  rw [List.drop_eq_getElem_cons h2]
  exact List.dropWhile_cons_of_neg (by change ¬ bl s[n] = true; unfold bl; rw [hb]; simp)
theorem mid_snoc {s : ByteArray} {n k : Nat} (h : n < k) (hl : k - 1 < s.size) : (s.data.toList.take k).drop n = (s.data.toList.take (k - 1)).drop n ++ [s[k - 1]] := by
  have h2 : k - 1 < s.data.toList.length := hl
  have h3 := List.take_succ_eq_append_getElem h2
  rw [show k - 1 + 1 = k by omega] at h3
  rw [h3, List.drop_append_of_le_length (by rw [List.length_take]; omega)]
  rfl
theorem mid_hit {s : ByteArray} {n k : Nat} (h : n < k) (hl : k - 1 < s.size) (hb : bl s[k - 1] = true) : trimR ((s.data.toList.take k).drop n) = trimR ((s.data.toList.take (k - 1)).drop n) := by
  rw [mid_snoc h hl]
  unfold trimR
  rw [List.reverse_append, List.reverse_singleton, List.singleton_append, List.dropWhile_cons_of_pos hb]
theorem mid_miss {s : ByteArray} {n k : Nat} (h : n < k) (hl : k - 1 < s.size) (hb : blN s[k - 1].toNat = false) : trimR ((s.data.toList.take k).drop n) = (s.data.toList.take k).drop n := by
  rw [mid_snoc h hl]
  unfold trimR
  rw [List.reverse_append, List.reverse_singleton, List.singleton_append, List.dropWhile_cons_of_neg (by unfold bl; rw [hb]; simp), List.reverse_cons, List.reverse_reverse]
theorem bl_some {n : Nat} (h : blN n = true) : (((n : Int) == 32) = true ∨ (((n : Int) == 32) = false ∧ ((n : Int) == 9) = true)) := by
  unfold blN at h
  simp at h ⊢
  omega
theorem bl_none {n : Nat} (h : blN n = false) : ((n : Int) == 32) = false ∧ ((n : Int) == 9) = false := by
  unfold blN at h
  simp at h ⊢
  omega
set_option maxHeartbeats 3200000 in
theorem trim_refb (s : ByteArray) (w : World) (hs : s.size ≤ 1000000) : Calls Tryd.prog 31 #[.string s] w fun e w' => (∃ t : ByteArray, e = .returned (.string t) ∧ t.size ≤ s.size ∧ t.data.toList = trimB s.data.toList) ∧ w' = w := by
  go_enter Tryd.func31, Tryd.ntmps31
  go_wp2
  go_loop [3] (fun v => ∃ n : Nat, n ≤ s.size ∧ v = .int .i64 n ∧ (s.data.toList.drop n).dropWhile bl = s.data.toList.dropWhile bl) (fun v => s.size - (intOf v).toNat)
  case atStart => exact ⟨0, by omega, rfl, rfl⟩
  case round =>
    obtain ⟨n, hn, rfl, ht⟩ := hrel
    by_cases h0 : n < s.size
    · have h256 : s[n].toNat < 256 := s[n].toNat_lt
      cases hb : blN s[n].toNat with
      | true =>
        have HT := Lib.hid ((dropn_hit h0 hb).symm.trans ht)
        have hb2 := bl_some hb
        clear ht hb
        rcases hb2 with e1 | ⟨e1, e2⟩
        all_goals
          go_wp2_with fail
          go_round
          case rel => exact ⟨n + 1, by omega, by go_num, HT.out⟩
          case measure => simp [intOf]; omega
      | false =>
        have HT := Lib.hid (show trimR ((s.data.toList.take s.size).drop n) = trimB s.data.toList from by
          rw [show s.size = s.data.toList.length from rfl, List.take_length]; unfold trimB; rw [← ht, dropn_miss h0 hb])
        obtain ⟨e1, e2⟩ := bl_none hb
        clear ht hb
        go_wp2_with fail
        go_loop [4] (fun v => ∃ k : Nat, n ≤ k ∧ k ≤ s.size ∧ v = .int .i64 k ∧ trimR ((s.data.toList.take k).drop n) = trimB s.data.toList) (fun v => (intOf v).toNat)
        case atStart => exact ⟨s.size, hn, Nat.le_refl _, rfl, HT.out⟩
        case round =>
          obtain ⟨k, hnk, hks, rfl, hI⟩ := hrel
          by_cases h0 : n < k
          · have hl : k - 1 < s.size := by omega
            have h256 : s[k - 1].toNat < 256 := s[k - 1].toNat_lt
            have hcast : ((k : Int) - 1) = ((k - 1 : Nat) : Int) := by omega
            cases hb : blN s[k - 1].toNat with
            | true =>
              have HI := Lib.hid ((mid_hit h0 hl hb).symm.trans hI)
              have hb2 := bl_some hb
              clear hI hb
              rcases hb2 with e1 | ⟨e1, e2⟩
              all_goals
                go_wp2_with fail
                go_round
                case rel => exact ⟨k - 1, by omega, by omega, by first | rfl | (go_num), HI.out⟩
                case measure => simp [intOf]; omega
            | false =>
              have HI := Lib.hid (show ((s.data.toList.take k).drop n) = trimB s.data.toList from (mid_miss h0 hl hb).symm.trans hI)
              obtain ⟨e1, e2⟩ := bl_none hb
              clear hI hb
              go_wp2_with fail
              go_ret
              exact ⟨⟨_, rfl, by simp [ByteArray.size_extract]; omega, by rw [ext_toList]; exact HI.out⟩, rfl⟩
          · obtain rfl : n = k := by omega
            have HI := Lib.hid (show ByteArray.empty.data.toList = trimB s.data.toList from by rw [← hI]; rw [show (s.data.toList.take n).drop n = [] from by simp]; rfl)
            clear hI
            go_wp2_with fail
            go_ret
            exact ⟨⟨_, rfl, by simp, HI.out⟩, rfl⟩
    · obtain rfl : n = s.size := by omega
      have HT := Lib.hid (show ByteArray.empty.data.toList = trimB s.data.toList from by
          rw [show s.size = s.data.toList.length from rfl, List.drop_length] at ht
          unfold trimB
          rw [← ht]
          rfl)
      clear ht
      go_wp2_with fail
      go_loop [4] (fun v => v = .int .i64 s.size) (fun v => (intOf v).toNat)
      case atStart => rfl
      case round =>
        subst hrel
        go_wp2_with fail
        go_ret
        exact ⟨⟨_, rfl, by simp, HT.out⟩, rfl⟩
theorem trim_ref (s : ByteArray) (w : World) (hs : s.size ≤ 1000000) : Calls Tryd.prog 31 #[.string s] w fun e w' => (e = .returned (.string (trimA s)) ∧ (trimA s).size ≤ s.size) ∧ w' = w := by
  refine (trim_refb s w hs).mono ?_
  rintro e w1 ⟨⟨t, rfl, hts, ht⟩, rfl⟩
  obtain rfl : t = trimA s := bytes_eq ht
  exact ⟨⟨rfl, hts⟩, rfl⟩
end Go.Proofs.YticlnjfndjnfhaaDoor.bake
