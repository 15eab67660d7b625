/- The number of an attribute's value. -/
import Derived.Test.YticlnjfndjnfhaaDoorSmallW
namespace Go.Proofs.YticlnjfndjnfhaaDoor.bake
open Go Go.RowKit Go.Proofs.YticlnjfndjnfhaaDoor.base Go.Proofs.YticlnjfndjnfhaaDoor.dec

def digC (c : UInt8) : Bool := decide (48 ≤ c.toNat) && decide (c.toNat ≤ 57)
def valL (l : List UInt8) : Nat := l.foldl (fun n c => min (n * 10 + (c.toNat - 48)) 1099511627776) 0
def numL (below : Bool) (l : List UInt8) : Option Nat := if l.all digC && !l.isEmpty then some (if below then 0 else valL l) else none
def ageL (l : List UInt8) : Option Nat := if [45].isPrefixOf l then numL true (l.drop 1) else numL false l
theorem val_le (l : List UInt8) : valL l ≤ 1099511627776 := by
  unfold valL
  rcases List.eq_nil_or_concat l with rfl | ⟨a, c, rfl⟩
  · simp
  · rw [List.concat_eq_append, List.foldl_append]
    simp
    omega
theorem val_next {s : ByteArray} {k : Nat} (h : k < s.size) : valL (s.data.toList.take (k + 1)) = min (valL (s.data.toList.take k) * 10 + (s[k].toNat - 48)) 1099511627776 := by
  have h2 : k < s.data.toList.length := h
  rw [List.take_succ_eq_append_getElem h2]
  unfold valL
  rw [List.foldl_append]
  rfl
theorem all_take {s : ByteArray} {k : Nat} (h : k < s.size) (ha : (s.data.toList.take k).all digC = true) (hc : digC s[k] = true) : (s.data.toList.take (k + 1)).all digC = true := by
  have h2 : k < s.data.toList.length := h
  rw [List.take_succ_eq_append_getElem h2, List.all_append, ha]
  simp
  exact hc
theorem all_bad {s : ByteArray} {k : Nat} (h : k < s.size) (hc : digC s[k] = false) : s.data.toList.all digC = false := by
  rw [List.all_eq_false]
  exact ⟨s[k], by exact List.getElem_mem (l := s.data.toList) h, by rw [hc]; simp⟩
theorem num_bad {s : ByteArray} {k : Nat} (h : k < s.size) (hc : digC s[k] = false) (b : Bool) : numL b s.data.toList = none := by
  unfold numL
  rw [all_bad h hc]
  rfl
theorem num_end {s : ByteArray} (ha : (s.data.toList.take s.size).all digC = true) (b : Bool) : numL b s.data.toList = if 0 < s.size then some (if b then 0 else valL s.data.toList) else none := by
  have htk : s.data.toList.take s.size = s.data.toList := List.take_of_length_le (Nat.le_refl _)
  rw [htk] at ha
  unfold numL
  rw [ha]
  by_cases h : 0 < s.size
  · rw [if_pos h, if_pos]
    have : s.data.toList ≠ [] := fun e => by have h2 : s.data.toList.length = s.size := rfl; rw [e] at h2; simp at h2; omega
    simpa using this
  · rw [if_neg h, if_neg]
    have : s.data.toList = [] := List.eq_nil_of_length_eq_zero (by have h2 : s.data.toList.length = s.size := rfl; omega)
    rw [this]
    simp
theorem num_last {s : ByteArray} (ha : (s.data.toList.take s.size).all digC = true) (b : Bool) : (numL b s.data.toList).getD 0 = cond b 0 (valL (s.data.toList.take s.size)) ∧ (numL b s.data.toList).isSome = decide (0 < s.size) := by
  rw [num_end ha b]
  have htk : s.data.toList.take s.size = s.data.toList := List.take_of_length_le (Nat.le_refl _)
  rw [htk]
  by_cases h : 0 < s.size
  · rw [if_pos h, decide_eq_true h]
    cases b <;> simp
  · have he : s.data.toList = [] := List.eq_nil_of_length_eq_zero (by have h2 : s.data.toList.length = s.size := rfl; omega)
    rw [if_neg h, decide_eq_false h, he]
    cases b <;> simp [valL]
set_option maxHeartbeats 3200000 in
theorem age_any (s : ByteArray) (w : World) (hs : s.size ≤ 1000000) : Calls Tryd.prog 18 #[.string s] w fun e w' => e = .returned (.tuple #[.int .i64 ((ageL s.data.toList).getD 0 : Nat), .bool (ageL s.data.toList).isSome]) ∧ w' = w := by
  go_enter Tryd.func18, Tryd.ntmps18
  go_wp2_with fail
  refine (Tryd.strings_HasPrefix s ⟨#[45]⟩ w).mono ?_
  rintro e w1 ⟨rfl, rfl⟩
  cases hp : [45].isPrefixOf s.data.toList with
  | true =>
    have hag : ageL s.data.toList = numL true (s.data.toList.drop 1) := by unfold ageL; rw [if_pos hp]
    have h1 : 1 ≤ s.size := by
      cases hd : s.data.toList with
      | nil => rw [hd] at hp; simp at hp
      | cons a l => have h2 : s.data.toList.length = s.size := rfl; rw [hd] at h2; simp at h2; omega
    have hpx : Lib.hasPrefix s.data.toList (⟨#[45]⟩ : ByteArray).data.toList = true := hp
    clear hp
    rw [hpx]
    go_wp2_with fail
    obtain ⟨D, hD⟩ : ∃ D, s.extract 1 s.size = D := ⟨_, rfl⟩
    rw [hD]
    have HAG := Lib.hid (show ageL s.data.toList = numL true D.data.toList from by
      rw [hag, ← hD, ext_toList, show s.size = s.data.toList.length from rfl, List.take_length])
    have hsz : D.size ≤ 1000000 := by rw [← hD]; simp [ByteArray.size_extract]; omega
    clear hD hag
    go_loop [6, 7] (fun n x => ∃ k : Nat, k ≤ D.size ∧ x = .int .i64 k ∧ n = .int .i64 (valL (D.data.toList.take k) : Nat) ∧ (D.data.toList.take k).all digC = true) (fun _ x => D.size - (intOf x).toNat)
    case atStart => exact ⟨0, by omega, rfl, rfl, rfl⟩
    case round =>
      obtain ⟨k, hk, rfl, rfl, ha⟩ := hrel
      have hv := val_le (D.data.toList.take k)
      by_cases h0 : k < D.size
      · have h256 : D[k].toNat < 256 := D[k].toNat_lt
        cases hc : digC D[k] with
        | true =>
          have HA := Lib.hid (all_take h0 ha hc)
          have HV := Lib.hid (val_next h0)
          unfold digC at hc
          simp at hc
          obtain ⟨g1, g2⟩ := hc
          have d1 : decide ((D[k].toNat : Int) < 48) = false := by simp; omega
          have d2 : decide ((57 : Int) < (D[k].toNat : Int)) = false := by simp; omega
          clear ha
          generalize valL (D.data.toList.take k) = v at *
          go_wp2_with fail
          go_round
          case rel => exact ⟨k + 1, by omega, by go_num, by rw [HV.out]; congr 1; omega, HA.out⟩
          case measure => simp [intOf]; omega
        | false =>
          have HN := Lib.hid (num_bad h0 hc true)
          clear ha
          have hbad : D[k].toNat < 48 ∨ 57 < D[k].toNat := by unfold digC at hc; simp at hc; omega
          clear hc
          by_cases g1 : D[k].toNat < 48
          · have d1 : decide ((D[k].toNat : Int) < 48) = true := by simp; omega
            go_wp2_with fail
            go_ret2
            refine ⟨?_, rfl⟩
            rw [HAG.out, HN.out]
            rfl
          · have d1 : decide ((D[k].toNat : Int) < 48) = false := by simp; omega
            have d2 : decide ((57 : Int) < (D[k].toNat : Int)) = true := by simp; omega
            go_wp2_with fail
            go_ret2
            refine ⟨?_, rfl⟩
            rw [HAG.out, HN.out]
            rfl
      · obtain rfl : k = D.size := by omega
        have HN := Lib.hid (num_last ha true)
        have hse := str_ne D
        have HS := Lib.hid hse
        clear ha hse
        go_wp2_with fail
        go_ret2
        refine ⟨?_, rfl⟩
        rw [HAG.out, HN.out.1, HN.out.2, ← HS.out]
        rfl
  | false =>
    have hag : ageL s.data.toList = numL false s.data.toList := by unfold ageL; rw [if_neg (by rw [hp]; simp)]
    have hpx : Lib.hasPrefix s.data.toList (⟨#[45]⟩ : ByteArray).data.toList = false := hp
    have HAG := Lib.hid hag
    clear hp hag
    rw [hpx]
    go_wp2_with fail
    go_loop [6, 7] (fun n x => ∃ k : Nat, k ≤ s.size ∧ x = .int .i64 k ∧ n = .int .i64 (valL (s.data.toList.take k) : Nat) ∧ (s.data.toList.take k).all digC = true) (fun _ x => s.size - (intOf x).toNat)
    case atStart => exact ⟨0, by omega, rfl, rfl, rfl⟩
    case round =>
      obtain ⟨k, hk, rfl, rfl, ha⟩ := hrel
      have hv := val_le (s.data.toList.take k)
      by_cases h0 : k < s.size
      · have h256 : s[k].toNat < 256 := s[k].toNat_lt
        cases hc : digC s[k] with
        | true =>
          have HA := Lib.hid (all_take h0 ha hc)
          have HV := Lib.hid (val_next h0)
          unfold digC at hc
          simp at hc
          obtain ⟨g1, g2⟩ := hc
          have d1 : decide ((s[k].toNat : Int) < 48) = false := by simp; omega
          have d2 : decide ((57 : Int) < (s[k].toNat : Int)) = false := by simp; omega
          clear ha
          generalize valL (s.data.toList.take k) = v at *
          go_wp2_with fail
          go_round
          case rel => exact ⟨k + 1, by omega, by go_num, by rw [HV.out]; congr 1; omega, HA.out⟩
          case measure => simp [intOf]; omega
        | false =>
          have HN := Lib.hid (num_bad h0 hc false)
          clear ha
          have hbad : s[k].toNat < 48 ∨ 57 < s[k].toNat := by unfold digC at hc; simp at hc; omega
          clear hc
          by_cases g1 : s[k].toNat < 48
          · have d1 : decide ((s[k].toNat : Int) < 48) = true := by simp; omega
            go_wp2_with fail
            go_ret2
            refine ⟨?_, rfl⟩
            rw [HAG.out, HN.out]
            rfl
          · have d1 : decide ((s[k].toNat : Int) < 48) = false := by simp; omega
            have d2 : decide ((57 : Int) < (s[k].toNat : Int)) = true := by simp; omega
            go_wp2_with fail
            go_ret2
            refine ⟨?_, rfl⟩
            rw [HAG.out, HN.out]
            rfl
      · obtain rfl : k = s.size := by omega
        have HN := Lib.hid (num_last ha false)
        have hse := str_ne s
        have HS := Lib.hid hse
        clear ha hse
        go_wp2_with fail
        go_ret2
        refine ⟨?_, rfl⟩
        rw [HAG.out, HN.out.1, HN.out.2, ← HS.out]
        rfl
end Go.Proofs.YticlnjfndjnfhaaDoor.bake
