/- A text without the blanks around it. -/
import Derived.Test.YticlnjfndjnfhaaDoorTextT
namespace Go.Proofs.YticlnjfndjnfhaaDoor.bake
open Go Go.RowKit Go.Proofs.YticlnjfndjnfhaaDoor.base Go.Proofs.YticlnjfndjnfhaaDoor.dec

def blN (n : Nat) : Bool := decide (n = 32) || decide (n = 9)
def bl (c : UInt8) : Bool := blN c.toNat
def trimR (l : List UInt8) : List UInt8 := (l.reverse.dropWhile bl).reverse
def trimB (l : List UInt8) : List UInt8 := trimR (l.dropWhile bl)
def vlen : Value → Nat | .string b => b.size | _ => 0
theorem ext_toList (t : ByteArray) (a b : Nat) : (t.extract a b).data.toList = (t.data.toList.take b).drop a := by
  rw [ByteArray.data_extract, Array.toList_extract]
  rw [List.extract_eq_take_drop, List.drop_take]
theorem cons_of {t : ByteArray} (h : 0 < t.size) : t.data.toList = t[0] :: (t.extract 1 t.size).data.toList := by
  rw [ext_toList, show t.size = t.data.toList.length from rfl, List.take_length]
  have h2 : 0 < t.data.toList.length := h
  rw [← List.drop_zero (l := t.data.toList), List.drop_eq_getElem_cons h2]
  rfl
theorem snoc_of {t : ByteArray} (h : t.size - 1 < t.size) : t.data.toList = (t.extract 0 (t.size - 1)).data.toList ++ [t[t.size - 1]] := by
  rw [ext_toList, List.drop_zero]
  have h2 : t.size - 1 < t.data.toList.length := h
  have h3 := List.take_succ_eq_append_getElem h2
  rw [show t.size - 1 + 1 = t.data.toList.length from by have : t.size = t.data.toList.length := rfl; omega, List.take_length] at h3
  exact h3
theorem drop_hit {t : ByteArray} (h : 0 < t.size) (hb : bl t[0] = true) : t.data.toList.dropWhile bl = (t.extract 1 t.size).data.toList.dropWhile bl := by
  rw [cons_of h, List.dropWhile_cons_of_pos hb]
theorem drop_miss {t : ByteArray} (h : 0 < t.size) (hb : blN t[0].toNat = false) : t.data.toList.dropWhile bl = t.data.toList := by
  rw [cons_of h, List.dropWhile_cons_of_neg (by unfold bl; rw [hb]; simp)]
theorem drop_none {t : ByteArray} (h : ¬ 0 < t.size) : t.data.toList = [] := by
  have : t.data.toList.length = t.size := rfl
  exact List.eq_nil_of_length_eq_zero (by omega)
theorem back_hit {t : ByteArray} (h : t.size - 1 < t.size) (hb : bl t[t.size - 1] = true) : trimR t.data.toList = trimR (t.extract 0 (t.size - 1)).data.toList := by
  rw [snoc_of h]
  unfold trimR
  rw [List.reverse_append, List.reverse_singleton, List.singleton_append, List.dropWhile_cons_of_pos hb]
theorem back_miss {t : ByteArray} (h : t.size - 1 < t.size) (hb : blN t[t.size - 1].toNat = false) : trimR t.data.toList = t.data.toList := by
  rw [snoc_of h]
  unfold trimR
  rw [List.reverse_append, List.reverse_singleton, List.singleton_append, List.dropWhile_cons_of_neg (by unfold bl; rw [hb]; simp), List.reverse_cons, List.reverse_reverse]
theorem blank_any (n : Nat) (w : World) (_ : n < 256) : Calls Tryd.prog 49 #[.int .u8 n] w fun e w' => e = .returned (.bool (blN n)) ∧ w' = w := by
  cases e1 : ((n : Int) == 32)
  all_goals
    go_enter Tryd.func49, Tryd.ntmps49
    go_wp2
    all_goals
      go_ret
      refine ⟨ret_bool ?_, rfl⟩
      simp at e1
      unfold blN
      rw [Bool.eq_iff_iff]
      simp
      try omega
def TrimI (s t : ByteArray) : Prop := t.size ≤ s.size ∧ trimR t.data.toList = trimB s.data.toList
set_option maxHeartbeats 3200000 in
theorem trim_any (s : ByteArray) (w : World) (hs : s.size ≤ 1000000) : Calls Tryd.prog 36 #[.string s] w fun e w' => (∃ t : ByteArray, e = .returned (.string t) ∧ t.size ≤ s.size ∧ t.data.toList = trimB s.data.toList) ∧ w' = w := by
  go_enter Tryd.func36, Tryd.ntmps36
  go_wp2
  go_loop [0] (fun v => ∃ t : ByteArray, v = .string t ∧ t.size ≤ s.size ∧ t.data.toList.dropWhile bl = s.data.toList.dropWhile bl) (fun v => vlen v)
  case atStart => exact ⟨s, rfl, Nat.le_refl _, rfl⟩
  case round =>
    obtain ⟨t, rfl, hts, ht⟩ := hrel
    have hse := str_ne t
    by_cases h0 : 0 < t.size
    · have d0 : t.toList.isEmpty = false := by rw [decide_eq_true h0] at hse; simpa using hse
      have h256 : t[0].toNat < 256 := t[0].toNat_lt
      clear hse
      cases hb : blN t[0].toNat with
      | true =>
        have HT := Lib.hid ((drop_hit h0 hb).symm.trans ht)
        have HB := Lib.hid hb
        clear ht hb
        go_wp2_with fail
        refine (blank_any t[0].toNat w h256).mono ?_
        rw [HB.out]
        rintro e w1 ⟨rfl, hw1⟩
        subst w1
        go_wp2_with fail
        go_round
        case rel => exact ⟨_, rfl, by simp [ByteArray.size_extract]; omega, HT.out⟩
        case measure => simp [vlen, ByteArray.size_extract]; omega
      | false =>
        have HT := Lib.hid (show TrimI s t from ⟨hts, by unfold trimB; rw [← ht, drop_miss h0 hb]⟩)
        have HB := Lib.hid hb
        clear ht hb
        go_wp2_with fail
        refine (blank_any t[0].toNat w h256).mono ?_
        rw [HB.out]
        rintro e w1 ⟨rfl, hw1⟩
        subst w1
        go_wp2_with fail
        go_loop [0] (fun v => ∃ t : ByteArray, v = .string t ∧ TrimI s t) (fun v => vlen v)
        case atStart => exact ⟨t, rfl, HT.out⟩
        case round =>
          obtain ⟨t, rfl, hI⟩ := hrel
          have hse := str_ne t
          by_cases h0 : 0 < t.size
          · have d0 : t.toList.isEmpty = false := by rw [decide_eq_true h0] at hse; simpa using hse
            have hl : t.size - 1 < t.size := by omega
            have h256 : t[t.size - 1].toNat < 256 := t[t.size - 1].toNat_lt
            have hcast : ((t.size : Int) - 1) = ((t.size - 1 : Nat) : Int) := by omega
            clear hse
            cases hb : blN t[t.size - 1].toNat with
            | true =>
              have HI := Lib.hid (show TrimI s (t.extract 0 (t.size - 1)) from ⟨by have := hI.1; simp [ByteArray.size_extract]; omega, (back_hit hl hb).symm.trans hI.2⟩)
              have HB := Lib.hid hb
              have HS := Lib.hid hI
              have hts := hI.1
              clear hI hb
              go_wp2_with fail
              refine (blank_any t[t.size - 1].toNat w h256).mono ?_
              rw [HB.out]
              rintro e w1 ⟨rfl, hw1⟩
              subst w1
              go_wp2_with fail
              go_round
              case rel => exact ⟨_, rfl, HI.out⟩
              case measure => simp [vlen, ByteArray.size_extract]; omega
            | false =>
              have HI := Lib.hid (show t.data.toList = trimB s.data.toList from (back_miss hl hb).symm.trans hI.2)
              have HB := Lib.hid hb
              have hts := hI.1
              clear hI hb
              go_wp2_with fail
              refine (blank_any t[t.size - 1].toNat w h256).mono ?_
              rw [HB.out]
              rintro e w1 ⟨rfl, hw1⟩
              subst w1
              go_wp2_with fail
              go_ret
              exact ⟨⟨t, rfl, hts, HI.out⟩, rfl⟩
          · have HI := Lib.hid (show t.data.toList = trimB s.data.toList from by rw [drop_none h0, ← hI.2, drop_none h0]; rfl)
            have d0 : t.toList.isEmpty = true := by rw [decide_eq_false h0] at hse; simpa using hse
            have hts := hI.1
            clear hI hse
            go_wp2_with fail
            go_ret
            exact ⟨⟨t, rfl, hts, HI.out⟩, rfl⟩
    · have HT := Lib.hid (show TrimI s t from ⟨hts, by unfold trimB; rw [← ht, drop_none h0]; rfl⟩)
      have d0 : t.toList.isEmpty = true := by rw [decide_eq_false h0] at hse; simpa using hse
      clear hse ht
      go_wp2_with fail
      go_loop [0] (fun v => ∃ t : ByteArray, v = .string t ∧ TrimI s t) (fun v => vlen v)
      case atStart => exact ⟨t, rfl, HT.out⟩
      case round =>
        obtain ⟨t, rfl, hI⟩ := hrel
        have hse := str_ne t
        by_cases h0 : 0 < t.size
        · have d0 : t.toList.isEmpty = false := by rw [decide_eq_true h0] at hse; simpa using hse
          have hl : t.size - 1 < t.size := by omega
          have h256 : t[t.size - 1].toNat < 256 := t[t.size - 1].toNat_lt
          have hcast : ((t.size : Int) - 1) = ((t.size - 1 : Nat) : Int) := by omega
          clear hse
          cases hb : blN t[t.size - 1].toNat with
          | true =>
            have HI := Lib.hid (show TrimI s (t.extract 0 (t.size - 1)) from ⟨by have := hI.1; simp [ByteArray.size_extract]; omega, (back_hit hl hb).symm.trans hI.2⟩)
            have HB := Lib.hid hb
            have HS := Lib.hid hI
            have hts := hI.1
            clear hI hb
            go_wp2_with fail
            refine (blank_any t[t.size - 1].toNat w h256).mono ?_
            rw [HB.out]
            rintro e w1 ⟨rfl, hw1⟩
            subst w1
            go_wp2_with fail
            go_round
            case rel => exact ⟨_, rfl, HI.out⟩
            case measure => simp [vlen, ByteArray.size_extract]; omega
          | false =>
            have HI := Lib.hid (show t.data.toList = trimB s.data.toList from (back_miss hl hb).symm.trans hI.2)
            have HB := Lib.hid hb
            have hts := hI.1
            clear hI hb
            go_wp2_with fail
            refine (blank_any t[t.size - 1].toNat w h256).mono ?_
            rw [HB.out]
            rintro e w1 ⟨rfl, hw1⟩
            subst w1
            go_wp2_with fail
            go_ret
            exact ⟨⟨t, rfl, hts, HI.out⟩, rfl⟩
        · have HI := Lib.hid (show t.data.toList = trimB s.data.toList from by rw [drop_none h0, ← hI.2, drop_none h0]; rfl)
          have d0 : t.toList.isEmpty = true := by rw [decide_eq_false h0] at hse; simpa using hse
          have hts := hI.1
          clear hI hse
          go_wp2_with fail
          go_ret
          exact ⟨⟨t, rfl, hts, HI.out⟩, rfl⟩
end Go.Proofs.YticlnjfndjnfhaaDoor.bake
