/- The number of an attribute's value: the document's. -/
import Derived.Test.YticlnjfndjnfhaaDoorAgeW
namespace Go.Proofs.YticlnjfndjnfhaaDoor.bake
open Go Go.RowKit Go.Proofs.YticlnjfndjnfhaaDoor.base Go.Proofs.YticlnjfndjnfhaaDoor.dec

/-- The document's number: -1 is none. -/
def numI (l : List UInt8) : Int := match ageL l with | some n => (n : Int) | none => -1
theorem num_fin {s : ByteArray} {v : Nat} (ha : (s.data.toList.take s.size).all digC = true) (b : Bool) (hm : min v 1099511627776 = valL (s.data.toList.take s.size)) (hp : 0 < s.size) : numL b s.data.toList = some (cond b 0 (min v 1099511627776)) := by
  rw [num_end ha b, if_pos hp]
  have htk : s.data.toList.take s.size = s.data.toList := List.take_of_length_le (Nat.le_refl _)
  rw [hm, htk]
  cases b <;> simp
theorem num_empty {s : ByteArray} (hp : ¬ 0 < s.size) (b : Bool) : numL b s.data.toList = none := by
  rw [drop_none hp]
  rfl
theorem pre_head {s : ByteArray} (h : 0 < s.size) : [45].isPrefixOf s.data.toList = decide (s[0] = 45) := by
  rw [cons_of h, pre_one]
  rw [Bool.eq_iff_iff]
  simp
  exact eq_comm
set_option maxHeartbeats 3200000 in
theorem number_ref (s : ByteArray) (w : World) (hs : s.size ≤ 1000000) : Calls Tryd.prog 33 #[.string s] w fun e w' => e = .returned (.int .i64 (numI s.data.toList)) ∧ w' = w := by
  go_enter Tryd.func33, Tryd.ntmps33
  by_cases h0 : 0 < s.size
  · have h256 : s[0].toNat < 256 := s[0].toNat_lt
    have hph := pre_head h0
    by_cases hb : s[0] = 45
    · have e1 : ((s[0].toNat : Int) == 45) = true := by rw [hb]; rfl
      rw [decide_eq_true hb] at hph
      have hag : ageL s.data.toList = numL true (s.data.toList.drop 1) := by unfold ageL; rw [if_pos hph]
      obtain ⟨D, hD⟩ : ∃ D, s.extract 1 s.size = D := ⟨_, rfl⟩
      have HAG := Lib.hid (show ageL s.data.toList = numL true D.data.toList from by
        rw [hag, ← hD, ext_toList, show s.size = s.data.toList.length from rfl, List.take_length])
      have hsz : D.size ≤ 1000000 := by rw [← hD]; simp [ByteArray.size_extract]; omega
      clear hag hph hb
      go_upto_region 4 with fail
      try rw [hD]
      clear hD
      by_cases hpos : 0 < D.size
      · have e2 : ((D.size : Int) == 0) = false := beq_eq_false_iff_ne.2 (by omega)
        go_wp2_with fail
        go_loop [4, 5] (fun n x => ∃ k v : Nat, k ≤ D.size ∧ x = .int .i64 k ∧ n = .int .i64 v ∧ v ≤ 10995116277769 ∧ min v 1099511627776 = valL (D.data.toList.take k) ∧ (D.data.toList.take k).all digC = true) (fun _ x => D.size - (intOf x).toNat)
        case atStart => exact ⟨0, 0, by omega, rfl, rfl, by omega, rfl, rfl⟩
        case round =>
          obtain ⟨k, v, hk, rfl, rfl, hv, hmin, ha⟩ := hrel
          by_cases h0 : k < D.size
          · have h256 : D[k].toNat < 256 := D[k].toNat_lt
            cases hc : digC D[k] with
            | true =>
              have HA := Lib.hid (all_take h0 ha hc)
              have HV := Lib.hid (val_next h0)
              unfold digC at hc
              simp at hc
              obtain ⟨g1, g2⟩ := hc
              have d1 : decide ((D[k].toNat : Int) < 48) = false := by simp; omega
              have d2 : decide ((57 : Int) < (D[k].toNat : Int)) = false := by simp; omega
              clear ha
              generalize valL (D.data.toList.take k) = u at *
              by_cases hv2 : v ≤ 1099511627776
              · have d3 : decide ((v : Int) ≤ 1099511627776) = true := by simp; omega
                go_wp2_with fail
                go_round
                case rel => exact ⟨k + 1, 10 * v + D[k].toNat - 48, by omega, by go_num, by congr 1; omega, by omega, by rw [HV.out]; omega, HA.out⟩
                case measure => simp [intOf]; omega
              · have d3 : decide ((v : Int) ≤ 1099511627776) = false := by simp; omega
                go_wp2_with fail
                go_round
                case rel => exact ⟨k + 1, v, by omega, by go_num, rfl, by omega, by rw [HV.out]; omega, HA.out⟩
                case measure => simp [intOf]; omega
            | false =>
              have HN := Lib.hid (num_bad h0 hc true)
              clear ha hmin
              have hbad : D[k].toNat < 48 ∨ 57 < D[k].toNat := by unfold digC at hc; simp at hc; omega
              clear hc
              by_cases g1 : D[k].toNat < 48
              · have d1 : decide ((D[k].toNat : Int) < 48) = true := by simp; omega
                go_wp2_with fail
                go_ret
                refine ⟨?_, rfl⟩
                unfold numI
                rw [HAG.out, HN.out]
                rfl
              · have d1 : decide ((D[k].toNat : Int) < 48) = false := by simp; omega
                have d2 : decide ((57 : Int) < (D[k].toNat : Int)) = true := by simp; omega
                go_wp2_with fail
                go_ret
                refine ⟨?_, rfl⟩
                unfold numI
                rw [HAG.out, HN.out]
                rfl
          · obtain rfl : k = D.size := by omega
            have HN := Lib.hid (num_fin ha true hmin hpos)
            clear ha hmin
            by_cases hv2 : v ≤ 1099511627776
            · have d3 : decide ((1099511627776 : Int) < (v : Int)) = false := by simp; omega
              have HM := Lib.hid (show min v 1099511627776 = v by omega)
              go_wp2_with fail
              go_ret
              refine ⟨?_, rfl⟩
              unfold numI
              rw [HAG.out, HN.out]
              simp only [HM.out]
              rfl
            · have d3 : decide ((1099511627776 : Int) < (v : Int)) = true := by simp; omega
              have HM := Lib.hid (show min v 1099511627776 = 1099511627776 by omega)
              go_wp2_with fail
              go_ret
              refine ⟨?_, rfl⟩
              unfold numI
              rw [HAG.out, HN.out]
              simp only [HM.out]
              rfl
      · have e2 : ((D.size : Int) == 0) = true := beq_iff_eq.2 (by omega)
        have HN := Lib.hid (num_empty hpos true)
        go_wp2_with fail
        go_ret
        refine ⟨?_, rfl⟩
        unfold numI
        rw [HAG.out, HN.out]
        rfl
    · have e1 : ((s[0].toNat : Int) == 45) = false := by
        rw [beq_eq_false_iff_ne]
        intro h
        exact hb (UInt8.toNat_inj.mp (show s[0].toNat = 45 by omega))
      rw [decide_eq_false hb] at hph
      have HAG := Lib.hid (show ageL s.data.toList = numL false s.data.toList from by unfold ageL; rw [if_neg (by rw [hph]; simp)])
      have hpos := h0
      have e2 : ((s.size : Int) == 0) = false := beq_eq_false_iff_ne.2 (by omega)
      clear hph hb
      go_wp2_with fail
      go_loop [4, 5] (fun n x => ∃ k v : Nat, k ≤ s.size ∧ x = .int .i64 k ∧ n = .int .i64 v ∧ v ≤ 10995116277769 ∧ min v 1099511627776 = valL (s.data.toList.take k) ∧ (s.data.toList.take k).all digC = true) (fun _ x => s.size - (intOf x).toNat)
      case atStart => exact ⟨0, 0, by omega, rfl, rfl, by omega, rfl, rfl⟩
      case round =>
        obtain ⟨k, v, hk, rfl, rfl, hv, hmin, ha⟩ := hrel
        by_cases h0 : k < s.size
        · have h256 : s[k].toNat < 256 := s[k].toNat_lt
          cases hc : digC s[k] with
          | true =>
            have HA := Lib.hid (all_take h0 ha hc)
            have HV := Lib.hid (val_next h0)
            unfold digC at hc
            simp at hc
            obtain ⟨g1, g2⟩ := hc
            have d1 : decide ((s[k].toNat : Int) < 48) = false := by simp; omega
            have d2 : decide ((57 : Int) < (s[k].toNat : Int)) = false := by simp; omega
            clear ha
            generalize valL (s.data.toList.take k) = u at *
            by_cases hv2 : v ≤ 1099511627776
            · have d3 : decide ((v : Int) ≤ 1099511627776) = true := by simp; omega
              go_wp2_with fail
              go_round
              case rel => exact ⟨k + 1, 10 * v + s[k].toNat - 48, by omega, by go_num, by congr 1; omega, by omega, by rw [HV.out]; omega, HA.out⟩
              case measure => simp [intOf]; omega
            · have d3 : decide ((v : Int) ≤ 1099511627776) = false := by simp; omega
              go_wp2_with fail
              go_round
              case rel => exact ⟨k + 1, v, by omega, by go_num, rfl, by omega, by rw [HV.out]; omega, HA.out⟩
              case measure => simp [intOf]; omega
          | false =>
            have HN := Lib.hid (num_bad h0 hc false)
            clear ha hmin
            have hbad : s[k].toNat < 48 ∨ 57 < s[k].toNat := by unfold digC at hc; simp at hc; omega
            clear hc
            by_cases g1 : s[k].toNat < 48
            · have d1 : decide ((s[k].toNat : Int) < 48) = true := by simp; omega
              go_wp2_with fail
              go_ret
              refine ⟨?_, rfl⟩
              unfold numI
              rw [HAG.out, HN.out]
              rfl
            · have d1 : decide ((s[k].toNat : Int) < 48) = false := by simp; omega
              have d2 : decide ((57 : Int) < (s[k].toNat : Int)) = true := by simp; omega
              go_wp2_with fail
              go_ret
              refine ⟨?_, rfl⟩
              unfold numI
              rw [HAG.out, HN.out]
              rfl
        · obtain rfl : k = s.size := by omega
          have HN := Lib.hid (num_fin ha false hmin hpos)
          clear ha hmin
          by_cases hv2 : v ≤ 1099511627776
          · have d3 : decide ((1099511627776 : Int) < (v : Int)) = false := by simp; omega
            have HM := Lib.hid (show min v 1099511627776 = v by omega)
            go_wp2_with fail
            go_ret
            refine ⟨?_, rfl⟩
            unfold numI
            rw [HAG.out, HN.out]
            simp only [HM.out]
            rfl
          · have d3 : decide ((1099511627776 : Int) < (v : Int)) = true := by simp; omega
            have HM := Lib.hid (show min v 1099511627776 = 1099511627776 by omega)
            go_wp2_with fail
            go_ret
            refine ⟨?_, rfl⟩
            unfold numI
            rw [HAG.out, HN.out]
            simp only [HM.out]
            rfl
  · have HAG := Lib.hid (show ageL s.data.toList = none from by rw [drop_none h0]; rfl)
    have e2 : ((s.size : Int) == 0) = true := beq_iff_eq.2 (by omega)
    have d0 : decide ((0 : Int) < (s.size : Int)) = false := decide_eq_false (by omega)
    go_wp2_with fail
    go_ret
    refine ⟨?_, rfl⟩
    unfold numI
    rw [HAG.out]
    rfl
end Go.Proofs.YticlnjfndjnfhaaDoor.bake
