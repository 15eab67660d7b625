/- The walk of the law QuotaNames: it returns true; nothing that was there is written. -/
import Derived.Test.YtfcgffemdcfiiaaDoorAwakeQ
namespace Go.Proofs.YtfcgffemdcfiiaaDoor.wQuotaNames
open Go Go.RowKit Go.Proofs.YtfcgffemdcfiiaaDoor.base Go.Proofs.YtfcgffemdcfiiaaDoor.dec Go.Proofs.YtfcgffemdcfiiaaDoor.err Go.Proofs.YtfcgffemdcfiiaaDoor.quota
open Go.Lib (decDigits)

theorem size_list (v : ByteArray) : v.toList.length = v.size := by
  rw [ByteArray.toList_eq]
  rfl
set_option maxHeartbeats 1600000 in
theorem walk (v0 v1 : Value) (w : World) (a0 : Arg Tryd.prog w 3 v0) (a1 : Arg Tryd.prog w 3 v1) (ht : Tabs w) :
    Calls Tryd.prog 3 #[v0, v1] w fun e w' => e = .returned (.bool true) ∧ Below w.heap.size w w' := by
  obtain ⟨r, rfl, _⟩ := a0.int Tryd.underlying3
  obtain ⟨n, rfl, _⟩ := a1.int Tryd.underlying3
  have HT := Lib.hid ht
  clear ht
  go_enter Tryd.func3, Tryd.ntmps3
  go_wp2_with fail
  refine (awake_any w HT.out).mono ?_
  rintro e w1 ⟨rfl, hb1⟩
  have HT1 := Lib.hid (HT.out.below hb1)
  go_wp2_with fail
  refine (name_any r n w1 HT1.out).mono ?_
  rintro e w2 (⟨a, b, rfl, rfl, hok, rfl, hb2⟩ | ⟨hbad, v, rfl, herr, hnn, hb2⟩)
  · have HT2 := Lib.hid (HT1.out.below hb2)
    have hlen : (nm a b).length ≤ 100 := by
      have h1 := dec_len_le 1 a (by unfold OkN at hok; omega)
      have h2 := dec_len_le 12 b (by unfold OkN at hok; omega)
      rw [nm_eq]
      simp
      omega
    obtain ⟨A, hA⟩ : ∃ A, str (nm a b) = A := ⟨_, rfl⟩
    have hsA : A.size ≤ 1000000 := by rw [← hA]; show (nm a b).toArray.size ≤ _; rw [List.size_toArray]; omega
    have hne : A ≠ ⟨#[]⟩ := fun e => by
      have h1 := congrArg (fun s : ByteArray => s.data.toList) (hA.trans e)
      have h2 : nm a b = [] := h1
      rw [nm_eq] at h2
      exact absurd (congrArg List.length h2) (by simp)
    have HA := Lib.hid hA
    rw [hA]
    go_wp2_with fail
    refine (refName_any a b w2).mono ?_
    rintro e w3 ⟨hr, hb3⟩
    obtain rfl : e = .returned (.string A) := by
      rcases hr with ⟨a', b', h1, h2, _, h3⟩ | ⟨h, _⟩
      · obtain rfl : a = a' := by omega
        obtain rfl : b = b' := by omega
        rw [h3, HA.out]
      · unfold BadN at h; unfold OkN at hok; omega
    have HT3 := Lib.hid (HT2.out.below hb3)
    clear hr hA hlen
    have hnb : A.toList.isEmpty = false := by
      cases hl : A.toList with
      | nil =>
        have h1 := size_list A
        rw [hl] at h1
        exact absurd (ByteArray.size_eq_zero_iff.1 h1.symm) hne
      | cons x l => rfl
    go_wp2_with fail
    refine (parse_any A w3 hsA HT3.out).mono ?_
    rintro e w4 hp
    obtain ⟨rfl, hb4⟩ : e = .returned (.tuple #[.int .i64 a, .int .i64 b, .nilIface]) ∧ Below w3.heap.size w3 w4 := by
      have hA : A.data.toList = nm a b := by rw [← HA.out]; rfl
      rw [hA] at hp
      rcases hp with ⟨a', b', _, h1, h2, h3⟩ | ⟨h, _⟩
      · obtain ⟨rfl, rfl⟩ := nm_inj h1
        exact ⟨h2, h3⟩
      · exact absurd rfl (h a b hok)
    clear hp
    go_wp2_with fail
    go_ret
    exact ⟨rfl, hb1.trans ((hb2.trans ((hb3.trans (hb4.mono hb3.size)).mono hb2.size)).mono hb1.size)⟩
  · have HE := Lib.hid herr
    clear herr
    go_wp2_with fail
    refine (refName_any r n w2).mono ?_
    rintro e w3 ⟨hr, hb3⟩
    obtain rfl : e = .returned (.string ⟨#[]⟩) := by
      rcases hr with ⟨a', b', h1, h2, h4, h3⟩ | ⟨_, h⟩
      · unfold BadN at hbad; unfold OkN at h4; omega
      · exact h
    have HE3 := Lib.hid (HE.out.below hb3)
    clear hr
    go_wp2_with fail
    refine (is_err v 1 1 w3 HE3.out).mono ?_
    rintro e w4 ⟨rfl, hw4⟩
    subst w4
    go_wp2_with fail
    go_ret
    exact ⟨rfl, hb1.trans ((hb2.trans (hb3.mono hb2.size)).mono hb1.size)⟩
end Go.Proofs.YtfcgffemdcfiiaaDoor.wQuotaNames
