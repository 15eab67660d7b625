/- The walk of the law QuotaParses: it returns true; nothing that was there is written. -/
import Derived.Test.YtfcgffemdcfiiaaDoorAwakeQ
import Derived.Test.YtfcgffemdcfiiaaDoorRefParseQ
namespace Go.Proofs.YtfcgffemdcfiiaaDoor.wQuotaParses
open Go Go.RowKit Go.Proofs.YtfcgffemdcfiiaaDoor.base Go.Proofs.YtfcgffemdcfiiaaDoor.dec Go.Proofs.YtfcgffemdcfiiaaDoor.err Go.Proofs.YtfcgffemdcfiiaaDoor.quota
open Go.Lib (decDigits)

set_option maxHeartbeats 1600000 in
theorem walk (v0 : Value) (w : World) (a0 : Arg Tryd.prog w 9 v0) (ht : Tabs w) :
    Calls Tryd.prog 4 #[v0] w fun e w' => e = .returned (.bool true) ∧ Below w.heap.size w w' := by
  obtain ⟨s, rfl, _⟩ := a0.string Tryd.underlying9
  have HT := Lib.hid ht
  clear ht
  go_enter Tryd.func4, Tryd.ntmps4
  go_wp2_with fail
  refine (awake_any w HT.out).mono ?_
  rintro e w1 ⟨rfl, hb1⟩
  have HT1 := Lib.hid (HT.out.below hb1)
  by_cases hs : s.size ≤ 1000
  · have d1 : decide ((1000 : Int) < (s.size : Int)) = false := by simp; omega
    go_wp2_with fail
    refine (parse_any s w1 (by omega) HT1.out).mono ?_
    rintro e w2 (⟨a, b, hok, hl, rfl, hb2⟩ | ⟨hno, v, rfl, herr, hnn, hb2⟩)
    · have HT2 := Lib.hid (HT1.out.below hb2)
      have HL := Lib.hid hl
      have HOK := Lib.hid hok
      have ha0 : a ≠ 0 := by unfold OkN at hok; omega
      clear hl hok
      go_wp2_with fail
      refine (refParse_any s w2 (by omega)).mono ?_
      rintro e w3 ⟨hr, hb3⟩
      obtain rfl : e = .returned (.tuple #[.int .i64 a, .int .i64 b]) := by
        rcases hr with ⟨a', b', _, h1, h2⟩ | ⟨h, _⟩
        · rw [HL.out] at h1
          obtain ⟨rfl, rfl⟩ := nm_inj h1
          exact h2
        · exact absurd HL.out (h a b HOK.out)
      clear hr
      have HT3 := Lib.hid (HT2.out.below hb3)
      have d2 : ((a : Int) == 0) = false := by simp; omega
      go_wp2_with fail
      refine (name_any a b w3 HT3.out).mono ?_
      rintro e w4 hn
      obtain ⟨rfl, hb4⟩ : e = .returned (.tuple #[.string s, .nilIface]) ∧ Below w3.heap.size w3 w4 := by
        rcases hn with ⟨a', b', h1, h2, _, h3, h4⟩ | ⟨h, _⟩
        · obtain rfl : a = a' := by omega
          obtain rfl : b = b' := by omega
          refine ⟨?_, h4⟩
          rw [h3, ← HL.out, str_of]
        · have := HOK.out
          unfold BadN at h; unfold OkN at this; omega
      clear hn
      go_wp2_with fail
      go_ret
      exact ⟨rfl, hb1.trans ((hb2.trans ((hb3.trans (hb4.mono hb3.size)).mono hb2.size)).mono hb1.size)⟩
    · have HE := Lib.hid herr
      have HNO := Lib.hid hno
      clear herr hno
      obtain ⟨g, rfl⟩ := HE.out.form
      go_wp2_with fail
      refine (refParse_any s w2 (by omega)).mono ?_
      rintro e w3 ⟨hr, hb3⟩
      obtain rfl : e = .returned (.tuple #[.int .i64 0, .int .i64 0]) := by
        rcases hr with ⟨a', b', h4, h1, _⟩ | ⟨_, h⟩
        · exact absurd h1 (HNO.out a' b' h4)
        · exact h
      clear hr
      have HE3 := Lib.hid (HE.out.below hb3)
      go_wp2_with fail
      refine (is_err _ 2 2 w3 HE3.out).mono ?_
      rintro e w4 ⟨rfl, hw4⟩
      subst w4
      go_wp2_with fail
      go_ret
      exact ⟨rfl, hb1.trans ((hb2.trans (hb3.mono hb2.size)).mono hb1.size)⟩
  · have d1 : decide ((1000 : Int) < (s.size : Int)) = true := by simp; omega
    go_wp2_with fail
    go_ret
    exact ⟨rfl, hb1⟩
end Go.Proofs.YtfcgffemdcfiiaaDoor.wQuotaParses
