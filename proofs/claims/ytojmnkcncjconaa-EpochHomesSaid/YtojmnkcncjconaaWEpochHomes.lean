/- The walk of the law EpochHomes. -/
import Derived.Test.YtojmnkcncjconaaAwake
import Derived.Test.YtojmnkcncjconaaHome
namespace Go.Proofs.Ytojmnkcncjconaa.wEpochHomes
open Go.RowKit Go.Proofs.Ytojmnkcncjconaa.base Go.Proofs.Ytojmnkcncjconaa.awake Go.Proofs.Ytojmnkcncjconaa.home

set_option maxRecDepth 100000 in
theorem walk (v0 : Value) (v1 : Value) (w : World) (a0 : Arg Try.prog w 9 v0) (a1 : Arg Try.prog w 3 v1) :
    Calls Try.prog 3 #[v0, v1] w fun e w' => e = .returned (.bool true) ∧ Below w.heap.size w w' := by
  obtain ⟨u, rfl, _⟩ := a0.string Try.underlying9
  obtain ⟨n, rfl, _⟩ := a1.int Try.underlying3
  clear a0 a1
  by_cases hu : u.size ≤ 1000
  · by_cases hn : n < 1
    · have hh : homeI u n = 0 := if_pos hn
      have h1 := fun w => home_any u n w hu
      have h2 := fun w => home_ref u n w hu
      rw [hh] at h1 h2
      have H1 := Lib.hid h1
      have H2 := Lib.hid h2
      clear h1 h2
      clear hh
      go_enter Try.func3, Try.ntmps3
      go_wp2_with fail
      refine (awake_any _).mono ?_
      rintro e w1 ⟨rfl, hb1⟩
      have Hb1 := Lib.hid hb1
      clear hb1
      go_wp2_with fail
      refine (H1.out _).mono ?_
      rintro e w2 ⟨rfl, hb2⟩
      have hb3 := below_step Hb1.out hb2
      have Hb3 := Lib.hid hb3
      clear hb3
      clear hb2
      go_wp2_with fail
      refine (H2.out _).mono ?_
      rintro e w3 ⟨rfl, hb4⟩
      have hb5 := below_step Hb3.out hb4
      have Hb5 := Lib.hid hb5
      clear hb5
      clear hb4
      go_wp2
      go_ret
      exact ⟨rfl, Hb5.out⟩
    · obtain ⟨hb1, hb2⟩ := homeI_bd u n (by omega)
      have hh : homeI u n = homeI' u n := if_neg hn
      have h1 := fun w => home_any u n w hu
      have h2 := fun w => home_ref u n w hu
      rw [hh] at h1 h2
      generalize homeI' u n = z at *
      have hz : decide (1 ≤ z) = true := by simpa using hb1
      have hz2 : decide (z ≤ n) = true := by simpa using hb2
      have H1 := Lib.hid h1
      have H2 := Lib.hid h2
      clear h1 h2
      clear hh
      go_enter Try.func3, Try.ntmps3
      go_wp2_with fail
      refine (awake_any _).mono ?_
      rintro e w1 ⟨rfl, hb1⟩
      have Hb1 := Lib.hid hb1
      clear hb1
      go_wp2_with fail
      refine (H1.out _).mono ?_
      rintro e w2 ⟨rfl, hb2⟩
      have hb3 := below_step Hb1.out hb2
      have Hb3 := Lib.hid hb3
      clear hb3
      clear hb2
      go_wp2_with fail
      refine (H2.out _).mono ?_
      rintro e w3 ⟨rfl, hb4⟩
      have hb5 := below_step Hb3.out hb4
      have Hb5 := Lib.hid hb5
      clear hb5
      clear hb4
      go_wp2
      go_ret
      exact ⟨ret_bool (by simp), Hb5.out⟩
  · have hd : decide (1000 < (u.size : Int)) = true := by simp; omega
    go_enter Try.func3, Try.ntmps3
    go_wp2_with fail
    refine (awake_any _).mono ?_
    rintro e w1 ⟨rfl, hb1⟩
    have Hb1 := Lib.hid hb1
    clear hb1
    go_wp2
    go_ret
    exact ⟨rfl, Hb1.out⟩
end Go.Proofs.Ytojmnkcncjconaa.wEpochHomes
