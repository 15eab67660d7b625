/- A feed that isn't there: what its methods answer. -/
import Derived.Test.YtmclmefgddomfaaArgsF
namespace Go.Proofs.Ytmclmefgddomfaa.feed
open Go.RowKit Go.Proofs.Ytmclmefgddomfaa.base Go.Proofs.Ytmclmefgddomfaa.rowe Go.Proofs.Ytmclmefgddomfaa.err Go.Proofs.Ytmclmefgddomfaa.wire Go.Proofs.Ytmclmefgddomfaa.monoj

theorem last_nil (w : World) : Calls Try.prog 15 #[.pointer none] w fun e w' => e = .returned (.int .i64 0) ∧ w' = w := by
  go_enter Try.func15, Try.ntmps15
  go_wp2
  go_ret
  exact ⟨rfl, rfl⟩
theorem base_nil (w : World) : Calls Try.prog 16 #[.pointer none] w fun e w' => e = .returned (.int .i64 0) ∧ w' = w := by
  go_enter Try.func16, Try.ntmps16
  go_wp2
  go_ret
  exact ⟨rfl, rfl⟩
theorem writes_nil (w : World) : Calls Try.prog 17 #[.pointer none] w fun e w' => e = .returned (.slice none 0 0) ∧ w' = w := by
  go_enter Try.func17, Try.ntmps17
  go_wp2
  go_ret
  exact ⟨rfl, rfl⟩
theorem batch_nil (h : Int) (w : World) : Calls Try.prog 14 #[.pointer none, .int .i64 h] w fun e w' => e = .returned (.slice none 0 0) ∧ w' = w := by
  go_enter Try.func14, Try.ntmps14
  go_wp2
  go_ret
  exact ⟨rfl, rfl⟩
theorem is_nilF (p : Int) (w : World) : Calls Try.prog 31 #[.pointer none, .int .i64 p] w fun e w' => e = .returned (.bool false) ∧ w' = w := by
  go_enter Try.func31, Try.ntmps31
  go_wp2
  go_ret
  exact ⟨rfl, rfl⟩
theorem ack_nil (p h : Int) (w : World) : Calls Try.prog 11 #[.pointer none, .int .i64 p, .int .i64 h] w fun e w' => e = .returned (.bool false) ∧ w' = w := by
  go_enter Try.func11, Try.ntmps11
  go_wp2_with fail
  refine (is_nilF p w).mono ?_
  rintro e w1 ⟨rfl, rfl⟩
  go_wp2
  go_ret
  exact ⟨rfl, rfl⟩
theorem known_nil (p : Int) (w : World) : Calls Try.prog 13 #[.pointer none, .int .i64 p] w fun e w' => e = .returned (.int .i64 0) ∧ w' = w := by
  go_enter Try.func13, Try.ntmps13
  go_wp2_with fail
  refine (is_nilF p w).mono ?_
  rintro e w1 ⟨rfl, rfl⟩
  go_wp2
  go_ret
  exact ⟨rfl, rfl⟩
set_option maxRecDepth 10000 in
theorem trim_nil (w : World) : Calls Try.prog 12 #[.pointer none] w fun e w' => e = .returned (.int .i64 0) ∧ w' = w := by
  go_enter Try.func12, Try.ntmps12
  go_wp2_with fail
  refine (last_nil w).mono ?_
  rintro e w1 ⟨rfl, rfl⟩
  go_wp2_with fail
  go_loopw [3, 4, 8] (fun le _ i wr' => ∃ p : Nat, p ≤ 17 ∧ i = .int .i64 p ∧ le = .int .i64 0 ∧ wr' = w1) (fun _ _ i _ => 17 - (intOf i).toNat)
  case atStart => exact ⟨0, by omega, rfl, rfl, rfl⟩
  case round =>
    obtain ⟨p, hp, rfl, rfl, rfl⟩ := hrel
    by_cases hlt : p < 17
    · have d1 : decide ((p : Int) < 17) = true := by simp; omega
      go_wp2_with fail
      refine (is_nilF (p : Int) _).mono ?_
      rintro e w2 ⟨rfl, rfl⟩
      go_wp2_with fail
      go_roundw
      case rel => exact ⟨p + 1, by omega, by go_num, rfl, trivial⟩
      case measure => simp [intOf]; omega
    · obtain rfl : p = 17 := by omega
      have d1 : decide ((17 : Int) < 17) = false := by decide
      go_wp2_with fail
      refine (base_nil _).mono ?_
      rintro e w2 ⟨rfl, rfl⟩
      have hw0 := IntWalk.i64_in (0 : Int) (by omega)
      go_wp2_with fail
      go_ret
      exact ⟨rfl, rfl⟩
theorem add_nil (x : Wr) (w : World) : Calls Try.prog 9 #[.pointer none, .agg ⟨x.cells⟩] w fun e w' => ∃ v, e = .returned v ∧ Err w' v 1 ∧ Below w.heap.size w w' := by
  obtain ⟨r, n, t, s, d, z, se, k, v, g, l⟩ := x
  have hb0 := below_new w (.cells (Wr.cells ⟨r, n, t, s, d, z, se, k, v, g, l⟩).toArray 35)
  have Hb0 := Lib.hid hb0
  clear hb0
  unfold Wr.cells at *
  dsimp only at *
  go_enter Try.func9, Try.ntmps9
  go_wp2_with fail
  refine (bad_any _ _ _).mono ?_
  rintro e w1 ⟨v1, rfl, h1, h2, h3, h4⟩
  have hR := Lib.hid (show Err w1 v1 1 ∧ Below w.heap.size w w1 from ⟨h1, below_step Hb0.out h3⟩)
  clear h1 h2 h3 h4
  go_wp2
  go_ret
  exact ⟨_, rfl, hR.out⟩
end Go.Proofs.Ytmclmefgddomfaa.feed
