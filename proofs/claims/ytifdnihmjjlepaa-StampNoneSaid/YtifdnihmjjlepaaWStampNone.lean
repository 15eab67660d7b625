/- The walk of the law StampNone. -/
import Derived.Test.YtifdnihmjjlepaaAwake
namespace Go.Proofs.Ytifdnihmjjlepaa.wStampNone
open Go.RowKit Go.Proofs.Ytifdnihmjjlepaa.base Go.Proofs.Ytifdnihmjjlepaa.is_ Go.Proofs.Ytifdnihmjjlepaa.clock Go.Proofs.Ytifdnihmjjlepaa.awake

theorem walk (v0 : Value) (w : World) (a0 : Arg Try.prog w 3 v0) :
    Calls Try.prog 5 #[v0] w fun e w' => e = .returned (.bool true) ∧ Below w.heap.size w w' := by
  obtain ⟨n, rfl, _⟩ := a0.int Try.underlying3
  clear a0
  go_enter Try.func5, Try.ntmps5
  go_wp2_with fail
  refine (awake_any _).mono ?_
  rintro e w1 ⟨rfl, hb1⟩
  have Hb1 := Lib.hid hb1
  clear hb1
  go_wp2_with fail
  refine (next_nil _).mono ?_
  rintro e w2 ⟨v, rfl, he, hne, hb2⟩
  have hb3 := below_step Hb1.out hb2
  have he2 := he.below (below_new w2 (.cells #[.int .i64 0, .int .i64 0] 31))
  have hb4 := below_alloc hb3 (.cells #[.int .i64 0, .int .i64 0] 31)
  have Hb4 := Lib.hid hb4
  clear hb4
  clear hb2 hb3 he
  unfold zst
  go_wp2_with fail
  refine (is_err _ _ _ _ he2).mono ?_
  rintro e w3 ⟨rfl, rfl⟩
  clear he2
  go_wp2_with fail
  refine (see_nil _ _).mono ?_
  rintro e w4 ⟨v4, rfl, he4, hne4, hb5⟩
  have hb6 := below_step Hb4.out hb5
  have Hb6 := Lib.hid hb6
  clear hb6
  clear hb5
  go_wp2_with fail
  refine (is_err _ _ _ _ he4).mono ?_
  rintro e w5 ⟨rfl, rfl⟩
  clear he4
  go_wp2_with fail
  refine (time_nil _).mono ?_
  rintro e w5 ⟨rfl, rfl⟩
  go_wp2
  go_ret
  exact ⟨rfl, Hb6.out⟩
end Go.Proofs.Ytifdnihmjjlepaa.wStampNone
