/- The walk of the statements' smallest success. -/
import Derived.Test.YtifdnihmjjlepaaClock
import Derived.Laws.StructEq
namespace Go.Proofs.Ytifdnihmjjlepaa.awake
open Go.RowKit Go.Proofs.Ytifdnihmjjlepaa.base Go.Proofs.Ytifdnihmjjlepaa.is_ Go.Proofs.Ytifdnihmjjlepaa.clock

theorem awake_any (w : World) : Calls Try.prog 7 #[] w fun e w' => e = .returned (.bool true) ∧ Below w.heap.size w w' := by
  go_enter Try.func7, Try.ntmps7
  go_wp2_with fail
  refine (new_yes 2 5 _ (by omega) (by omega) (by omega) (by omega)).mono ?_
  rintro e w1 ⟨rfl, hc, hb⟩
  go_wp2_with fail
  refine (next_yes _ 5 2 _ hc (by omega) (by omega)).mono ?_
  rintro e w2 ⟨rfl, hc2, hk2⟩
  have hb2 := below_keeps hb (Nat.le_refl _) hk2 (fun i hi hh => by omega)
  have hz2 := hk2.size
  have hlt := hc.lt
  have hne : w.heap.size < w2.heap.size := by omega
  have hc3 : Clk (w2.alloc (.cells #[.int .i64 6, .int .i64 2] 31)) w.heap.size 6 2 := Blk.alloc hc2 _
  have hb3 := hb2.alloc hb2.size (.cells #[.int .i64 6, .int .i64 2] 31)
  have Hb3 := Lib.hid hb3
  clear hb3
  clear hb hb2 hk2 hc hc2 hlt hz2
  go_wp2_with fail
  refine (see_yes _ 6 2 9 _ hc3 (by omega) (by omega)).mono ?_
  rintro e w3 ⟨rfl, hc4, hk3⟩
  have hA : Blk w3 w2.heap.size 31 #[.int .i64 6, .int .i64 2] := (Blk.new w2 _ _).keeps hk3 (by omega)
  have hb4 := below_keeps Hb3.out (Nat.le_refl _) hk3 (fun i hi hh => by omega)
  have hz3 := hA.lt
  rw [show max (6 : Int) 9 = 9 by rfl] at hc4
  have HA := Lib.hid hA
  have Hb4 := Lib.hid hb4
  clear hA hb4
  clear hk3 hc3
  go_wp2_with fail
  refine (next_yes _ 9 2 _ hc4 (by omega) (by omega)).mono ?_
  rintro e w4 ⟨rfl, hc5, hk4⟩
  have hA2 := HA.out.keeps hk4 (by omega)
  have hb5 := below_keeps Hb4.out (Nat.le_refl _) hk4 (fun i hi hh => by omega)
  have qa := hA2.cell 0
  have qb := hA2.cell 1
  simp at qa qb
  have hz4 := hk4.size
  have hz5 : w2.heap.size < w4.heap.size := by omega
  have hb6 := hb5.alloc hb5.size (.cells #[.int .i64 10, .int .i64 2] 31)
  have Hb6 := Lib.hid hb6
  clear hb6
  clear hA2 hk4 hz4 hc5 hb5
  go_wp2
  go_ret
  exact ⟨rfl, Hb6.out⟩
end Go.Proofs.Ytifdnihmjjlepaa.awake
