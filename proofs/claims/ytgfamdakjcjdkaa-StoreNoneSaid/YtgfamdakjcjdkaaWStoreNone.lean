/- The walk of the law StoreNone: it returns true; nothing that was there is written. -/
import Derived.Test.YtgfamdakjcjdkaaArgsS
namespace Go.Proofs.Ytgfamdakjcjdkaa.wStoreNone
open Go Go.RowKit Go.Proofs.Ytgfamdakjcjdkaa.base Go.Proofs.Ytgfamdakjcjdkaa.err Go.Proofs.Ytgfamdakjcjdkaa.merge Go.Proofs.Ytgfamdakjcjdkaa.rows Go.Proofs.Ytgfamdakjcjdkaa.store

theorem field_val (t r : Int) (v : ByteArray) (g : Bool) (l : Int) (w : World) : (Instr.field 48 (.agg #[.int .i64 t, .int .i64 r, .string v, .bool g, .int .i64 l]) 1).run Try.prog w = .ok (.string v) w := by kernel_rfl
set_option maxRecDepth 100000 in
set_option maxHeartbeats 1000000 in
theorem walk (v0 v1 : Value) (w : World) (a0 : Arg Try.prog w 33 v0) (a1 : Arg Try.prog w 3 v1) :
    Calls Try.prog 8 #[v0, v1] w fun e w' => e = .returned (.bool true) ∧ Below w.heap.size w w' := by
  obtain ⟨l, rfl, hl, hs⟩ := a0.agg (.inl ⟨_, Try.underlying33⟩)
  obtain ⟨⟨rg, nm, t, r, dA, dn, dc, se, kk, v, g, lf⟩, rfl, _⟩ := write_sees l hl hs
  obtain ⟨fl, rfl, _⟩ := a1.int Try.underlying3
  clear a0 a1 hl hs
  have hx0 := Blk.new w 33 #[.int .i64 rg, .int .i64 nm, .int .i64 t, .int .i64 r, .slice dA dn dc, .string se, .string kk, .string v, .bool g, .int .i64 lf]
  have HX0 := Lib.hid hx0
  have HB0 := Lib.hid (below_new w (.cells #[.int .i64 rg, .int .i64 nm, .int .i64 t, .int .i64 r, .slice dA dn dc, .string se, .string kk, .string v, .bool g, .int .i64 lf] 33))
  clear hx0
  unfold Wt.cells at *
  dsimp only at *
  go_enter Try.func8, Try.ntmps8
  go_wp2_with fail
  refine (awake_any _).mono ?_
  rintro e w1 ⟨rfl, hb1⟩
  have hx1 := HX0.out.below hb1 (by simp)
  have HB1 := Lib.hid (below_step HB0.out hb1)
  have c5 : w1.cell? ⟨w.heap.size, 5, none⟩ = _ := hx1.cell 5
  have c6 : w1.cell? ⟨w.heap.size, 6, none⟩ = _ := hx1.cell 6
  have hlt := hx1.lt
  simp at c5 c6
  have HX1 := Lib.hid hx1
  clear hb1 hx1 HX0 HB0
  go_wp2_with fail
  refine (get_nil se kk w1).mono ?_
  rintro e w2 ⟨er, rfl, heo, hb2⟩
  have hx2 := HX1.out.below hb2 hlt
  obtain ⟨ge, rfl⟩ := heo.form (by decide)
  have HEO := Lib.hid heo
  have HB2 := Lib.hid (below_step HB1.out hb2)
  obtain ⟨k0, k1, k2, k3, k4, k5, k6, k7, k8, k9⟩ := cells10 hx2
  have hlt2 := hx2.lt
  have HX2 := Lib.hid hx2
  clear hx2 hb2 heo c5 c6 HX1 HB1
  go_wp2_with fail
  refine (apply_nil _ w2).mono ?_
  rintro e w3 ⟨rfl, hb3⟩
  have HEO3 := Lib.hid (HEO.out.below hb3)
  have HB3 := Lib.hid (below_step HB2.out hb3)
  have hx3 := HX2.out.below hb3 hlt2
  have k53 : w3.cell? ⟨w.heap.size, 5, none⟩ = _ := hx3.cell 5
  have hlt3 := hx3.lt
  simp at k53
  clear k0 k1 k2 k3 k4 k5 k6 k7 k8 k9 hb3 HX2 HEO HB2
  have HX3 := Lib.hid hx3
  clear hx3
  go_wp2_with fail
  refine (is_eo _ 1 1 w3 HEO3.out).mono ?_
  rintro e w4 ⟨rfl, rfl⟩
  go_wp2_with fail
  refine (head_nil se w3).mono ?_
  rintro e w4 ⟨rfl, hb4⟩
  have HB4 := Lib.hid (below_step HB3.out hb4)
  have hx4 := HX3.out.below hb4 hlt3
  have k54 : w4.cell? ⟨w.heap.size, 5, none⟩ = _ := hx4.cell 5
  have hlt4 := hx4.lt
  simp at k54
  clear hb4 hx4 k53
  unfold cval zeroC
  dsimp only
  have hfi := field_val 0 0 ⟨#[]⟩ false 0 w4
  go_wp2_with fail
  refine (keys_nil se w4).mono ?_
  rintro e w5 ⟨rfl, rfl⟩
  go_wp2_with fail
  refine (lives_nil w4).mono ?_
  rintro e w5 ⟨rfl, rfl⟩
  go_wp2_with fail
  refine (sweep_nil fl w4).mono ?_
  rintro e w5 ⟨rfl, hb5⟩
  have HB5 := Lib.hid (below_step HB4.out hb5)
  clear hb5 k54
  go_wp2_with fail
  refine (rows_nil w5).mono ?_
  rintro e w6 ⟨rfl, rfl⟩
  go_wp2_with fail
  refine (shows_nil w5).mono ?_
  rintro e w6 ⟨rfl, hb6⟩
  have HB6 := Lib.hid (below_step HB5.out hb6)
  clear hb6
  go_wp2_with fail
  go_ret
  exact ⟨rfl, HB6.out⟩
end Go.Proofs.Ytgfamdakjcjdkaa.wStoreNone
