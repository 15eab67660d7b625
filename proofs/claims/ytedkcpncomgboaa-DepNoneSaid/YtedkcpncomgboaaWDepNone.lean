/- The walk of the law DepNone: it returns true; nothing that was there is written. -/
import Derived.Test.YtedkcpncomgboaaArgsI
namespace Go.Proofs.Ytedkcpncomgboaa.wDepNone
open Go Go.RowKit Go.Proofs.Ytedkcpncomgboaa.base Go.Proofs.Ytedkcpncomgboaa.rowe Go.Proofs.Ytedkcpncomgboaa.err Go.Proofs.Ytedkcpncomgboaa.wire Go.Proofs.Ytedkcpncomgboaa.vec Go.Proofs.Ytedkcpncomgboaa.dep

theorem run_oneO (o : Opd) (w : World) : (Instr.buildSlice 49 1 #[(0, .agg ⟨o.cells⟩)]).run Try.prog w = .ok (.slice (some ⟨w.heap.size, 0, none⟩) 1 1) (w.alloc (.cells o.cells.toArray 52)) := by kernel_rfl
theorem wp_oneO {o : Oper} {a : Act} {K : Act → World → Prop} {Q : Exit → Act → World → Prop} {w : World} (x : Operand) (ho : o.op = .buildSlice 49 1 #[(0, x)]) (y : Opd) (hx : a.eval x = .agg ⟨y.cells⟩)
    (h : K (a.put o.dst (.slice (some ⟨w.heap.size, 0, none⟩) 1 1)) (w.alloc (.cells y.cells.toArray 52))) : o.wp Try.prog a w K Q := by
  have hr := run_oneO y w
  unfold Oper.wp execOp
  simp only [ho, List.map_toArray, List.map_cons, List.map_nil, hx, Sem.run_bind, hr, Result.andThen_ok, Sem.run_pure]
  exact h
theorem wpList_oneO {ops : Array Oper} {rest : List Oper} {o : Oper} {a : Act} {Q : Exit → Act → World → Prop} {w : World} (hgd : o.guard = none) (x : Operand) (ho : o.op = .buildSlice 49 1 #[(0, x)]) (y : Opd) (hx : a.eval x = .agg ⟨y.cells⟩)
    (h : wpList Try.prog ops Q rest (a.put o.dst (.slice (some ⟨w.heap.size, 0, none⟩) 1 1)) (w.alloc (.cells y.cells.toArray 52))) : wpList Try.prog ops Q (o :: rest) a w :=
  wpList_plain hgd fun _ hK => wp_oneO x ho y hx (hK _ _ h)
set_option maxRecDepth 100000 in
set_option maxHeartbeats 2000000 in
theorem walk (v0 : Value) (w : World) (a0 : Arg Try.prog w 52 v0) :
    Calls Try.prog 6 #[v0] w fun e w' => e = .returned (.bool true) ∧ Below w.heap.size w w' := by
  obtain ⟨l, rfl, hl, hs⟩ := a0.agg (.inl ⟨_, Try.underlying52⟩)
  obtain ⟨o, rfl, hok⟩ := op_sees l hl hs
  clear a0 hl hs
  have HX0 := Lib.hid (Blk.new w 52 o.cells.toArray)
  have HB0 := Lib.hid (below_new w (.cells o.cells.toArray 52))
  have HO0 := Lib.hid (hok.below HB0.out)
  clear hok
  go_enter Try.func6, Try.ntmps6
  go_wp2_with fail
  refine (awake_any _).mono ?_
  rintro e w1 ⟨rfl, hb1⟩
  have HB1 := Lib.hid (below_step HB0.out hb1)
  have HX1 := Lib.hid (HX0.out.below hb1 HX0.out.lt)
  have HO1 := Lib.hid (HO0.out.below hb1)
  have HE1 := Lib.hid (show ∀ q v, o.cells[q]? = some v → w1.cell? ⟨w.heap.size, 0 + q, none⟩ = some v from fun q v hq => by rw [Nat.zero_add, HX1.out.cell q]; simpa using hq)
  have HB2 := Lib.hid (below_new w1 (.cells o.cells.toArray 52))
  clear hb1 HB0 HX0 HO0
  go_wp2_with (first | ((with_reducible refine wpList_load_at ?_ 52 (.tmp 1) ?_ w.heap.size 0 o.cells ?_ Try.underlying52 ?_ ?_ HE1.out ?_); rfl; rfl; rfl; rfl; (rw [Opd.len]; kernel_rfl)) | ((with_reducible refine wpList_oneO ?_ (.tmp 10) ?_ o ?_ ?_); rfl; rfl; rfl))
  refine (great_any _ [o] (w1.alloc (.cells o.cells.toArray 52)) ⟨_, 1, rfl, by (unfold maxLen; simp), Nat.le_refl _, by
    have h9 := reads_blk (size := 12) (n := 1) (Blk.new w1 52 o.cells.toArray) (by simp [Opd.len])
    simpa using h9, fun y hy => by rw [List.mem_singleton.1 hy]; exact HO1.out.below HB2.out⟩).mono ?_
  rintro e w2 ⟨rfl, hb2⟩
  have hb12 : Below w1.heap.size w1 w2 := below_step HB2.out hb2
  have HB3 := Lib.hid (below_step HB1.out hb12)
  have HX3 := Lib.hid (HX1.out.below hb12 HX1.out.lt)
  have HO3 := Lib.hid (HO1.out.below hb12)
  clear hb2 hb12 HB1 HX1 HO1 HE1 HB2
  cases hg : greatO [o] with
  | true =>
    go_wp2_with fail
    go_ret
    exact ⟨rfl, HB3.out⟩
  | false =>
    have HEw := Lib.hid (show ∀ q v, o.x.cells[q]? = some v → w2.cell? ⟨w.heap.size, 1 + q, none⟩ = some v from fun q v hq => by
      rw [HX3.out.cell (1 + q), Nat.add_comm]
      have h1 : o.cells[q + 1]? = some v := by
        show (o.x.cells ++ [o.v])[q]? = some v
        rw [List.getElem?_append_left (List.getElem?_eq_some_iff.1 hq).1]
        exact hq
      simpa using h1)
    go_wp2_with ((with_reducible refine wpList_load_at ?_ 35 (.tmp 15) ?_ w.heap.size 1 o.x.cells ?_ Try.underlying35 ?_ ?_ HEw.out ?_); rfl; rfl; rfl; rfl; (rw [Wr.len]; kernel_rfl))
    refine (offer_nil o.x w2).mono ?_
    rintro e w3 ⟨ge, rfl, he3, hb3, _⟩
    have HE3 := Lib.hid he3
    have HB4 := Lib.hid (below_step HB3.out hb3)
    have hx4 := HX3.out.below hb3 HX3.out.lt
    obtain ⟨A2, n2, c2, hd2, _⟩ := HO3.out.2
    have c11 : w3.cell? ⟨w.heap.size, 11, none⟩ = some o.v := hx4.cell 11
    rw [hd2] at c11
    have cl := hx4.lt
    clear he3 hb3 hx4 HEw HB3 HX3 HO3
    go_wp2_with fail
    refine (own_nil _ w3).mono ?_
    rintro e w4 ⟨gf, rfl, he4, hb4, _⟩
    have HE4 := Lib.hid he4
    have HE5 := Lib.hid (HE3.out.below hb4)
    have HB5 := Lib.hid (below_step HB4.out hb4)
    clear he4 hb4 HE3 HB4
    go_wp2_with fail
    refine (is_err _ 1 1 w4 HE5.out).mono ?_
    rintro e w5 ⟨rfl, rfl⟩
    go_wp2_with fail
    refine (is_err _ 1 1 w4 HE4.out).mono ?_
    rintro e w5 ⟨rfl, rfl⟩
    go_wp2_with fail
    refine (applied_nil _).mono ?_
    rintro e w5 ⟨rfl, rfl⟩
    go_wp2_with fail
    refine (waits_nil _).mono ?_
    rintro e w5 ⟨rfl, rfl⟩
    go_wp2_with fail
    refine (copy_nil _).mono ?_
    rintro e w5 ⟨rfl, rfl⟩
    go_wp2_with fail
    go_ret
    exact ⟨rfl, HB5.out⟩
end Go.Proofs.Ytedkcpncomgboaa.wDepNone
