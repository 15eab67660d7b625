/- The walk of the law NetNone. -/
import Derived.Test.YtempojdgbgaanaaAwake
namespace Go.Proofs.Ytempojdgbgaanaa.wNetNone
open Go.RowKit Go.Proofs.Ytempojdgbgaanaa.base Go.Proofs.Ytempojdgbgaanaa.net Go.Proofs.Ytempojdgbgaanaa.at_ Go.Proofs.Ytempojdgbgaanaa.drop Go.Proofs.Ytempojdgbgaanaa.take Go.Proofs.Ytempojdgbgaanaa.nil_ Go.Proofs.Ytempojdgbgaanaa.awake

structure O where
  k : Int
  a : Int
  b : Int
  i : Int
  s : ByteArray
def oc (o : O) : List Value := [.int .i64 o.k, .int .i64 o.a, .int .i64 o.b, .int .i64 o.i, .string o.s]
theorem op_cells : Try.prog.cellsOf 30 = 5 := by kernel_rfl
theorem op_sees {w : World} (cs : List Value) (hl : cs.length = Try.prog.cellsOf 30) (h : Sees Try.prog w 30 cs) : ∃ o : O, cs = oc o ∧ (Lit.int .i64 o.a).wf = true ∧ (Lit.int .i64 o.b).wf = true ∧ o.s.size ≤ maxLen := by
  rw [op_cells] at hl
  match cs, hl with
  | [a, b, c, d, e], _ =>
    obtain ⟨_, hf⟩ := h.struct Try.underlying30
    have e3 : Try.prog.cellsOf 3 = 1 := by kernel_rfl
    have e9 : Try.prog.cellsOf 9 = 1 := by kernel_rfl
    simp [e3, e9] at hf
    obtain ⟨h0, h1, h2, h3, h4⟩ := hf
    obtain ⟨n0, e0, _⟩ := h0.int Try.underlying3
    obtain ⟨n1, e1, w1⟩ := h1.int Try.underlying3
    obtain ⟨n2, e2, w2⟩ := h2.int Try.underlying3
    obtain ⟨n3, e3, _⟩ := h3.int Try.underlying3
    obtain ⟨n4, e4, w4⟩ := h4.string Try.underlying9
    simp at e0 e1 e2 e3 e4
    subst e0 e1 e2 e3 e4
    exact ⟨⟨n0, n1, n2, n3, n4⟩, rfl, w1, w2, w4⟩
theorem op_arg {w : World} {v : Value} (h : Arg Try.prog w 30 v) : ∃ o : O, v = .agg #[.int .i64 o.k, .int .i64 o.a, .int .i64 o.b, .int .i64 o.i, .string o.s] := by
  obtain ⟨l, rfl, hl, hs⟩ := h.agg (.inl ⟨_, Try.underlying30⟩)
  obtain ⟨o, rfl, _⟩ := op_sees l hl hs
  exact ⟨o, rfl⟩
set_option maxRecDepth 100000 in
set_option maxHeartbeats 1600000 in
theorem walk (v0 : Value) (w : World) (a0 : Arg Try.prog w 30 v0) :
    Calls Try.prog 5 #[v0] w fun e w' => e = .returned (.bool true) ∧ Below w.heap.size w w' := by
  obtain ⟨⟨k, a, b, i, s⟩, rfl⟩ := op_arg a0
  clear a0
  dsimp only
  have hO := Blk.new w 30 #[.int .i64 k, .int .i64 a, .int .i64 b, .int .i64 i, .string s]
  have hB := below_new w (.cells #[.int .i64 k, .int .i64 a, .int .i64 b, .int .i64 i, .string s] 30)
  have HO := Lib.hid hO
  have HB := Lib.hid hB
  clear hO hB
  go_enter Try.func5, Try.ntmps5
  go_wp2_with fail
  refine (awake_yes _).mono ?_
  rintro e w1 ⟨rfl, hb1⟩
  have hO1 := HO.out.below hb1 HO.out.lt
  have HO := Lib.hid hO1
  have HB := Lib.hid (below_step HB.out hb1)
  have f1 : w1.cell? ⟨w.heap.size, 1, none⟩ = some (.int .i64 a) := hO1.cell 1
  have f2 : w1.cell? ⟨w.heap.size, 2, none⟩ = some (.int .i64 b) := hO1.cell 2
  have f3 : w1.cell? ⟨w.heap.size, 3, none⟩ = some (.int .i64 i) := hO1.cell 3
  have f4 : w1.cell? ⟨w.heap.size, 4, none⟩ = some (.string s) := hO1.cell 4
  have f5 := hO1.lt
  clear hO1 hb1
  go_wp2_with fail
  refine (cut_nil _ _ _).mono ?_
  rintro e w2 ⟨rfl, hb2⟩
  have hO1 := HO.out.below hb2 HO.out.lt
  have HO := Lib.hid hO1
  have HB := Lib.hid (below_step HB.out hb2)
  have f1 : w2.cell? ⟨w.heap.size, 1, none⟩ = some (.int .i64 a) := hO1.cell 1
  have f2 : w2.cell? ⟨w.heap.size, 2, none⟩ = some (.int .i64 b) := hO1.cell 2
  have f3 : w2.cell? ⟨w.heap.size, 3, none⟩ = some (.int .i64 i) := hO1.cell 3
  have f4 : w2.cell? ⟨w.heap.size, 4, none⟩ = some (.string s) := hO1.cell 4
  have f5 := hO1.lt
  clear hO1 hb2
  go_wp2_with fail
  refine (join_nil _ _ _).mono ?_
  rintro e w3 ⟨rfl, hb3⟩
  have hO1 := HO.out.below hb3 HO.out.lt
  have HO := Lib.hid hO1
  have HB := Lib.hid (below_step HB.out hb3)
  have f1 : w3.cell? ⟨w.heap.size, 1, none⟩ = some (.int .i64 a) := hO1.cell 1
  have f2 : w3.cell? ⟨w.heap.size, 2, none⟩ = some (.int .i64 b) := hO1.cell 2
  have f3 : w3.cell? ⟨w.heap.size, 3, none⟩ = some (.int .i64 i) := hO1.cell 3
  have f4 : w3.cell? ⟨w.heap.size, 4, none⟩ = some (.string s) := hO1.cell 4
  have f5 := hO1.lt
  clear hO1 hb3
  go_wp2_with fail
  refine (heal_nil _).mono ?_
  rintro e w4 ⟨rfl, rfl⟩
  go_wp2_with fail
  refine (take_nil _ _ _ _).mono ?_
  rintro e w5 ⟨rfl, hb5⟩
  have hO1 := HO.out.below hb5 HO.out.lt
  have HO := Lib.hid hO1
  have HB := Lib.hid (below_step HB.out hb5)
  have f1 : w5.cell? ⟨w.heap.size, 1, none⟩ = some (.int .i64 a) := hO1.cell 1
  have f2 : w5.cell? ⟨w.heap.size, 2, none⟩ = some (.int .i64 b) := hO1.cell 2
  have f3 : w5.cell? ⟨w.heap.size, 3, none⟩ = some (.int .i64 i) := hO1.cell 3
  have f4 : w5.cell? ⟨w.heap.size, 4, none⟩ = some (.string s) := hO1.cell 4
  have f5 := hO1.lt
  clear hO1 hb5
  go_wp2_with fail
  refine (send_nil _ _ _ _).mono ?_
  rintro e w6 ⟨rfl, hb6⟩
  have hO1 := HO.out.below hb6 HO.out.lt
  have HO := Lib.hid hO1
  have HB := Lib.hid (below_step HB.out hb6)
  have f1 : w6.cell? ⟨w.heap.size, 1, none⟩ = some (.int .i64 a) := hO1.cell 1
  have f2 : w6.cell? ⟨w.heap.size, 2, none⟩ = some (.int .i64 b) := hO1.cell 2
  have f3 : w6.cell? ⟨w.heap.size, 3, none⟩ = some (.int .i64 i) := hO1.cell 3
  have f4 : w6.cell? ⟨w.heap.size, 4, none⟩ = some (.string s) := hO1.cell 4
  have f5 := hO1.lt
  clear hO1 hb6
  go_wp2_with fail
  refine (drop_nil _ _ _ _).mono ?_
  rintro e w7 ⟨rfl, hb7⟩
  have hO1 := HO.out.below hb7 HO.out.lt
  have HO := Lib.hid hO1
  have HB := Lib.hid (below_step HB.out hb7)
  have f1 : w7.cell? ⟨w.heap.size, 1, none⟩ = some (.int .i64 a) := hO1.cell 1
  have f2 : w7.cell? ⟨w.heap.size, 2, none⟩ = some (.int .i64 b) := hO1.cell 2
  have f3 : w7.cell? ⟨w.heap.size, 3, none⟩ = some (.int .i64 i) := hO1.cell 3
  have f4 : w7.cell? ⟨w.heap.size, 4, none⟩ = some (.string s) := hO1.cell 4
  have f5 := hO1.lt
  clear hO1 hb7
  go_wp2_with fail
  refine (double_nil _ _ _ _).mono ?_
  rintro e w8 ⟨rfl, hb8⟩
  have hO1 := HO.out.below hb8 HO.out.lt
  have HO := Lib.hid hO1
  have HB := Lib.hid (below_step HB.out hb8)
  have f1 : w8.cell? ⟨w.heap.size, 1, none⟩ = some (.int .i64 a) := hO1.cell 1
  have f2 : w8.cell? ⟨w.heap.size, 2, none⟩ = some (.int .i64 b) := hO1.cell 2
  have f3 : w8.cell? ⟨w.heap.size, 3, none⟩ = some (.int .i64 i) := hO1.cell 3
  have f4 : w8.cell? ⟨w.heap.size, 4, none⟩ = some (.string s) := hO1.cell 4
  have f5 := hO1.lt
  clear hO1 hb8
  go_wp2_with fail
  refine (count_nil _ _ _).mono ?_
  rintro e w9 ⟨rfl, rfl⟩
  go_wp2_with fail
  refine (all_nil _).mono ?_
  rintro e w9 ⟨rfl, rfl⟩
  go_wp2
  go_ret
  exact ⟨rfl, HB.out⟩
end Go.Proofs.Ytempojdgbgaanaa.wNetNone
