/- The walk of the law FeedNone: it returns true; nothing that was there is written. -/
import Derived.Test.YtmclmefgddomfaaNilF
namespace Go.Proofs.Ytmclmefgddomfaa.wFeedNone
open Go.RowKit Go.Proofs.Ytmclmefgddomfaa.base Go.Proofs.Ytmclmefgddomfaa.rowe Go.Proofs.Ytmclmefgddomfaa.err Go.Proofs.Ytmclmefgddomfaa.wire Go.Proofs.Ytmclmefgddomfaa.feed

theorem shift3 (a b c : Value) {l : List Value} {j : Nat} {v : Value} (h : l[j]? = some v) : (a :: b :: c :: l).toArray[3 + j]? = some v := by
  rw [List.getElem?_toArray, Nat.add_comm]
  simpa using h
theorem he1 {w : World} {v : Value} {c : Int} (h : Err w v c) : v ≠ .nilIface := by obtain ⟨g, rfl⟩ := h.form; simp
set_option maxRecDepth 100000 in
set_option maxHeartbeats 1000000 in
theorem walk (v0 : Value) (w : World) (a0 : Arg Try.prog w 56 v0) :
    Calls Try.prog 6 #[v0] w fun e w' => e = .returned (.bool true) ∧ Below w.heap.size w w' := by
  obtain ⟨l, rfl, hl, hs⟩ := a0.agg (.inl ⟨_, Try.underlying56⟩)
  obtain ⟨⟨k, a, b, x⟩, rfl, _⟩ := op_sees l hl hs
  clear a0 hl hs
  obtain ⟨r, n, t, s, d, z, se, ke, v, g, lf⟩ := x
  have hx0 := Blk.new w 56 (Opx.cells ⟨k, a, b, ⟨r, n, t, s, d, z, se, ke, v, g, lf⟩⟩).toArray
  have HX0 := Lib.hid hx0
  have HB0 := Lib.hid (below_new w (.cells (Opx.cells ⟨k, a, b, ⟨r, n, t, s, d, z, se, ke, v, g, lf⟩⟩).toArray 56))
  clear hx0
  unfold Opx.cells Wr.cells at *
  simp only [List.cons_append, List.nil_append] at *
  go_enter Try.func6, Try.ntmps6
  go_wp2_with fail
  refine (awake_any _).mono ?_
  rintro e w1 ⟨rfl, hb1⟩
  have hx1 := HX0.out.below hb1 (by simp)
  have HB1 := Lib.hid (below_step HB0.out hb1)
  have c1 : w1.cell? ⟨w.heap.size, 1, none⟩ = _ := hx1.cell 1
  have c2 : w1.cell? ⟨w.heap.size, 2, none⟩ = _ := hx1.cell 2
  have hlt := hx1.lt
  simp at c1 c2
  have HX1 := Lib.hid hx1
  clear hb1 hx1 HX0 HB0
  go_wp2_with (refine wpList_load_at rfl 35 (.tmp 7) rfl w.heap.size 3 (Wr.cells ⟨r, n, t, s, d, z, se, ke, v, g, lf⟩) rfl Try.underlying35 rfl (by kernel_rfl) (fun j v hj => by rw [HX1.out.cell (3 + j)]; exact shift3 _ _ _ hj) ?_)
  refine (add_nil ⟨r, n, t, s, d, z, se, ke, v, g, lf⟩ _).mono ?_
  rintro e w2 ⟨ve, rfl, he, hb2⟩
  have hx2 := HX1.out.below hb2 hlt
  have k1 : w2.cell? ⟨w.heap.size, 1, none⟩ = _ := hx2.cell 1
  have k2 : w2.cell? ⟨w.heap.size, 2, none⟩ = _ := hx2.cell 2
  have hlt2 := hx2.lt
  simp at k1 k2
  have HE := Lib.hid he
  have HB2 := Lib.hid (below_step HB1.out hb2)
  clear he hb2 hx2
  go_wp2_with fail
  refine (is_eo ve 1 1 w2 (.inr ⟨by decide, HE.out, he1 HE.out⟩)).mono ?_
  rintro e w3 ⟨rfl, rfl⟩
  go_wp2_with fail
  refine (last_nil _).mono ?_
  rintro e w4 ⟨rfl, rfl⟩
  go_wp2_with fail
  refine (base_nil _).mono ?_
  rintro e w4 ⟨rfl, rfl⟩
  go_wp2_with fail
  refine (writes_nil _).mono ?_
  rintro e w4 ⟨rfl, rfl⟩
  go_wp2_with fail
  refine (batch_nil b _).mono ?_
  rintro e w4 ⟨rfl, rfl⟩
  go_wp2_with fail
  refine (ack_nil a b _).mono ?_
  rintro e w4 ⟨rfl, rfl⟩
  go_wp2_with fail
  refine (known_nil a _).mono ?_
  rintro e w4 ⟨rfl, rfl⟩
  go_wp2_with fail
  refine (trim_nil _).mono ?_
  rintro e w4 ⟨rfl, rfl⟩
  go_wp2_with fail
  go_ret
  exact ⟨rfl, HB2.out⟩
end Go.Proofs.Ytmclmefgddomfaa.wFeedNone
