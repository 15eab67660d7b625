/- The walk of the law BakeParses: it returns true; nothing that was there is written. -/
import Derived.Test.YticlnjfndjnfhaaDoorAwakeB
namespace Go.Proofs.YticlnjfndjnfhaaDoor.wBakeParses
open Go Go.RowKit Go.Proofs.YticlnjfndjnfhaaDoor.base Go.Proofs.YticlnjfndjnfhaaDoor.dec Go.Proofs.YticlnjfndjnfhaaDoor.err Go.Proofs.YticlnjfndjnfhaaDoor.bake

theorem eq_ck (a b c : ByteArray) (d : Int) (e f : Bool) (g : Int) (W : World) : (Op.equalIn 10000 25 (.agg #[.string a, .string b, .string c, .int .i64 d, .bool e, .bool f, .int .i64 g]) (.agg #[.string a, .string b, .string c, .int .i64 d, .bool e, .bool f, .int .i64 g])).run Tryd.prog W = .ok true W := by
  go_simp
set_option maxRecDepth 10000 in
set_option maxHeartbeats 1600000 in
theorem walk (v0 : Value) (w : World) (a0 : Arg Tryd.prog w 9 v0) (ht : Tabs w) :
    Calls Tryd.prog 5 #[v0] w fun e w' => e = .returned (.bool true) ∧ Below w.heap.size w w' := by
  obtain ⟨s, rfl, _⟩ := a0.string Tryd.underlying9
  clear a0
  have HT := Lib.hid ht
  clear ht
  go_enter Tryd.func5, Tryd.ntmps5
  go_wp2_with fail
  refine (awake_any w HT.out).mono ?_
  rintro e w1 ⟨rfl, hb1⟩
  have HT1 := Lib.hid (HT.out.below hb1)
  have HB1 := Lib.hid hb1
  clear hb1
  by_cases hs : 5000 < s.size
  · have d1 : decide ((5000 : Int) < (s.size : Int)) = true := decide_eq_true (by omega)
    go_wp2_with fail
    go_ret
    exact ⟨rfl, HB1.out⟩
  · have d1 : decide ((5000 : Int) < (s.size : Int)) = false := decide_eq_false (by omega)
    go_wp2_with fail
    refine (parse_any s w1 (by omega) HT1.out.m).mono ?_
    rintro e w2 h2
    obtain ⟨o, ho⟩ : ∃ o, parse s = o := ⟨_, rfl⟩
    have HO := Lib.hid ho
    rw [ho] at h2
    clear ho
    cases o with
    | none =>
      obtain ⟨v, rfl, herr, hnn, hb2⟩ := h2
      have HE := Lib.hid herr
      have HB2 := Lib.hid (HB1.out.trans (hb2.mono HB1.out.size))
      clear herr hb2
      unfold Ck.val Ck.cells noCk
      go_wp2_with fail
      refine (parse_ref s _ (by omega)).mono ?_
      rintro e w3 h3
      rw [HO.out] at h3
      obtain ⟨rfl, hb3⟩ := h3
      unfold Ck.val Ck.cells noCk
      have HE3 := Lib.hid ((HE.out.below ((Below.refl w2.heap.size w2).alloc (Nat.le_refl _) _)).below hb3)
      have hblk := (Blk.new w2 25 noCk.cells.toArray).below hb3 (by simp)
      obtain ⟨q0, q1, q2, q3, q4, q5, q6⟩ := Ck.cells7 hblk
      have hlt3 := hblk.lt
      have HB3 := Lib.hid ((HB2.out.alloc HB2.out.size _).trans (hb3.mono (by have := HB2.out.size; simp; omega)))
      have heq := eq_ck ⟨#[]⟩ ⟨#[]⟩ ⟨#[]⟩ 0 false false 0
      clear hb3 hblk
      unfold noCk at q0 q1 q2 q3 q4 q5 q6
      dsimp only at q0 q1 q2 q3 q4 q5 q6
      go_wp2_with fail
      refine (is_err v 2 2 _ (HE3.out.below ((Below.refl w3.heap.size w3).alloc (Nat.le_refl _) _))).mono ?_
      rintro e w4 ⟨rfl, rfl⟩
      go_wp2_with fail
      go_ret
      exact ⟨rfl, HB3.out.alloc HB3.out.size _⟩
    | some c =>
      obtain ⟨rfl, hb2⟩ := h2
      have HB2 := Lib.hid (HB1.out.trans (hb2.mono HB1.out.size))
      clear hb2
      obtain ⟨cn, cv, cp, cg, cs, ch, ci⟩ := c
      unfold Ck.val Ck.cells
      go_wp2_with fail
      refine (parse_ref s _ (by omega)).mono ?_
      rintro e w3 h3
      rw [HO.out] at h3
      obtain ⟨rfl, hb3⟩ := h3
      unfold Ck.val Ck.cells
      have hblk := (Blk.new w2 25 (Ck.cells ⟨cn, cv, cp, cg, cs, ch, ci⟩).toArray).below hb3 (by simp)
      obtain ⟨q0, q1, q2, q3, q4, q5, q6⟩ := Ck.cells7 hblk
      have hlt3 := hblk.lt
      have HB3 := Lib.hid ((HB2.out.alloc HB2.out.size _).trans (hb3.mono (by have := HB2.out.size; simp; omega)))
      have heq := eq_ck cn cv cp cg cs ch ci
      clear hb3 hblk
      dsimp only at q0 q1 q2 q3 q4 q5 q6
      go_wp2_with fail
      go_ret
      exact ⟨rfl, HB3.out.alloc HB3.out.size _⟩
end Go.Proofs.YticlnjfndjnfhaaDoor.wBakeParses
