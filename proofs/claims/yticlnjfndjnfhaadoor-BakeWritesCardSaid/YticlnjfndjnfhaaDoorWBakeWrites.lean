/- The walk of the law BakeWrites: it returns true; nothing that was there is written. -/
import Derived.Test.YticlnjfndjnfhaaDoorAwakeB
namespace Go.Proofs.YticlnjfndjnfhaaDoor.wBakeWrites
open Go Go.RowKit Go.Proofs.YticlnjfndjnfhaaDoor.base Go.Proofs.YticlnjfndjnfhaaDoor.dec Go.Proofs.YticlnjfndjnfhaaDoor.err Go.Proofs.YticlnjfndjnfhaaDoor.bake

theorem eq_ck (a b c : ByteArray) (d : Int) (e f : Bool) (g : Int) (W : World) : (Op.equalIn 10000 25 (.agg #[.string a, .string b, .string c, .int .i64 d, .bool e, .bool f, .int .i64 g]) (.agg #[.string a, .string b, .string c, .int .i64 d, .bool e, .bool f, .int .i64 g])).run Tryd.prog W = .ok true W := by
  go_simp
set_option maxRecDepth 10000 in
theorem ck_arg {w : World} {v : Value} (h : Arg Tryd.prog w 25 v) : ∃ (n v' p : ByteArray) (a : Int) (sec http : Bool) (st : Int), v = .agg #[.string n, .string v', .string p, .int .i64 a, .bool sec, .bool http, .int .i64 st] := by
  obtain ⟨l, rfl, hl, hs⟩ := h.agg (.inl ⟨_, Tryd.underlying25⟩)
  have e7 : Tryd.prog.cellsOf 25 = 7 := by kernel_rfl
  have es : Tryd.prog.cellsOf 9 = 1 := by kernel_rfl
  have ei : Tryd.prog.cellsOf 3 = 1 := by kernel_rfl
  have eb : Tryd.prog.cellsOf 4 = 1 := by kernel_rfl
  rw [e7] at hl
  obtain ⟨_, hf⟩ := hs.struct Tryd.underlying25
  match l, hl with
  | [x0, x1, x2, x3, x4, x5, x6], _ =>
    simp [es, ei, eb] at hf
    obtain ⟨f0, f1, f2, f3, f4, f5, f6⟩ := hf
    obtain ⟨s0, q0, _⟩ := f0.string Tryd.underlying9
    obtain ⟨s1, q1, _⟩ := f1.string Tryd.underlying9
    obtain ⟨s2, q2, _⟩ := f2.string Tryd.underlying9
    obtain ⟨n3, q3, _⟩ := f3.int Tryd.underlying3
    obtain ⟨b4, q4⟩ := f4.bool Tryd.underlying4
    obtain ⟨b5, q5⟩ := f5.bool Tryd.underlying4
    obtain ⟨n6, q6, _⟩ := f6.int Tryd.underlying3
    simp at q0 q1 q2 q3 q4 q5 q6
    subst q0 q1 q2 q3 q4 q5 q6
    exact ⟨s0, s1, s2, n3, b4, b5, n6, rfl⟩
theorem head_len {n v p : ByteArray} {a : Int} {sec http : Bool} {st : Int} (ha : a ≤ 1099511627776) : (headL n v p a sec http st).length ≤ n.size + v.size + p.size + 200 := by
  have h1 : (tailL (pP p)).length ≤ p.size + 10 := by
    unfold pP
    split
    · simp [tailL, Lib.joinTail]
    · rw [tail_one, List.length_append, List.length_append]
      have h1 : p.data.toList.length = p.size := rfl
      have h2 : pathH.length = 5 := rfl
      have h3 : ([59, 32] : List UInt8).length = 2 := rfl
      omega
  have h2 : (tailL (pA a)).length ≤ 40 := by
    unfold pA
    split
    · rw [tail_one, List.length_append, List.length_append]
      have h1 := age_len ha
      have h2 : ageH.length = 8 := rfl
      have h3 : ([59, 32] : List UInt8).length = 2 := rfl
      omega
    · simp [tailL, Lib.joinTail]
  have h3 : (tailL (pS sec)).length ≤ 10 := by cases sec <;> decide
  have h4 : (tailL (pH http)).length ≤ 10 := by cases http <;> decide
  have h5 : (tailL (pT st)).length ≤ 20 := by
    unfold pT
    split
    · rw [tail_one, List.length_append, List.length_append]
      have h1 : (siteL st.toNat).length ≤ 6 := by unfold siteL; split <;> simp
      have h2 : siteH.length = 9 := rfl
      have h3 : ([59, 32] : List UInt8).length = 2 := rfl
      omega
    · simp [tailL, Lib.joinTail]
  unfold headL
  rw [tail_app, tail_app, tail_app, tail_app]
  simp only [List.length_append, h0_len]
  omega
set_option maxRecDepth 10000 in
set_option maxHeartbeats 3200000 in
theorem walk (v0 : Value) (w : World) (a0 : Arg Tryd.prog w 25 v0) (ht : Tabs w) :
    Calls Tryd.prog 4 #[v0] w fun e w' => e = .returned (.bool true) ∧ Below w.heap.size w w' := by
  obtain ⟨n, v, p, a, sec, http, st, rfl⟩ := ck_arg a0
  clear a0
  have HT := Lib.hid ht
  clear ht
  go_enter Tryd.func4, Tryd.ntmps4
  go_wp2_with fail
  refine (awake_any _ (HT.out.below (below_new w _))).mono ?_
  rintro e w1 ⟨rfl, hb1⟩
  have hblk := (Blk.new w 25 #[.string n, .string v, .string p, .int .i64 a, .bool sec, .bool http, .int .i64 st]).below hb1 (by simp)
  have HT1 := Lib.hid ((HT.out.below (below_new w _)).below hb1)
  have HB1 := Lib.hid ((below_new w (.cells #[.string n, .string v, .string p, .int .i64 a, .bool sec, .bool http, .int .i64 st] 25)).trans (hb1.mono (by simp)))
  have HK := Lib.hid hblk
  have j0 := hblk.cell 0
  have j1 := hblk.cell 1
  have j2 := hblk.cell 2
  have j3 := hblk.cell 3
  have j4 := hblk.cell 4
  have j5 := hblk.cell 5
  have j6 := hblk.cell 6
  simp at j0 j1 j2 j3 j4 j5 j6
  clear hb1 hblk
  by_cases hn : 1000 < n.size
  · have d1 : decide ((1000 : Int) < (n.size : Int)) = true := decide_eq_true (by omega)
    go_wp2_with fail
    go_ret
    exact ⟨rfl, HB1.out⟩
  have d1 : decide ((1000 : Int) < (n.size : Int)) = false := decide_eq_false (by omega)
  by_cases hv : 1000 < v.size
  · have d2 : decide ((1000 : Int) < (v.size : Int)) = true := decide_eq_true (by omega)
    go_wp2_with fail
    go_ret
    exact ⟨rfl, HB1.out⟩
  have d2 : decide ((1000 : Int) < (v.size : Int)) = false := decide_eq_false (by omega)
  by_cases hp : 1000 < p.size
  · have d3 : decide ((1000 : Int) < (p.size : Int)) = true := decide_eq_true (by omega)
    go_wp2_with fail
    go_ret
    exact ⟨rfl, HB1.out⟩
  have d3 : decide ((1000 : Int) < (p.size : Int)) = false := decide_eq_false (by omega)
  go_wp2_with fail
  refine (write_any n v p a sec http st w1 (by omega) (by omega) (by omega) HT1.out).mono ?_
  rintro e w2 h2
  rcases h2 with ⟨hR, rfl, hb2⟩ | ⟨hR, x, rfl, hE, hnn, hb2⟩
  · have HR := Lib.hid hR
    clear j0 j1 j2 j3 j4 j5 j6
    have hk1 := HK.out.below hb2 HK.out.lt
    have HK := Lib.hid hk1
    have HT1 := Lib.hid (HT1.out.below hb2)
    have HB1 := Lib.hid (HB1.out.trans (hb2.mono HB1.out.size))
    have hlt := hk1.lt
    have j0 := hk1.cell 0
    have j1 := hk1.cell 1
    have j2 := hk1.cell 2
    have j3 := hk1.cell 3
    have j4 := hk1.cell 4
    have j5 := hk1.cell 5
    have j6 := hk1.cell 6
    simp at j0 j1 j2 j3 j4 j5 j6
    clear hk1 hb2
    have hbnd : a ≤ 1099511627776 ∧ 0 ≤ st ∧ st ≤ 3 := by have h := hR; unfold rightB at h; simp at h; omega
    have hhl := head_len (sec := sec) (http := http) (n := n) (v := v) (p := p) (st := st) hbnd.1
    have HBK := Lib.hid (back (http := http) hR)
    have hst : ((st.toNat : Nat) : Int) = st := by omega
    clear hR
    go_wp2_with fail
    refine (right_ref n v p a sec http st w2 (by omega) (by omega) (by omega)).mono ?_
    rintro e w3 ⟨rfl, hb3⟩
    rw [HR.out]
    clear j0 j1 j2 j3 j4 j5 j6
    have hk1 := HK.out.below hb3 HK.out.lt
    have HK := Lib.hid hk1
    have HT1 := Lib.hid (HT1.out.below hb3)
    have HB1 := Lib.hid (HB1.out.trans (hb3.mono HB1.out.size))
    have hlt := hk1.lt
    have j0 := hk1.cell 0
    have j1 := hk1.cell 1
    have j2 := hk1.cell 2
    have j3 := hk1.cell 3
    have j4 := hk1.cell 4
    have j5 := hk1.cell 5
    have j6 := hk1.cell 6
    simp at j0 j1 j2 j3 j4 j5 j6
    clear hk1 hb3
    go_wp2_with fail
    refine (parse_any (mkB (headL n v p a sec http st)) w3 (by rw [mkB_size]; omega) HT1.out.m).mono ?_
    rintro e w4 h4
    rw [HBK.out] at h4
    obtain ⟨rfl, hb4⟩ := h4
    unfold Ck.val Ck.cells
    dsimp only
    rw [hst]
    clear j0 j1 j2 j3 j4 j5 j6 hlt
    have hk1 := HK.out.below hb4 HK.out.lt
    have HK := Lib.hid hk1
    have HT1 := Lib.hid (HT1.out.below hb4)
    have HB1 := Lib.hid (HB1.out.trans (hb4.mono HB1.out.size))
    have hlt := hk1.lt
    have j0 := hk1.cell 0
    have j1 := hk1.cell 1
    have j2 := hk1.cell 2
    have j3 := hk1.cell 3
    have j4 := hk1.cell 4
    have j5 := hk1.cell 5
    have j6 := hk1.cell 6
    simp at j0 j1 j2 j3 j4 j5 j6
    clear hk1 hb4
    obtain ⟨hba, hs0, hs3⟩ := hbnd
    go_wp2_with fail
    refine (write_ref n v p a sec http st _ (by omega) (by omega) (by omega) hba hs0 hs3).mono ?_
    rintro e w5 ⟨rfl, hb5⟩
    have hblk5 := (Blk.new w4 25 #[.string n, .string v, .string p, .int .i64 a, .bool sec, .bool http, .int .i64 st]).below hb5 (by simp)
    have i0 := hblk5.cell 0
    have i1 := hblk5.cell 1
    have i2 := hblk5.cell 2
    have i3 := hblk5.cell 3
    have i4 := hblk5.cell 4
    have i5 := hblk5.cell 5
    have i6 := hblk5.cell 6
    simp at i0 i1 i2 i3 i4 i5 i6
    have hb45 := ((Below.refl w4.heap.size w4).alloc (Nat.le_refl _) (.cells #[.string n, .string v, .string p, .int .i64 a, .bool sec, .bool http, .int .i64 st] 25)).trans (hb5.mono (by simp))
    clear j0 j1 j2 j3 j4 j5 j6 hlt hb5 hblk5
    have hk1 := HK.out.below hb45 HK.out.lt
    have HK := Lib.hid hk1
    have HT1 := Lib.hid (HT1.out.below hb45)
    have HB1 := Lib.hid (HB1.out.trans (hb45.mono HB1.out.size))
    have hlt := hk1.lt
    have j0 := hk1.cell 0
    have j1 := hk1.cell 1
    have j2 := hk1.cell 2
    have j3 := hk1.cell 3
    have j4 := hk1.cell 4
    have j5 := hk1.cell 5
    have j6 := hk1.cell 6
    simp at j0 j1 j2 j3 j4 j5 j6
    clear hk1 hb45
    have heq := eq_ck n v p a sec http st
    generalize mkB (headL n v p a sec http st) = HD at *
    go_wp2_with fail
    go_ret
    exact ⟨rfl, HB1.out⟩
  · have HR := Lib.hid hR
    have HE := Lib.hid hE
    clear j0 j1 j2 j3 j4 j5 j6 hE hR
    have hk1 := HK.out.below hb2 HK.out.lt
    have HK := Lib.hid hk1
    have HT1 := Lib.hid (HT1.out.below hb2)
    have HB1 := Lib.hid (HB1.out.trans (hb2.mono HB1.out.size))
    have hlt := hk1.lt
    have j0 := hk1.cell 0
    have j1 := hk1.cell 1
    have j2 := hk1.cell 2
    have j3 := hk1.cell 3
    have j4 := hk1.cell 4
    have j5 := hk1.cell 5
    have j6 := hk1.cell 6
    simp at j0 j1 j2 j3 j4 j5 j6
    clear hk1 hb2
    go_wp2_with fail
    refine (right_ref n v p a sec http st w2 (by omega) (by omega) (by omega)).mono ?_
    rintro e w3 ⟨rfl, hb3⟩
    rw [HR.out]
    have HE3 := Lib.hid (HE.out.below hb3)
    clear j0 j1 j2 j3 j4 j5 j6
    have hk1 := HK.out.below hb3 HK.out.lt
    have HK := Lib.hid hk1
    have HT1 := Lib.hid (HT1.out.below hb3)
    have HB1 := Lib.hid (HB1.out.trans (hb3.mono HB1.out.size))
    have hlt := hk1.lt
    have j0 := hk1.cell 0
    have j1 := hk1.cell 1
    have j2 := hk1.cell 2
    have j3 := hk1.cell 3
    have j4 := hk1.cell 4
    have j5 := hk1.cell 5
    have j6 := hk1.cell 6
    simp at j0 j1 j2 j3 j4 j5 j6
    clear hk1 hb3
    go_wp2_with fail
    refine (is_err x 1 1 w3 HE3.out).mono ?_
    rintro e w4 ⟨rfl, rfl⟩
    go_wp2_with fail
    go_ret
    exact ⟨rfl, HB1.out⟩
end Go.Proofs.YticlnjfndjnfhaaDoor.wBakeWrites
