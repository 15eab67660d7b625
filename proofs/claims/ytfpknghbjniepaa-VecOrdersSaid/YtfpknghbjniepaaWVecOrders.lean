/- The walk of the law VecOrders. -/
import Derived.Test.YtfpknghbjniepaaPlain
namespace Go.Proofs.Ytfpknghbjniepaa.wVecOrders
open Go.RowKit Go.Proofs.Ytfpknghbjniepaa.base Go.Proofs.Ytfpknghbjniepaa.vec Go.Proofs.Ytfpknghbjniepaa.ref Go.Proofs.Ytfpknghbjniepaa.made Go.Proofs.Ytfpknghbjniepaa.all_ Go.Proofs.Ytfpknghbjniepaa.lit Go.Proofs.Ytfpknghbjniepaa.plain

set_option maxHeartbeats 3200000 in
theorem walk (v0 v1 v2 : Value) (w : World) (a0 : Arg Try.prog w 22 v0) (a1 : Arg Try.prog w 22 v1) (a2 : Arg Try.prog w 22 v2) :
    Calls Try.prog 3 #[v0, v1, v2] w fun e w' => e = .returned (.bool true) ∧ Below w.heap.size w w' := by
  obtain ⟨A0, l0, c0, x, rfl, h0⟩ := vec_arg a0
  obtain ⟨A1, l1, c1, y, rfl, h1⟩ := vec_arg a1
  obtain ⟨A2, l2, c2, z, rfl, h2⟩ := vec_arg a2
  clear a0 a1 a2
  have H0 := Lib.hid h0; clear h0
  have H1 := Lib.hid h1; clear h1
  have H2 := Lib.hid h2; clear h2
  go_enter Try.func3, Try.ntmps3
  go_wp2_with fail
  refine (awake_any _).mono ?_
  rintro e w1 ⟨rfl, hb1⟩
  have hs1 := hb1.size
  have h3 := vecs0_lit w1 (g := w1.heap.size) 22 [⟨A0, l0, c0, x⟩, ⟨A1, l1, c1, y⟩, ⟨A2, l2, c2, z⟩] rfl (by simp) (by
    intro v hv
    simp only [List.mem_cons, List.not_mem_nil, or_false] at hv
    rcases hv with rfl | rfl | rfl
    · exact (H0.out.below hb1).more hs1
    · exact (H1.out.below hb1).more hs1
    · exact (H2.out.below hb1).more hs1)
  have Hb1 := Lib.hid hb1; clear hb1
  have H3 := Lib.hid h3; clear h3
  generalize hG : greatB [⟨A0, l0, c0, x⟩, ⟨A1, l1, c1, y⟩, ⟨A2, l2, c2, z⟩] = G
  have HG := Lib.hid hG; clear hG
  have hg3 := great_any _ _ _ _ _ _ H3.out
  rw [HG.out] at hg3
  have Hg3 := Lib.hid hg3; clear hg3
  cases G
  · obtain ⟨_, hle⟩ := greatB_false HG.out
    have hl0 : l0 ≤ 100 := hle ⟨A0, l0, c0, x⟩ (by simp)
    have hl1 : l1 ≤ 100 := hle ⟨A1, l1, c1, y⟩ (by simp)
    have hl2 : l2 ≤ 100 := hle ⟨A2, l2, c2, z⟩ (by simp)
    clear hle HG
    have hbb := Hb1.out.alloc hs1 (.cells ([⟨A0, l0, c0, x⟩, ⟨A1, l1, c1, y⟩, ⟨A2, l2, c2, z⟩].map V.val).toArray 22)
    go_wp2_with fail
    refine Hg3.out.mono ?_
    rintro e w2 ⟨rfl, rfl⟩
    have k0 := (H0.out.below hbb).more hbb.size
    have k1 := (H1.out.below hbb).more hbb.size
    have k2 := (H2.out.below hbb).more hbb.size
    clear Hg3 H3
    generalize hW : w1.alloc (.cells ([⟨A0, l0, c0, x⟩, ⟨A1, l1, c1, y⟩, ⟨A2, l2, c2, z⟩].map V.val).toArray 22) = W at *
    clear hW
    have K0 := Lib.hid k0; clear k0
    have K1 := Lib.hid k1; clear k1
    have K2 := Lib.hid k2; clear k2
    have Hbb := Lib.hid hbb; clear hbb
    have r1 := rel_any _ _ _ _ _ _ _ _ _ _ K0.out K1.out (by omega) (by omega)
    have r2 := rel_ref _ _ _ _ _ _ _ _ _ _ K0.out K1.out (by omega) (by omega)
    have r3 := rel_any _ _ _ _ _ _ _ _ _ _ K1.out K0.out (by omega) (by omega)
    have q1 := covers_any _ _ _ _ _ _ _ _ _ _ K0.out K1.out (by omega) (by omega)
    have q2 := covers_ref _ _ _ _ _ _ _ _ _ _ K0.out K1.out (by omega) (by omega)
    have q3 := covers_any _ _ _ _ _ _ _ _ _ _ K0.out K0.out (by omega) (by omega)
    have q4 := covers_any _ _ _ _ _ _ _ _ _ _ K1.out K2.out (by omega) (by omega)
    have q5 := covers_any _ _ _ _ _ _ _ _ _ _ K0.out K2.out (by omega) (by omega)
    have hzero := rel_zero x y
    have htwo := rel_two x y
    have htr := fun h h' => covers_trans (a := x) (b := y) (c := z) h h'
    rw [covers_refl] at q3
    generalize relI x y = R at *
    generalize relI y x = R' at *
    generalize coversB x y = C at *
    generalize coversB y z = D at *
    generalize coversB x z = E at *
    have R1 := Lib.hid r1; clear r1
    have R2 := Lib.hid r2; clear r2
    have R3 := Lib.hid r3; clear r3
    have Q1 := Lib.hid q1; clear q1
    have Q2 := Lib.hid q2; clear q2
    have Q3 := Lib.hid q3; clear q3
    have Q4 := Lib.hid q4; clear q4
    have Q5 := Lib.hid q5; clear q5
    have Hzero := Lib.hid hzero; clear hzero
    have Htwo := Lib.hid htwo; clear htwo
    have Htr := Lib.hid htr; clear htr
    have hne : (R != R) = false := by simp
    have hnc : ∀ b : Bool, (b != b) = false := by simp
    cases C
    · go_wp2_with fail
      refine R1.out.mono ?_
      rintro e w2 ⟨rfl, rfl⟩
      go_wp2_with fail
      refine R2.out.mono ?_
      rintro e w2 ⟨rfl, rfl⟩
      go_wp2_with fail
      refine Q1.out.mono ?_
      rintro e w2 ⟨rfl, rfl⟩
      go_wp2_with fail
      refine Q2.out.mono ?_
      rintro e w2 ⟨rfl, rfl⟩
      go_wp2_with fail
      refine Q3.out.mono ?_
      rintro e w2 ⟨rfl, rfl⟩
      go_wp2_with fail
      refine Q1.out.mono ?_
      rintro e w2 ⟨rfl, rfl⟩
      go_wp2_with fail
      refine R1.out.mono ?_
      rintro e w2 ⟨rfl, rfl⟩
      go_wp2_with fail
      refine (trim_ref _ _ _ _ _ K0.out (by omega)).mono ?_
      rintro e w3 ⟨u, rfl, hown3, hb3⟩
      have k1 := (K1.out.below hb3).more hb3.size
      have K1' := Lib.hid k1; clear k1
      go_wp2_with fail
      refine (trim_ref _ _ _ _ _ K1'.out (by omega)).mono ?_
      rintro e w4 ⟨u', rfl, hown4, hb4⟩
      obtain ⟨uA, uc, rfl, hu⟩ := Vec.of_own hown3
      obtain ⟨uA', uc', rfl, hu'⟩ := Vec.of_own hown4
      have hu2 := Lib.hid ((hu.below hb4).more hb4.size)
      have hu2' := Lib.hid hu'
      have hb5 := Hbb.out.trans (hb3.mono Hbb.out.size)
      have hb6 := Lib.hid (hb5.trans (hb4.mono hb5.size))
      clear hu hu' hown3 hown4 hb5 hb3 hb4
      go_wp2_with fail
      refine (same_any _ _ _ _ _ _ _ _ _ _ hu2.out hu2'.out).mono ?_
      rintro e w5 ⟨rfl, nq, rfl⟩
      rw [← Hzero.out]
      have hz2 : ((R == 0) == (R == 0)) = true := by simp
      have f0 := Lib.hid ((H0.out.below hb6.out).more hb6.out.size)
      have f1 := Lib.hid ((H1.out.below hb6.out).more hb6.out.size)
      go_wp2_with fail
      refine (rel_any _ _ _ _ _ _ _ _ (w4.drewN nq) _ f0.out f1.out (by omega) (by omega)).mono ?_
      rintro e w6 ⟨rfl, rfl⟩
      go_wp2_with fail
      refine (rel_any _ _ _ _ _ _ _ _ (w4.drewN nq) _ f1.out f0.out (by omega) (by omega)).mono ?_
      rintro e w6 ⟨rfl, rfl⟩
      have hz3 : ((relI x y == 2) == (relI y x == 2)) = true := by rw [rel_two x y]; simp
      generalize relI x y = r1 at *
      generalize relI y x = r2 at *
      go_wp2
      go_ret
      exact ⟨rfl, below_drewN hb6.out _⟩
    · cases D
      · go_wp2_with fail
        refine R1.out.mono ?_
        rintro e w2 ⟨rfl, rfl⟩
        go_wp2_with fail
        refine R2.out.mono ?_
        rintro e w2 ⟨rfl, rfl⟩
        go_wp2_with fail
        refine Q1.out.mono ?_
        rintro e w2 ⟨rfl, rfl⟩
        go_wp2_with fail
        refine Q2.out.mono ?_
        rintro e w2 ⟨rfl, rfl⟩
        go_wp2_with fail
        refine Q3.out.mono ?_
        rintro e w2 ⟨rfl, rfl⟩
        go_wp2_with fail
        refine Q1.out.mono ?_
        rintro e w2 ⟨rfl, rfl⟩
        go_wp2_with fail
        refine Q4.out.mono ?_
        rintro e w2 ⟨rfl, rfl⟩
        go_wp2_with fail
        refine R1.out.mono ?_
        rintro e w2 ⟨rfl, rfl⟩
        go_wp2_with fail
        refine (trim_ref _ _ _ _ _ K0.out (by omega)).mono ?_
        rintro e w3 ⟨u, rfl, hown3, hb3⟩
        have k1 := (K1.out.below hb3).more hb3.size
        have K1' := Lib.hid k1; clear k1
        go_wp2_with fail
        refine (trim_ref _ _ _ _ _ K1'.out (by omega)).mono ?_
        rintro e w4 ⟨u', rfl, hown4, hb4⟩
        obtain ⟨uA, uc, rfl, hu⟩ := Vec.of_own hown3
        obtain ⟨uA', uc', rfl, hu'⟩ := Vec.of_own hown4
        have hu2 := Lib.hid ((hu.below hb4).more hb4.size)
        have hu2' := Lib.hid hu'
        have hb5 := Hbb.out.trans (hb3.mono Hbb.out.size)
        have hb6 := Lib.hid (hb5.trans (hb4.mono hb5.size))
        clear hu hu' hown3 hown4 hb5 hb3 hb4
        go_wp2_with fail
        refine (same_any _ _ _ _ _ _ _ _ _ _ hu2.out hu2'.out).mono ?_
        rintro e w5 ⟨rfl, nq, rfl⟩
        rw [← Hzero.out]
        have hz2 : ((R == 0) == (R == 0)) = true := by simp
        have f0 := Lib.hid ((H0.out.below hb6.out).more hb6.out.size)
        have f1 := Lib.hid ((H1.out.below hb6.out).more hb6.out.size)
        go_wp2_with fail
        refine (rel_any _ _ _ _ _ _ _ _ (w4.drewN nq) _ f0.out f1.out (by omega) (by omega)).mono ?_
        rintro e w6 ⟨rfl, rfl⟩
        go_wp2_with fail
        refine (rel_any _ _ _ _ _ _ _ _ (w4.drewN nq) _ f1.out f0.out (by omega) (by omega)).mono ?_
        rintro e w6 ⟨rfl, rfl⟩
        have hz3 : ((relI x y == 2) == (relI y x == 2)) = true := by rw [rel_two x y]; simp
        generalize relI x y = r1 at *
        generalize relI y x = r2 at *
        go_wp2
        go_ret
        exact ⟨rfl, below_drewN hb6.out _⟩
      · have hE := Htr.out rfl rfl
        subst hE
        go_wp2_with fail
        refine R1.out.mono ?_
        rintro e w2 ⟨rfl, rfl⟩
        go_wp2_with fail
        refine R2.out.mono ?_
        rintro e w2 ⟨rfl, rfl⟩
        go_wp2_with fail
        refine Q1.out.mono ?_
        rintro e w2 ⟨rfl, rfl⟩
        go_wp2_with fail
        refine Q2.out.mono ?_
        rintro e w2 ⟨rfl, rfl⟩
        go_wp2_with fail
        refine Q3.out.mono ?_
        rintro e w2 ⟨rfl, rfl⟩
        go_wp2_with fail
        refine Q1.out.mono ?_
        rintro e w2 ⟨rfl, rfl⟩
        go_wp2_with fail
        refine Q4.out.mono ?_
        rintro e w2 ⟨rfl, rfl⟩
        go_wp2_with fail
        refine Q5.out.mono ?_
        rintro e w2 ⟨rfl, rfl⟩
        go_wp2_with fail
        refine R1.out.mono ?_
        rintro e w2 ⟨rfl, rfl⟩
        go_wp2_with fail
        refine (trim_ref _ _ _ _ _ K0.out (by omega)).mono ?_
        rintro e w3 ⟨u, rfl, hown3, hb3⟩
        have k1 := (K1.out.below hb3).more hb3.size
        have K1' := Lib.hid k1; clear k1
        go_wp2_with fail
        refine (trim_ref _ _ _ _ _ K1'.out (by omega)).mono ?_
        rintro e w4 ⟨u', rfl, hown4, hb4⟩
        obtain ⟨uA, uc, rfl, hu⟩ := Vec.of_own hown3
        obtain ⟨uA', uc', rfl, hu'⟩ := Vec.of_own hown4
        have hu2 := Lib.hid ((hu.below hb4).more hb4.size)
        have hu2' := Lib.hid hu'
        have hb5 := Hbb.out.trans (hb3.mono Hbb.out.size)
        have hb6 := Lib.hid (hb5.trans (hb4.mono hb5.size))
        clear hu hu' hown3 hown4 hb5 hb3 hb4
        go_wp2_with fail
        refine (same_any _ _ _ _ _ _ _ _ _ _ hu2.out hu2'.out).mono ?_
        rintro e w5 ⟨rfl, nq, rfl⟩
        rw [← Hzero.out]
        have hz2 : ((R == 0) == (R == 0)) = true := by simp
        have f0 := Lib.hid ((H0.out.below hb6.out).more hb6.out.size)
        have f1 := Lib.hid ((H1.out.below hb6.out).more hb6.out.size)
        go_wp2_with fail
        refine (rel_any _ _ _ _ _ _ _ _ (w4.drewN nq) _ f0.out f1.out (by omega) (by omega)).mono ?_
        rintro e w6 ⟨rfl, rfl⟩
        go_wp2_with fail
        refine (rel_any _ _ _ _ _ _ _ _ (w4.drewN nq) _ f1.out f0.out (by omega) (by omega)).mono ?_
        rintro e w6 ⟨rfl, rfl⟩
        have hz3 : ((relI x y == 2) == (relI y x == 2)) = true := by rw [rel_two x y]; simp
        generalize relI x y = r1 at *
        generalize relI y x = r2 at *
        go_wp2
        go_ret
        exact ⟨rfl, below_drewN hb6.out _⟩
  · go_wp2_with fail
    refine Hg3.out.mono ?_
    rintro e w2 ⟨rfl, rfl⟩
    go_wp2
    go_ret
    exact ⟨rfl, Hb1.out.alloc hs1 _⟩
end Go.Proofs.Ytfpknghbjniepaa.wVecOrders
