/- The walk of the law VecCounts. -/
import Derived.Test.YtfpknghbjniepaaWith
namespace Go.Proofs.Ytfpknghbjniepaa.wVecCounts
open Go.RowKit Go.Proofs.Ytfpknghbjniepaa.base Go.Proofs.Ytfpknghbjniepaa.vec Go.Proofs.Ytfpknghbjniepaa.ref Go.Proofs.Ytfpknghbjniepaa.made Go.Proofs.Ytfpknghbjniepaa.all_ Go.Proofs.Ytfpknghbjniepaa.lit Go.Proofs.Ytfpknghbjniepaa.plain Go.Proofs.Ytfpknghbjniepaa.with_

set_option maxHeartbeats 3200000 in
theorem walk (v0 v1 v2 : Value) (w : World) (a0 : Arg Try.prog w 22 v0) (a1 : Arg Try.prog w 3 v1) (a2 : Arg Try.prog w 3 v2) :
    Calls Try.prog 6 #[v0, v1, v2] w fun e w' => e = .returned (.bool true) ∧ Below w.heap.size w w' := by
  obtain ⟨A0, l0, c0, x, rfl, h0⟩ := vec_arg a0
  obtain ⟨r, rfl, hr⟩ := a1.int Try.underlying3
  obtain ⟨n, rfl, _⟩ := a2.int Try.underlying3
  have hr : -9223372036854775808 ≤ r ∧ r ≤ 9223372036854775807 := by
    simp [Lit.wf, IntKind.min, IntKind.max, IntKind.bits, IntKind.signed] at hr
    omega
  clear a0 a1 a2
  have H0 := Lib.hid h0; clear h0
  go_enter Try.func6, Try.ntmps6
  go_wp2_with fail
  refine (awake_any _).mono ?_
  rintro e w1 ⟨rfl, hb1⟩
  have hs1 := hb1.size
  have h3 := vecs0_lit w1 (g := w1.heap.size) 22 [⟨A0, l0, c0, x⟩] rfl (by simp) (by
    intro v hv
    simp only [List.mem_cons, List.not_mem_nil, or_false] at hv
    subst hv
    exact (H0.out.below hb1).more hs1)
  have Hb1 := Lib.hid hb1; clear hb1
  have H3 := Lib.hid h3; clear h3
  generalize hG : greatB [⟨A0, l0, c0, x⟩] = G
  have HG := Lib.hid hG; clear hG
  have hg3 := great_any _ _ _ _ _ _ H3.out
  rw [HG.out] at hg3
  have Hg3 := Lib.hid hg3; clear hg3
  cases G
  · obtain ⟨_, hle⟩ := greatB_false HG.out
    have hl0 : l0 ≤ 100 := hle ⟨A0, l0, c0, x⟩ (by simp)
    clear hle HG
    have hbb := Hb1.out.alloc hs1 (.cells ([⟨A0, l0, c0, x⟩].map V.val).toArray 22)
    go_wp2_with fail
    refine Hg3.out.mono ?_
    rintro e w2 ⟨rfl, rfl⟩
    have k0 := (H0.out.below hbb).more hbb.size
    clear Hg3 H3
    generalize hW : w1.alloc (.cells ([⟨A0, l0, c0, x⟩].map V.val).toArray 22) = W at *
    clear hW
    have K0 := Lib.hid k0; clear k0
    have Hbb := Lib.hid hbb; clear hbb
    go_wp2_with fail
    refine (with_any _ _ _ _ r n _ K0.out (by omega)).mono ?_
    rintro e w2 ⟨got, rfl, hown2, hb2⟩
    obtain ⟨gA, gc, rfl, hg⟩ := Vec.of_own hown2
    have Hg := Lib.hid hg; clear hg hown2
    have Hb2 := Lib.hid (Hbb.out.trans (hb2.mono Hbb.out.size)); clear hb2
    have H2 := Lib.hid ((H0.out.below Hb2.out).more Hb2.out.size)
    go_wp2_with fail
    refine (at_any _ _ _ _ r _ _ H2.out hr).mono ?_
    rintro e w3 ⟨rfl, rfl⟩
    go_wp2_with fail
    refine (at_ref _ _ _ _ r _ _ H2.out).mono ?_
    rintro e w3 ⟨rfl, rfl⟩
    generalize atV x r = ax
    have hax : (ax == ax) = true := by simp
    go_wp2_with fail
    refine (trim_any _ _ _ _ _ H2.out (by omega)).mono ?_
    rintro e w3 ⟨u3, rfl, hown3, hb3⟩
    obtain ⟨A3, c3, rfl, h3⟩ := Vec.of_own hown3
    have H3 := Lib.hid h3; clear h3 hown3
    have Hb3 := Lib.hid (Hb2.out.trans (hb3.mono Hb2.out.size))
    have Hg3 := Lib.hid ((Hg.out.below hb3).more hb3.size); clear hb3
    have K3 := Lib.hid ((H0.out.below Hb3.out).more Hb3.out.size)
    go_wp2_with fail
    refine (trim_ref _ _ _ _ _ K3.out (by omega)).mono ?_
    rintro e w4 ⟨u4, rfl, hown4, hb4⟩
    obtain ⟨A4, c4, rfl, h4⟩ := Vec.of_own hown4
    have H4 := Lib.hid h4; clear h4 hown4
    have H34 := Lib.hid ((H3.out.below hb4).more hb4.size)
    have Hb4 := Lib.hid (Hb3.out.trans (hb4.mono Hb3.out.size))
    have Hg4 := Lib.hid ((Hg3.out.below hb4).more hb4.size); clear hb4
    have K4 := Lib.hid ((H0.out.below Hb4.out).more Hb4.out.size)
    go_wp2_with fail
    refine (same_any _ _ _ _ _ _ _ _ _ _ H34.out H4.out).mono ?_
    rintro e w5 ⟨rfl, nq, rfl⟩
    rw [decide_eq_true rfl]
    go_wp2_with fail
    refine (with_ref _ _ _ _ r n (w4.drewN nq) K4.out (by omega)).mono ?_
    rintro e w6 ⟨u6, rfl, hown6, hb6⟩
    obtain ⟨A6, c6, rfl, h6⟩ := Vec.of_own hown6
    have H6 := Lib.hid h6; clear h6 hown6
    have Hg6 := Lib.hid (Vec.more (Vec.below (w := w4.drewN nq) Hg4.out hb6) hb6.size)
    have Hb6 := Lib.hid ((below_drewN Hb4.out nq).trans (hb6.mono Hb4.out.size)); clear hb6
    go_wp2_with fail
    refine (same_any _ _ _ _ _ _ _ _ _ _ Hg6.out H6.out).mono ?_
    rintro e w7 ⟨rfl, nq2, rfl⟩
    rw [decide_eq_true rfl]
    by_cases h1 : r < 1
    · have hd1 : decide (r < 1) = true := by simpa using h1
      go_wp2
      go_ret
      exact ⟨rfl, below_drewN Hb6.out _⟩
    · have hd1 : decide (r < 1) = false := by simpa using h1
      by_cases h2 : 16 < r
      · have hd2 : decide (16 < r) = true := by simpa using h2
        go_wp2
        go_ret
        exact ⟨rfl, below_drewN Hb6.out _⟩
      · have hd2 : decide (16 < r) = false := by simpa using h2
        have hat := with_at x r n ⟨by omega, by omega⟩
        have hnn : (n == n) = true := by simp
        go_wp2_with fail
        refine (at_any _ _ _ _ r (w6.drewN nq2) _ Hg6.out hr).mono ?_
        rintro e w8 ⟨rfl, rfl⟩
        rw [hat]
        go_wp2
        go_ret
        exact ⟨rfl, below_drewN Hb6.out _⟩
  · go_wp2_with fail
    refine Hg3.out.mono ?_
    rintro e w2 ⟨rfl, rfl⟩
    go_wp2
    go_ret
    exact ⟨rfl, Hb1.out.alloc hs1 _⟩
end Go.Proofs.Ytfpknghbjniepaa.wVecCounts
