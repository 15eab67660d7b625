/- The walk of the law StoreSame: it returns true; nothing that was there is written. -/
import Derived.Test.YtgfamdakjcjdkaaTwoS
namespace Go.Proofs.Ytgfamdakjcjdkaa.wStoreSame
open Go Go.RowKit Go.Proofs.Ytgfamdakjcjdkaa.base Go.Proofs.Ytgfamdakjcjdkaa.err Go.Proofs.Ytgfamdakjcjdkaa.above Go.Proofs.Ytgfamdakjcjdkaa.law Go.Proofs.Ytgfamdakjcjdkaa.merge Go.Proofs.Ytgfamdakjcjdkaa.rows Go.Proofs.Ytgfamdakjcjdkaa.store

theorem turn_ok (x : Int) (n : Nat) (h : 0 < n) (hn : n ≤ 80) : ∃ k : Nat, k < n ∧ (x.tmod n + n).tmod n = k ∧ IntKind.i64.wrap (x.tmod n + n) = x.tmod n + n := by
  have h1 : -(n : Int) < x.tmod n := by have := Int.lt_tmod_of_pos x (show (0 : Int) < n by omega); omega
  have h2 : x.tmod n < n := Int.tmod_lt_of_pos x (by omega)
  have h3 : (x.tmod n + n).tmod n = (x.tmod n + n) % n := Int.tmod_eq_emod_of_nonneg (by omega)
  have h4 := Int.emod_lt_of_pos (x.tmod n + n) (show (0 : Int) < n by omega)
  have h5 := Int.emod_nonneg (x.tmod n + n) (show (n : Int) ≠ 0 by omega)
  exact ⟨((x.tmod n + n) % n).toNat, by omega, by rw [h3]; omega, IntWalk.i64_in _ (by omega)⟩
set_option maxRecDepth 100000 in
set_option maxHeartbeats 4000000 in
theorem walk (v0 v1 : Value) (w : World) (a0 : Arg Try.prog w 22 v0) (a1 : Arg Try.prog w 3 v1) :
    Calls Try.prog 3 #[v0, v1] w fun e w' => e = .returned (.bool true) ∧ Below w.heap.size w w' := by
  obtain ⟨l, hl⟩ := wts_of a0
  obtain ⟨tn, rfl, htn⟩ := a1.int Try.underlying3
  clear a0 a1
  have htn := Go.bounds_i64 htn
  obtain ⟨A, c, rfl, hm, hr, hn⟩ := hl
  obtain ⟨m, hml⟩ : ∃ m, l.length = m := ⟨_, rfl⟩
  have HL0 := Lib.hid (show WtsR w (.slice A m c) l from ⟨A, c, by rw [hml], hm, hr, hn⟩)
  rw [hml] at hm hr ⊢
  have HL := Lib.hid hml
  have HRD := Lib.hid hr
  have HN := Lib.hid hn
  clear hml hr hn
  unfold maxLen at hm
  by_cases hs : greatW l = true ∨ m = 0
  · go_enter Try.func3, Try.ntmps3
    go_wp2_with fail
    refine (awake_any _).mono ?_
    rintro e w1 ⟨rfl, hb1⟩
    go_wp2_with fail
    refine (great_any _ l w1 (HL0.out.below hb1)).mono ?_
    rintro e w2 ⟨rfl, hb2⟩
    have HB := Lib.hid (below_step hb1 hb2)
    clear hb1 hb2
    cases hg : greatW l with
    | true =>
      clear hs
      go_wp2
      go_ret
      exact ⟨rfl, HB.out⟩
    | false =>
      have h0 : m = 0 := hs.resolve_left (by rw [hg]; simp)
      clear hs
      subst h0
      go_wp2
      go_ret
      exact ⟨rfl, HB.out⟩
  have hg : greatW l = false := by
    cases h : greatW l with
    | true => exact absurd (.inl h) hs
    | false => rfl
  have hn0 : 0 < m := by omega
  have hl80 : m ≤ 80 := by
    unfold greatW at hg
    simp only [Bool.or_eq_false_iff, decide_eq_false_iff_not] at hg
    have := HL.out
    omega
  have h0 : ((m : Int) == 0) = false := by simp; omega
  obtain ⟨k, hk, hkx, hkw⟩ := turn_ok tn m hn0 hl80
  have hlen0 : ¬ m = 0 := by omega
  obtain ⟨bb, off, rfl, hbb⟩ := HRD.out.at_some hn0
  have HG := Lib.hid hg
  clear hg hs
  go_enter Try.func3, Try.ntmps3
  go_wp2_with fail
  refine (awake_any _).mono ?_
  rintro e w1 ⟨rfl, hb1⟩
  go_wp2_with fail
  refine (great_any _ l w1 (HL0.out.below hb1)).mono ?_
  rintro e w2 ⟨rfl, hb2⟩
  rw [HG.out]
  have HB2 := Lib.hid (below_step hb1 hb2)
  clear hb1 hb2
  go_wp2_with fail
  refine (new_any w2).mono ?_
  rintro e w3 ⟨rfl, h3, hb3⟩
  have H3 := Lib.hid h3
  have HB3 := Lib.hid hb3
  clear h3 hb3
  go_wp2_with fail
  refine (new_any w3).mono ?_
  rintro e w4 ⟨rfl, h4, hb4⟩
  have HT := Lib.hid (two_new HB2.out H3.out HB3.out h4 hb4)
  clear h4 hb4 H3 HB3 HB2
  go_wp2_with fail
  clear hkx hkw
  go_loopw [33] (fun i wr => ∃ n : Nat, n ≤ m ∧ i = .int .i64 n ∧ Two w (w2.heap.size + 1) w2.heap.size (w3.heap.size + 1) w3.heap.size (appL [] (l.take n)) (appL [] (l.reverse.take n)) wr) (fun i _ => m - (intOf i).toNat)
  case atStart => exact ⟨0, by omega, rfl, HT.out⟩
  case round =>
    clear HT
    obtain ⟨n, hn, rfl, ht⟩ := hrel
    have HT := Lib.hid ht
    clear ht
    by_cases hlt : n < m
    · clear HL0
      have hc := wt_at' (HRD.out.below HT.out.bel) HL.out hlt
      have hxk := wt_mem HN.out (k := n) (by rw [HL.out]; exact hlt)
      obtain ⟨e0, e1, e2, e3, e4, e5, e6, e7, e8, e9⟩ := ten_of hc
      have hsz := Below.size HT.out.bel
      generalize hX : l.getD n wtZ = x at *
      have HX := Lib.hid hX
      obtain ⟨rg, nm, t, r, dA, dn, dc, se, kk, v, gn, lf⟩ := x
      dsimp only at e0 e1 e2 e3 e4 e5 e6 e7 e8 e9
      have HXK := Lib.hid hxk
      clear hc hxk hX
      go_wp2_with fail
      refine (wt_apply _ _ _ ⟨rg, nm, t, r, dA, dn, dc, se, kk, v, gn, lf⟩ _ HT.out.one HXK.out).mono ?_
      rintro e w5 ⟨rfl, hs1, hk1⟩
      generalize newC _ _ = nb
      have ht5 := HT.out.step1 hs1 hk1
      have q5 : takeL (appL [] (l.take n)) (Wt.name ⟨rg, nm, t, r, dA, dn, dc, se, kk, v, gn, lf⟩) (Wt.cell ⟨rg, nm, t, r, dA, dn, dc, se, kk, v, gn, lf⟩) = appL [] (l.take (n + 1)) := by
        rw [appL_take _ _ _ (by rw [HL.out]; exact hlt), HX.out]
      rw [q5] at ht5
      have HT5 := Lib.hid ht5
      clear q5 hs1 hk1 ht5 e0 e1 e2 e3 e4 e5 e6 e7 e8 e9 HX HXK HT hsz
      obtain ⟨j, hj⟩ : ∃ j : Nat, j = m - 1 - n := ⟨_, rfl⟩
      have hjm : j < m := by omega
      have hjx : (m : Int) - 1 - (n : Int) = (j : Int) := by omega
      have HJ := Lib.hid hj
      clear hj
      have hc := wt_at' (HRD.out.below HT5.out.bel) HL.out hjm
      have hxk := wt_mem HN.out (k := j) (by rw [HL.out]; exact hjm)
      obtain ⟨e0, e1, e2, e3, e4, e5, e6, e7, e8, e9⟩ := ten_of hc
      have hsz := Below.size HT5.out.bel
      generalize hX : l.getD j wtZ = x at *
      have HX := Lib.hid hX
      obtain ⟨rg, nm, t, r, dA, dn, dc, se, kk, v, gn, lf⟩ := x
      dsimp only at e0 e1 e2 e3 e4 e5 e6 e7 e8 e9
      have HXK := Lib.hid hxk
      clear hc hxk hX
      go_wp2_with fail
      refine (wt_apply _ _ _ ⟨rg, nm, t, r, dA, dn, dc, se, kk, v, gn, lf⟩ _ HT5.out.two HXK.out).mono ?_
      rintro e w6 ⟨rfl, hs1, hk1⟩
      generalize newC _ _ = nb
      have ht6 := HT5.out.step2 hs1 hk1
      have q6 : takeL (appL [] (l.reverse.take n)) (Wt.name ⟨rg, nm, t, r, dA, dn, dc, se, kk, v, gn, lf⟩) (Wt.cell ⟨rg, nm, t, r, dA, dn, dc, se, kk, v, gn, lf⟩) = appL [] (l.reverse.take (n + 1)) := by
        rw [appL_take _ _ _ (by simp [HL.out]; exact hlt), rev_get _ _ (by rw [HL.out]; exact hlt), HL.out, ← HJ.out, HX.out]
      rw [q6] at ht6
      have HT6 := Lib.hid ht6
      clear q6 hs1 hk1 ht6 e0 e1 e2 e3 e4 e5 e6 e7 e8 e9 HX HXK HT5 hsz
      clear hjx
      go_wp2
      go_roundw
      case rel => exact ⟨n + 1, by omega, by go_num, HT6.out⟩
      case measure => simp [intOf]; omega
    · obtain rfl : m = n := by omega
      rw [List.take_of_length_le (by rw [HL.out]; omega), List.take_of_length_le (by simp [HL.out])] at HT
      clear HL0
      go_wp2_with fail
      go_loopw [54] (fun i wr => ∃ n : Nat, n ≤ m ∧ i = .int .i64 n ∧ Two w (w2.heap.size + 1) w2.heap.size (w3.heap.size + 1) w3.heap.size (appL [] l) (appL (appL [] l.reverse) ((rot l k).take n)) wr) (fun i _ => m - (intOf i).toNat)
      case atStart => exact ⟨0, by omega, rfl, HT.out⟩
      case round =>
        clear HT
        obtain ⟨n, hn, rfl, ht⟩ := hrel
        have HT := Lib.hid ht
        clear ht
        by_cases hlt : n < m
        · obtain ⟨j, hj⟩ : ∃ j : Nat, j = (n + k) % m := ⟨_, rfl⟩
          have hjm : j < m := by rw [hj]; exact Nat.mod_lt _ hn0
          have hjx : ((n : Int) + (k : Int)).tmod (m : Int) = (j : Int) := by
            rw [hj, Int.tmod_eq_emod_of_nonneg (by omega)]; push_cast; rfl
          have HJ := Lib.hid hj
          clear hj
          have hc := wt_at' (HRD.out.below HT.out.bel) HL.out hjm
          have hxk := wt_mem HN.out (k := j) (by rw [HL.out]; exact hjm)
          obtain ⟨e0, e1, e2, e3, e4, e5, e6, e7, e8, e9⟩ := ten_of hc
          have hsz := Below.size HT.out.bel
          generalize hX : l.getD j wtZ = x at *
          have HX := Lib.hid hX
          obtain ⟨rg, nm, t, r, dA, dn, dc, se, kk, v, gn, lf⟩ := x
          dsimp only at e0 e1 e2 e3 e4 e5 e6 e7 e8 e9
          have HXK := Lib.hid hxk
          clear hc hxk hX
          go_wp2_with fail
          refine (wt_apply _ _ _ ⟨rg, nm, t, r, dA, dn, dc, se, kk, v, gn, lf⟩ _ HT.out.two HXK.out).mono ?_
          rintro e w5 ⟨rfl, hs1, hk1⟩
          generalize newC _ _ = nb
          have ht6 := HT.out.step2 hs1 hk1
          have q6 : takeL (appL (appL [] l.reverse) ((rot l k).take n)) (Wt.name ⟨rg, nm, t, r, dA, dn, dc, se, kk, v, gn, lf⟩) (Wt.cell ⟨rg, nm, t, r, dA, dn, dc, se, kk, v, gn, lf⟩) = appL (appL [] l.reverse) ((rot l k).take (n + 1)) := by
            rw [appL_take _ _ _ (by rw [rot_len _ _ (by rw [HL.out]; omega), HL.out]; exact hlt), rot_get _ _ _ (by rw [HL.out]; exact hk) (by rw [HL.out]; exact hlt), HL.out, ← HJ.out, HX.out]
          rw [q6] at ht6
          have HT6 := Lib.hid ht6
          clear q6 hs1 hk1 ht6 e0 e1 e2 e3 e4 e5 e6 e7 e8 e9 HX HXK HT hsz
          clear hjx
          go_wp2
          go_roundw
          case rel => exact ⟨n + 1, by omega, by go_num, HT6.out⟩
          case measure => simp [intOf]; omega
        · obtain rfl : m = n := by omega
          rw [List.take_of_length_le (by rw [rot_len _ _ (by rw [HL.out]; omega), HL.out]; omega), ← same_all] at HT
          have hla : (appL [] l).length ≤ 80 := by have := appL_len [] l; have := HL.out; simp at *; omega
          go_wp2_with fail
          refine (rows_any _ _ _ _ HT.out.one (by omega)).mono ?_
          rintro e w5 ⟨va, rfl, hva, hb5⟩
          obtain ⟨A1, c1, rfl, hra⟩ := own_reads hva
          go_wp2_with fail
          refine (plain_any A1 (appL [] l).length c1 (appL [] l) w5 rfl (by omega) hra).mono ?_
          rintro e w6 ⟨vb, rfl, hvb, hb6⟩
          obtain ⟨A2, c2, rfl, hrb⟩ := own_reads hvb
          have HT6 := Lib.hid ((HT.out.below hb5).below hb6)
          have HRB := Lib.hid hrb
          clear hva hvb hra hrb hb5 hb6 HT
          go_wp2_with fail
          refine (rows_any _ _ _ _ HT6.out.two (by omega)).mono ?_
          rintro e w7 ⟨va, rfl, hva, hb7⟩
          obtain ⟨A3, c3, rfl, hra⟩ := own_reads hva
          go_wp2_with fail
          refine (plain_any A3 (appL [] l).length c3 (appL [] l) w7 rfl (by omega) hra).mono ?_
          rintro e w8 ⟨vb, rfl, hvb, hb8⟩
          obtain ⟨A4, c4, rfl, hrd⟩ := own_reads hvb
          have hb78 := below_step hb7 hb8
          have HT8 := Lib.hid (HT6.out.below hb78)
          have HRB8 := Lib.hid ((HRB.out.below hb78).more hb78.size)
          have HRD8 := Lib.hid hrd
          clear hva hvb hra hrd hb7 hb8 hb78 HT6 HRB
          go_wp2_with fail
          refine (same_any A2 A4 _ c2 _ c4 (appL [] l) (appL [] l) w8 rfl rfl (by omega) (by omega) HRB8.out HRD8.out).mono ?_
          rintro e w9 ⟨rfl, hb9⟩
          have HB := Lib.hid (HT8.out.below hb9).bel
          clear hb9
          go_wp2
          go_ret
          exact ⟨ret_bool (by simp), HB.out⟩
end Go.Proofs.Ytgfamdakjcjdkaa.wStoreSame
