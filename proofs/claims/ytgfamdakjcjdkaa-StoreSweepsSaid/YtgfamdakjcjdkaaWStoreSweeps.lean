/- The walk of the law StoreSweeps: it returns true; nothing that was there is written. -/
import Derived.Test.YtgfamdakjcjdkaaSweptS
namespace Go.Proofs.Ytgfamdakjcjdkaa.wStoreSweeps
open Go Go.RowKit Go.Proofs.Ytgfamdakjcjdkaa.base Go.Proofs.Ytgfamdakjcjdkaa.err Go.Proofs.Ytgfamdakjcjdkaa.above Go.Proofs.Ytgfamdakjcjdkaa.law Go.Proofs.Ytgfamdakjcjdkaa.merge Go.Proofs.Ytgfamdakjcjdkaa.rows Go.Proofs.Ytgfamdakjcjdkaa.rowe Go.Proofs.Ytgfamdakjcjdkaa.monoj Go.Proofs.Ytgfamdakjcjdkaa.store

set_option maxRecDepth 100000 in
set_option maxHeartbeats 4000000 in
theorem walk (v0 v1 v2 : Value) (w : World) (a0 : Arg Try.prog w 22 v0) (a1 : Arg Try.prog w 22 v1) (a2 : Arg Try.prog w 3 v2) :
    Calls Try.prog 5 #[v0, v1, v2] w fun e w' => e = .returned (.bool true) ∧ Below w.heap.size w w' := by
  obtain ⟨A, m, c, l, rfl, hl, hm, hw⟩ := lst_of a0
  obtain ⟨A2, m2, c2, l2, rfl, hl2, hm2, hw2⟩ := lst_of a1
  obtain ⟨fl, rfl, _⟩ := a2.int Try.underlying3
  clear a0 a1 a2
  have HL := Lib.hid hl
  have HL2 := Lib.hid hl2
  have HW := Lib.hid hw
  have HW2 := Lib.hid hw2
  clear hl hl2 hw hw2
  unfold maxLen at hm hm2
  cases hg : greatW l with
  | true =>
    have HG := Lib.hid hg
    clear hg
    go_enter Try.func5, Try.ntmps5
    go_wp2_with fail
    refine (awake_any _).mono ?_
    rintro e w1 ⟨rfl, hb1⟩
    go_wp2_with fail
    refine (great_any _ l w1 (HW.out.below hb1)).mono ?_
    rintro e w2 ⟨rfl, hb2⟩
    rw [HG.out]
    have HB := Lib.hid (below_step hb1 hb2)
    clear hb1 hb2
    go_wp2
    go_ret
    exact ⟨rfl, HB.out⟩
  | false =>
  cases hg2 : greatW l2 with
  | true =>
    have HG := Lib.hid hg
    have HG2 := Lib.hid hg2
    clear hg hg2
    go_enter Try.func5, Try.ntmps5
    go_wp2_with fail
    refine (awake_any _).mono ?_
    rintro e w1 ⟨rfl, hb1⟩
    go_wp2_with fail
    refine (great_any _ l w1 (HW.out.below hb1)).mono ?_
    rintro e w2 ⟨rfl, hb2⟩
    rw [HG.out]
    have HB := Lib.hid (below_step hb1 hb2)
    clear hb1 hb2
    go_wp2_with fail
    refine (great_any _ l2 w2 (HW2.out.below HB.out)).mono ?_
    rintro e w3 ⟨rfl, hb3⟩
    rw [HG2.out]
    have HB3 := Lib.hid (below_step HB.out hb3)
    clear hb3
    go_wp2
    go_ret
    exact ⟨rfl, HB3.out⟩
  | false =>
  have h80 : m ≤ 80 := by have := great_few hg; have := HL.out.len; omega
  have h802 : m2 ≤ 80 := by have := great_few hg2; have := HL2.out.len; omega
  have HG := Lib.hid hg
  have HG2 := Lib.hid hg2
  clear hg hg2
  go_enter Try.func5, Try.ntmps5
  go_wp2_with fail
  refine (awake_any _).mono ?_
  rintro e w1 ⟨rfl, hb1⟩
  go_wp2_with fail
  refine (great_any _ l w1 (HW.out.below hb1)).mono ?_
  rintro e w2 ⟨rfl, hb2⟩
  rw [HG.out]
  have HB := Lib.hid (below_step hb1 hb2)
  clear hb1 hb2
  go_wp2_with fail
  refine (great_any _ l2 w2 (HW2.out.below HB.out)).mono ?_
  rintro e w3 ⟨rfl, hb3⟩
  rw [HG2.out]
  have HB2 := Lib.hid (below_step HB.out hb3)
  clear hb3 HB HW HW2 HG HG2
  go_wp2_with fail
  refine (new_any w3).mono ?_
  rintro e w4 ⟨rfl, h4, hb4⟩
  have H4 := Lib.hid h4
  have HB4 := Lib.hid hb4
  clear h4 hb4
  go_wp2_with fail
  refine (new_any w4).mono ?_
  rintro e w5 ⟨rfl, h5, hb5⟩
  have HT := Lib.hid (two_new HB2.out H4.out HB4.out h5 hb5)
  clear h5 hb5 H4 HB4 HB2
  generalize w3.heap.size = ba at *
  generalize w4.heap.size = bz at *
  go_wp2_with fail
  go_loopw [26] (fun i wr => ∃ n : Nat, n ≤ m ∧ i = .int .i64 n ∧ Two w (ba + 1) ba (bz + 1) bz (appL [] (l.take n)) (appL [] (l.take n)) wr) (fun i _ => m - (intOf i).toNat)
  case atStart => exact ⟨0, by omega, rfl, HT.out⟩
  case round =>
    clear HT
    obtain ⟨n, hn, rfl, ht⟩ := hrel
    have HT := Lib.hid ht
    clear ht
    by_cases hlt : n < m
    · skip
      obtain ⟨bb, off, rfl, hbb, hc, hxk⟩ := HL.out.cells HT.out.bel hlt
      obtain ⟨e0, e1, e2, e3, e4, e5, e6, e7, e8, e9⟩ := ten_of hc
      generalize hX : l.getD n wtZ = x at *
      have HX := Lib.hid hX
      obtain ⟨rg, nm, t, r, dA, dn, dc, se, kk, v, gn, lf⟩ := x
      dsimp only at e0 e1 e2 e3 e4 e5 e6 e7 e8 e9
      have HXK := Lib.hid hxk
      clear hc hxk hX
      have hbx := below_new wr (.cells #[.int .i64 rg, .int .i64 nm, .int .i64 t, .int .i64 r, .slice dA dn dc, .string se, .string kk, .string v, .bool gn, .int .i64 lf] 33)
      have hl1 := HT.out.one.ltm
      have hl2 := HT.out.two.ltm
      have HB0 := Lib.hid (Blk.new wr 33 #[.int .i64 rg, .int .i64 nm, .int .i64 t, .int .i64 r, .slice dA dn dc, .string se, .string kk, .string v, .bool gn, .int .i64 lf])
      have HT0 := Lib.hid (HT.out.below hbx)
      have q5 : takeL (appL [] (l.take n)) (Wt.name ⟨rg, nm, t, r, dA, dn, dc, se, kk, v, gn, lf⟩) (Wt.cell ⟨rg, nm, t, r, dA, dn, dc, se, kk, v, gn, lf⟩) = appL [] (l.take (n + 1)) := by
        rw [appL_take _ _ _ (by rw [HL.out.len]; exact hlt), HX.out]
      have Q5 := Lib.hid q5
      clear hbx q5
      go_wp2_with fail
      refine (wt_apply _ _ _ ⟨rg, nm, t, r, dA, dn, dc, se, kk, v, gn, lf⟩ _ HT0.out.one HXK.out).mono ?_
      rintro e w6 ⟨rfl, hs1, hk1⟩
      generalize newC _ _ = nb
      rw [Q5.out] at hs1
      have HT1 := Lib.hid (HT0.out.step1 hs1 hk1)
      have hb1 := HB0.out.keeps hk1 (by omega)
      obtain ⟨k0, k1, k2, k3, k4, k5, k6, k7, k8, k9⟩ := cells10 hb1
      have kl := hb1.lt
      clear hs1 hk1 hb1 HB0 HT0 HT e0 e1 e2 e3 e4 e5 e6 e7 e8 e9
      go_wp2_with fail
      refine (wt_apply _ _ _ ⟨rg, nm, t, r, dA, dn, dc, se, kk, v, gn, lf⟩ _ HT1.out.two HXK.out).mono ?_
      rintro e w7 ⟨rfl, hs2, hk2⟩
      generalize newC _ _ = nb2
      rw [Q5.out] at hs2
      have HT2 := Lib.hid (HT1.out.step2 hs2 hk2)
      clear hs2 hk2 k0 k1 k2 k3 k4 k5 k6 k7 k8 k9 kl HT1 HX HXK hbb hl1 hl2
      go_wp2
      go_roundw
      case rel => exact ⟨n + 1, by omega, by go_num, HT2.out⟩
      case measure => simp [intOf]; omega
    · obtain rfl : m = n := by omega
      rw [List.take_of_length_le (by rw [HL.out.len]; omega)] at HT
      have hla : (appL [] l).length ≤ 80 := by have := appL_len [] l; have := HL.out.len; simp at *; omega
      have hup := appL_up rising_nil l
      generalize appL [] l = La at *
      have HUP := Lib.hid hup
      clear hup
      go_wp2_with fail
      refine (rows_any _ _ _ _ HT.out.two (by omega)).mono ?_
      rintro e w6 ⟨va, rfl, hva, hb6⟩
      obtain ⟨A1, c1, rfl, hra⟩ := own_reads hva
      have HT6 := Lib.hid (HT.out.below hb6)
      clear hva hra hb6 HT
      go_wp2_with fail
      refine (sweep_any _ _ fl _ _ HT6.out.two (by omega)).mono ?_
      rintro e w7 ⟨rfl, hs7, hk7⟩
      have HT7 := Lib.hid (HT6.out.step2 hs7 hk7)
      have hkl := keepL_len fl La
      clear hs7 hk7 HT6
      go_wp2_with fail
      refine (rows_any _ _ _ _ HT7.out.two (by omega)).mono ?_
      rintro e w8 ⟨va, rfl, hva, hb8⟩
      obtain ⟨A3, c3, rfl, hra⟩ := own_reads hva
      have HT := Lib.hid (HT7.out.below hb8)
      clear hva hra hb8 HT7
      have hsw := Swept.start (fl := fl) HUP.out
      have HSW := Lib.hid hsw
      have HEQ := Lib.hid (hsw.shows HUP.out (keepL_up HUP.out))
      clear hsw
      go_wp2_with fail
      refine (shows_any _ _ _ _ HT.out.one (by omega)).mono ?_
      rintro e w71 ⟨va, rfl, hva, hb5⟩
      obtain ⟨A1, c1, rfl, hra⟩ := own_reads hva
      go_wp2_with fail
      refine (plain_any A1 _ c1 _ w71 rfl (by have := showL_len La; omega) hra).mono ?_
      rintro e w72 ⟨vb, rfl, hvb, hb6⟩
      obtain ⟨A2, c2, rfl, hrb⟩ := own_reads hvb
      have HT6 := Lib.hid ((HT.out.below hb5).below hb6)
      have HRB := Lib.hid hrb
      clear hva hvb hra hrb hb5 hb6 HT
      go_wp2_with fail
      refine (shows_any _ _ _ _ HT6.out.two (by omega)).mono ?_
      rintro e w73 ⟨va, rfl, hva, hb7⟩
      obtain ⟨A3, c3, rfl, hra⟩ := own_reads hva
      go_wp2_with fail
      refine (plain_any A3 _ c3 _ w73 rfl (by have := showL_len (keepL fl La); omega) hra).mono ?_
      rintro e w74 ⟨vb, rfl, hvb, hb8⟩
      obtain ⟨A4, c4, rfl, hrd⟩ := own_reads hvb
      have hb78 := below_step hb7 hb8
      have HT8 := Lib.hid (HT6.out.below hb78)
      have HRB8 := Lib.hid ((HRB.out.below hb78).more hb78.size)
      have HRD8 := Lib.hid hrd
      clear hva hvb hra hrd hb7 hb8 hb78 HT6 HRB
      go_wp2_with fail
      refine (same_any A2 A4 _ c2 _ c4 (showL La) (showL (keepL fl La)) w74 rfl rfl (by have := showL_len La; omega) (by have := showL_len (keepL fl La); omega) HRB8.out HRD8.out).mono ?_
      rintro e w75 ⟨rfl, hb9⟩
      have HT := Lib.hid (HT8.out.below hb9)
      clear hb9 HT8 HRB8 HRD8
      rw [decide_eq_true HEQ.out]
      go_wp2_with fail
      go_loopw [61] (fun i wr => ∃ (n : Nat) (L1 L2 : List R), n ≤ m2 ∧ i = .int .i64 n ∧ Two w (ba + 1) ba (bz + 1) bz L1 L2 wr ∧ Swept fl L1 L2 ∧ L1.length ≤ 80 + n ∧ L2.length ≤ 80 + n) (fun i _ => m2 - (intOf i).toNat)
      case atStart => exact ⟨0, La, keepL fl La, by omega, rfl, HT.out, HSW.out, by omega, by omega⟩
      case round =>
        clear HT HSW HEQ HUP
        obtain ⟨n, L1, L2, hn, rfl, ht, hsw, hz1, hz2⟩ := hrel
        have HT := Lib.hid ht
        have HSW := Lib.hid hsw
        clear ht hsw
        by_cases hlt : n < m2
        · skip
          obtain ⟨bb, off, rfl, hbb, hc, hxk⟩ := HL2.out.cells HT.out.bel hlt
          obtain ⟨e0, e1, e2, e3, e4, e5, e6, e7, e8, e9⟩ := ten_of hc
          generalize hX : l2.getD n wtZ = x at *
          have HX := Lib.hid hX
          obtain ⟨rg, nm, t, r, dA, dn, dc, se, kk, v, gn, lf⟩ := x
          dsimp only at e0 e1 e2 e3 e4 e5 e6 e7 e8 e9
          have HXK := Lib.hid hxk
          clear hc hxk hX
          have hbx := below_new wr (.cells #[.int .i64 rg, .int .i64 nm, .int .i64 t, .int .i64 r, .slice dA dn dc, .string se, .string kk, .string v, .bool gn, .int .i64 lf] 33)
          have hl1 := HT.out.one.ltm
          have hl2 := HT.out.two.ltm
          have HB0 := Lib.hid (Blk.new wr 33 #[.int .i64 rg, .int .i64 nm, .int .i64 t, .int .i64 r, .slice dA dn dc, .string se, .string kk, .string v, .bool gn, .int .i64 lf])
          have HT0 := Lib.hid (HT.out.below hbx)
          clear hbx HT
          by_cases hfl : t ≤ fl
          · go_wp2
            go_roundw
            case rel => exact ⟨n + 1, L1, L2, by omega, by go_num, HT0.out, HSW.out, by omega, by omega⟩
            case measure => simp [intOf]; omega
          · go_wp2_with fail
            refine (wt_apply _ _ _ ⟨rg, nm, t, r, dA, dn, dc, se, kk, v, gn, lf⟩ _ HT0.out.one HXK.out).mono ?_
            rintro e w16 ⟨rfl, hs1, hk1⟩
            generalize newC _ _ = nb
            have HT1 := Lib.hid (HT0.out.step1 hs1 hk1)
            have hb1 := HB0.out.keeps hk1 (by omega)
            obtain ⟨k0, k1, k2, k3, k4, k5, k6, k7, k8, k9⟩ := cells10 hb1
            have kl := hb1.lt
            have Hup1 := Lib.hid HT0.out.one.up
            have Hup2 := Lib.hid HT0.out.two.up
            clear hs1 hk1 hb1 HB0 HT0 e0 e1 e2 e3 e4 e5 e6 e7 e8 e9
            go_wp2_with fail
            refine (wt_apply _ _ _ ⟨rg, nm, t, r, dA, dn, dc, se, kk, v, gn, lf⟩ _ HT1.out.two HXK.out).mono ?_
            rintro e w17 ⟨rfl, hs2, hk2⟩
            generalize newC _ _ = nb2
            have HT := Lib.hid (HT1.out.step2 hs2 hk2)
            have hsw := HSW.out.take Hup1.out Hup2.out (Wt.name ⟨rg, nm, t, r, dA, dn, dc, se, kk, v, gn, lf⟩) (Wt.cell ⟨rg, nm, t, r, dA, dn, dc, se, kk, v, gn, lf⟩) (by show fl < t; omega)
            have hz3 := length_take L1 (Wt.name ⟨rg, nm, t, r, dA, dn, dc, se, kk, v, gn, lf⟩) (Wt.cell ⟨rg, nm, t, r, dA, dn, dc, se, kk, v, gn, lf⟩)
            have hz4 := length_take L2 (Wt.name ⟨rg, nm, t, r, dA, dn, dc, se, kk, v, gn, lf⟩) (Wt.cell ⟨rg, nm, t, r, dA, dn, dc, se, kk, v, gn, lf⟩)
            clear hs2 hk2 k0 k1 k2 k3 k4 k5 k6 k7 k8 k9 kl HT1 HX HXK hbb hl1 hl2 hfl HSW Hup1 Hup2
            generalize takeL L1 _ _ = M1 at *
            generalize takeL L2 _ _ = M2 at *
            have HSW := Lib.hid hsw
            have HEQ := Lib.hid (hsw.shows HT.out.one.up HT.out.two.up)
            clear hsw
            go_wp2_with fail
            refine (shows_any _ _ _ _ HT.out.one (by omega)).mono ?_
            rintro e w71 ⟨va, rfl, hva, hb5⟩
            obtain ⟨A1, c1, rfl, hra⟩ := own_reads hva
            go_wp2_with fail
            refine (plain_any A1 _ c1 _ w71 rfl (by have := showL_len M1; omega) hra).mono ?_
            rintro e w72 ⟨vb, rfl, hvb, hb6⟩
            obtain ⟨A2, c2, rfl, hrb⟩ := own_reads hvb
            have HT6 := Lib.hid ((HT.out.below hb5).below hb6)
            have HRB := Lib.hid hrb
            clear hva hvb hra hrb hb5 hb6 HT
            go_wp2_with fail
            refine (shows_any _ _ _ _ HT6.out.two (by omega)).mono ?_
            rintro e w73 ⟨va, rfl, hva, hb7⟩
            obtain ⟨A3, c3, rfl, hra⟩ := own_reads hva
            go_wp2_with fail
            refine (plain_any A3 _ c3 _ w73 rfl (by have := showL_len M2; omega) hra).mono ?_
            rintro e w74 ⟨vb, rfl, hvb, hb8⟩
            obtain ⟨A4, c4, rfl, hrd⟩ := own_reads hvb
            have hb78 := below_step hb7 hb8
            have HT8 := Lib.hid (HT6.out.below hb78)
            have HRB8 := Lib.hid ((HRB.out.below hb78).more hb78.size)
            have HRD8 := Lib.hid hrd
            clear hva hvb hra hrd hb7 hb8 hb78 HT6 HRB
            go_wp2_with fail
            refine (same_any A2 A4 _ c2 _ c4 (showL M1) (showL M2) w74 rfl rfl (by have := showL_len M1; omega) (by have := showL_len M2; omega) HRB8.out HRD8.out).mono ?_
            rintro e w75 ⟨rfl, hb9⟩
            have HT := Lib.hid (HT8.out.below hb9)
            clear hb9 HT8 HRB8 HRD8
            rw [decide_eq_true HEQ.out]
            go_wp2
            go_roundw
            case rel => exact ⟨n + 1, M1, M2, by omega, by go_num, HT.out, HSW.out, by omega, by omega⟩
            case measure => simp [intOf]; omega
        · obtain rfl : m2 = n := by omega
          have HB := Lib.hid HT.out.bel
          clear HT
          go_wp2
          go_ret
          exact ⟨rfl, HB.out⟩
end Go.Proofs.Ytgfamdakjcjdkaa.wStoreSweeps
