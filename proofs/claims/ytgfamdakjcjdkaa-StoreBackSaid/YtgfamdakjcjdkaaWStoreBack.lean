/- The walk of the law StoreBack: it returns true; nothing that was there is written. -/
import Derived.Test.YtgfamdakjcjdkaaLoopS
namespace Go.Proofs.Ytgfamdakjcjdkaa.wStoreBack
open Go Go.RowKit Go.Proofs.Ytgfamdakjcjdkaa.base Go.Proofs.Ytgfamdakjcjdkaa.err Go.Proofs.Ytgfamdakjcjdkaa.above Go.Proofs.Ytgfamdakjcjdkaa.law Go.Proofs.Ytgfamdakjcjdkaa.merge Go.Proofs.Ytgfamdakjcjdkaa.rows Go.Proofs.Ytgfamdakjcjdkaa.rowe Go.Proofs.Ytgfamdakjcjdkaa.monoj Go.Proofs.Ytgfamdakjcjdkaa.store

set_option maxRecDepth 100000 in
set_option maxHeartbeats 4000000 in
theorem walk (v0 v1 : Value) (w : World) (a0 : Arg Try.prog w 22 v0) (a1 : Arg Try.prog w 22 v1) :
    Calls Try.prog 4 #[v0, v1] w fun e w' => e = .returned (.bool true) ∧ Below w.heap.size w w' := by
  obtain ⟨A, m, c, l, rfl, hl, hm, hw⟩ := lst_of a0
  obtain ⟨A2, m2, c2, l2, rfl, hl2, hm2, hw2⟩ := lst_of a1
  clear a0 a1
  have HL := Lib.hid hl
  have HL2 := Lib.hid hl2
  have HW := Lib.hid hw
  have HW2 := Lib.hid hw2
  clear hl hl2 hw hw2
  unfold maxLen at hm hm2
  cases hg : greatW l with
  | true =>
    have HG := Lib.hid hg
    clear hg
    go_enter Try.func4, Try.ntmps4
    go_wp2_with fail
    refine (awake_any _).mono ?_
    rintro e w1 ⟨rfl, hb1⟩
    go_wp2_with fail
    refine (great_any _ l w1 (HW.out.below hb1)).mono ?_
    rintro e w2 ⟨rfl, hb2⟩
    rw [HG.out]
    have HB := Lib.hid (below_step hb1 hb2)
    clear hb1 hb2
    go_wp2
    go_ret
    exact ⟨rfl, HB.out⟩
  | false =>
  cases hg2 : greatW l2 with
  | true =>
    have HG := Lib.hid hg
    have HG2 := Lib.hid hg2
    clear hg hg2
    go_enter Try.func4, Try.ntmps4
    go_wp2_with fail
    refine (awake_any _).mono ?_
    rintro e w1 ⟨rfl, hb1⟩
    go_wp2_with fail
    refine (great_any _ l w1 (HW.out.below hb1)).mono ?_
    rintro e w2 ⟨rfl, hb2⟩
    rw [HG.out]
    have HB := Lib.hid (below_step hb1 hb2)
    clear hb1 hb2
    go_wp2_with fail
    refine (great_any _ l2 w2 (HW2.out.below HB.out)).mono ?_
    rintro e w3 ⟨rfl, hb3⟩
    rw [HG2.out]
    have HB3 := Lib.hid (below_step HB.out hb3)
    clear hb3
    go_wp2
    go_ret
    exact ⟨rfl, HB3.out⟩
  | false =>
  have h80 : m ≤ 80 := by have := great_few hg; have := HL.out.len; omega
  have h802 : m2 ≤ 80 := by have := great_few hg2; have := HL2.out.len; omega
  have HG := Lib.hid hg
  have HG2 := Lib.hid hg2
  clear hg hg2
  go_enter Try.func4, Try.ntmps4
  go_wp2_with fail
  refine (awake_any _).mono ?_
  rintro e w1 ⟨rfl, hb1⟩
  go_wp2_with fail
  refine (great_any _ l w1 (HW.out.below hb1)).mono ?_
  rintro e w2 ⟨rfl, hb2⟩
  rw [HG.out]
  have HB := Lib.hid (below_step hb1 hb2)
  clear hb1 hb2
  go_wp2_with fail
  refine (great_any _ l2 w2 (HW2.out.below HB.out)).mono ?_
  rintro e w3 ⟨rfl, hb3⟩
  rw [HG2.out]
  have HB3 := Lib.hid (below_step HB.out hb3)
  clear hb3 HB
  go_wp2_with fail
  refine (new_any w3).mono ?_
  rintro e w4 ⟨rfl, h4, hb4⟩
  have H4 := Lib.hid h4
  have HB4 := Lib.hid (below_step HB3.out hb4)
  have hws := HB3.out.size
  clear h4 hb4 HB3 HW HW2 HG HG2
  generalize w3.heap.size = bm at *
  go_wp2_with fail
  go_loopw [23] (fun i wr => ∃ n : Nat, n ≤ m ∧ i = .int .i64 n ∧ StI wr (bm + 1) bm (appL [] (l.take n)) ∧ Below w.heap.size w wr) (fun i _ => m - (intOf i).toNat)
  case atStart => exact ⟨0, by omega, rfl, H4.out, HB4.out⟩
  case round =>
    clear H4 HB4
    obtain ⟨n, hn, rfl, i1, i2⟩ := hrel
    have I1 := Lib.hid i1
    have I2 := Lib.hid i2
    clear i1 i2
    by_cases hlt : n < m
    · skip
      obtain ⟨bb, off, rfl, hbb, hc, hxk⟩ := HL.out.cells I2.out hlt
      obtain ⟨e0, e1, e2, e3, e4, e5, e6, e7, e8, e9⟩ := ten_of hc
      generalize hX : l.getD n wtZ = x at *
      have HX := Lib.hid hX
      obtain ⟨rg, nm, t, r, dA, dn, dc, se, kk, v, gn, lf⟩ := x
      dsimp only at e0 e1 e2 e3 e4 e5 e6 e7 e8 e9
      have HXK := Lib.hid hxk
      clear hc hxk hX
      have hbx := below_new wr (.cells #[.int .i64 rg, .int .i64 nm, .int .i64 t, .int .i64 r, .slice dA dn dc, .string se, .string kk, .string v, .bool gn, .int .i64 lf] 33)
      have HBX := Lib.hid hbx
      clear hbx
      go_wp2_with fail
      refine (wt_apply _ _ _ ⟨rg, nm, t, r, dA, dn, dc, se, kk, v, gn, lf⟩ _ (I1.out.below HBX.out) HXK.out).mono ?_
      rintro e w5 ⟨rfl, hs1, hk1⟩
      generalize newC _ _ = nb
      have q5 : takeL (appL [] (l.take n)) (Wt.name ⟨rg, nm, t, r, dA, dn, dc, se, kk, v, gn, lf⟩) (Wt.cell ⟨rg, nm, t, r, dA, dn, dc, se, kk, v, gn, lf⟩) = appL [] (l.take (n + 1)) := by
        rw [appL_take _ _ _ (by rw [HL.out.len]; exact hlt), HX.out]
      rw [q5] at hs1
      have HS1 := Lib.hid hs1
      have HB5 := Lib.hid (below_keeps (below_step I2.out HBX.out) (Nat.le_refl _) hk1 (fun i hi e => by omega))
      clear q5 hs1 hk1 e0 e1 e2 e3 e4 e5 e6 e7 e8 e9 HX HXK hbb
      go_wp2
      go_roundw
      case rel => exact ⟨n + 1, by omega, by go_num, HS1.out, HB5.out⟩
      case measure => simp [intOf]; omega
    · obtain rfl : m = n := by omega
      rw [List.take_of_length_le (by rw [HL.out.len]; omega)] at I1
      have hla : (appL [] l).length ≤ 80 := by have := appL_len [] l; have := HL.out.len; simp at *; omega
      go_wp2_with fail
      refine (rows_any _ _ _ _ I1.out (by omega)).mono ?_
      rintro e w5 ⟨va, rfl, hva, hb5⟩
      obtain ⟨A1, c1, rfl, hra⟩ := own_reads hva
      have hI5 := I1.out.below hb5
      go_wp2_with fail
      refine (of_rows A1 (appL [] l).length c1 (appL [] l) w5 rfl (by omega) hI5.ok hra).mono ?_
      rintro e w6 hof
      obtain ⟨_, g2, bm2, rfl, hs6, hg6, hbm6, hb6⟩ : OfYes (appL [] l) w5 e w6 := by
        rcases hof with h | ⟨i, _, ⟨h1, h2, h3⟩, _⟩
        · exact h
        · exfalso
          have := List.pairwise_iff_getElem.1 hI5.up (i - 1) i (by omega) h2 (by omega)
          rw [List.getD_eq_getElem?_getD, List.getD_eq_getElem?_getD, List.getElem?_eq_getElem h2, List.getElem?_eq_getElem (show i - 1 < _ by omega)] at h3
          simp only [Option.getD_some] at h3
          rw [this] at h3; cases h3
      have hz5 := hb5.size
      have hlt1 := I1.out.lt
      have hlt2 := I1.out.ltm
      have HT := Lib.hid (show Two w (bm + 1) bm g2 bm2 (appL [] l) (appL [] l) w6 from ⟨hI5.below hb6, hs6, by omega, by omega, by omega, by omega, by have := I2.out.size; omega, below_step (below_step I2.out hb5) hb6⟩)
      clear hof hva hra hI5 hs6 hb5 hb6 I1 I2
      go_wp2_with fail
      clear hla hws hlt1 hlt2 hg6 hbm6 hz5
      go_loopw [41] (fun i wr => ∃ n : Nat, n ≤ m2 ∧ i = .int .i64 n ∧ Two w (bm + 1) bm g2 bm2 (appL (appL [] l) (l2.take n)) (appL (appL [] l) (l2.take n)) wr) (fun i _ => m2 - (intOf i).toNat)
      case atStart => exact ⟨0, by omega, rfl, HT.out⟩
      case round =>
        clear HT
        obtain ⟨n, hn, rfl, ht⟩ := hrel
        have HT := Lib.hid ht
        clear ht
        by_cases hlt : n < m2
        · skip
          obtain ⟨bb, off, rfl, hbb, hc, hxk⟩ := HL2.out.cells HT.out.bel hlt
          obtain ⟨e0, e1, e2, e3, e4, e5, e6, e7, e8, e9⟩ := ten_of hc
          generalize hX : l2.getD n wtZ = x at *
          have HX := Lib.hid hX
          obtain ⟨rg, nm, t, r, dA, dn, dc, se, kk, v, gn, lf⟩ := x
          dsimp only at e0 e1 e2 e3 e4 e5 e6 e7 e8 e9
          have HXK := Lib.hid hxk
          clear hc hxk hX
          have hbx := below_new wr (.cells #[.int .i64 rg, .int .i64 nm, .int .i64 t, .int .i64 r, .slice dA dn dc, .string se, .string kk, .string v, .bool gn, .int .i64 lf] 33)
          have hb0 := Blk.new wr 33 #[.int .i64 rg, .int .i64 nm, .int .i64 t, .int .i64 r, .slice dA dn dc, .string se, .string kk, .string v, .bool gn, .int .i64 lf]
          have HT0 := Lib.hid ((HT.out.below hbx).below (Below.refl _ _).drew)
          have HB0 := Lib.hid hb0.drew
          have hl1 := HT.out.one.ltm
          have hl2 := HT.out.two.ltm
          have HXX := Lib.hid (show ¬ (wr.heap.size = bm ∨ wr.heap.size = bm2) by omega)
          have q5 : takeL (appL (appL [] l) (l2.take n)) (Wt.name ⟨rg, nm, t, r, dA, dn, dc, se, kk, v, gn, lf⟩) (Wt.cell ⟨rg, nm, t, r, dA, dn, dc, se, kk, v, gn, lf⟩) = appL (appL [] l) (l2.take (n + 1)) := by
            rw [appL_take _ _ _ (by rw [HL2.out.len]; exact hlt), HX.out]
          have Q5 := Lib.hid q5
          clear hbx hb0 q5 HT hl1 hl2
          go_wp2_with fail
          refine wp_region_mono (fun i => i = bm ∨ i = bm2) (by kernel_rfl) ?_
          -- 0 Op.move (Operand.tmp 5)
          refine wpMono_take' 0 (v := ?_) rfl (by kernel_rfl) (by kernel_rfl) (by kernel_rfl) (fun _ _ _ h => h) (by rfl) ?_ ?_
          rotate_left
          · (intro W hSw; (try ((first | (have hk := HB5.out.keeps hSw HXX.out) | (have hk := HB0.out.keeps hSw HXX.out)); (obtain ⟨k0, k1, k2, k3, k4, k5, k6, k7, k8, k9⟩ := cells10 hk); (have kl := hk.lt)))
             go_simp; first | done | rfl)
          try simp only [Act.put, List.setIfInBounds_toArray, List.set_cons_zero, List.set_cons_succ]
          -- 1 Op.load 33 (Operand.tmp 11)
          refine wpMono_take' 1 (v := ?_) rfl (by kernel_rfl) (by kernel_rfl) (by kernel_rfl) (fun _ _ _ h => h) (by rfl) ?_ ?_
          rotate_left
          · (intro W hSw; (try ((first | (have hk := HB5.out.keeps hSw HXX.out) | (have hk := HB0.out.keeps hSw HXX.out)); (obtain ⟨k0, k1, k2, k3, k4, k5, k6, k7, k8, k9⟩ := cells10 hk); (have kl := hk.lt)))
             go_simp; first | done | rfl)
          try simp only [Act.put, List.setIfInBounds_toArray, List.set_cons_zero, List.set_cons_succ]
          -- 3 Op.move (Operand.tmp 8)
          refine wpMono_take' 3 (v := ?_) rfl (by kernel_rfl) (by kernel_rfl) (by kernel_rfl) (fun _ _ _ h => h) (by rfl) ?_ ?_
          rotate_left
          · (intro W hSw; (try ((first | (have hk := HB5.out.keeps hSw HXX.out) | (have hk := HB0.out.keeps hSw HXX.out)); (obtain ⟨k0, k1, k2, k3, k4, k5, k6, k7, k8, k9⟩ := cells10 hk); (have kl := hk.lt)))
             go_simp; first | done | rfl)
          try simp only [Act.put, List.setIfInBounds_toArray, List.set_cons_zero, List.set_cons_succ]
          -- 4 Op.load 33 (Operand.tmp 11)
          refine wpMono_take' 4 (v := ?_) rfl (by kernel_rfl) (by kernel_rfl) (by kernel_rfl) (fun _ _ _ h => h) (by rfl) ?_ ?_
          rotate_left
          · (intro W hSw; (try ((first | (have hk := HB5.out.keeps hSw HXX.out) | (have hk := HB0.out.keeps hSw HXX.out)); (obtain ⟨k0, k1, k2, k3, k4, k5, k6, k7, k8, k9⟩ := cells10 hk); (have kl := hk.lt)))
             go_simp; first | done | rfl)
          try simp only [Act.put, List.setIfInBounds_toArray, List.set_cons_zero, List.set_cons_succ]
          -- EFFECT 2 Op.call { callee := Callee.value (Operand.func 12), args := #[Operand.tmp 45, Operand.tmp 46], argTypes := #[25, 33] }
          refine wpMono_one' 2 (by kernel_rfl) rfl (by rfl) (fun K hK => ?_)
          go_simp
          refine (wt_apply _ _ _ ⟨rg, nm, t, r, dA, dn, dc, se, kk, v, gn, lf⟩ _ HT0.out.one HXK.out).mono ?_
          rintro e w7 ⟨rfl, hs1, hk1⟩
          obtain ⟨nb, hnb⟩ : ∃ nb, newC (getL (appL (appL [] l) (l2.take n)) (Wt.name ⟨rg, nm, t, r, dA, dn, dc, se, kk, v, gn, lf⟩)) (Wt.cell ⟨rg, nm, t, r, dA, dn, dc, se, kk, v, gn, lf⟩) = nb := ⟨_, rfl⟩
          rw [hnb]
          rw [Q5.out] at hs1
          have Hnb := Lib.hid hnb
          have HT5 := Lib.hid (HT0.out.step1 hs1 hk1)
          have HB5 := Lib.hid (HB0.out.keeps hk1 (fun e => HXX.out (.inl e)))
          have HK1 := Lib.hid hk1
          clear hnb hs1 hk1
          refine hK.out _ _ ?_ ?_
          · exact HK1.out.more fun i _ hi => .inl hi
          clear hK K
          try simp only [Act.put, List.setIfInBounds_toArray, List.set_cons_zero, List.set_cons_succ]
          -- EFFECT 5 Op.call { callee := Callee.value (Operand.func 12), args := #[Operand.tmp 48, Operand.tmp 49], argTypes := #[25, 33] }
          refine wpMono_one' 5 (by kernel_rfl) rfl (by rfl) (fun K hK => ?_)
          go_simp
          refine (wt_apply _ _ _ ⟨rg, nm, t, r, dA, dn, dc, se, kk, v, gn, lf⟩ _ HT5.out.two HXK.out).mono ?_
          rintro e w8 ⟨rfl, hs2, hk2⟩
          rw [Hnb.out]
          rw [Q5.out] at hs2
          have HT6 := Lib.hid (HT5.out.step2 hs2 hk2)
          have HK2 := Lib.hid hk2
          clear hs2 hk2
          refine hK.out _ _ ?_ ?_
          · exact HK2.out.more fun i _ hi => .inr hi
          clear hK K
          try simp only [Act.put, List.setIfInBounds_toArray, List.set_cons_zero, List.set_cons_succ]
          -- 6 Op.binOp BinOp.neq 4 (Operand.tmp 47) (Operand.tmp 50) 4
          refine wpMono_take' 6 (v := ?_) rfl (by kernel_rfl) (by kernel_rfl) (by kernel_rfl) (fun _ _ _ h => h) (by rfl) ?_ ?_
          rotate_left
          · (intro W hSw; (try ((first | (have hk := HB5.out.keeps hSw HXX.out) | (have hk := HB0.out.keeps hSw HXX.out)); (obtain ⟨k0, k1, k2, k3, k4, k5, k6, k7, k8, k9⟩ := cells10 hk); (have kl := hk.lt)))
             go_simp; first | done | rfl)
          try simp only [Act.put, List.setIfInBounds_toArray, List.set_cons_zero, List.set_cons_succ]
          refine wpMono_done (by kernel_rfl) ?_ _
          clear HB0 HB5 HK1 HK2 HT0 HT5 e0 e1 e2 e3 e4 e5 e6 e7 e8 e9
          go_wp2
          go_roundw
          case rel => exact ⟨n + 1, by omega, by go_num, HT6.out⟩
          case measure => simp [intOf]; omega
        · obtain rfl : m2 = n := by omega
          rw [List.take_of_length_le (by rw [HL2.out.len]; omega)] at HT
          have hla : (appL (appL [] l) l2).length ≤ 200 := by have := appL_len [] l; have := appL_len (appL [] l) l2; have := HL.out.len; have := HL2.out.len; simp at *; omega
          generalize appL (appL [] l) l2 = L at *
          go_wp2_with fail
          refine (rows_any _ _ _ _ HT.out.one (by omega)).mono ?_
          rintro e w5 ⟨va, rfl, hva, hb5⟩
          obtain ⟨A1, c1, rfl, hra⟩ := own_reads hva
          go_wp2_with fail
          refine (plain_any A1 L.length c1 L w5 rfl (by omega) hra).mono ?_
          rintro e w6 ⟨vb, rfl, hvb, hb6⟩
          obtain ⟨A2, c2, rfl, hrb⟩ := own_reads hvb
          have HT6 := Lib.hid ((HT.out.below hb5).below hb6)
          have HRB := Lib.hid hrb
          clear hva hvb hra hrb hb5 hb6 HT
          go_wp2_with fail
          refine (rows_any _ _ _ _ HT6.out.two (by omega)).mono ?_
          rintro e w7 ⟨va, rfl, hva, hb7⟩
          obtain ⟨A3, c3, rfl, hra⟩ := own_reads hva
          go_wp2_with fail
          refine (plain_any A3 L.length c3 L w7 rfl (by omega) hra).mono ?_
          rintro e w8 ⟨vb, rfl, hvb, hb8⟩
          obtain ⟨A4, c4, rfl, hrd⟩ := own_reads hvb
          have hb78 := below_step hb7 hb8
          have HT8 := Lib.hid (HT6.out.below hb78)
          have HRB8 := Lib.hid ((HRB.out.below hb78).more hb78.size)
          have HRD8 := Lib.hid hrd
          clear hva hvb hra hrd hb7 hb8 hb78 HT6 HRB
          go_wp2_with fail
          refine (same_any A2 A4 _ c2 _ c4 L L w8 rfl rfl (by omega) (by omega) HRB8.out HRD8.out).mono ?_
          rintro e w9 ⟨rfl, hb9⟩
          have HB := Lib.hid (HT8.out.below hb9).bel
          clear hb9
          go_wp2
          go_ret
          exact ⟨ret_bool (by simp), HB.out⟩
end Go.Proofs.Ytgfamdakjcjdkaa.wStoreBack
