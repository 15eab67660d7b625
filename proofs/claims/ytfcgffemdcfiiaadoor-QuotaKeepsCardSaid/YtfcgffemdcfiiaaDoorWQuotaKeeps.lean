/- The walk of the law QuotaKeeps: it returns true; nothing that was there is written. -/
import Derived.Test.YtfcgffemdcfiiaaDoorFitsQ
namespace Go.Proofs.YtfcgffemdcfiiaaDoor.wQuotaKeeps
open Go Go.RowKit Go.Proofs.YtfcgffemdcfiiaaDoor.base Go.Proofs.YtfcgffemdcfiiaaDoor.dec Go.Proofs.YtfcgffemdcfiiaaDoor.err Go.Proofs.YtfcgffemdcfiiaaDoor.above Go.Proofs.YtfcgffemdcfiiaaDoor.law Go.Proofs.YtfcgffemdcfiiaaDoor.merge Go.Proofs.YtfcgffemdcfiiaaDoor.rows Go.Proofs.YtfcgffemdcfiiaaDoor.rowe Go.Proofs.YtfcgffemdcfiiaaDoor.store Go.Proofs.YtfcgffemdcfiiaaDoor.quota

abbrev s11 : ByteArray := ⟨#[49, 45, 49]⟩
theorem Keep.more_ {s : ByteArray} {n : Nat} {L : List R} (h : KeepI s n L) : KeepI s (n + 1) L := ⟨h.up, h.hd, h.few, Nat.le_succ_of_le h.len⟩
def cA : C := ⟨1, 1, ⟨#[97, 110, 110]⟩, false, 0⟩
theorem first_keep : KeepI s11 0 (takeL [] (s11, ⟨#[]⟩) cA) := by
  have h1 := length_take [] (s11, ⟨#[]⟩) cA
  refine ⟨rising_take rising_nil _ _, ?_, ?_, h1⟩
  · unfold atL
    rw [getL_take rising_nil, if_pos rfl]
    rfl
  · have : (keysL (takeL [] (s11, ⟨#[]⟩) cA) s11).length ≤ (takeL [] (s11, ⟨#[]⟩) cA).length := by unfold keysL; rw [List.length_map]; exact List.length_filter_le _ _
    have h2 : (takeL [] (s11, ⟨#[]⟩) cA).length ≤ 1 := h1
    omega
set_option maxRecDepth 100000 in
set_option maxHeartbeats 16000000 in
theorem walk (v0 : Value) (w : World) (a0 : Arg Tryd.prog w 49 v0) (ht : Tabs w) :
    Calls Tryd.prog 6 #[v0] w fun e w' => e = .returned (.bool true) ∧ Below w.heap.size w w' := by
  obtain ⟨A, m, c, l, rfl, hl, hm, hw⟩ := lst_of a0
  clear a0
  have HL := Lib.hid hl
  have HW := Lib.hid hw
  have HT := Lib.hid ht
  clear hl hw ht
  unfold maxLen at hm
  cases hg : greatW l with
  | true =>
    have HG := Lib.hid hg
    clear hg
    go_enter Tryd.func6, Tryd.ntmps6
    go_wp2_with fail
    refine (Go.Proofs.YtfcgffemdcfiiaaDoor.quota.awake_any w HT.out).mono ?_
    rintro e w1 ⟨rfl, hb1⟩
    go_wp2_with fail
    refine (great_any _ l w1 (HW.out.below hb1)).mono ?_
    rintro e w2 ⟨rfl, hb2⟩
    rw [HG.out]
    have HB := Lib.hid (below_step hb1 hb2)
    clear hb1 hb2
    go_wp2
    go_ret
    exact ⟨rfl, HB.out⟩
  | false =>
  have h80 : m ≤ 80 := by have := great_few hg; have := HL.out.len; omega
  have HG := Lib.hid hg
  clear hg
  go_enter Tryd.func6, Tryd.ntmps6
  go_wp2_with fail
  refine (Go.Proofs.YtfcgffemdcfiiaaDoor.quota.awake_any w HT.out).mono ?_
  rintro e w1 ⟨rfl, hb1⟩
  go_wp2_with fail
  refine (great_any _ l w1 (HW.out.below hb1)).mono ?_
  rintro e w3 ⟨rfl, hb2⟩
  rw [HG.out]
  have HB3 := Lib.hid (below_step hb1 hb2)
  clear hb1 hb2
  go_wp2_with fail
  refine (new_any w3).mono ?_
  rintro e w4 ⟨rfl, h4, hb4⟩
  have H4 := Lib.hid h4
  have HB4 := Lib.hid (below_step HB3.out hb4)
  have hws := HB3.out.size
  clear h4 hb4 HB3 HW HG
  generalize w3.heap.size = bm at *
  go_wp2_with fail
  refine (apply_any (bm + 1) bm [] 0 0 1 1 none 0 0 s11 ⟨#[]⟩ ⟨#[97, 110, 110]⟩ false 0 w4 H4.out (by decide) (by decide)).mono ?_
  rintro e w5 ⟨rfl, hs5, hk5⟩
  have HS5 := Lib.hid (show StI w5 (bm + 1) bm (takeL [] (s11, ⟨#[]⟩) cA) from hs5)
  have HB5 := Lib.hid (below_keeps HB4.out (Nat.le_refl _) hk5 (fun i hi e => by omega))
  have HK0 := Lib.hid first_keep
  generalize takeL [] (s11, ⟨#[]⟩) cA = L0 at *
  generalize newC _ _ = nb0
  clear hs5 hk5 H4 HB4
  go_wp2_with fail
  go_loopw [20] (fun i wr => ∃ (n : Nat) (L : List R), n ≤ m ∧ i = .int .i64 n ∧ KeepI s11 n L ∧ StI wr (bm + 1) bm L ∧ Below w.heap.size w wr) (fun i _ => m - (intOf i).toNat)
  case atStart => exact ⟨0, L0, by omega, rfl, HK0.out, HS5.out, HB5.out⟩
  case round =>
    clear HS5 HB5 HK0
    obtain ⟨n, L, hn, rfl, hk, i1, i2⟩ := hrel
    have HK := Lib.hid hk
    have I1 := Lib.hid i1
    have I2 := Lib.hid i2
    have hll := hk.len
    clear i1 i2 hk
    by_cases hlt : n < m
    · skip
      obtain ⟨bb, off, rfl, hbb, hc, hxk⟩ := HL.out.cells I2.out hlt
      obtain ⟨e0, e1, e2, e3, e4, e5, e6, e7, e8, e9⟩ := ten_of hc
      generalize hX : l.getD n wtZ = x at *
      have HX := Lib.hid hX
      obtain ⟨rg, nm, t, r, dA, dn, dc, se, kk, v, gn, lf⟩ := x
      dsimp only at e0 e1 e2 e3 e4 e5 e6 e7 e8 e9
      have HXK := Lib.hid hxk
      clear hc hxk hX
      have hbx := below_new wr (.cells #[.int .i64 rg, .int .i64 nm, .int .i64 ((n : Int) + 2), .int .i64 1, .slice dA dn dc, .string s11, .string kk, .string v, .bool gn, .int .i64 lf] 44)
      have hbl := Blk.new wr 44 #[.int .i64 rg, .int .i64 nm, .int .i64 ((n : Int) + 2), .int .i64 1, .slice dA dn dc, .string s11, .string kk, .string v, .bool gn, .int .i64 lf]
      have J1 := Lib.hid (I1.out.below hbx)
      have J2 := Lib.hid (below_step I2.out hbx)
      have HBL := Lib.hid hbl
      have hn2 : IntKind.i64.wrap ((n : Int) + 2) = (n : Int) + 2 := IntWalk.i64_in _ (by omega)
      clear hbx hbl
      cases gn with
      | true =>
        cases q : kk.toList.isEmpty with
        | true =>
          go_wp2
          go_roundw
          case rel => exact ⟨n + 1, L, by omega, by go_num, Keep.more_ HK.out, J1.out, J2.out⟩
          case measure => simp [intOf]; omega
        | false =>
          have HQE := Lib.hid q
          obtain ⟨k0, k1, k2, k3, k4, k5, k6, k7, k8, k9⟩ := cells10 HBL.out
          have kl := (HBL.out).lt
          have HK2 := Lib.hid (HK.out.next (k := kk) HQE.out ⟨(n : Int) + 2, 1, v, true, lf⟩ (.inl rfl))
          go_wp2_with fail
          refine (apply_any (bm + 1) bm L rg nm ((n : Int) + 2) 1 dA dn dc s11 kk v true lf _ J1.out (by decide) HXK.out.2).mono ?_
          rintro e w5 ⟨rfl, hs5, hk5⟩
          have HS5 := Lib.hid hs5
          have HB5 := Lib.hid (below_keeps (J2.out) (Nat.le_refl _) hk5 (fun i hi e => by omega))
          generalize takeL L (s11, kk) ⟨(n : Int) + 2, 1, v, true, lf⟩ = M at *
          generalize newC _ _ = nb
          clear hs5 hk5 k0 k1 k2 k3 k4 k5 k6 k7 k8 k9 kl
          go_wp2_with fail
          refine (keys_any (bm + 1) bm M s11 w5 HS5.out (by have := HK2.out.len; omega)).mono ?_
          rintro e w6 ⟨vk, rfl, hvk, hb6⟩
          obtain ⟨A6, c6, rfl⟩ := ownsRow_slice hvk
          have HRK := Lib.hid (Reads.of_own hvk)
          have HS6 := Lib.hid (HS5.out.below hb6)
          have HB6 := Lib.hid (below_step HB5.out hb6)
          have hfew := HK2.out.few
          obtain ⟨nk, hnk⟩ : ∃ nk, (keysL M s11).length = nk := ⟨_, rfl⟩
          rw [hnk] at HRK hfew ⊢
          have HNK := Lib.hid hnk
          clear hvk hb6 hnk
          have d16 : decide ((16 : Int) < (nk : Int)) = false := by simp; omega
          go_wp2_with fail
          go_loopw [55] (fun si wr => ∃ i : Nat, i ≤ nk ∧ si = .int .i64 i ∧ StI wr (bm + 1) bm M ∧ Below w6.heap.size w6 wr) (fun si _ => nk - (intOf si).toNat)
          case atStart => exact ⟨0, by omega, rfl, HS6.out, Below.refl _ _⟩
          case round =>
            clear HS6
            obtain ⟨i, hi, rfl, i1, i2⟩ := hrel
            by_cases hlti : i < nk
            · obtain ⟨gl, offl, hA6, hgl⟩ := HRK.out.at_some (by omega)
              subst hA6
              have hcell := text_atQ (HRK.out.below i2) HNK.out hlti
              have hgl2 : gl < wr.heap.size := by have := i2.size; omega
              have hmem : (keysL M s11).getD i ⟨#[]⟩ ∈ keysL M s11 := by
                rw [List.getD_eq_getElem?_getD, List.getElem?_eq_getElem (by rw [HNK.out]; exact hlti)]; exact List.getElem_mem _
              generalize (keysL M s11).getD i ⟨#[]⟩ = key at hcell hmem
              have I1 := Lib.hid i1
              have I2 := Lib.hid i2
              have HMEM := Lib.hid hmem
              clear i1 i2 hmem
              by_cases h32 : 32 < key.size
              · have d32 : decide ((key.size : Int) ≤ 32) = false := by simp; omega
                go_wp2
                go_roundw
                case rel => exact ⟨i + 1, by omega, by go_num, I1.out, I2.out⟩
                case measure => simp [intOf]; omega
              · have d32 : decide ((key.size : Int) ≤ 32) = true := by simp; omega
                have HFZ := Lib.hid (HK2.out.again HMEM.out h32)
                go_wp2_with fail
                refine (fits_any (bm + 1) bm M s11 key wr I1.out (by have := HK2.out.len; omega) (by decide)).mono ?_
                rw [HFZ.out]
                rintro e w7 ⟨v7, rfl, he7, hb7⟩
                obtain rfl : v7 = .nilIface := by
                  rcases he7 with ⟨_, h⟩ | ⟨h, _⟩
                  · exact h
                  · exact absurd rfl h
                have I17 := Lib.hid (I1.out.below hb7)
                have I27 := Lib.hid (below_step I2.out hb7)
                clear he7 hb7 hcell
                go_wp2
                go_roundw
                case rel => exact ⟨i + 1, by omega, by go_num, I17.out, I27.out⟩
                case measure => simp [intOf]; omega
            · have I1 := Lib.hid i1
              have I2 := Lib.hid (below_step HB6.out i2)
              clear i1 i2
              go_wp2
              go_roundw
              case rel => exact ⟨n + 1, M, by omega, by go_num, HK2.out, I1.out, I2.out⟩
              case measure => simp [intOf]; omega
      | false =>
        go_wp2_with fail
        refine (fits_any (bm + 1) bm L s11 kk _ J1.out (by omega) (by decide)).mono ?_
        rintro e w6 ⟨vf, rfl, hef, hbf⟩
        have J12 := Lib.hid (J1.out.below hbf)
        have J22 := Lib.hid (below_step J2.out hbf)
        have HBL2 := Lib.hid (HBL.out.below hbf (by simp))
        have HEF := Lib.hid hef
        clear hbf hef J1 J2 HBL e0 e1 e2 e3 e4 e5 e6 e7 e8 e9 hbb
        by_cases fz : fitsC L s11 kk = 0
        · obtain rfl : vf = .nilIface := by
            rcases HEF.out with ⟨_, h⟩ | ⟨h, _⟩
            · exact h
            · exact absurd fz h
          have q : kk.toList.isEmpty = false := by
            cases hq : kk.toList.isEmpty with
            | false => rfl
            | true =>
              unfold fitsC at fz
              rw [if_pos (.inl hq)] at fz
              cases fz
          have HQE := Lib.hid q
          have HFZ0 := Lib.hid fz
          clear fz
          obtain ⟨k0, k1, k2, k3, k4, k5, k6, k7, k8, k9⟩ := cells10 HBL2.out
          have kl := (HBL2.out).lt
          have HK2 := Lib.hid (HK.out.next (k := kk) HQE.out ⟨(n : Int) + 2, 1, v, false, lf⟩ (.inr HFZ0.out))
          go_wp2_with fail
          refine (apply_any (bm + 1) bm L rg nm ((n : Int) + 2) 1 dA dn dc s11 kk v false lf _ J12.out (by decide) HXK.out.2).mono ?_
          rintro e w5 ⟨rfl, hs5, hk5⟩
          have HS5 := Lib.hid hs5
          have HB5 := Lib.hid (below_keeps (J22.out) (Nat.le_refl _) hk5 (fun i hi e => by omega))
          generalize takeL L (s11, kk) ⟨(n : Int) + 2, 1, v, false, lf⟩ = M at *
          generalize newC _ _ = nb
          clear hs5 hk5 k0 k1 k2 k3 k4 k5 k6 k7 k8 k9 kl
          go_wp2_with fail
          refine (keys_any (bm + 1) bm M s11 w5 HS5.out (by have := HK2.out.len; omega)).mono ?_
          rintro e w6 ⟨vk, rfl, hvk, hb6⟩
          obtain ⟨A6, c6, rfl⟩ := ownsRow_slice hvk
          have HRK := Lib.hid (Reads.of_own hvk)
          have HS6 := Lib.hid (HS5.out.below hb6)
          have HB6 := Lib.hid (below_step HB5.out hb6)
          have hfew := HK2.out.few
          obtain ⟨nk, hnk⟩ : ∃ nk, (keysL M s11).length = nk := ⟨_, rfl⟩
          rw [hnk] at HRK hfew ⊢
          have HNK := Lib.hid hnk
          clear hvk hb6 hnk
          have d16 : decide ((16 : Int) < (nk : Int)) = false := by simp; omega
          go_wp2_with fail
          go_loopw [55] (fun si wr => ∃ i : Nat, i ≤ nk ∧ si = .int .i64 i ∧ StI wr (bm + 1) bm M ∧ Below w6.heap.size w6 wr) (fun si _ => nk - (intOf si).toNat)
          case atStart => exact ⟨0, by omega, rfl, HS6.out, Below.refl _ _⟩
          case round =>
            clear HS6
            obtain ⟨i, hi, rfl, i1, i2⟩ := hrel
            by_cases hlti : i < nk
            · obtain ⟨gl, offl, hA6, hgl⟩ := HRK.out.at_some (by omega)
              subst hA6
              have hcell := text_atQ (HRK.out.below i2) HNK.out hlti
              have hgl2 : gl < wr.heap.size := by have := i2.size; omega
              have hmem : (keysL M s11).getD i ⟨#[]⟩ ∈ keysL M s11 := by
                rw [List.getD_eq_getElem?_getD, List.getElem?_eq_getElem (by rw [HNK.out]; exact hlti)]; exact List.getElem_mem _
              generalize (keysL M s11).getD i ⟨#[]⟩ = key at hcell hmem
              have I1 := Lib.hid i1
              have I2 := Lib.hid i2
              have HMEM := Lib.hid hmem
              clear i1 i2 hmem
              by_cases h32 : 32 < key.size
              · have d32 : decide ((key.size : Int) ≤ 32) = false := by simp; omega
                go_wp2
                go_roundw
                case rel => exact ⟨i + 1, by omega, by go_num, I1.out, I2.out⟩
                case measure => simp [intOf]; omega
              · have d32 : decide ((key.size : Int) ≤ 32) = true := by simp; omega
                have HFZ := Lib.hid (HK2.out.again HMEM.out h32)
                go_wp2_with fail
                refine (fits_any (bm + 1) bm M s11 key wr I1.out (by have := HK2.out.len; omega) (by decide)).mono ?_
                rw [HFZ.out]
                rintro e w7 ⟨v7, rfl, he7, hb7⟩
                obtain rfl : v7 = .nilIface := by
                  rcases he7 with ⟨_, h⟩ | ⟨h, _⟩
                  · exact h
                  · exact absurd rfl h
                have I17 := Lib.hid (I1.out.below hb7)
                have I27 := Lib.hid (below_step I2.out hb7)
                clear he7 hb7 hcell
                go_wp2
                go_roundw
                case rel => exact ⟨i + 1, by omega, by go_num, I17.out, I27.out⟩
                case measure => simp [intOf]; omega
            · have I1 := Lib.hid i1
              have I2 := Lib.hid (below_step HB6.out i2)
              clear i1 i2
              go_wp2
              go_roundw
              case rel => exact ⟨n + 1, M, by omega, by go_num, HK2.out, I1.out, I2.out⟩
              case measure => simp [intOf]; omega
        · obtain ⟨ge, rfl⟩ := HEF.out.form fz
          clear fz
          go_wp2
          go_roundw
          case rel => exact ⟨n + 1, L, by omega, by go_num, Keep.more_ HK.out, J12.out, J22.out⟩
          case measure => simp [intOf]; omega
    · obtain rfl : m = n := by omega
      go_wp2
      go_ret
      exact ⟨rfl, I2.out⟩
end Go.Proofs.YtfcgffemdcfiiaaDoor.wQuotaKeeps
