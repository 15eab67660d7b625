/- The walk of the law StoreShows: it returns true; nothing that was there is written. -/
import Derived.Test.YtgfamdakjcjdkaaCountS
namespace Go.Proofs.Ytgfamdakjcjdkaa.wStoreShows
open Go Go.RowKit Go.Proofs.Ytgfamdakjcjdkaa.base Go.Proofs.Ytgfamdakjcjdkaa.err Go.Proofs.Ytgfamdakjcjdkaa.above Go.Proofs.Ytgfamdakjcjdkaa.law Go.Proofs.Ytgfamdakjcjdkaa.merge Go.Proofs.Ytgfamdakjcjdkaa.rows Go.Proofs.Ytgfamdakjcjdkaa.rowe Go.Proofs.Ytgfamdakjcjdkaa.monoj Go.Proofs.Ytgfamdakjcjdkaa.store

theorem neq_cell (a b : C) (w : World) : (binOp .neq 48 (cval a) (cval b)).run Try.prog w = .ok (.bool (!cellEq a b)) w := by
  have u1 := Try.underlying48
  have u2 := Try.underlying29
  obtain ⟨t, r, v, g, l⟩ := a
  obtain ⟨t', r', v', g', l'⟩ := b
  unfold cval cellEq
  dsimp only
  cases h3 : (t == t')
  · go_simp
  cases h4 : (r == r')
  · go_simp
  cases h5 : (v.toList == v'.toList)
  · go_simp
  cases h6 : (g == g')
  · go_simp
  cases h7 : (l == l') <;> go_simp
theorem text_at {w : World} {b off B n : Nat} {l : List ByteArray} (h : Reads w B 1 (some ⟨b, off, none⟩) n (l.map Value.string)) (hl : l.length = n) {k : Nat} (hk : k < n) : w.cell? ⟨b, off + k, none⟩ = some (.string (l.getD k ⟨#[]⟩)) := by
  obtain ⟨b', off', e, _, hc⟩ := h.2 (by omega)
  injection e with e; injection e with e1 e2 _
  subst e1 e2
  rw [hc k (by simp; omega), List.getElem?_map, List.getElem?_eq_getElem (by omega), List.getD_eq_getElem?_getD, List.getElem?_eq_getElem (by omega)]
  rfl
set_option maxRecDepth 100000 in
set_option maxHeartbeats 4000000 in
theorem walk (v0 : Value) (w : World) (a0 : Arg Try.prog w 22 v0) :
    Calls Try.prog 6 #[v0] w fun e w' => e = .returned (.bool true) ∧ Below w.heap.size w w' := by
  obtain ⟨A, m, c, l, rfl, hl, hm, hw⟩ := lst_of a0
  clear a0
  have HL := Lib.hid hl
  have HW := Lib.hid hw
  clear hl hw
  unfold maxLen at hm
  cases hg : greatW l with
  | true =>
    have HG := Lib.hid hg
    clear hg
    go_enter Try.func6, Try.ntmps6
    go_wp2_with fail
    refine (awake_any _).mono ?_
    rintro e w1 ⟨rfl, hb1⟩
    go_wp2_with fail
    refine (great_any _ l w1 (HW.out.below hb1)).mono ?_
    rintro e w2 ⟨rfl, hb2⟩
    rw [HG.out]
    have HB := Lib.hid (below_step hb1 hb2)
    clear hb1 hb2
    go_wp2
    go_ret
    exact ⟨rfl, HB.out⟩
  | false =>
  have h80 : m ≤ 80 := by have := great_few hg; have := HL.out.len; omega
  have HG := Lib.hid hg
  clear hg
  go_enter Try.func6, Try.ntmps6
  go_wp2_with fail
  refine (awake_any _).mono ?_
  rintro e w1 ⟨rfl, hb1⟩
  go_wp2_with fail
  refine (great_any _ l w1 (HW.out.below hb1)).mono ?_
  rintro e w3 ⟨rfl, hb2⟩
  rw [HG.out]
  have HB3 := Lib.hid (below_step hb1 hb2)
  clear hb1 hb2
  go_wp2_with fail
  refine (new_any w3).mono ?_
  rintro e w4 ⟨rfl, h4, hb4⟩
  have H4 := Lib.hid h4
  have HB4 := Lib.hid (below_step HB3.out hb4)
  have hws := HB3.out.size
  clear h4 hb4 HB3 HW HG
  generalize w3.heap.size = bm at *
  go_wp2_with fail
  go_loopw [20] (fun i wr => ∃ n : Nat, n ≤ m ∧ i = .int .i64 n ∧ StI wr (bm + 1) bm (appL [] (l.take n)) ∧ Below w.heap.size w wr) (fun i _ => m - (intOf i).toNat)
  case atStart => exact ⟨0, by omega, rfl, H4.out, HB4.out⟩
  case round =>
    clear H4 HB4
    obtain ⟨n, hn, rfl, i1, i2⟩ := hrel
    have I1 := Lib.hid i1
    have I2 := Lib.hid i2
    clear i1 i2
    by_cases hlt : n < m
    · skip
      obtain ⟨bb, off, rfl, hbb, hc, hxk⟩ := HL.out.cells I2.out hlt
      obtain ⟨e0, e1, e2, e3, e4, e5, e6, e7, e8, e9⟩ := ten_of hc
      generalize hX : l.getD n wtZ = x at *
      have HX := Lib.hid hX
      obtain ⟨rg, nm, t, r, dA, dn, dc, se, kk, v, gn, lf⟩ := x
      dsimp only at e0 e1 e2 e3 e4 e5 e6 e7 e8 e9
      have HXK := Lib.hid hxk
      clear hc hxk hX
      have hbx := below_new wr (.cells #[.int .i64 rg, .int .i64 nm, .int .i64 t, .int .i64 r, .slice dA dn dc, .string se, .string kk, .string v, .bool gn, .int .i64 lf] 33)
      have HBX := Lib.hid hbx
      clear hbx
      go_wp2_with fail
      refine (wt_apply _ _ _ ⟨rg, nm, t, r, dA, dn, dc, se, kk, v, gn, lf⟩ _ (I1.out.below HBX.out) HXK.out).mono ?_
      rintro e w5 ⟨rfl, hs1, hk1⟩
      generalize newC _ _ = nb
      have q5 : takeL (appL [] (l.take n)) (Wt.name ⟨rg, nm, t, r, dA, dn, dc, se, kk, v, gn, lf⟩) (Wt.cell ⟨rg, nm, t, r, dA, dn, dc, se, kk, v, gn, lf⟩) = appL [] (l.take (n + 1)) := by
        rw [appL_take _ _ _ (by rw [HL.out.len]; exact hlt), HX.out]
      rw [q5] at hs1
      have HS1 := Lib.hid hs1
      have HB5 := Lib.hid (below_keeps (below_step I2.out HBX.out) (Nat.le_refl _) hk1 (fun i hi e => by omega))
      clear q5 hs1 hk1 e0 e1 e2 e3 e4 e5 e6 e7 e8 e9 HX HXK hbb
      go_wp2
      go_roundw
      case rel => exact ⟨n + 1, by omega, by go_num, HS1.out, HB5.out⟩
      case measure => simp [intOf]; omega
    · obtain rfl : m = n := by omega
      rw [List.take_of_length_le (by rw [HL.out.len]; omega)] at I1
      have hla : (appL [] l).length ≤ 80 := by have := appL_len [] l; have := HL.out.len; simp at *; omega
      generalize appL [] l = L at *
      have hsl := showL_len L
      go_wp2_with fail
      refine (shows_any _ _ _ _ I1.out (by omega)).mono ?_
      rintro e w5 ⟨va, rfl, hva, hb5⟩
      obtain ⟨A1, c1, rfl, hra⟩ := own_reads hva
      have HS5 := Lib.hid (I1.out.below hb5)
      have HB5 := Lib.hid (below_step I2.out hb5)
      have HRD := Lib.hid hra
      obtain ⟨ns, hns⟩ : ∃ ns, (showL L).length = ns := ⟨_, rfl⟩
      rw [hns] at HRD hsl ⊢
      have HNS := Lib.hid hns
      have hws5 := HB5.out.size
      clear hva hra hb5 I1 I2 hns
      go_wp2_with fail
      go_loopw [31] (fun i wr => ∃ n : Nat, n ≤ ns ∧ i = .int .i64 n ∧ StI wr (bm + 1) bm L ∧ Below w5.heap.size w5 wr) (fun i _ => ns - (intOf i).toNat)
      case atStart => exact ⟨0, by omega, rfl, HS5.out, Below.refl _ _⟩
      case round =>
        clear HS5
        obtain ⟨k, hk, rfl, i1, i2⟩ := hrel
        by_cases hlt2 : k < ns
        · obtain ⟨gr, off, rfl, hgr⟩ := HRD.out.at_some (by omega)
          have hc := row_at' (HRD.out.below i2) HNS.out hlt2
          have hsz := i2.size
          have hbl : gr < wr.heap.size := by omega
          have hmem : (showL L).getD k rZ ∈ showL L := getD_mem (by rw [HNS.out]; exact hlt2)
          obtain ⟨x, hx⟩ : ∃ x, (showL L).getD k rZ = x := ⟨_, rfl⟩
          rw [hx] at hc hmem
          have hup := i1.up
          have hok := i1.ok x (mem_show hmem).1
          obtain ⟨e0, e1, e2, e3, e4, e5, e6⟩ := seven_of hc
          obtain ⟨⟨x1, x2⟩, ⟨t, r, v, gn, lf⟩⟩ := x
          dsimp only at e0 e1 e2 e3 e4 e5 e6
          have hbx := below_new wr (.cells #[.string x1, .string x2, .int .i64 t, .int .i64 r, .string v, .bool gn, .int .i64 lf] 50)
          have I1 := Lib.hid (i1.below hbx)
          have I2 := Lib.hid (i2.trans (hbx.mono hsz))
          have HBX := Lib.hid (Blk.new wr 50 #[.string x1, .string x2, .int .i64 t, .int .i64 r, .string v, .bool gn, .int .i64 lf])
          have HOK := Lib.hid hok
          have HMEM := Lib.hid hmem
          have HUP := Lib.hid hup
          clear hx hc hmem i1 i2 hbx hok hup
          cases he : x2.toList.isEmpty with
          | true =>
            have hhd := show_head HUP.out HMEM.out he
            dsimp only at hhd
            have HHD := Lib.hid hhd
            have hnc := neq_cell ⟨t, r, v, gn, lf⟩ ⟨t, r, v, gn, lf⟩
            rw [cellEq_self] at hnc
            have HNC := Lib.hid hnc
            clear hhd hnc
            go_wp2_with fail
            refine wp_region_mono nobody (by kernel_rfl) ?_
            -- 0 Op.move (Operand.tmp 3)
            refine wpMono_take' 0 (v := ?_) rfl (by kernel_rfl) (by kernel_rfl) (by kernel_rfl) (fun _ _ _ h => h) (by rfl) ?_ ?_
            rotate_left
            · (intro W hSw; (try ((first | (have hk := HBX5.out.keeps hSw (fun h => h)) | (have hk := HBX.out.drew.keeps hSw (fun h => h))); (obtain ⟨d0, d1, d2, d3, d4, d5, d6⟩ := cells7 hk); (have dl := hk.lt)))
               go_simp; first | done | rfl)
            try simp only [Act.put, List.setIfInBounds_toArray, List.set_cons_zero, List.set_cons_succ]
            -- 1 Op.fieldAddr 50 (Operand.tmp 7) 0
            refine wpMono_take' 1 (v := ?_) rfl (by kernel_rfl) (by kernel_rfl) (by kernel_rfl) (fun _ _ _ h => h) (by rfl) ?_ ?_
            rotate_left
            · (intro W hSw; (try ((first | (have hk := HBX5.out.keeps hSw (fun h => h)) | (have hk := HBX.out.drew.keeps hSw (fun h => h))); (obtain ⟨d0, d1, d2, d3, d4, d5, d6⟩ := cells7 hk); (have dl := hk.lt)))
               go_simp; first | done | rfl)
            try simp only [Act.put, List.setIfInBounds_toArray, List.set_cons_zero, List.set_cons_succ]
            -- 2 Op.load 9 (Operand.tmp 39)
            refine wpMono_take' 2 (v := ?_) rfl (by kernel_rfl) (by kernel_rfl) (by kernel_rfl) (fun _ _ _ h => h) (by rfl) ?_ ?_
            rotate_left
            · (intro W hSw; (try ((first | (have hk := HBX5.out.keeps hSw (fun h => h)) | (have hk := HBX.out.drew.keeps hSw (fun h => h))); (obtain ⟨d0, d1, d2, d3, d4, d5, d6⟩ := cells7 hk); (have dl := hk.lt)))
               go_simp; first | done | rfl)
            try simp only [Act.put, List.setIfInBounds_toArray, List.set_cons_zero, List.set_cons_succ]
            -- 4 Op.fieldAddr 50 (Operand.tmp 7) 2
            refine wpMono_take' 4 (v := ?_) rfl (by kernel_rfl) (by kernel_rfl) (by kernel_rfl) (fun _ _ _ h => h) (by rfl) ?_ ?_
            rotate_left
            · (intro W hSw; (try ((first | (have hk := HBX5.out.keeps hSw (fun h => h)) | (have hk := HBX.out.drew.keeps hSw (fun h => h))); (obtain ⟨d0, d1, d2, d3, d4, d5, d6⟩ := cells7 hk); (have dl := hk.lt)))
               go_simp; first | done | rfl)
            try simp only [Act.put, List.setIfInBounds_toArray, List.set_cons_zero, List.set_cons_succ]
            -- 5 Op.load 48 (Operand.tmp 42)
            refine wpMono_take' 5 (v := ?_) rfl (by kernel_rfl) (by kernel_rfl) (by kernel_rfl) (fun _ _ _ h => h) (by rfl) ?_ ?_
            rotate_left
            · (intro W hSw; (try ((first | (have hk := HBX5.out.keeps hSw (fun h => h)) | (have hk := HBX.out.drew.keeps hSw (fun h => h))); (obtain ⟨d0, d1, d2, d3, d4, d5, d6⟩ := cells7 hk); (have dl := hk.lt)))
               go_simp; first | done | rfl)
            try simp only [Act.put, List.setIfInBounds_toArray, List.set_cons_zero, List.set_cons_succ]
            -- EFFECT 3 Op.call { callee := Callee.value (Operand.func 19), args := #[Operand.tmp 38, Operand.tmp 40], argTypes := #[25, 9] }
            refine wpMono_one' 3 (by kernel_rfl) rfl (by rfl) (fun K hK => ?_)
            go_simp
            refine (head_any (bm + 1) bm L x1 _ (I1.out.below (Below.refl _ _).drew) HOK.out.1).mono ?_
            rintro e w6 ⟨rfl, hb6⟩
            rw [HHD.out]
            have HB6 := Lib.hid hb6
            have HBX5 := Lib.hid (HBX.out.drew.below hb6 (by simp))
            clear hb6
            refine hK.out _ _ ?_ ?_
            · exact .of_below HB6.out
            clear hK K
            try simp only [Act.put, List.setIfInBounds_toArray, List.set_cons_zero, List.set_cons_succ]
            -- 6 Op.binOp BinOp.neq 48 (Operand.tmp 41) (Operand.tmp 43) 48
            refine wpMono_take' 6 (v := ?_) rfl (by kernel_rfl) (by kernel_rfl) (by kernel_rfl) (fun _ _ _ h => h) (by rfl) ?_ ?_
            rotate_left
            · (intro W hSw; first | ((refine exec_neq 48 48 (.tmp 41) (.tmp 43) ?_ _ _ ?_ ?_ ?_ _ (HNC.out W); rfl; rfl; rfl; kernel_rfl)) | ((try ((first | (have hk := HBX5.out.keeps hSw (fun h => h)) | (have hk := HBX.out.drew.keeps hSw (fun h => h))); (obtain ⟨d0, d1, d2, d3, d4, d5, d6⟩ := cells7 hk); (have dl := hk.lt))); go_simp; done) | ((try ((first | (have hk := HBX5.out.keeps hSw (fun h => h)) | (have hk := HBX.out.drew.keeps hSw (fun h => h))); (obtain ⟨d0, d1, d2, d3, d4, d5, d6⟩ := cells7 hk); (have dl := hk.lt))); go_simp; rfl))
            try simp only [Act.put, List.setIfInBounds_toArray, List.set_cons_zero, List.set_cons_succ]
            refine wpMono_done (by kernel_rfl) ?_ _
            have I16 := Lib.hid ((I1.out.below (Below.refl _ _).drew).below HB6.out)
            have hz0 : w5.heap.size ≤ (wr.alloc (.cells #[.string x1, .string x2, .int .i64 t, .int .i64 r, .string v, .bool gn, .int .i64 lf] 50)).drew.heap.size := by simp; omega
            have I26 := Lib.hid (I2.out.drew.trans (HB6.out.mono hz0))
            clear HB6 HBX5 HBX I1 I2 HHD HNC HMEM HOK e0 e1 e2 e3 e4 e5 e6
            go_wp2
            go_roundw
            case rel => exact ⟨k + 1, by omega, by go_num, I16.out, I26.out⟩
            case measure => simp [intOf]; omega
          | false =>
            have hgt := show_get HUP.out HMEM.out he
            dsimp only at hgt
            have hat := at_mem HUP.out (mem_show HMEM.out).1
            dsimp only at hat
            have HGT := Lib.hid hgt
            have HAT := Lib.hid hat
            clear hgt hat
            go_wp2_with fail
            refine (get_any (bm + 1) bm L x1 x2 _ I1.out HOK.out.1 HOK.out.2 (atL L (x1, ⟨#[]⟩)) (atL L (x1, x2)) rfl rfl).mono ?_
            unfold GetR GetK
            rw [HGT.out]
            rintro e w6 ⟨er, rfl, heo, hb6⟩
            obtain rfl : er = .nilIface := by
              rcases heo with ⟨_, h⟩ | ⟨h, _⟩
              · exact h
              · exact absurd rfl h
            rw [if_pos rfl, HAT.out]
            dsimp only
            have I16 := Lib.hid (I1.out.below hb6)
            have I26 := Lib.hid (I2.out.trans (hb6.mono (by simp; omega)))
            have hx6 := HBX.out.below hb6 (by simp)
            obtain ⟨d0, d1, d2, d3, d4, d5, d6⟩ := cells7 hx6
            have dl := hx6.lt
            clear hb6 heo hx6 HBX I1 I2 HMEM HOK e0 e1 e2 e3 e4 e5 e6
            go_wp2
            go_roundw
            case rel => exact ⟨k + 1, by omega, by go_num, I16.out, I26.out⟩
            case measure => simp [intOf]; omega
        · obtain rfl : ns = k := by omega
          have I1 := Lib.hid i1
          have I2 := Lib.hid (below_step HB5.out i2)
          clear i1 i2 HRD
          go_wp2_with fail
          refine (lives_any (bm + 1) bm L _ I1.out (by omega)).mono ?_
          rintro e w6 ⟨va, rfl, hva, hb6⟩
          obtain ⟨A2, c2, rfl⟩ := ownsRow_slice hva
          have hrl := Reads.of_own hva
          have HS6 := Lib.hid (I1.out.below hb6)
          have HB6 := Lib.hid (below_step I2.out hb6)
          have HRL := Lib.hid hrl
          have hll : (livesL L).length ≤ L.length := by unfold livesL; rw [List.length_map]; exact List.length_filter_le _ _
          obtain ⟨nl, hnl⟩ : ∃ nl, (livesL L).length = nl := ⟨_, rfl⟩
          rw [hnl] at HRL hll ⊢
          have HNL := Lib.hid hnl
          have hws6 := HB6.out.size
          clear hva hrl hb6 I1 I2 hnl HB5
          go_wp2_with fail
          go_loopw [10, 67] (fun sn si wr => ∃ n : Nat, n ≤ nl ∧ si = .int .i64 n ∧ sn = .int .i64 (sumK L ((livesL L).take n) : Nat) ∧ StI wr (bm + 1) bm L ∧ Below w6.heap.size w6 wr) (fun _ si _ => nl - (intOf si).toNat)
          case atStart => exact ⟨0, by omega, rfl, rfl, HS6.out, Below.refl _ _⟩
          case round =>
            clear HS6
            obtain ⟨n, hn, rfl, rfl, i1, i2⟩ := hrel
            have hsum := (sumK_le L ((livesL L).take n)).2
            have htl : ((livesL L).take n).length ≤ 80 := by rw [List.length_take]; omega
            have hsum2 : sumK L ((livesL L).take n) ≤ 80 * 81 := by
              have : ((livesL L).take n).length * (1 + L.length) ≤ 80 * 81 := Nat.mul_le_mul htl (by omega)
              omega
            clear hsum htl
            by_cases hlt3 : n < nl
            · obtain ⟨gl, offl, hA2, hgl⟩ := HRL.out.at_some (by omega)
              subst hA2
              have hcell := text_at (HRL.out.below i2) HNL.out hlt3
              have hgl2 : gl < wr.heap.size := by have := i2.size; omega
              have hsn : sumK L ((livesL L).take (n + 1)) = sumK L ((livesL L).take n) + (1 + (keysL L ((livesL L).getD n ⟨#[]⟩)).length) := by
                rw [List.take_succ_eq_append_getElem (by rw [HNL.out]; exact hlt3), sumK_append, List.getD_eq_getElem?_getD, List.getElem?_eq_getElem (by rw [HNL.out]; exact hlt3)]; rfl
              have hkl : (keysL L ((livesL L).getD n ⟨#[]⟩)).length ≤ L.length := by unfold keysL; rw [List.length_map]; exact List.length_filter_le _ _
              generalize (livesL L).getD n ⟨#[]⟩ = s at hcell hsn hkl
              have HSN := Lib.hid hsn
              have I1 := Lib.hid i1
              have I2 := Lib.hid i2
              clear i1 i2 hsn
              go_wp2_with fail
              refine (keys_any (bm + 1) bm L s _ I1.out (by omega)).mono ?_
              rintro e w7 ⟨vk, rfl, hvk, hb7⟩
              obtain ⟨A3, c3, rfl⟩ := ownsRow_slice hvk
              have I17 := Lib.hid (I1.out.below hb7)
              have I27 := Lib.hid (I2.out.trans (hb7.mono (by have := I2.out.size; omega)))
              clear hvk hb7 I1 I2 hcell
              go_wp2
              go_roundw
              case rel => exact ⟨n + 1, by omega, by go_num, by rw [HSN.out]; go_num, I17.out, I27.out⟩
              case measure => simp [intOf]; omega
            · obtain rfl : nl = n := by omega
              rw [List.take_of_length_le (by rw [HNL.out]; omega), count_all i1.up, HNS.out]
              have I1 := Lib.hid i1
              have I2 := Lib.hid (below_step HB6.out i2)
              clear i1 i2 hsum2
              go_wp2_with fail
              refine (shows_any _ _ _ _ I1.out (by omega)).mono ?_
              rintro e w7 ⟨va, rfl, hva, hb7⟩
              obtain ⟨A4, c4, rfl, _⟩ := own_reads hva
              have HB7 := Lib.hid (below_step I2.out hb7)
              rw [HNS.out]
              clear hva hb7
              go_wp2
              go_ret
              exact ⟨ret_bool (by simp), HB7.out⟩
end Go.Proofs.Ytgfamdakjcjdkaa.wStoreShows
