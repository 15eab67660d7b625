/- The walk of the law QuotaCounts: it returns true; nothing that was there is written. -/
import Derived.Test.YtfcgffemdcfiiaaGreatDoorRefOQ
namespace Go.Proofs.YtfcgffemdcfiiaaGreatDoor.wQuotaCounts
open Go Go.RowKit Go.Proofs.YtfcgffemdcfiiaaGreatDoor.base Go.Proofs.YtfcgffemdcfiiaaGreatDoor.dec Go.Proofs.YtfcgffemdcfiiaaGreatDoor.err Go.Proofs.YtfcgffemdcfiiaaGreatDoor.above Go.Proofs.YtfcgffemdcfiiaaGreatDoor.law Go.Proofs.YtfcgffemdcfiiaaGreatDoor.merge Go.Proofs.YtfcgffemdcfiiaaGreatDoor.rows Go.Proofs.YtfcgffemdcfiiaaGreatDoor.rowe Go.Proofs.YtfcgffemdcfiiaaGreatDoor.store Go.Proofs.YtfcgffemdcfiiaaGreatDoor.quota

theorem few_big {l : List Wt} (h : greatW l = false) {k : Nat} (hk : k < l.length) : (l.getD k wtZ).ss.size ≤ 1000 := by
  unfold greatW at h
  simp only [Bool.or_eq_false_iff] at h
  have h2 := List.any_eq_false.1 h.2 (l.getD k wtZ) (by rw [List.getD_eq_getElem?_getD, List.getElem?_eq_getElem hk]; exact List.getElem_mem _)
  unfold bigW at h2
  simp only [Bool.or_eq_true, decide_eq_true_eq, not_or] at h2
  omega
theorem short_take {L : List R} (h : Short L) (x : Nm) (c : C) (hx : x.1.size ≤ 1000000) : Short (takeL L x c) := fun p hp => by
  rcases mem_put hp with rfl | hp
  · exact hx
  · exact h p hp
/-- a store and the document's, side by side; w0 is as it was -/
structure Pl (w0 : World) (g bm gr : Nat) (L : List R) (w : World) : Prop where
  st : StI w g bm L
  rf : Ref w gr L
  sh : Short L
  bel : Below w0.heap.size w0 w
  lo1 : w0.heap.size ≤ bm
  lo2 : w0.heap.size ≤ gr
theorem Pl.below {w0 w w' : World} {g bm gr : Nat} {L : List R} (h : Pl w0 g bm gr L w) (hb : Below w.heap.size w w') : Pl w0 g bm gr L w' := ⟨h.st.below hb, h.rf.below hb, h.sh, below_step h.bel hb, h.lo1, h.lo2⟩
theorem pl_step {w0 w w1 w2 : World} {g bm gr : Nat} {L M : List R} (h : Pl w0 g bm gr L w) (hs : StI w1 g bm M) (hk : Keeps (· = bm) w w1) (hs2 : Ref w2 gr M) (hk2 : Keeps (· = gr) w1 w2) (hm : Short M) (hr1 : Ref w1 gr L) : Pl w0 g bm gr M w2 := by
  have hb1 : Below w0.heap.size w0 w1 := below_keeps h.bel (Nat.le_refl _) hk (fun i hi e => by have := h.lo1; omega)
  refine ⟨?_, hs2, hm, below_keeps hb1 (Nat.le_refl _) hk2 (fun i hi e => by have := h.lo2; omega), h.lo1, h.lo2⟩
  obtain ⟨A, c, hr⟩ := hr1
  exact hs.keepsRef hr.blk hk2
set_option maxRecDepth 100000 in
set_option maxHeartbeats 16000000 in
theorem walk (v0 v1 v2 : Value) (w : World) (a0 : Arg Tryz.prog w 22 v0) (a1 : Arg Tryz.prog w 9 v1) (a2 : Arg Tryz.prog w 9 v2) (ht : Tabs w) :
    Calls Tryz.prog 3 #[v0, v1, v2] w fun e w' => e = .returned (.bool true) ∧ Below w.heap.size w w' := by
  obtain ⟨A, m, c, l, rfl, hl, hm, hw⟩ := lst_of a0
  obtain ⟨ses, rfl, hss⟩ := a1.string Tryz.underlying9
  obtain ⟨key, rfl, hks⟩ := a2.string Tryz.underlying9
  clear a0 a1 a2
  have HL := Lib.hid hl
  have HW := Lib.hid hw
  have HSS := Lib.hid hss
  have HT := Lib.hid ht
  clear hl hw hss hks ht
  unfold maxLen at hm
  cases hg : greatW l with
  | true =>
    have HG := Lib.hid hg
    clear hg
    go_enter Tryz.func3, Tryz.ntmps3
    go_wp2_with fail
    refine (Go.Proofs.YtfcgffemdcfiiaaGreatDoor.quota.awake_any w HT.out).mono ?_
    rintro e w1 ⟨rfl, hb1⟩
    go_wp2_with fail
    refine (great_any _ l w1 (HW.out.below hb1)).mono ?_
    rintro e w2 ⟨rfl, hb2⟩
    rw [HG.out]
    have HB := Lib.hid (below_step hb1 hb2)
    clear hb1 hb2
    go_wp2
    go_ret
    exact ⟨rfl, HB.out⟩
  | false =>
  have h80 : m ≤ 80 := by have := great_few hg; have := HL.out.len; omega
  have HG := Lib.hid hg
  clear hg
  by_cases hs1 : 1000 < ses.size
  · skip
    go_enter Tryz.func3, Tryz.ntmps3
    go_wp2_with fail
    refine (Go.Proofs.YtfcgffemdcfiiaaGreatDoor.quota.awake_any w HT.out).mono ?_
    rintro e w1 ⟨rfl, hb1⟩
    go_wp2_with fail
    refine (great_any _ l w1 (HW.out.below hb1)).mono ?_
    rintro e w2 ⟨rfl, hb2⟩
    rw [HG.out]
    have HB := Lib.hid (below_step hb1 hb2)
    clear hb1 hb2
    go_wp2
    go_ret
    exact ⟨rfl, HB.out⟩
  by_cases hs2 : 1000 < key.size
  · skip
    go_enter Tryz.func3, Tryz.ntmps3
    go_wp2_with fail
    refine (Go.Proofs.YtfcgffemdcfiiaaGreatDoor.quota.awake_any w HT.out).mono ?_
    rintro e w1 ⟨rfl, hb1⟩
    go_wp2_with fail
    refine (great_any _ l w1 (HW.out.below hb1)).mono ?_
    rintro e w2 ⟨rfl, hb2⟩
    rw [HG.out]
    have HB := Lib.hid (below_step hb1 hb2)
    clear hb1 hb2
    go_wp2
    go_ret
    exact ⟨rfl, HB.out⟩
  go_enter Tryz.func3, Tryz.ntmps3
  go_wp2_with fail
  refine (Go.Proofs.YtfcgffemdcfiiaaGreatDoor.quota.awake_any w HT.out).mono ?_
  rintro e w1 ⟨rfl, hb1⟩
  go_wp2_with fail
  refine (great_any _ l w1 (HW.out.below hb1)).mono ?_
  rintro e w3 ⟨rfl, hb2⟩
  rw [HG.out]
  have HB3 := Lib.hid (below_step hb1 hb2)
  clear hb1 hb2
  go_wp2_with fail
  refine (new_any w3).mono ?_
  rintro e w4 ⟨rfl, h4, hb4⟩
  have hws := HB3.out.size
  have h4w := h4.lt
  have hbx := below_new w4 (.cells #[.slice none 0 0] refST)
  have HP := Lib.hid (show Pl w (w3.heap.size + 1) w3.heap.size w4.heap.size [] (w4.alloc (.cells #[.slice none 0 0] refST)) from ⟨h4.below hbx, ⟨none, 0, Blk.new w4 refST #[.slice none 0 0], ⟨rfl, fun h => absurd h (by decide)⟩⟩, fun p hp => (List.not_mem_nil hp).elim, below_step (below_step HB3.out hb4) hbx, by omega, by omega⟩)
  clear h4 hb4 hbx HW hs1 hs2 HB3
  generalize w3.heap.size = bm at *
  go_wp2_with fail
  generalize w4.alloc (.cells #[.slice none 0 0] refST) = w5 at *
  generalize w4.heap.size = gr at *
  go_loopw [35] (fun i wr => ∃ (n : Nat) (L : List R), n ≤ m ∧ i = .int .i64 n ∧ Pl w (bm + 1) bm gr L wr ∧ L.length ≤ n) (fun i _ => m - (intOf i).toNat)
  case atStart => exact ⟨0, [], by omega, rfl, HP.out, by simp⟩
  case round =>
    clear HP
    obtain ⟨n, L, hn, rfl, hp, hz⟩ := hrel
    have HP := Lib.hid hp
    clear hp
    by_cases hlt : n < m
    · skip
      obtain ⟨bb, off, rfl, hbb, hc, hxk⟩ := HL.out.cells HP.out.bel hlt
      obtain ⟨e0, e1, e2, e3, e4, e5, e6, e7, e8, e9⟩ := ten_of hc
      have hbig := few_big HG.out (show n < l.length by rw [HL.out.len]; exact hlt)
      generalize hX : l.getD n wtZ = x at *
      obtain ⟨rg, nm, t, r, dA, dn, dc, se, kk, v, gn, lf⟩ := x
      dsimp only at e0 e1 e2 e3 e4 e5 e6 e7 e8 e9
      have HXK := Lib.hid hxk
      have HBIG := Lib.hid hbig
      clear hc hxk hX hbig
      have hbx := below_new wr (.cells #[.int .i64 rg, .int .i64 nm, .int .i64 t, .int .i64 r, .slice dA dn dc, .string se, .string kk, .string v, .bool gn, .int .i64 lf] 36)
      have HB0 := Lib.hid (Blk.new wr 36 #[.int .i64 rg, .int .i64 nm, .int .i64 t, .int .i64 r, .slice dA dn dc, .string se, .string kk, .string v, .bool gn, .int .i64 lf])
      have hl1 := HP.out.st.ltm
      have HXX := Lib.hid (show ¬ wr.heap.size = bm by omega)
      have HP0 := Lib.hid (HP.out.below hbx)
      have hz3 := length_take L (se, kk) ⟨t, r, v, gn, lf⟩
      have HUP := Lib.hid HP0.out.st.up
      have HSM := Lib.hid (short_take HP0.out.sh (se, kk) ⟨t, r, v, gn, lf⟩ (by have := HBIG.out; dsimp only at this ⊢; omega))
      clear hbx HP hl1
      go_wp2_with fail
      refine (wt_apply _ _ _ ⟨rg, nm, t, r, dA, dn, dc, se, kk, v, gn, lf⟩ _ HP0.out.st HXK.out).mono ?_
      rintro e w7 ⟨rfl, hs1, hk1⟩
      have hb5 := HB0.out.keeps hk1 HXX.out
      obtain ⟨k0, k1, k2, k3, k4, k5, k6, k7, k8, k9⟩ := cells10 hb5
      have kl := hb5.lt
      obtain ⟨A9, c9, hr9⟩ := HP0.out.rf
      have HR9 := Lib.hid (hr9.keeps HP0.out.st hk1)
      have HS1 := Lib.hid hs1
      have HK1 := Lib.hid hk1
      generalize newC _ _ = nb
      clear hs1 hk1 hb5 hr9 e0 e1 e2 e3 e4 e5 e6 e7 e8 e9
      go_wp2_with fail
      refine (apply_ref gr A9 c9 L rg nm t r dA dn dc se kk v gn lf _ HR9.out HUP.out (by omega)).mono ?_
      rintro e w8 ⟨rfl, hs2, hk2⟩
      have HP2 := Lib.hid (pl_step HP0.out (M := takeL L (se, kk) ⟨t, r, v, gn, lf⟩) HS1.out HK1.out hs2 hk2 HSM.out ⟨A9, c9, HR9.out⟩)
      clear hs2 hk2 k0 k1 k2 k3 k4 k5 k6 k7 k8 k9 kl
      generalize takeL L (se, kk) ⟨t, r, v, gn, lf⟩ = M at *
      generalize newC _ _ = nb2
      go_wp2
      go_roundw
      case rel => exact ⟨n + 1, M, by omega, by go_num, HP2.out, by omega⟩
      case measure => simp [intOf]; omega
    · obtain rfl : m = n := by omega
      clear HG HL
      go_wp2_with fail
      go_loopw [11] (fun i wr => ∃ r : Nat, r ≤ 18 ∧ i = .int .i64 r ∧ Pl w (bm + 1) bm gr L wr) (fun i _ => 18 - (intOf i).toNat)
      case atStart => exact ⟨0, by omega, rfl, HP.out⟩
      case round =>
        clear HP
        obtain ⟨r, hr, rfl, hp⟩ := hrel
        have HP := Lib.hid hp
        clear hp
        by_cases hlt : r ≤ 17
        · obtain ⟨A9, c9, hr9⟩ := HP.out.rf
          have HR9 := Lib.hid hr9
          clear hr9
          go_wp2_with fail
          refine (opens_ref gr A9 c9 L r wr HR9.out (by omega) HP.out.sh).mono ?_
          rintro e w6 ⟨rfl, hb6⟩
          have HP6 := Lib.hid (HP.out.below hb6)
          clear hb6 HP HR9
          go_wp2_with fail
          refine (room_any (bm + 1) bm L r w6 HP6.out.st (by omega) HP6.out.sh (HT.out.below HP6.out.bel)).mono ?_
          rintro e w7 ⟨v7, rfl, hb7, he7⟩
          have HP7 := Lib.hid (HP6.out.below hb7)
          have HE7 := Lib.hid he7
          clear hb7 he7 HP6
          go_wp2_with fail
          refine (opens_any (bm + 1) bm L r w7 HP7.out.st (by omega) HP7.out.sh (HT.out.below HP7.out.bel)).mono ?_
          rintro e w8 ⟨rfl, hb8⟩
          have HP8 := Lib.hid (HP7.out.below hb8)
          have HB8 := Lib.hid hb8
          clear hb8 HP7
          generalize opensL L r = q at *
          rcases HE7.out with ⟨h32, rfl⟩ | ⟨h32, herr, hnn⟩
          · have d32 : decide ((q : Int) < 32) = true := by simp; omega
            go_wp2
            go_roundw
            case rel => exact ⟨r + 1, by omega, by go_num, HP8.out⟩
            case measure => simp [intOf]; omega
          · have d32 : decide ((q : Int) < 32) = false := by simp; omega
            have HER := Lib.hid (herr.below HB8.out)
            clear herr hnn
            obtain ⟨ge, rfl⟩ := HER.out.form
            go_wp2_with fail
            refine (is_err _ 4 4 w8 HER.out).mono ?_
            rintro e w9 ⟨rfl, hw9⟩
            subst w9
            go_wp2
            go_roundw
            case rel => exact ⟨r + 1, by omega, by go_num, HP8.out⟩
            case measure => simp [intOf]; omega
        · obtain rfl : r = 18 := by omega
          have hup := HP.out.st.up
          have HUP := Lib.hid hup
          clear hup
          go_wp2_with fail
          refine (fits_any (bm + 1) bm L ses key wr HP.out.st (by omega) HSS.out).mono ?_
          rintro e w6 ⟨v6, rfl, he6, hb6⟩
          have HP6 := Lib.hid (HP.out.below hb6)
          have HE6 := Lib.hid he6
          clear hb6 he6 HP
          obtain ⟨A9, c9, hr9⟩ := HP6.out.rf
          have HR9 := Lib.hid hr9
          clear hr9
          go_wp2_with fail
          refine (fits_ref gr A9 c9 L ses key w6 HR9.out HUP.out (by omega)).mono ?_
          rintro e w7 ⟨rfl, hb7⟩
          have HP7 := Lib.hid (HP6.out.below hb7)
          have HE7 := Lib.hid (HE6.out.below hb7)
          clear hb7 HP6 HE6 HR9
          generalize fitsC L ses key = f at *
          by_cases hf : f = 0
          · obtain rfl : v6 = .nilIface := by
              rcases HE7.out with ⟨_, h⟩ | ⟨h, _⟩
              · exact h
              · exact absurd hf h
            subst hf
            go_wp2
            go_ret
            exact ⟨rfl, HP7.out.bel⟩
          · have hfb : (f == 0) = false := by simpa using hf
            have HER := Lib.hid (show Err w7 v6 f from by
              rcases HE7.out with ⟨h, _⟩ | ⟨_, h, _⟩
              · exact absurd h hf
              · exact h)
            clear HE7
            obtain ⟨ge, rfl⟩ := HER.out.form
            go_wp2_with fail
            refine (is_err _ f f w7 HER.out).mono ?_
            rintro e w9 ⟨rfl, hw9⟩
            subst w9
            go_wp2
            go_ret
            exact ⟨ret_bool (by simpa using hf), HP7.out.bel⟩
end Go.Proofs.YtfcgffemdcfiiaaGreatDoor.wQuotaCounts
