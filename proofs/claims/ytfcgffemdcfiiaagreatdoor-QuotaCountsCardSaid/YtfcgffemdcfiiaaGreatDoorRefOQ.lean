/- The document's Opens and Fits. -/
import Derived.Test.YtfcgffemdcfiiaaGreatDoorFitsQ
import Derived.Test.YtfcgffemdcfiiaaGreatDoorRefAS
import Derived.Test.YtfcgffemdcfiiaaGreatDoorRefParseQ
namespace Go.Proofs.YtfcgffemdcfiiaaGreatDoor.quota
open Go Go.RowKit Go.Proofs.YtfcgffemdcfiiaaGreatDoor.base Go.Proofs.YtfcgffemdcfiiaaGreatDoor.dec Go.Proofs.YtfcgffemdcfiiaaGreatDoor.err Go.Proofs.YtfcgffemdcfiiaaGreatDoor.above Go.Proofs.YtfcgffemdcfiiaaGreatDoor.law Go.Proofs.YtfcgffemdcfiiaaGreatDoor.merge Go.Proofs.YtfcgffemdcfiiaaGreatDoor.rows Go.Proofs.YtfcgffemdcfiiaaGreatDoor.store

set_option maxRecDepth 100000 in
set_option maxHeartbeats 2000000 in
theorem opens_ref (g : Nat) (A : Option Addr) (c : Nat) (L : List R) (r : Int) (w : World) (h : RefI w g A c L) (hl : L.length ≤ 1000000) (hs : Short L) :
    Calls Tryz.prog 9 #[.pointer (some ⟨g, 0, none⟩), .int .i64 r] w fun e w' => e = .returned (.int .i64 (opensL L r : Nat)) ∧ Below w.heap.size w w' := by
  have H := Lib.hid h
  have Hs := Lib.hid hs
  clear h hs
  go_enter Tryz.func9, Tryz.ntmps9
  go_wp2_with fail
  refine (lives_ref g A c L w H.out hl).mono ?_
  rintro e w1 ⟨v, rfl, hv, hb1⟩
  obtain ⟨A1, c1, rfl⟩ := ownsRow_slice hv
  have HRL := Lib.hid (Reads.of_own hv)
  have HB1 := Lib.hid hb1
  have hll := lives_le L
  obtain ⟨nl, hnl⟩ : ∃ nl, (livesL L).length = nl := ⟨_, rfl⟩
  rw [hnl] at HRL hll ⊢
  have HNL := Lib.hid hnl
  clear hv hb1 hnl
  go_wp2_with fail
  go_loopw [5, 7] (fun sn si wr => ∃ k : Nat, k ≤ nl ∧ si = .int .i64 k ∧ sn = .int .i64 (((livesL L).take k).filter (ofB r)).length ∧ Below w1.heap.size w1 wr) (fun _ si _ => nl - (intOf si).toNat)
  case atStart => exact ⟨0, by omega, rfl, rfl, Below.refl _ _⟩
  case round =>
    obtain ⟨k, hk, rfl, rfl, i1⟩ := hrel
    have hle : (((livesL L).take k).filter (ofB r)).length ≤ k := by have := List.length_filter_le (ofB r) ((livesL L).take k); have := List.length_take_le k (livesL L); omega
    by_cases hlt : k < nl
    · obtain ⟨gl, off, rfl, hgl⟩ := HRL.out.at_some (by omega)
      have hcell := text_atQ (HRL.out.below i1) HNL.out hlt
      have hgl2 : gl < wr.heap.size := by have := i1.size; omega
      have HSH := Lib.hid (lives_short Hs.out (show k < (livesL L).length by rw [HNL.out]; exact hlt))
      have HNX := Lib.hid (filter_next (ofB r) (show k < (livesL L).length by rw [HNL.out]; exact hlt))
      obtain ⟨s, hsn⟩ : ∃ s, (livesL L).getD k ⟨#[]⟩ = s := ⟨_, rfl⟩
      rw [hsn] at hcell HSH HNX
      have I1 := Lib.hid i1
      generalize hq : (((livesL L).take k).filter (ofB r)).length = q at *
      clear i1 hsn
      go_wp2_with fail
      refine (refParse_any s wr HSH.out).mono ?_
      rintro e w2 ⟨⟨a, b, hok, hs2, rfl⟩ | ⟨hno, rfl⟩, hb2⟩
      · have I2 := Lib.hid (below_step I1.out hb2)
        have hof := ofB_yes (r := r) hok hs2
        have ha0 : 0 < a := by unfold OkN at hok; omega
        cases har : ((a : Int) == r) with
        | true =>
          have HV := Lib.hid (show (((livesL L).take (k + 1)).filter (ofB r)).length = q + 1 by rw [HNX.out, hof, har]; rfl)
          clear hof hok hs2 hb2
          go_wp2
          go_roundw
          case rel => exact ⟨k + 1, by omega, by go_num, by rw [HV.out]; go_num, I2.out⟩
          case measure => simp [intOf]; omega
        | false =>
          have HV := Lib.hid (show (((livesL L).take (k + 1)).filter (ofB r)).length = q by rw [HNX.out, hof, har]; rfl)
          clear hof hok hs2 hb2
          go_wp2
          go_roundw
          case rel => exact ⟨k + 1, by omega, by go_num, by rw [HV.out], I2.out⟩
          case measure => simp [intOf]; omega
      · have I2 := Lib.hid (below_step I1.out hb2)
        have HV := Lib.hid (show (((livesL L).take (k + 1)).filter (ofB r)).length = q by rw [HNX.out, ofB_no hno]; rfl)
        clear hno hb2
        go_wp2
        go_roundw
        case rel => exact ⟨k + 1, by omega, by go_num, by rw [HV.out], I2.out⟩
        case measure => simp [intOf]; omega
    · obtain rfl : nl = k := by omega
      have HR := Lib.hid (show (((livesL L).take nl).filter (ofB r)).length = opensL L r by unfold opensL; rw [List.take_of_length_le (by rw [HNL.out]; omega)])
      have HB := Lib.hid (below_step HB1.out i1)
      clear i1
      go_wp2
      go_ret
      exact ⟨by rw [HR.out]; rfl, HB.out⟩
theorem empty_iff (b : ByteArray) : b.toList.isEmpty = true ↔ b.size = 0 := by
  constructor
  · intro h
    have h2 : b.toList = [] := List.isEmpty_iff.1 h
    rw [ByteArray.toList_eq] at h2
    show b.data.size = 0
    rw [← Array.length_toList, h2]
    rfl
  · exact empty_size
set_option maxRecDepth 100000 in
set_option maxHeartbeats 2000000 in
theorem fits_ref (g : Nat) (A : Option Addr) (c : Nat) (L : List R) (s k : ByteArray) (w : World) (h : RefI w g A c L) (hr : Rising L) (hl : L.length ≤ 1000000) :
    Calls Tryz.prog 14 #[.pointer (some ⟨g, 0, none⟩), .string s, .string k] w fun e w' => e = .returned (.int .i64 (fitsC L s k)) ∧ Below w.heap.size w w' := by
  have H := Lib.hid h
  have Hr := Lib.hid hr
  clear h hr
  by_cases h1 : k.toList.isEmpty = true ∨ 32 < k.size
  · have HF := Lib.hid (show fitsC L s k = 1 by unfold fitsC; rw [if_pos h1])
    go_enter Tryz.func14, Tryz.ntmps14
    rw [empty_iff] at h1
    by_cases h2 : k.size = 0
    · have q : ((k.size : Int) == 0) = true := by simpa using h2
      clear h1
      go_wp2
      go_ret
      exact ⟨by rw [HF.out]; rfl, Below.refl _ _⟩
    · have q : ((k.size : Int) == 0) = false := by simpa using h2
      have d : decide ((32 : Int) < (k.size : Int)) = true := by simp; omega
      clear h1
      go_wp2
      go_ret
      exact ⟨by rw [HF.out]; rfl, Below.refl _ _⟩
  · have HH1 := Lib.hid h1
    rw [empty_iff] at h1
    have q : ((k.size : Int) == 0) = false := by rw [beq_eq_false_iff_ne]; omega
    have d : decide ((32 : Int) < (k.size : Int)) = false := by simp; omega
    clear h1
    go_enter Tryz.func14, Tryz.ntmps14
    go_wp2_with fail
    refine (head_ref g A c L s w H.out Hr.out hl).mono ?_
    rintro e w2 ⟨rfl, hb2⟩
    have HB2 := Lib.hid hb2
    have H2 := Lib.hid (H.out.below hb2)
    clear hb2
    obtain ⟨x, hx⟩ : ∃ x, atL L (s, ⟨#[]⟩) = x := ⟨_, rfl⟩
    rw [hx]
    have HX := Lib.hid hx
    clear hx
    obtain ⟨t, r, v, gn, lf⟩ := x
    unfold cval
    dsimp only
    go_wp2_with fail
    refine (visible_ref t r v gn lf w2).mono ?_
    rintro e w3 ⟨rfl, hb3⟩
    have HB3 := Lib.hid (below_step HB2.out hb3)
    have H3 := Lib.hid (H2.out.below hb3)
    clear hb3 HB2
    cases hvs : (decide (0 < t) && !gn) with
    | false =>
      have HF := Lib.hid (show fitsC L s k = 14 by unfold fitsC; rw [if_neg HH1.out, if_pos (by rw [HX.out]; exact hvs)])
      clear hvs
      go_wp2
      go_ret
      exact ⟨by rw [HF.out]; rfl, HB3.out⟩
    | true =>
      have HG := Lib.hid (show fitsC L s k = if fullB L s k = true then 4 else 0 by unfold fitsC; rw [if_neg HH1.out, if_neg (by rw [HX.out]; unfold visC; dsimp only; rw [hvs]; decide)])
      clear hvs
      go_wp2_with fail
      refine (keys_ref g A c L s w3 H3.out hl).mono ?_
      rintro e w4 ⟨v4, rfl, hv, hb4⟩
      obtain ⟨A1, c1, rfl⟩ := ownsRow_slice hv
      have HRL := Lib.hid (Reads.of_own hv)
      have HB4 := Lib.hid (below_step HB3.out hb4)
      have hll : (keysL L s).length ≤ L.length := by unfold keysL; rw [List.length_map]; exact List.length_filter_le _ _
      obtain ⟨n, hn⟩ : ∃ n, (keysL L s).length = n := ⟨_, rfl⟩
      rw [hn] at HRL hll ⊢
      have HN := Lib.hid hn
      clear hv hb4 hn HB3
      go_wp2_with fail
      go_loopw [8] (fun si wr => ∃ i : Nat, i ≤ n ∧ si = .int .i64 i ∧ hasB (keysL L s) k = hasB ((keysL L s).drop i) k ∧ wr = w4) (fun si _ => n - (intOf si).toNat)
      case atStart => exact ⟨0, by omega, rfl, rfl, rfl⟩
      case round =>
        obtain ⟨i, hi, rfl, hb, rfl⟩ := hrel
        by_cases hlt : i < n
        · obtain ⟨gl, off, rfl, hgl⟩ := HRL.out.at_some (by omega)
          have hcell := text_atQ HRL.out HN.out hlt
          have hdr : (keysL L s).drop i = (keysL L s).getD i ⟨#[]⟩ :: (keysL L s).drop (i + 1) := by
            rw [List.drop_eq_getElem_cons (by rw [HN.out]; exact hlt), List.getD_eq_getElem?_getD, List.getElem?_eq_getElem (by rw [HN.out]; exact hlt)]; rfl
          rw [hdr] at hb
          generalize (keysL L s).getD i ⟨#[]⟩ = t' at *
          have hb2 : hasB (keysL L s) k = ((t'.toList == k.toList) || hasB ((keysL L s).drop (i + 1)) k) := by rw [hb]; rfl
          clear hdr hb
          cases q : (t'.toList == k.toList) with
          | true =>
            have HV := Lib.hid (show fitsC L s k = 0 by
              rw [HG.out, if_neg]
              unfold fullB
              rw [q] at hb2
              unfold hasB at hb2
              rw [hb2]; simp)
            clear hb2
            go_wp2
            go_ret
            exact ⟨by rw [HV.out]; rfl, HB4.out⟩
          | false =>
            have HV := Lib.hid (show hasB (keysL L s) k = hasB ((keysL L s).drop (i + 1)) k by rw [hb2, q]; rfl)
            clear hb2
            go_wp2
            go_roundw
            case rel => exact ⟨i + 1, by omega, by go_num, HV.out, trivial⟩
            case measure => simp [intOf]; omega
        · obtain rfl : n = i := by omega
          have hno : hasB (keysL L s) k = false := by rw [hb, List.drop_eq_nil_of_le (by rw [HN.out]; omega)]; rfl
          clear hb
          by_cases h16 : 16 ≤ n
          · have d16 : decide ((16 : Int) ≤ (n : Int)) = true := by simp; omega
            have HV := Lib.hid (show fitsC L s k = 4 by
              rw [HG.out, if_pos]
              unfold fullB
              unfold hasB at hno
              rw [hno, HN.out]; simpa using h16)
            clear hno
            go_wp2
            go_ret
            exact ⟨by rw [HV.out]; rfl, HB4.out⟩
          · have d16 : decide ((16 : Int) ≤ (n : Int)) = false := by simp; omega
            have HV := Lib.hid (show fitsC L s k = 0 by
              rw [HG.out, if_neg]
              unfold fullB
              rw [HN.out, decide_eq_false h16]; simp)
            clear hno
            go_wp2
            go_ret
            exact ⟨by rw [HV.out]; rfl, HB4.out⟩
end Go.Proofs.YtfcgffemdcfiiaaGreatDoor.quota
