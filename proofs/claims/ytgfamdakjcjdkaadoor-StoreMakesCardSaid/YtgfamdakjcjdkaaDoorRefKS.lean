/- The document's Keys, Lives, Shows, Sweep. -/
import Derived.Test.YtgfamdakjcjdkaaDoorRefS
namespace Go.Proofs.YtgfamdakjcjdkaaDoor.store
open Go Go.RowKit Go.Proofs.YtgfamdakjcjdkaaDoor.base Go.Proofs.YtgfamdakjcjdkaaDoor.err Go.Proofs.YtgfamdakjcjdkaaDoor.cmp Go.Proofs.YtgfamdakjcjdkaaDoor.above Go.Proofs.YtgfamdakjcjdkaaDoor.law Go.Proofs.YtgfamdakjcjdkaaDoor.merge Go.Proofs.YtgfamdakjcjdkaaDoor.rows Go.Proofs.YtgfamdakjcjdkaaDoor.rowe Go.Proofs.YtgfamdakjcjdkaaDoor.monoj

theorem empty_size {b : ByteArray} (h : b.size = 0) : b.toList.isEmpty = true := by
  have : b = ⟨#[]⟩ := by
    obtain ⟨⟨l⟩⟩ := b
    have h0 : l.length = 0 := h
    rw [List.eq_nil_of_length_eq_zero h0]
  rw [this, ByteArray.toList_eq]; rfl
theorem nonempty_size {b : ByteArray} (h : ¬ b.size = 0) : b.toList.isEmpty = false := by
  rw [Bool.eq_false_iff]
  intro h0
  rw [isEmpty_eq h0] at h
  exact h rfl
set_option maxRecDepth 100000 in
set_option maxHeartbeats 4000000 in
theorem keys_ref (g : Nat) (A : Option Addr) (c : Nat) (L : List R) (s : ByteArray) (w : World) (h : RefI w g A c L) (hl : L.length ≤ 1000000) :
    Calls Tryd.prog 28 #[.pointer (some ⟨g, 0, none⟩), .string s] w (TextsR (keysL L s) w) := by
  have q0 := h.blk.cell 0
  have ql := h.blk.lt
  have hbrd := h.rd
  simp at q0
  have H := Lib.hid h
  obtain ⟨i0, hi0, hz0, hz1, hz2⟩ := info_parts str_info
  have Hi0 := Lib.hid hi0
  have Hz0 := Lib.hid hz0
  have Hz1 := Lib.hid hz1
  have Hz2 := Lib.hid hz2
  have HO := Lib.hid (ownsRow_new0 w 9 1 #[] (n := 0))
  have HB0 := Lib.hid (below_new w (.cells #[] 9))
  clear hi0 hz0 hz1 hz2 hbrd
  generalize hB : w.heap.size = B at *
  go_enter Tryd.func28, Tryd.ntmps28
  go_wp2
  go_loopw [5, 6] (fun so si wr => ∃ k : Nat, k ≤ L.length ∧ si = .int .i64 k ∧ wr.ownsRow B 9 1 so ((L.take k).filter (keyB s)).length (((L.take k).filter (keyB s)).map fun x => Value.string x.1.2) ∧ Below B w wr ∧ B ≤ wr.heap.size) (fun _ si _ => L.length - (intOf si).toNat)
  case atStart => exact ⟨0, by omega, rfl, by simpa [hB] using HO.out, HB0.out, by simp [hB]⟩
  case round =>
    clear q0 ql HO HB0
    obtain ⟨k, hk, rfl, i3, i4, i5⟩ := hrel
    have hmle : ((L.take k).filter (keyB s)).length ≤ k := by have := List.length_filter_le (keyB s) (L.take k); have := List.length_take_le k L; omega
    obtain ⟨Ao, co, rfl⟩ := ownsRow_slice i3
    by_cases hlt : k < L.length
    · skip
      have hH := H.out.below (w' := wr) (by rw [hB]; exact i4)
      have q0 := hH.blk.cell 0
      have ql := hH.blk.lt
      simp at q0
      obtain ⟨b, off, hA, hbb⟩ := H.out.rd.at_some (by omega)
      subst hA
      have hcell := row_at' hH.rd rfl hlt
      have hbl : b < wr.heap.size := by omega
      have htk := take_snocR hlt
      generalize L.getD k rZ = x at hcell htk
      obtain ⟨e0, e1, e2, e3, e4, e5, e6⟩ := seven_of hcell
      obtain ⟨⟨x1, x2⟩, ⟨t, r, v, gn, l⟩⟩ := x
      dsimp only at e0 e1 e2 e3 e4 e5 e6
      have HTK := Lib.hid htk
      have I3 := Lib.hid i3
      have I4 := Lib.hid i4
      clear hcell htk i3 i4 hH
      cases q1 : (x1.toList == s.toList) with
      | false =>
        have HPB := Lib.hid (show keyB s ((x1, x2), ⟨t, r, v, gn, l⟩) = false by unfold keyB; rw [q1]; rfl)
        have HNO := Lib.hid (show ((L.take (k + 1)).filter (keyB s)) = ((L.take k).filter (keyB s)) by rw [HTK.out, List.filter_append, show [((x1, x2), (⟨t, r, v, gn, l⟩ : C))].filter (keyB s) = [] by simp only [List.filter_cons, HPB.out]; rfl, List.append_nil])
        clear e2 e3 e4 e5 e6
        go_wp2
        go_roundw
        case rel => exact ⟨k + 1, by omega, by go_num, by rw [HNO.out]; exact I3.out, I4.out, i5⟩
        case measure => simp [intOf]; omega
      | true =>
        by_cases hs2 : x2.size = 0
        · have HPB := Lib.hid (show keyB s ((x1, x2), ⟨t, r, v, gn, l⟩) = false by unfold keyB; dsimp only; rw [q1, empty_size hs2]; rfl)
          have HNO := Lib.hid (show ((L.take (k + 1)).filter (keyB s)) = ((L.take k).filter (keyB s)) by rw [HTK.out, List.filter_append, show [((x1, x2), (⟨t, r, v, gn, l⟩ : C))].filter (keyB s) = [] by simp only [List.filter_cons, HPB.out]; rfl, List.append_nil])
          have hs3 : ¬ 0 < x2.size := by omega
          clear e2 e3 e4 e5 e6 hs2
          go_wp2
          go_roundw
          case rel => exact ⟨k + 1, by omega, by go_num, by rw [HNO.out]; exact I3.out, I4.out, i5⟩
          case measure => simp [intOf]; omega
        · have HNE := Lib.hid (nonempty_size hs2)
          have hs3 : 0 < x2.size := by omega
          clear hs2
          cases q3 : (decide (0 < t) && !gn) with
          | false =>
            have HPB := Lib.hid (show keyB s ((x1, x2), ⟨t, r, v, gn, l⟩) = false by unfold keyB visC; dsimp only; rw [q1, HNE.out, q3]; rfl)
            have HQ3 := Lib.hid q3
            clear q3
            have HNO := Lib.hid (show ((L.take (k + 1)).filter (keyB s)) = ((L.take k).filter (keyB s)) by rw [HTK.out, List.filter_append, show [((x1, x2), (⟨t, r, v, gn, l⟩ : C))].filter (keyB s) = [] by simp only [List.filter_cons, HPB.out]; rfl, List.append_nil])
            go_wp2_with fail
            refine (visible_ref t r v gn l _).mono ?_
            rintro e w5 ⟨rfl, hb5⟩
            rw [HQ3.out]
            have hw5 := bcell hb5
            obtain ⟨m1, _⟩ := hw5
            have q05 := (m1 g 0 ql).trans q0
            have m0 := (m1 b _ hbl).trans e0
            have m1a := (m1 b _ hbl).trans e1
            have m2 := (m1 b _ hbl).trans e2
            have m3 := (m1 b _ hbl).trans e3
            have m4 := (m1 b _ hbl).trans e4
            have m5 := (m1 b _ hbl).trans e5
            have m6 := (m1 b _ hbl).trans e6
            have hz5 := hb5.size
            have I35 := Lib.hid (own_below I3.out hb5)
            have I45 := Lib.hid (I4.out.trans (hb5.mono (by omega)))
            clear hb5 m1 q0 e0 e1 e2 e3 e4 e5 e6
            go_wp2
            go_roundw
            case rel => exact ⟨k + 1, by omega, by go_num, by rw [HNO.out]; exact I35.out, I45.out, by omega⟩
            case measure => simp [intOf]; omega
          | true =>
            have HPB := Lib.hid (show keyB s ((x1, x2), ⟨t, r, v, gn, l⟩) = true by unfold keyB visC; dsimp only; rw [q1, HNE.out, q3]; rfl)
            have HQ3 := Lib.hid q3
            clear q3
            have HYES := Lib.hid (show ((L.take (k + 1)).filter (keyB s)) = ((L.take k).filter (keyB s)) ++ [((x1, x2), (⟨t, r, v, gn, l⟩ : C))] by rw [HTK.out, List.filter_append, show [((x1, x2), (⟨t, r, v, gn, l⟩ : C))].filter (keyB s) = [((x1, x2), (⟨t, r, v, gn, l⟩ : C))] by simp only [List.filter_cons, HPB.out]; rfl])
            go_wp2_with fail
            refine (visible_ref t r v gn l _).mono ?_
            rintro e w5 ⟨rfl, hb5⟩
            rw [HQ3.out]
            have hw5 := bcell hb5
            obtain ⟨m1, _⟩ := hw5
            have q05 := (m1 g 0 ql).trans q0
            have m0 := (m1 b _ hbl).trans e0
            have m1a := (m1 b _ hbl).trans e1
            have m2 := (m1 b _ hbl).trans e2
            have m3 := (m1 b _ hbl).trans e3
            have m4 := (m1 b _ hbl).trans e4
            have m5 := (m1 b _ hbl).trans e5
            have m6 := (m1 b _ hbl).trans e6
            have hz5 := hb5.size
            have I35 := Lib.hid (own_below I3.out hb5)
            have I45 := Lib.hid (I4.out.trans (hb5.mono (by omega)))
            clear hb5 m1 q0 e0 e1 e2 e3 e4 e5 e6
            go_wp2_with (at_builtin; refine wpList_append_new rfl (.tmp 50) (.tmp 59) _ rfl B 9 i0 _ 1 16 Tryd.underlying83 Hi0.out Hz0.out Hz1.out Hz2.out rfl (by decide) _ _ _ rfl I35.out 1 1 [.string x2] rfl rfl (by simp [Value.oneCell']) (by unfold maxLen; omega) (by omega) (by omega) ?_; intro v1 w6 hown1 hbw1 hgr1 hwh1; obtain ⟨A', c', rfl⟩ := ownsRow_slice hown1; have Hown1 := Lib.hid hown1; have Hbw1 := Lib.hid hbw1; clear hown1 hbw1 hgr1 hwh1)
            have hz6 := Hbw1.out.size
            go_roundw
            case rel =>
              refine ⟨k + 1, by omega, by go_num, ?_, I45.out.trans Hbw1.out, by omega⟩
              have := Hown1.out
              rw [HYES.out]
              simpa using this
            case measure => simp [intOf]; omega
    · obtain rfl : L.length = k := by omega
      have hH := H.out.below (w' := wr) (by rw [hB]; exact i4)
      have q0 := hH.blk.cell 0
      have ql := hH.blk.lt
      simp at q0
      have HR := Lib.hid (show TextsR (keysL L s) w (.returned (.slice Ao ((L.take L.length).filter (keyB s)).length co)) wr from by
        rw [List.take_length] at i3 ⊢
        refine ⟨_, rfl, ?_, by rw [hB]; exact i4⟩
        unfold keysL
        rw [List.length_map, List.map_map, hB]
        exact i3)
      clear i3 i4 hH
      go_wp2
      go_ret
      exact HR.out
set_option maxRecDepth 100000 in
set_option maxHeartbeats 4000000 in
theorem lives_ref (g : Nat) (A : Option Addr) (c : Nat) (L : List R) (w : World) (h : RefI w g A c L) (hl : L.length ≤ 1000000) :
    Calls Tryd.prog 30 #[.pointer (some ⟨g, 0, none⟩)] w (TextsR (livesL L) w) := by
  have q0 := h.blk.cell 0
  have ql := h.blk.lt
  have hbrd := h.rd
  simp at q0
  have H := Lib.hid h
  obtain ⟨i0, hi0, hz0, hz1, hz2⟩ := info_parts str_info
  have Hi0 := Lib.hid hi0
  have Hz0 := Lib.hid hz0
  have Hz1 := Lib.hid hz1
  have Hz2 := Lib.hid hz2
  have HO := Lib.hid (ownsRow_new0 w 9 1 #[] (n := 0))
  have HB0 := Lib.hid (below_new w (.cells #[] 9))
  clear hi0 hz0 hz1 hz2 hbrd
  generalize hB : w.heap.size = B at *
  go_enter Tryd.func30, Tryd.ntmps30
  go_wp2
  go_loopw [3, 4] (fun so si wr => ∃ k : Nat, k ≤ L.length ∧ si = .int .i64 k ∧ wr.ownsRow B 9 1 so ((L.take k).filter liveB).length (((L.take k).filter liveB).map fun x => Value.string x.1.1) ∧ Below B w wr ∧ B ≤ wr.heap.size) (fun _ si _ => L.length - (intOf si).toNat)
  case atStart => exact ⟨0, by omega, rfl, by simpa [hB] using HO.out, HB0.out, by simp [hB]⟩
  case round =>
    clear q0 ql HO HB0
    obtain ⟨k, hk, rfl, i3, i4, i5⟩ := hrel
    have hmle : ((L.take k).filter liveB).length ≤ k := by have := List.length_filter_le liveB (L.take k); have := List.length_take_le k L; omega
    obtain ⟨Ao, co, rfl⟩ := ownsRow_slice i3
    by_cases hlt : k < L.length
    · skip
      have hH := H.out.below (w' := wr) (by rw [hB]; exact i4)
      have q0 := hH.blk.cell 0
      have ql := hH.blk.lt
      simp at q0
      obtain ⟨b, off, hA, hbb⟩ := H.out.rd.at_some (by omega)
      subst hA
      have hcell := row_at' hH.rd rfl hlt
      have hbl : b < wr.heap.size := by omega
      have htk := take_snocR hlt
      generalize L.getD k rZ = x at hcell htk
      obtain ⟨e0, e1, e2, e3, e4, e5, e6⟩ := seven_of hcell
      obtain ⟨⟨x1, x2⟩, ⟨t, r, v, gn, l⟩⟩ := x
      dsimp only at e0 e1 e2 e3 e4 e5 e6
      have HTK := Lib.hid htk
      have I3 := Lib.hid i3
      have I4 := Lib.hid i4
      clear hcell htk i3 i4 hH
      by_cases hs2 : x2.size = 0
      · have HNE := Lib.hid (empty_size hs2)
        have hs3 : ((x2.size : Int) == 0) = true := by simp [hs2]
        clear hs2
        cases q3 : (decide (0 < t) && !gn) with
        | false =>
          have HPB := Lib.hid (show liveB ((x1, x2), ⟨t, r, v, gn, l⟩) = false by unfold liveB visC; dsimp only; rw [HNE.out, q3]; rfl)
          have HQ3 := Lib.hid q3
          clear q3
          have HNO := Lib.hid (show ((L.take (k + 1)).filter liveB) = ((L.take k).filter liveB) by rw [HTK.out, List.filter_append, show [((x1, x2), (⟨t, r, v, gn, l⟩ : C))].filter liveB = [] by simp only [List.filter_cons, HPB.out]; rfl, List.append_nil])
          go_wp2_with fail
          refine (visible_ref t r v gn l _).mono ?_
          rintro e w5 ⟨rfl, hb5⟩
          rw [HQ3.out]
          have hw5 := bcell hb5
          obtain ⟨m1, _⟩ := hw5
          have q05 := (m1 g 0 ql).trans q0
          have m0 := (m1 b _ hbl).trans e0
          have m1a := (m1 b _ hbl).trans e1
          have m2 := (m1 b _ hbl).trans e2
          have m3 := (m1 b _ hbl).trans e3
          have m4 := (m1 b _ hbl).trans e4
          have m5 := (m1 b _ hbl).trans e5
          have m6 := (m1 b _ hbl).trans e6
          have hz5 := hb5.size
          have I35 := Lib.hid (own_below I3.out hb5)
          have I45 := Lib.hid (I4.out.trans (hb5.mono (by omega)))
          clear hb5 m1 q0 e0 e1 e2 e3 e4 e5 e6
          go_wp2
          go_roundw
          case rel => exact ⟨k + 1, by omega, by go_num, by rw [HNO.out]; exact I35.out, I45.out, by omega⟩
          case measure => simp [intOf]; omega
        | true =>
          have HPB := Lib.hid (show liveB ((x1, x2), ⟨t, r, v, gn, l⟩) = true by unfold liveB visC; dsimp only; rw [HNE.out, q3]; rfl)
          have HQ3 := Lib.hid q3
          clear q3
          have HYES := Lib.hid (show ((L.take (k + 1)).filter liveB) = ((L.take k).filter liveB) ++ [((x1, x2), (⟨t, r, v, gn, l⟩ : C))] by rw [HTK.out, List.filter_append, show [((x1, x2), (⟨t, r, v, gn, l⟩ : C))].filter liveB = [((x1, x2), (⟨t, r, v, gn, l⟩ : C))] by simp only [List.filter_cons, HPB.out]; rfl])
          go_wp2_with fail
          refine (visible_ref t r v gn l _).mono ?_
          rintro e w5 ⟨rfl, hb5⟩
          rw [HQ3.out]
          have hw5 := bcell hb5
          obtain ⟨m1, _⟩ := hw5
          have q05 := (m1 g 0 ql).trans q0
          have m0 := (m1 b _ hbl).trans e0
          have m1a := (m1 b _ hbl).trans e1
          have m2 := (m1 b _ hbl).trans e2
          have m3 := (m1 b _ hbl).trans e3
          have m4 := (m1 b _ hbl).trans e4
          have m5 := (m1 b _ hbl).trans e5
          have m6 := (m1 b _ hbl).trans e6
          have hz5 := hb5.size
          have I35 := Lib.hid (own_below I3.out hb5)
          have I45 := Lib.hid (I4.out.trans (hb5.mono (by omega)))
          clear hb5 m1 q0 e0 e1 e2 e3 e4 e5 e6
          go_wp2_with (at_builtin; refine wpList_append_new rfl (.tmp 36) (.tmp 45) _ rfl B 9 i0 _ 1 16 Tryd.underlying83 Hi0.out Hz0.out Hz1.out Hz2.out rfl (by decide) _ _ _ rfl I35.out 1 1 [.string x1] rfl rfl (by simp [Value.oneCell']) (by unfold maxLen; omega) (by omega) (by omega) ?_; intro v1 w6 hown1 hbw1 hgr1 hwh1; obtain ⟨A', c', rfl⟩ := ownsRow_slice hown1; have Hown1 := Lib.hid hown1; have Hbw1 := Lib.hid hbw1; clear hown1 hbw1 hgr1 hwh1)
          have hz6 := Hbw1.out.size
          go_roundw
          case rel =>
            refine ⟨k + 1, by omega, by go_num, ?_, I45.out.trans Hbw1.out, by omega⟩
            have := Hown1.out
            rw [HYES.out]
            simpa using this
          case measure => simp [intOf]; omega
      · have HPB := Lib.hid (show liveB ((x1, x2), ⟨t, r, v, gn, l⟩) = false by unfold liveB; dsimp only; rw [nonempty_size hs2]; rfl)
        have hs3 : ((x2.size : Int) == 0) = false := by rw [beq_eq_false_iff_ne]; omega
        have HNO := Lib.hid (show ((L.take (k + 1)).filter liveB) = ((L.take k).filter liveB) by rw [HTK.out, List.filter_append, show [((x1, x2), (⟨t, r, v, gn, l⟩ : C))].filter liveB = [] by simp only [List.filter_cons, HPB.out]; rfl, List.append_nil])
        clear e2 e3 e4 e5 e6 hs2
        go_wp2
        go_roundw
        case rel => exact ⟨k + 1, by omega, by go_num, by rw [HNO.out]; exact I3.out, I4.out, i5⟩
        case measure => simp [intOf]; omega
    · obtain rfl : L.length = k := by omega
      have hH := H.out.below (w' := wr) (by rw [hB]; exact i4)
      have q0 := hH.blk.cell 0
      have ql := hH.blk.lt
      simp at q0
      have HR := Lib.hid (show TextsR (livesL L) w (.returned (.slice Ao ((L.take L.length).filter liveB).length co)) wr from by
        rw [List.take_length] at i3 ⊢
        refine ⟨_, rfl, ?_, by rw [hB]; exact i4⟩
        unfold livesL
        rw [List.length_map, List.map_map, hB]
        exact i3)
      clear i3 i4 hH
      go_wp2
      go_ret
      exact HR.out
set_option maxRecDepth 100000 in
set_option maxHeartbeats 4000000 in
theorem shows_ref (g : Nat) (A : Option Addr) (c : Nat) (L : List R) (w : World) (h : RefI w g A c L) (hr : Rising L) (hl : L.length ≤ 1000000) :
    Calls Tryd.prog 35 #[.pointer (some ⟨g, 0, none⟩)] w (PlainR (showL L) w) := by
  have HRI := Lib.hid hr
  clear hr
  have q0 := h.blk.cell 0
  have ql := h.blk.lt
  have hbrd := h.rd
  simp at q0
  have H := Lib.hid h
  obtain ⟨i0, hi0, hz0, hz1, hz2⟩ := info_parts ref_info
  have Hi0 := Lib.hid hi0
  have Hz0 := Lib.hid hz0
  have Hz1 := Lib.hid hz1
  have Hz2 := Lib.hid hz2
  have HO := Lib.hid (ownsRow_new0 w refT 7 #[] (n := 0))
  have HB0 := Lib.hid (below_new w (.cells #[] refT))
  clear hi0 hz0 hz1 hz2 hbrd
  generalize hB : w.heap.size = B at *
  go_enter Tryd.func35, Tryd.ntmps35
  go_wp2
  go_loopw [3, 4] (fun so si wr => ∃ k : Nat, k ≤ L.length ∧ si = .int .i64 k ∧ wr.ownsRow B refT 7 so ((L.take k).filter (fun x => !hide L x)).length (((L.take k).filter (fun x => !hide L x)).flatMap rcells) ∧ Below B w wr ∧ B ≤ wr.heap.size) (fun _ si _ => L.length - (intOf si).toNat)
  case atStart => exact ⟨0, by omega, rfl, by simpa [hB] using HO.out, HB0.out, by simp [hB]⟩
  case round =>
    clear q0 ql HO HB0
    obtain ⟨k, hk, rfl, i3, i4, i5⟩ := hrel
    have hmle : ((L.take k).filter (fun x => !hide L x)).length ≤ k := by have := List.length_filter_le (fun x => !hide L x) (L.take k); have := List.length_take_le k L; omega
    obtain ⟨Ao, co, rfl⟩ := ownsRow_slice i3
    by_cases hlt : k < L.length
    · skip
      have hH := H.out.below (w' := wr) (by rw [hB]; exact i4)
      have q0 := hH.blk.cell 0
      have ql := hH.blk.lt
      simp at q0
      obtain ⟨b, off, hA, hbb⟩ := H.out.rd.at_some (by omega)
      subst hA
      have hcell := row_at' hH.rd rfl hlt
      have hbl : b < wr.heap.size := by omega
      have htk := take_snocR hlt
      generalize L.getD k rZ = x at hcell htk
      obtain ⟨e0, e1, e2, e3, e4, e5, e6⟩ := seven_of hcell
      obtain ⟨⟨x1, x2⟩, ⟨t, r, v, gn, l⟩⟩ := x
      dsimp only at e0 e1 e2 e3 e4 e5 e6
      have HTK := Lib.hid htk
      have I3 := Lib.hid i3
      have I4 := Lib.hid i4
      clear hcell htk i3 i4 hH
      have hhd : hide L ((x1, x2), ⟨t, r, v, gn, l⟩) = (!(decide (0 < t) && !gn) || !visC (atL L (x1, ⟨#[]⟩))) := rfl
      obtain ⟨⟨t2, r2, v2, gn2, l2⟩, hat⟩ : ∃ c, atL L (x1, ⟨#[]⟩) = c := ⟨_, rfl⟩
      rw [hat] at hhd
      have HAT := Lib.hid hat
      cases q3 : (decide (0 < t) && !gn) with
      | false =>
        have HPB := Lib.hid (show (!hide L ((x1, x2), ⟨t, r, v, gn, l⟩)) = false by rw [hhd, q3]; rfl)
        have HQ3 := Lib.hid q3
        clear q3 hhd hat
        have HNO := Lib.hid (show ((L.take (k + 1)).filter (fun x => !hide L x)) = ((L.take k).filter (fun x => !hide L x)) by rw [HTK.out, List.filter_append, show [((x1, x2), (⟨t, r, v, gn, l⟩ : C))].filter (fun x => !hide L x) = [] by simp only [List.filter_cons, HPB.out]; rfl, List.append_nil])
        go_wp2_with fail
        refine (visible_ref t r v gn l _).mono ?_
        rintro e w5 ⟨rfl, hb5⟩
        rw [HQ3.out]
        have hw5 := bcell hb5
        obtain ⟨m1, _⟩ := hw5
        have q05 := (m1 g 0 ql).trans q0
        have m0 := (m1 b _ hbl).trans e0
        have m1a := (m1 b _ hbl).trans e1
        have m2 := (m1 b _ hbl).trans e2
        have m3 := (m1 b _ hbl).trans e3
        have m4 := (m1 b _ hbl).trans e4
        have m5 := (m1 b _ hbl).trans e5
        have m6 := (m1 b _ hbl).trans e6
        have hz5 := hb5.size
        have I35 := Lib.hid (own_below I3.out hb5)
        have I45 := Lib.hid (I4.out.trans (hb5.mono (by omega)))
        clear hb5 m1 q0 e0 e1 e2 e3 e4 e5 e6
        go_wp2
        go_roundw
        case rel => exact ⟨k + 1, by omega, by go_num, by rw [HNO.out]; exact I35.out, I45.out, by omega⟩
        case measure => simp [intOf]; omega
      | true =>
        have HQ3 := Lib.hid q3
        rw [q3] at hhd
        have hv2 : visC ⟨t2, r2, v2, gn2, l2⟩ = (decide (0 < t2) && !gn2) := rfl
        rw [hv2] at hhd
        clear q3 hat hv2
        go_wp2_with fail
        refine (visible_ref t r v gn l _).mono ?_
        rintro e w5 ⟨rfl, hb5⟩
        rw [HQ3.out]
        have h5 := (H.out.below (w' := wr) (by rw [hB]; exact I4.out)).below hb5
        have H5 := Lib.hid h5
        have hw5 := bcell hb5
        obtain ⟨m1, _⟩ := hw5
        have q05 := (m1 g 0 ql).trans q0
        have m0 := (m1 b _ hbl).trans e0
        have m1a := (m1 b _ hbl).trans e1
        have m2 := (m1 b _ hbl).trans e2
        have m3 := (m1 b _ hbl).trans e3
        have m4 := (m1 b _ hbl).trans e4
        have m5 := (m1 b _ hbl).trans e5
        have m6 := (m1 b _ hbl).trans e6
        have hz5 := hb5.size
        have I35 := Lib.hid (own_below I3.out hb5)
        have I45 := Lib.hid (I4.out.trans (hb5.mono (by omega)))
        clear hb5 m1 q0 e0 e1 e2 e3 e4 e5 e6
        clear h5
        have hl5 : g < w5.heap.size := H5.out.blk.lt
        have hlb5 : b < w5.heap.size := by omega
        go_wp2_with fail
        refine (head_ref g _ c L x1 w5 H5.out HRI.out hl).mono ?_
        rintro e w7 ⟨rfl, hb7⟩
        rw [HAT.out]
        unfold cval
        dsimp only
        obtain ⟨n1, _⟩ := bcell hb7
        have q07 := (n1 g 0 hl5).trans q05
        have p0 := (n1 b _ hlb5).trans m0
        have p1 := (n1 b _ hlb5).trans m1a
        have p2 := (n1 b _ hlb5).trans m2
        have p3 := (n1 b _ hlb5).trans m3
        have p4 := (n1 b _ hlb5).trans m4
        have p5 := (n1 b _ hlb5).trans m5
        have p6 := (n1 b _ hlb5).trans m6
        have hz7 := hb7.size
        have I37 := Lib.hid (own_below I35.out hb7)
        have I47 := Lib.hid (I45.out.trans (hb7.mono (by omega)))
        clear hb7 n1 q05 m0 m1a m2 m3 m4 m5 m6 I35 I45 I3 I4
        go_wp2_with fail
        refine (visible_ref t2 r2 v2 gn2 l2 w7).mono ?_
        rintro e w8 ⟨rfl, hb8⟩
        have hl7 : g < w7.heap.size := by omega
        have hlb7 : b < w7.heap.size := by omega
        obtain ⟨n1, _⟩ := bcell hb8
        have q08 := (n1 g 0 hl7).trans q07
        have u0 := (n1 b _ hlb7).trans p0
        have u1 := (n1 b _ hlb7).trans p1
        have u2 := (n1 b _ hlb7).trans p2
        have u3 := (n1 b _ hlb7).trans p3
        have u4 := (n1 b _ hlb7).trans p4
        have u5 := (n1 b _ hlb7).trans p5
        have u6 := (n1 b _ hlb7).trans p6
        have hz8 := hb8.size
        have I38 := Lib.hid (own_below I37.out hb8)
        have I48 := Lib.hid (I47.out.trans (hb8.mono (by omega)))
        clear hb8 n1 q07 p0 p1 p2 p3 p4 p5 p6 I37 I47
        cases q4 : (decide (0 < t2) && !gn2) with
        | false =>
          have HPB := Lib.hid (show (!hide L ((x1, x2), ⟨t, r, v, gn, l⟩)) = false by rw [hhd, q4]; rfl)
          have HNO := Lib.hid (show ((L.take (k + 1)).filter (fun x => !hide L x)) = ((L.take k).filter (fun x => !hide L x)) by rw [HTK.out, List.filter_append, show [((x1, x2), (⟨t, r, v, gn, l⟩ : C))].filter (fun x => !hide L x) = [] by simp only [List.filter_cons, HPB.out]; rfl, List.append_nil])
          clear hhd q4
          go_wp2
          go_roundw
          case rel => exact ⟨k + 1, by omega, by go_num, by rw [HNO.out]; exact I38.out, I48.out, by omega⟩
          case measure => simp [intOf]; omega
        | true =>
          have HPB := Lib.hid (show (!hide L ((x1, x2), ⟨t, r, v, gn, l⟩)) = true by rw [hhd, q4]; rfl)
          have HYES := Lib.hid (show ((L.take (k + 1)).filter (fun x => !hide L x)) = ((L.take k).filter (fun x => !hide L x)) ++ [((x1, x2), (⟨t, r, v, gn, l⟩ : C))] by rw [HTK.out, List.filter_append, show [((x1, x2), (⟨t, r, v, gn, l⟩ : C))].filter (fun x => !hide L x) = [((x1, x2), (⟨t, r, v, gn, l⟩ : C))] by simp only [List.filter_cons, HPB.out]; rfl])
          clear hhd q4
          go_wp2_with (at_builtin; refine wpList_append_new rfl (.tmp 37) (.tmp 45) _ rfl B refT i0 _ 7 80 Tryd.underlying22 Hi0.out Hz0.out Hz1.out Hz2.out rfl (by decide) _ _ _ rfl I38.out 1 1 [.string x1, .string x2, .int .i64 t, .int .i64 r, .string v, .bool gn, .int .i64 l] rfl rfl (by simp [Value.oneCell']) (by unfold maxLen; omega) (by omega) (by omega) ?_; intro v1 w9 hown1 hbw1 hgr1 hwh1; obtain ⟨A', c', rfl⟩ := ownsRow_slice hown1; have Hown1 := Lib.hid hown1; have Hbw1 := Lib.hid hbw1; clear hown1 hbw1 hgr1 hwh1)
          have hz9 := Hbw1.out.size
          go_roundw
          case rel =>
            refine ⟨k + 1, by omega, by go_num, ?_, I48.out.trans Hbw1.out, by omega⟩
            have := Hown1.out
            rw [HYES.out]
            simpa [rcells, List.flatMap_append] using this
          case measure => simp [intOf]; omega
    · obtain rfl : L.length = k := by omega
      have hH := H.out.below (w' := wr) (by rw [hB]; exact i4)
      have q0 := hH.blk.cell 0
      have ql := hH.blk.lt
      simp at q0
      have HR := Lib.hid (show PlainR (showL L) w (.returned (.slice Ao ((L.take L.length).filter (fun x => !hide L x)).length co)) wr from by
        rw [List.take_length] at i3 ⊢
        exact ⟨_, rfl, by rw [hB]; exact i3, by rw [hB]; exact i4⟩)
      clear i3 i4 hH
      go_wp2
      go_ret
      exact HR.out
theorem set_at_ (w : World) (g o : Nat) (u : Value) : Keeps (· = g) w (w.setCell ⟨g, o, none⟩ u) := Keeps.setCell (X := (· = g)) (p := ⟨g, o, none⟩) (Or.inl rfl) u
/-- the rows anew -/
theorem RefI.renew {w : World} {g : Nat} {A A' : Option Addr} {c c' B n : Nat} {L M : List R} (h : RefI w g A c L) (hg : g < B) (ho : w.ownsRow B refT 7 (.slice A' n c') n (M.flatMap rcells)) (hn : n = M.length) :
    RefI (w.setCell ⟨g, 0, none⟩ (.slice A' n c')) g A' c' M := by
  subst hn
  have h1 : (w.setCell ⟨g, 0, none⟩ (.slice A' M.length c')).ownsRow B refT 7 (.slice A' M.length c') M.length (M.flatMap rcells) :=
    own_keepR ho (X := (· = g)) (set_at_ w g 0 _) (fun g' h' e => by have := (ho.lt g' h').1; omega)
  refine ⟨?_, Reads.of_own h1⟩
  have := h.blk.set_ 0 (.slice A' M.length c')
  simpa using this
def SweepF (g : Nat) (fl : Int) (L : List R) (w : World) (e : Ending) (w' : World) : Prop :=
  e = .returned (.int .i64 ((L.length : Int) - ((keepL fl L).length : Int))) ∧ Ref w' g (keepL fl L) ∧ Keeps (· = g) w w'
theorem keeps_of {g B : Nat} {w w' : World} (h : Below B w w') (hB : B = w.heap.size) : Keeps (· = g) w w' := by subst hB; exact .of_below h
end Go.Proofs.YtgfamdakjcjdkaaDoor.store
