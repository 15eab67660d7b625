/- The law's own same: a store and the document's, of like rows, answer alike. -/
import Derived.Test.YtgfamdakjcjdkaaDoorRefAS
namespace Go.Proofs.YtgfamdakjcjdkaaDoor.store
open Go Go.RowKit Go.Proofs.YtgfamdakjcjdkaaDoor.base Go.Proofs.YtgfamdakjcjdkaaDoor.err Go.Proofs.YtgfamdakjcjdkaaDoor.cmp Go.Proofs.YtgfamdakjcjdkaaDoor.above Go.Proofs.YtgfamdakjcjdkaaDoor.law Go.Proofs.YtgfamdakjcjdkaaDoor.merge Go.Proofs.YtgfamdakjcjdkaaDoor.rows Go.Proofs.YtgfamdakjcjdkaaDoor.rowe Go.Proofs.YtgfamdakjcjdkaaDoor.monoj

theorem text_at' {w : World} {b off B n : Nat} {l : List ByteArray} (h : Reads w B 1 (some ⟨b, off, none⟩) n (l.map Value.string)) (hl : l.length = n) {k : Nat} (hk : k < n) : w.cell? ⟨b, off + k, none⟩ = some (.string (l.getD k ⟨#[]⟩)) := by
  obtain ⟨b', off', e, _, hc⟩ := h.2 (by omega)
  injection e with e; injection e with e1 e2 _
  subst e1 e2
  rw [hc k (by simp; omega), List.getElem?_map, List.getElem?_eq_getElem (by omega), List.getD_eq_getElem?_getD, List.getElem?_eq_getElem (by omega)]
  rfl
set_option maxRecDepth 100000 in
set_option maxHeartbeats 1000000 in
theorem texts_same (A A2 : Option Addr) (n c c2 : Nat) (L : List ByteArray) (w : World) (hl : L.length = n) (hn : n ≤ 1000000) (hr : Reads w w.heap.size 1 A n (L.map Value.string)) (hr2 : Reads w w.heap.size 1 A2 n (L.map Value.string)) :
    Calls Tryd.prog 26 #[.slice A n c, .slice A2 n c2] w fun e w' => e = .returned (.bool true) ∧ Below w.heap.size w w' := by
  have Hl := Lib.hid hl
  have Hr := Lib.hid hr
  have Hr2 := Lib.hid hr2
  clear hl hr hr2
  go_enter Tryd.func26, Tryd.ntmps26
  go_wp2
  go_loopw [5] (fun i wr => ∃ k : Nat, k ≤ n ∧ i = .int .i64 k ∧ Below w.heap.size w wr) (fun i _ => n - (intOf i).toNat)
  case atStart => exact ⟨0, by omega, rfl, Below.refl _ _⟩
  case round =>
    obtain ⟨k, hk, rfl, i2⟩ := hrel
    by_cases hlt : k < n
    · obtain ⟨b, off, rfl, hbb⟩ := Hr.out.at_some (by omega)
      obtain ⟨b2, off2, rfl, hbb2⟩ := Hr2.out.at_some (by omega)
      have hc := text_at' (Hr.out.below i2) Hl.out hlt
      have hc2 := text_at' (Hr2.out.below i2) Hl.out hlt
      generalize L.getD k ⟨#[]⟩ = x at hc hc2
      have hsz := i2.size
      have hbl : b < wr.heap.size := by omega
      have hbl2 : b2 < wr.heap.size := by omega
      have I2 := Lib.hid i2
      clear i2
      go_wp2_with fail
      refine wp_region_mono nobody (by kernel_rfl) ?_
      -- 0 Op.move (Operand.tmp 0)
      refine wpMono_take' 0 (v := ?_) rfl (by kernel_rfl) (by kernel_rfl) (by kernel_rfl) (fun _ _ _ h => h) (by rfl) ?_ ?_
      rotate_left
      · (intro W hSw; have hcW := hSw.cells; try simp only [World.size_drew, World.cell?_drew] at hcW
         go_simp; first | done | rfl)
      try simp only [Act.put, List.setIfInBounds_toArray, List.set_cons_zero, List.set_cons_succ]
      -- 1 Op.move (Operand.tmp 5)
      refine wpMono_take' 1 (v := ?_) rfl (by kernel_rfl) (by kernel_rfl) (by kernel_rfl) (fun _ _ _ h => h) (by rfl) ?_ ?_
      rotate_left
      · (intro W hSw; have hcW := hSw.cells; try simp only [World.size_drew, World.cell?_drew] at hcW
         go_simp; first | done | rfl)
      try simp only [Act.put, List.setIfInBounds_toArray, List.set_cons_zero, List.set_cons_succ]
      -- 2 Op.indexAddr 83 (Operand.tmp 17) (Operand.tmp 18)
      refine wpMono_take' 2 (v := ?_) rfl (by kernel_rfl) (by kernel_rfl) (by kernel_rfl) (fun _ _ _ h => h) (by rfl) ?_ ?_
      rotate_left
      · (intro W hSw; have hcW := hSw.cells; try simp only [World.size_drew, World.cell?_drew] at hcW
         go_simp; first | done | rfl)
      try simp only [Act.put, List.setIfInBounds_toArray, List.set_cons_zero, List.set_cons_succ]
      -- 3 Op.load 9 (Operand.tmp 19)
      refine wpMono_take' 3 (v := ?_) rfl (by kernel_rfl) (by kernel_rfl) (by kernel_rfl) (fun _ _ _ h => h) (by rfl) ?_ ?_
      rotate_left
      · (intro W hSw; have hcW := hSw.cells; try simp only [World.size_drew, World.cell?_drew] at hcW
         go_simp; first | done | rfl)
      try simp only [Act.put, List.setIfInBounds_toArray, List.set_cons_zero, List.set_cons_succ]
      -- 4 Op.move (Operand.tmp 1)
      refine wpMono_take' 4 (v := ?_) rfl (by kernel_rfl) (by kernel_rfl) (by kernel_rfl) (fun _ _ _ h => h) (by rfl) ?_ ?_
      rotate_left
      · (intro W hSw; have hcW := hSw.cells; try simp only [World.size_drew, World.cell?_drew] at hcW
         go_simp; first | done | rfl)
      try simp only [Act.put, List.setIfInBounds_toArray, List.set_cons_zero, List.set_cons_succ]
      -- 5 Op.move (Operand.tmp 5)
      refine wpMono_take' 5 (v := ?_) rfl (by kernel_rfl) (by kernel_rfl) (by kernel_rfl) (fun _ _ _ h => h) (by rfl) ?_ ?_
      rotate_left
      · (intro W hSw; have hcW := hSw.cells; try simp only [World.size_drew, World.cell?_drew] at hcW
         go_simp; first | done | rfl)
      try simp only [Act.put, List.setIfInBounds_toArray, List.set_cons_zero, List.set_cons_succ]
      -- 6 Op.indexAddr 83 (Operand.tmp 21) (Operand.tmp 22)
      refine wpMono_take' 6 (v := ?_) rfl (by kernel_rfl) (by kernel_rfl) (by kernel_rfl) (fun _ _ _ h => h) (by rfl) ?_ ?_
      rotate_left
      · (intro W hSw; have hcW := hSw.cells; try simp only [World.size_drew, World.cell?_drew] at hcW
         go_simp; first | done | rfl)
      try simp only [Act.put, List.setIfInBounds_toArray, List.set_cons_zero, List.set_cons_succ]
      -- 7 Op.load 9 (Operand.tmp 23)
      refine wpMono_take' 7 (v := ?_) rfl (by kernel_rfl) (by kernel_rfl) (by kernel_rfl) (fun _ _ _ h => h) (by rfl) ?_ ?_
      rotate_left
      · (intro W hSw; have hcW := hSw.cells; try simp only [World.size_drew, World.cell?_drew] at hcW
         go_simp; first | done | rfl)
      try simp only [Act.put, List.setIfInBounds_toArray, List.set_cons_zero, List.set_cons_succ]
      -- 8 Op.binOp BinOp.neq 9 (Operand.tmp 20) (Operand.tmp 24) 9
      refine wpMono_take' 8 (v := ?_) rfl (by kernel_rfl) (by kernel_rfl) (by kernel_rfl) (fun _ _ _ h => h) (by rfl) ?_ ?_
      rotate_left
      · (intro W hSw; have hcW := hSw.cells; try simp only [World.size_drew, World.cell?_drew] at hcW
         go_simp; first | done | rfl)
      try simp only [Act.put, List.setIfInBounds_toArray, List.set_cons_zero, List.set_cons_succ]
      refine wpMono_done (by kernel_rfl) ?_ _
      go_wp2
      go_roundw
      case rel => exact ⟨k + 1, by omega, by go_num, I2.out.drew⟩
      case measure => simp [intOf]; omega
    · obtain rfl : n = k := by omega
      have I2 := Lib.hid i2
      clear i2
      go_wp2
      go_ret
      exact ⟨rfl, I2.out⟩
/-- a store and the document's, of like rows; w0 is as it was -/
structure Both (w0 : World) (g bm gr : Nat) (A : Option Addr) (c : Nat) (L : List R) (w : World) : Prop where
  st : StI w g bm L
  rf : RefI w gr A c L
  bel : Below w0.heap.size w0 w
theorem Both.below {w0 w w' : World} {g bm gr : Nat} {A : Option Addr} {c : Nat} {L : List R} (h : Both w0 g bm gr A c L w) (hb : Below w.heap.size w w') : Both w0 g bm gr A c L w' := ⟨h.st.below hb, h.rf.below hb, below_step h.bel hb⟩
theorem reads_on {w w' : World} {size n : Nat} {A : Option Addr} {xs : List Value} (h : Reads w w.heap.size size A n xs) (hb : Below w.heap.size w w') : Reads w' w'.heap.size size A n xs := (h.below hb).more hb.size
theorem keysL_len (L : List R) (s : ByteArray) : (keysL L s).length ≤ L.length := by unfold keysL; rw [List.length_map]; exact List.length_filter_le _ _
theorem livesL_len (L : List R) : (livesL L).length ≤ L.length := by unfold livesL; rw [List.length_map]; exact List.length_filter_le _ _
set_option maxRecDepth 100000 in
set_option maxHeartbeats 8000000 in
theorem same_both (g bm gr : Nat) (A : Option Addr) (c : Nat) (L : List R) (s k : ByteArray) (w : World) (h : StI w g bm L) (hf : RefI w gr A c L) (hs : s.size ≤ maxLen) (hk : k.size ≤ maxLen) (hl : L.length ≤ 100000) :
    Calls Tryd.prog 11 #[.pointer (some ⟨g, 0, none⟩), .pointer (some ⟨gr, 0, none⟩), .string s, .string k] w fun e w' => e = .returned (.bool true) ∧ Below w.heap.size w w' := by
  have H := Lib.hid (show Both w g bm gr A c L w from ⟨h, hf, Below.refl _ _⟩)
  have heq : ∀ W : World, _ := fun W => eql_rcell (atL L (s, ⟨#[]⟩)) (atL L (s, ⟨#[]⟩)) W
  rw [cellEq_self] at heq
  have HEQ := Lib.hid heq
  obtain ⟨cc, hcc⟩ : ∃ cc, getC k (atL L (s, ⟨#[]⟩)) (atL L (s, k)) = cc := ⟨_, rfl⟩
  obtain ⟨sv, hsv⟩ : ∃ sv, (if cc = 0 then (atL L (s, k)).v else ⟨#[]⟩) = sv := ⟨_, rfl⟩
  have HCC := Lib.hid hcc
  have HSV := Lib.hid hsv
  clear h hf heq hcc hsv
  go_enter Tryd.func11, Tryd.ntmps11
  go_wp2_with fail
  refine (get_any g bm L s k w H.out.st hs hk _ _ rfl rfl).mono ?_
  unfold GetR GetK
  rw [HCC.out, HSV.out]
  rintro e w1 ⟨er, rfl, heo, hb1⟩
  have H0 := Lib.hid (H.out.below hb1)
  have HEO := Lib.hid heo
  clear heo hb1 H
  go_wp2_with fail
  refine (get_ref gr A c L s k w1 H0.out.rf H0.out.st.up (by omega) _ _ rfl rfl).mono ?_
  unfold GetF
  rw [HCC.out, HSV.out]
  rintro e w2 ⟨rfl, hb2⟩
  have H1 := Lib.hid ((H0.out.below hb2).below (Below.refl _ _).drew)
  have H01 := Lib.hid (H0.out.below hb2)
  have HEO2 := Lib.hid (HEO.out.below hb2)
  clear hb2 HEO H0
  by_cases hc : cc = 0
  · subst hc
    obtain rfl : er = .nilIface := by
      rcases HEO2.out with ⟨_, h⟩ | ⟨h, _⟩
      · exact h
      · exact absurd rfl h
    go_wp2_with fail
    refine wp_region_mono nobody (by kernel_rfl) ?_
    -- 0 Op.move (Operand.tmp 0)
    refine wpMono_take' 0 (v := ?_) rfl (by kernel_rfl) (by kernel_rfl) (by kernel_rfl) (fun _ _ _ h => h) (by rfl) ?_ ?_
    rotate_left
    · (intro W hSw; (try (have f0 := (hSw.cell 0 HRL.out (fun h => h)).trans HRQ.out))
       go_simp; first | done | rfl)
    try simp only [Act.put, List.setIfInBounds_toArray, List.set_cons_zero, List.set_cons_succ]
    -- 1 Op.move (Operand.tmp 2)
    refine wpMono_take' 1 (v := ?_) rfl (by kernel_rfl) (by kernel_rfl) (by kernel_rfl) (fun _ _ _ h => h) (by rfl) ?_ ?_
    rotate_left
    · (intro W hSw; (try (have f0 := (hSw.cell 0 HRL.out (fun h => h)).trans HRQ.out))
       go_simp; first | done | rfl)
    try simp only [Act.put, List.setIfInBounds_toArray, List.set_cons_zero, List.set_cons_succ]
    -- 3 Op.move (Operand.tmp 1)
    refine wpMono_take' 3 (v := ?_) rfl (by kernel_rfl) (by kernel_rfl) (by kernel_rfl) (fun _ _ _ h => h) (by rfl) ?_ ?_
    rotate_left
    · (intro W hSw; (try (have f0 := (hSw.cell 0 HRL.out (fun h => h)).trans HRQ.out))
       go_simp; first | done | rfl)
    try simp only [Act.put, List.setIfInBounds_toArray, List.set_cons_zero, List.set_cons_succ]
    -- 4 Op.move (Operand.tmp 2)
    refine wpMono_take' 4 (v := ?_) rfl (by kernel_rfl) (by kernel_rfl) (by kernel_rfl) (fun _ _ _ h => h) (by rfl) ?_ ?_
    rotate_left
    · (intro W hSw; (try (have f0 := (hSw.cell 0 HRL.out (fun h => h)).trans HRQ.out))
       go_simp; first | done | rfl)
    try simp only [Act.put, List.setIfInBounds_toArray, List.set_cons_zero, List.set_cons_succ]
    -- EFFECT 2 Op.call { callee := Callee.value (Operand.func 24), args := #[Operand.tmp 49, Operand.tmp 50], argTypes := #[36, 9] }
    refine wpMono_one' 2 (by kernel_rfl) rfl (by rfl) (fun K hK => ?_)
    go_simp
    refine (head_any g bm L s _ H1.out.st hs).mono ?_
    rintro e w11 ⟨rfl, hb⟩
    have HB := Lib.hid hb
    have H2 := Lib.hid (H1.out.below hb)
    clear hb
    refine hK.out _ _ ?_ ?_
    · exact .of_below HB.out
    clear hK K
    try simp only [Act.put, List.setIfInBounds_toArray, List.set_cons_zero, List.set_cons_succ]
    -- EFFECT 5 Op.call { callee := Callee.value (Operand.func 25), args := #[Operand.tmp 52, Operand.tmp 53], argTypes := #[48, 9] }
    refine wpMono_one' 5 (by kernel_rfl) rfl (by rfl) (fun K hK => ?_)
    go_simp
    refine (head_ref gr A c L s _ H2.out.rf H2.out.st.up (by omega)).mono ?_
    rintro e w12 ⟨rfl, hb⟩
    have HBb := Lib.hid hb
    have H3 := Lib.hid (H2.out.below hb)
    clear hb
    refine hK.out _ _ ?_ ?_
    · exact .of_below HBb.out
    clear hK K
    try simp only [Act.put, List.setIfInBounds_toArray, List.set_cons_zero, List.set_cons_succ]
    -- 6 Op.binOp BinOp.eql 33 (Operand.tmp 51) (Operand.tmp 54) 33
    refine wpMono_take' 6 (v := ?_) rfl (by kernel_rfl) (by kernel_rfl) (by kernel_rfl) (fun _ _ _ h => h) (by rfl) ?_ ?_
    rotate_left
    · (intro W hSw; first | ((refine exec_eql 33 33 (.tmp 51) (.tmp 54) ?_ _ _ ?_ ?_ ?_ _ (HEQ.out W); rfl; rfl; rfl; kernel_rfl)) | ((try (have f0 := (hSw.cell 0 HRL.out (fun h => h)).trans HRQ.out)); go_simp; done) | ((try (have f0 := (hSw.cell 0 HRL.out (fun h => h)).trans HRQ.out)); go_simp; rfl))
    try simp only [Act.put, List.setIfInBounds_toArray, List.set_cons_zero, List.set_cons_succ]
    -- 7 Op.move (Operand.tmp 55)
    refine wpMono_take' 7 (v := ?_) rfl (by kernel_rfl) (by kernel_rfl) (by kernel_rfl) (fun _ _ _ h => h) (by rfl) ?_ ?_
    rotate_left
    · (intro W hSw; (try (have f0 := (hSw.cell 0 HRL.out (fun h => h)).trans HRQ.out))
       go_simp; first | done | rfl)
    try simp only [Act.put, List.setIfInBounds_toArray, List.set_cons_zero, List.set_cons_succ]
    -- 8 Op.move (Operand.tmp 0)
    refine wpMono_take' 8 (v := ?_) rfl (by kernel_rfl) (by kernel_rfl) (by kernel_rfl) (fun _ _ _ h => h) (by rfl) ?_ ?_
    rotate_left
    · (intro W hSw; (try (have f0 := (hSw.cell 0 HRL.out (fun h => h)).trans HRQ.out))
       go_simp; first | done | rfl)
    try simp only [Act.put, List.setIfInBounds_toArray, List.set_cons_zero, List.set_cons_succ]
    -- 9 Op.move (Operand.tmp 2)
    refine wpMono_take' 9 (v := ?_) rfl (by kernel_rfl) (by kernel_rfl) (by kernel_rfl) (fun _ _ _ h => h) (by rfl) ?_ ?_
    rotate_left
    · (intro W hSw; (try (have f0 := (hSw.cell 0 HRL.out (fun h => h)).trans HRQ.out))
       go_simp; first | done | rfl)
    try simp only [Act.put, List.setIfInBounds_toArray, List.set_cons_zero, List.set_cons_succ]
    -- 11 Op.move (Operand.tmp 1)
    refine wpMono_take' 11 (v := ?_) rfl (by kernel_rfl) (by kernel_rfl) (by kernel_rfl) (fun _ _ _ h => h) (by rfl) ?_ ?_
    rotate_left
    · (intro W hSw; (try (have f0 := (hSw.cell 0 HRL.out (fun h => h)).trans HRQ.out))
       go_simp; first | done | rfl)
    try simp only [Act.put, List.setIfInBounds_toArray, List.set_cons_zero, List.set_cons_succ]
    -- 12 Op.move (Operand.tmp 2)
    refine wpMono_take' 12 (v := ?_) rfl (by kernel_rfl) (by kernel_rfl) (by kernel_rfl) (fun _ _ _ h => h) (by rfl) ?_ ?_
    rotate_left
    · (intro W hSw; (try (have f0 := (hSw.cell 0 HRL.out (fun h => h)).trans HRQ.out))
       go_simp; first | done | rfl)
    try simp only [Act.put, List.setIfInBounds_toArray, List.set_cons_zero, List.set_cons_succ]
    -- EFFECT 10 Op.call { callee := Callee.value (Operand.func 27), args := #[Operand.tmp 57, Operand.tmp 58], argTypes := #[36, 9] }
    refine wpMono_one' 10 (by kernel_rfl) rfl (by rfl) (fun K hK => ?_)
    go_simp
    refine (keys_any g bm L s _ H3.out.st (by omega)).mono ?_
    rintro e w13 ⟨va, rfl, ho, hb⟩
    obtain ⟨Ak, ck, rfl⟩ := ownsRow_slice ho
    have HRk := Lib.hid (Reads.of_own ho)
    have HBc := Lib.hid hb
    have H4 := Lib.hid (H3.out.below hb)
    clear hb ho
    refine hK.out _ _ ?_ ?_
    · exact .of_below HBc.out
    clear hK K
    try simp only [Act.put, List.setIfInBounds_toArray, List.set_cons_zero, List.set_cons_succ]
    -- EFFECT 13 Op.call { callee := Callee.value (Operand.func 28), args := #[Operand.tmp 60, Operand.tmp 61], argTypes := #[48, 9] }
    refine wpMono_one' 13 (by kernel_rfl) rfl (by rfl) (fun K hK => ?_)
    go_simp
    refine (keys_ref gr A c L s _ H4.out.rf (by omega)).mono ?_
    rintro e w14 ⟨va, rfl, ho, hb⟩
    obtain ⟨Al, cl, rfl⟩ := ownsRow_slice ho
    have HRl := Lib.hid (Reads.of_own ho)
    have HRk2 := Lib.hid (reads_on HRk.out hb)
    have HBd := Lib.hid hb
    have H5 := Lib.hid (H4.out.below hb)
    clear hb ho
    refine hK.out _ _ ?_ ?_
    · exact .of_below HBd.out
    clear hK K
    try simp only [Act.put, List.setIfInBounds_toArray, List.set_cons_zero, List.set_cons_succ]
    -- EFFECT 14 Op.call { callee := Callee.value (Operand.func 26), args := #[Operand.tmp 59, Operand.tmp 62], argTypes := #[83, 83] }
    refine wpMono_one' 14 (by kernel_rfl) rfl (by rfl) (fun K hK => ?_)
    go_simp
    refine (texts_same Ak Al _ ck cl (keysL L s) _ rfl (by have := keysL_len L s; omega) HRk2.out HRl.out).mono ?_
    rintro e w15 ⟨rfl, hb⟩
    have HBe := Lib.hid hb
    have H6 := Lib.hid (H5.out.below hb)
    clear hb
    refine hK.out _ _ ?_ ?_
    · exact .of_below HBe.out
    clear hK K
    try simp only [Act.put, List.setIfInBounds_toArray, List.set_cons_zero, List.set_cons_succ]
    -- 15 Op.pick (Operand.tmp 56) (Operand.tmp 63) (Operand.const (Value.bool false))
    refine wpMono_take' 15 (v := ?_) rfl (by kernel_rfl) (by kernel_rfl) (by kernel_rfl) (fun _ _ _ h => h) (by rfl) ?_ ?_
    rotate_left
    · (intro W hSw; (try (have f0 := (hSw.cell 0 HRL.out (fun h => h)).trans HRQ.out))
       go_simp; first | done | rfl)
    try simp only [Act.put, List.setIfInBounds_toArray, List.set_cons_zero, List.set_cons_succ]
    -- 16 Op.move (Operand.tmp 64)
    refine wpMono_take' 16 (v := ?_) rfl (by kernel_rfl) (by kernel_rfl) (by kernel_rfl) (fun _ _ _ h => h) (by rfl) ?_ ?_
    rotate_left
    · (intro W hSw; (try (have f0 := (hSw.cell 0 HRL.out (fun h => h)).trans HRQ.out))
       go_simp; first | done | rfl)
    try simp only [Act.put, List.setIfInBounds_toArray, List.set_cons_zero, List.set_cons_succ]
    -- 17 Op.move (Operand.tmp 0)
    refine wpMono_take' 17 (v := ?_) rfl (by kernel_rfl) (by kernel_rfl) (by kernel_rfl) (fun _ _ _ h => h) (by rfl) ?_ ?_
    rotate_left
    · (intro W hSw; (try (have f0 := (hSw.cell 0 HRL.out (fun h => h)).trans HRQ.out))
       go_simp; first | done | rfl)
    try simp only [Act.put, List.setIfInBounds_toArray, List.set_cons_zero, List.set_cons_succ]
    -- 19 Op.move (Operand.tmp 1)
    refine wpMono_take' 19 (v := ?_) rfl (by kernel_rfl) (by kernel_rfl) (by kernel_rfl) (fun _ _ _ h => h) (by rfl) ?_ ?_
    rotate_left
    · (intro W hSw; (try (have f0 := (hSw.cell 0 HRL.out (fun h => h)).trans HRQ.out))
       go_simp; first | done | rfl)
    try simp only [Act.put, List.setIfInBounds_toArray, List.set_cons_zero, List.set_cons_succ]
    -- EFFECT 18 Op.call { callee := Callee.value (Operand.func 29), args := #[Operand.tmp 66], argTypes := #[36] }
    refine wpMono_one' 18 (by kernel_rfl) rfl (by rfl) (fun K hK => ?_)
    go_simp
    refine (lives_any g bm L _ H6.out.st (by omega)).mono ?_
    rintro e w16 ⟨va, rfl, ho, hb⟩
    obtain ⟨Am, cm, rfl⟩ := ownsRow_slice ho
    have HRm := Lib.hid (Reads.of_own ho)
    have HBf := Lib.hid hb
    have H7 := Lib.hid (H6.out.below hb)
    clear hb ho
    refine hK.out _ _ ?_ ?_
    · exact .of_below HBf.out
    clear hK K
    try simp only [Act.put, List.setIfInBounds_toArray, List.set_cons_zero, List.set_cons_succ]
    -- EFFECT 20 Op.call { callee := Callee.value (Operand.func 30), args := #[Operand.tmp 68], argTypes := #[48] }
    refine wpMono_one' 20 (by kernel_rfl) rfl (by rfl) (fun K hK => ?_)
    go_simp
    refine (lives_ref gr A c L _ H7.out.rf (by omega)).mono ?_
    rintro e w17 ⟨va, rfl, ho, hb⟩
    obtain ⟨An, cn, rfl⟩ := ownsRow_slice ho
    have HRn := Lib.hid (Reads.of_own ho)
    have HRm2 := Lib.hid (reads_on HRm.out hb)
    have HBg := Lib.hid hb
    have H8 := Lib.hid (H7.out.below hb)
    clear hb ho
    refine hK.out _ _ ?_ ?_
    · exact .of_below HBg.out
    clear hK K
    try simp only [Act.put, List.setIfInBounds_toArray, List.set_cons_zero, List.set_cons_succ]
    -- EFFECT 21 Op.call { callee := Callee.value (Operand.func 26), args := #[Operand.tmp 67, Operand.tmp 69], argTypes := #[83, 83] }
    refine wpMono_one' 21 (by kernel_rfl) rfl (by rfl) (fun K hK => ?_)
    go_simp
    refine (texts_same Am An _ cm cn (livesL L) _ rfl (by have := livesL_len L; omega) HRm2.out HRn.out).mono ?_
    rintro e w18 ⟨rfl, hb⟩
    have HBh := Lib.hid hb
    have H9 := Lib.hid (H8.out.below hb)
    have HRQ := Lib.hid (H9.out.rf.blk.cell 0)
    have HRL := Lib.hid H9.out.rf.blk.lt
    clear hb
    refine hK.out _ _ ?_ ?_
    · exact .of_below HBh.out
    clear hK K
    try simp only [Act.put, List.setIfInBounds_toArray, List.set_cons_zero, List.set_cons_succ]
    -- 22 Op.pick (Operand.tmp 65) (Operand.tmp 70) (Operand.const (Value.bool false))
    refine wpMono_take' 22 (v := ?_) rfl (by kernel_rfl) (by kernel_rfl) (by kernel_rfl) (fun _ _ _ h => h) (by rfl) ?_ ?_
    rotate_left
    · (intro W hSw; (try (have f0 := (hSw.cell 0 HRL.out (fun h => h)).trans HRQ.out))
       go_simp; first | done | rfl)
    try simp only [Act.put, List.setIfInBounds_toArray, List.set_cons_zero, List.set_cons_succ]
    -- 23 Op.move (Operand.tmp 71)
    refine wpMono_take' 23 (v := ?_) rfl (by kernel_rfl) (by kernel_rfl) (by kernel_rfl) (fun _ _ _ h => h) (by rfl) ?_ ?_
    rotate_left
    · (intro W hSw; (try (have f0 := (hSw.cell 0 HRL.out (fun h => h)).trans HRQ.out))
       go_simp; first | done | rfl)
    try simp only [Act.put, List.setIfInBounds_toArray, List.set_cons_zero, List.set_cons_succ]
    -- 24 Op.move (Operand.tmp 0)
    refine wpMono_take' 24 (v := ?_) rfl (by kernel_rfl) (by kernel_rfl) (by kernel_rfl) (fun _ _ _ h => h) (by rfl) ?_ ?_
    rotate_left
    · (intro W hSw; (try (have f0 := (hSw.cell 0 HRL.out (fun h => h)).trans HRQ.out))
       go_simp; first | done | rfl)
    try simp only [Act.put, List.setIfInBounds_toArray, List.set_cons_zero, List.set_cons_succ]
    -- 27 Op.move (Operand.tmp 1)
    refine wpMono_take' 27 (v := ?_) rfl (by kernel_rfl) (by kernel_rfl) (by kernel_rfl) (fun _ _ _ h => h) (by rfl) ?_ ?_
    rotate_left
    · (intro W hSw; (try (have f0 := (hSw.cell 0 HRL.out (fun h => h)).trans HRQ.out))
       go_simp; first | done | rfl)
    try simp only [Act.put, List.setIfInBounds_toArray, List.set_cons_zero, List.set_cons_succ]
    -- 28 Op.nilCheck (Operand.tmp 76)
    refine wpMono_take' 28 (v := ?_) rfl (by kernel_rfl) (by kernel_rfl) (by kernel_rfl) (fun _ _ _ h => h) (by rfl) ?_ ?_
    rotate_left
    · (intro W hSw; (try (have f0 := (hSw.cell 0 HRL.out (fun h => h)).trans HRQ.out))
       go_simp; first | done | rfl)
    try simp only [Act.put, List.setIfInBounds_toArray, List.set_cons_zero, List.set_cons_succ]
    -- 29 Op.fieldAddr 50 (Operand.tmp 77) 0
    refine wpMono_take' 29 (v := ?_) rfl (by kernel_rfl) (by kernel_rfl) (by kernel_rfl) (fun _ _ _ h => h) (by rfl) ?_ ?_
    rotate_left
    · (intro W hSw; (try (have f0 := (hSw.cell 0 HRL.out (fun h => h)).trans HRQ.out))
       go_simp; first | done | rfl)
    try simp only [Act.put, List.setIfInBounds_toArray, List.set_cons_zero, List.set_cons_succ]
    -- 30 Op.load 22 (Operand.tmp 78)
    refine wpMono_take' 30 (v := ?_) rfl (by kernel_rfl) (by kernel_rfl) (by kernel_rfl) (fun _ _ _ h => h) (by rfl) ?_ ?_
    rotate_left
    · (intro W hSw; (try (have f0 := (hSw.cell 0 HRL.out (fun h => h)).trans HRQ.out))
       go_simp; first | done | rfl)
    try simp only [Act.put, List.setIfInBounds_toArray, List.set_cons_zero, List.set_cons_succ]
    -- EFFECT 25 Op.call { callee := Callee.value (Operand.func 33), args := #[Operand.tmp 73], argTypes := #[36] }
    refine wpMono_one' 25 (by kernel_rfl) rfl (by rfl) (fun K hK => ?_)
    go_simp
    refine (rows_any g bm L _ H9.out.st (by omega)).mono ?_
    rintro e w19 ⟨va, rfl, ho, hb⟩
    obtain ⟨Ao, co, rfl, hro⟩ := own_reads ho
    have HRo := Lib.hid hro
    have HBi := Lib.hid hb
    have H10 := Lib.hid (H9.out.below hb)
    clear hb ho hro
    refine hK.out _ _ ?_ ?_
    · exact .of_below HBi.out
    clear hK K
    try simp only [Act.put, List.setIfInBounds_toArray, List.set_cons_zero, List.set_cons_succ]
    -- EFFECT 26 Op.call { callee := Callee.value (Operand.func 32), args := #[Operand.tmp 74], argTypes := #[41] }
    refine wpMono_one' 26 (by kernel_rfl) rfl (by rfl) (fun K hK => ?_)
    go_simp
    refine (plain_any Ao _ co L _ rfl (by omega) HRo.out).mono ?_
    rintro e w20 ⟨va, rfl, ho, hb⟩
    obtain ⟨Ap, cp, rfl, hrp⟩ := own_reads ho
    have HRp := Lib.hid hrp
    have HBj := Lib.hid hb
    have H11 := Lib.hid (H10.out.below hb)
    clear hb ho hrp
    refine hK.out _ _ ?_ ?_
    · exact .of_below HBj.out
    clear hK K
    try simp only [Act.put, List.setIfInBounds_toArray, List.set_cons_zero, List.set_cons_succ]
    -- EFFECT 31 Op.call { callee := Callee.value (Operand.func 31), args := #[Operand.tmp 75, Operand.tmp 79], argTypes := #[22, 22] }
    refine wpMono_one' 31 (by kernel_rfl) rfl (by rfl) (fun K hK => ?_)
    go_simp
    refine (same_any Ap A _ cp _ c L L _ rfl rfl (by omega) (by omega) HRp.out H11.out.rf.rd).mono ?_
    rintro e w21 ⟨rfl, hb⟩
    rw [decide_eq_true rfl]
    have HBk := Lib.hid hb
    have H12 := Lib.hid (H11.out.below hb)
    clear hb
    refine hK.out _ _ ?_ ?_
    · exact .of_below HBk.out
    clear hK K
    try simp only [Act.put, List.setIfInBounds_toArray, List.set_cons_zero, List.set_cons_succ]
    -- 32 Op.pick (Operand.tmp 72) (Operand.tmp 80) (Operand.const (Value.bool false))
    refine wpMono_take' 32 (v := ?_) rfl (by kernel_rfl) (by kernel_rfl) (by kernel_rfl) (fun _ _ _ h => h) (by rfl) ?_ ?_
    rotate_left
    · (intro W hSw; (try (have f0 := (hSw.cell 0 HRL.out (fun h => h)).trans HRQ.out))
       go_simp; first | done | rfl)
    try simp only [Act.put, List.setIfInBounds_toArray, List.set_cons_zero, List.set_cons_succ]
    -- 33 Op.move (Operand.tmp 81)
    refine wpMono_take' 33 (v := ?_) rfl (by kernel_rfl) (by kernel_rfl) (by kernel_rfl) (fun _ _ _ h => h) (by rfl) ?_ ?_
    rotate_left
    · (intro W hSw; (try (have f0 := (hSw.cell 0 HRL.out (fun h => h)).trans HRQ.out))
       go_simp; first | done | rfl)
    try simp only [Act.put, List.setIfInBounds_toArray, List.set_cons_zero, List.set_cons_succ]
    -- 34 Op.move (Operand.tmp 0)
    refine wpMono_take' 34 (v := ?_) rfl (by kernel_rfl) (by kernel_rfl) (by kernel_rfl) (fun _ _ _ h => h) (by rfl) ?_ ?_
    rotate_left
    · (intro W hSw; (try (have f0 := (hSw.cell 0 HRL.out (fun h => h)).trans HRQ.out))
       go_simp; first | done | rfl)
    try simp only [Act.put, List.setIfInBounds_toArray, List.set_cons_zero, List.set_cons_succ]
    -- 37 Op.move (Operand.tmp 1)
    refine wpMono_take' 37 (v := ?_) rfl (by kernel_rfl) (by kernel_rfl) (by kernel_rfl) (fun _ _ _ h => h) (by rfl) ?_ ?_
    rotate_left
    · (intro W hSw; (try (have f0 := (hSw.cell 0 HRL.out (fun h => h)).trans HRQ.out))
       go_simp; first | done | rfl)
    try simp only [Act.put, List.setIfInBounds_toArray, List.set_cons_zero, List.set_cons_succ]
    -- EFFECT 35 Op.call { callee := Callee.value (Operand.func 34), args := #[Operand.tmp 83], argTypes := #[36] }
    refine wpMono_one' 35 (by kernel_rfl) rfl (by rfl) (fun K hK => ?_)
    go_simp
    refine (shows_any g bm L _ H12.out.st (by omega)).mono ?_
    rintro e w22 ⟨va, rfl, ho, hb⟩
    obtain ⟨Aq, cq, rfl, hro⟩ := own_reads ho
    have HRq := Lib.hid hro
    have HBl := Lib.hid hb
    have H13 := Lib.hid (H12.out.below hb)
    clear hb ho hro
    refine hK.out _ _ ?_ ?_
    · exact .of_below HBl.out
    clear hK K
    try simp only [Act.put, List.setIfInBounds_toArray, List.set_cons_zero, List.set_cons_succ]
    -- EFFECT 36 Op.call { callee := Callee.value (Operand.func 32), args := #[Operand.tmp 84], argTypes := #[41] }
    refine wpMono_one' 36 (by kernel_rfl) rfl (by rfl) (fun K hK => ?_)
    go_simp
    refine (plain_any Aq _ cq (showL L) _ rfl (by have := showL_len L; omega) HRq.out).mono ?_
    rintro e w23 ⟨va, rfl, ho, hb⟩
    obtain ⟨Ar, cr, rfl, hrp⟩ := own_reads ho
    have HRr := Lib.hid hrp
    have HBm := Lib.hid hb
    have H14 := Lib.hid (H13.out.below hb)
    clear hb ho hrp
    refine hK.out _ _ ?_ ?_
    · exact .of_below HBm.out
    clear hK K
    try simp only [Act.put, List.setIfInBounds_toArray, List.set_cons_zero, List.set_cons_succ]
    -- EFFECT 38 Op.call { callee := Callee.value (Operand.func 35), args := #[Operand.tmp 86], argTypes := #[48] }
    refine wpMono_one' 38 (by kernel_rfl) rfl (by rfl) (fun K hK => ?_)
    go_simp
    refine (shows_ref gr A c L _ H14.out.rf H14.out.st.up (by omega)).mono ?_
    rintro e w24 ⟨va, rfl, ho, hb⟩
    obtain ⟨As, cs, rfl, hrp⟩ := own_reads ho
    have HRs := Lib.hid hrp
    have HRr2 := Lib.hid (reads_on HRr.out hb)
    have HBn := Lib.hid hb
    have H15 := Lib.hid (H14.out.below hb)
    clear hb ho hrp
    refine hK.out _ _ ?_ ?_
    · exact .of_below HBn.out
    clear hK K
    try simp only [Act.put, List.setIfInBounds_toArray, List.set_cons_zero, List.set_cons_succ]
    -- EFFECT 39 Op.call { callee := Callee.value (Operand.func 31), args := #[Operand.tmp 85, Operand.tmp 87], argTypes := #[22, 22] }
    refine wpMono_one' 39 (by kernel_rfl) rfl (by rfl) (fun K hK => ?_)
    go_simp
    refine (same_any Ar As _ cr _ cs (showL L) (showL L) _ rfl rfl (by have := showL_len L; omega) (by have := showL_len L; omega) HRr2.out HRs.out).mono ?_
    rintro e w25 ⟨rfl, hb⟩
    rw [decide_eq_true rfl]
    have HBo := Lib.hid hb
    have H16 := Lib.hid (H15.out.below hb)
    clear hb
    refine hK.out _ _ ?_ ?_
    · exact .of_below HBo.out
    clear hK K
    try simp only [Act.put, List.setIfInBounds_toArray, List.set_cons_zero, List.set_cons_succ]
    -- 40 Op.pick (Operand.tmp 82) (Operand.tmp 88) (Operand.const (Value.bool false))
    refine wpMono_take' 40 (v := ?_) rfl (by kernel_rfl) (by kernel_rfl) (by kernel_rfl) (fun _ _ _ h => h) (by rfl) ?_ ?_
    rotate_left
    · (intro W hSw; (try (have f0 := (hSw.cell 0 HRL.out (fun h => h)).trans HRQ.out))
       go_simp; first | done | rfl)
    try simp only [Act.put, List.setIfInBounds_toArray, List.set_cons_zero, List.set_cons_succ]
    -- 41 Op.assign (Operand.tmp 89)
    refine wpMono_take' 41 (v := ?_) rfl (by kernel_rfl) (by kernel_rfl) (by kernel_rfl) (fun _ _ _ h => h) (by rfl) ?_ ?_
    rotate_left
    · (intro W hSw; (try (have f0 := (hSw.cell 0 HRL.out (fun h => h)).trans HRQ.out))
       go_simp; first | done | rfl)
    try simp only [Act.put, List.setIfInBounds_toArray, List.set_cons_zero, List.set_cons_succ]
    refine wpMono_done (by kernel_rfl) ?_ _
    go_wp2
    go_ret
    exact ⟨rfl, H16.out.bel⟩
  · obtain ⟨ge, rfl⟩ := HEO2.out.form hc
    have hc1 : (cc == 0) = false := by simpa using hc
    have hc2 : (cc != 0) = true := by simpa using hc
    go_wp2_with fail
    refine (is_eo _ cc cc w2 HEO2.out).mono ?_
    rintro e w3 ⟨rfl, rfl⟩
    rw [decide_eq_true hc]
    go_wp2_with fail
    refine wp_region_mono nobody (by kernel_rfl) ?_
    -- 0 Op.move (Operand.tmp 0)
    refine wpMono_take' 0 (v := ?_) rfl (by kernel_rfl) (by kernel_rfl) (by kernel_rfl) (fun _ _ _ h => h) (by rfl) ?_ ?_
    rotate_left
    · (intro W hSw; (try (have f0 := (hSw.cell 0 HRL.out (fun h => h)).trans HRQ.out))
       go_simp; first | done | rfl)
    try simp only [Act.put, List.setIfInBounds_toArray, List.set_cons_zero, List.set_cons_succ]
    -- 1 Op.move (Operand.tmp 2)
    refine wpMono_take' 1 (v := ?_) rfl (by kernel_rfl) (by kernel_rfl) (by kernel_rfl) (fun _ _ _ h => h) (by rfl) ?_ ?_
    rotate_left
    · (intro W hSw; (try (have f0 := (hSw.cell 0 HRL.out (fun h => h)).trans HRQ.out))
       go_simp; first | done | rfl)
    try simp only [Act.put, List.setIfInBounds_toArray, List.set_cons_zero, List.set_cons_succ]
    -- 3 Op.move (Operand.tmp 1)
    refine wpMono_take' 3 (v := ?_) rfl (by kernel_rfl) (by kernel_rfl) (by kernel_rfl) (fun _ _ _ h => h) (by rfl) ?_ ?_
    rotate_left
    · (intro W hSw; (try (have f0 := (hSw.cell 0 HRL.out (fun h => h)).trans HRQ.out))
       go_simp; first | done | rfl)
    try simp only [Act.put, List.setIfInBounds_toArray, List.set_cons_zero, List.set_cons_succ]
    -- 4 Op.move (Operand.tmp 2)
    refine wpMono_take' 4 (v := ?_) rfl (by kernel_rfl) (by kernel_rfl) (by kernel_rfl) (fun _ _ _ h => h) (by rfl) ?_ ?_
    rotate_left
    · (intro W hSw; (try (have f0 := (hSw.cell 0 HRL.out (fun h => h)).trans HRQ.out))
       go_simp; first | done | rfl)
    try simp only [Act.put, List.setIfInBounds_toArray, List.set_cons_zero, List.set_cons_succ]
    -- EFFECT 2 Op.call { callee := Callee.value (Operand.func 24), args := #[Operand.tmp 49, Operand.tmp 50], argTypes := #[36, 9] }
    refine wpMono_one' 2 (by kernel_rfl) rfl (by rfl) (fun K hK => ?_)
    go_simp
    refine (head_any g bm L s _ H1.out.st hs).mono ?_
    rintro e w11 ⟨rfl, hb⟩
    have HB := Lib.hid hb
    have H2 := Lib.hid (H1.out.below hb)
    clear hb
    refine hK.out _ _ ?_ ?_
    · exact .of_below HB.out
    clear hK K
    try simp only [Act.put, List.setIfInBounds_toArray, List.set_cons_zero, List.set_cons_succ]
    -- EFFECT 5 Op.call { callee := Callee.value (Operand.func 25), args := #[Operand.tmp 52, Operand.tmp 53], argTypes := #[48, 9] }
    refine wpMono_one' 5 (by kernel_rfl) rfl (by rfl) (fun K hK => ?_)
    go_simp
    refine (head_ref gr A c L s _ H2.out.rf H2.out.st.up (by omega)).mono ?_
    rintro e w12 ⟨rfl, hb⟩
    have HBb := Lib.hid hb
    have H3 := Lib.hid (H2.out.below hb)
    clear hb
    refine hK.out _ _ ?_ ?_
    · exact .of_below HBb.out
    clear hK K
    try simp only [Act.put, List.setIfInBounds_toArray, List.set_cons_zero, List.set_cons_succ]
    -- 6 Op.binOp BinOp.eql 33 (Operand.tmp 51) (Operand.tmp 54) 33
    refine wpMono_take' 6 (v := ?_) rfl (by kernel_rfl) (by kernel_rfl) (by kernel_rfl) (fun _ _ _ h => h) (by rfl) ?_ ?_
    rotate_left
    · (intro W hSw; first | ((refine exec_eql 33 33 (.tmp 51) (.tmp 54) ?_ _ _ ?_ ?_ ?_ _ (HEQ.out W); rfl; rfl; rfl; kernel_rfl)) | ((try (have f0 := (hSw.cell 0 HRL.out (fun h => h)).trans HRQ.out)); go_simp; done) | ((try (have f0 := (hSw.cell 0 HRL.out (fun h => h)).trans HRQ.out)); go_simp; rfl))
    try simp only [Act.put, List.setIfInBounds_toArray, List.set_cons_zero, List.set_cons_succ]
    -- 7 Op.move (Operand.tmp 55)
    refine wpMono_take' 7 (v := ?_) rfl (by kernel_rfl) (by kernel_rfl) (by kernel_rfl) (fun _ _ _ h => h) (by rfl) ?_ ?_
    rotate_left
    · (intro W hSw; (try (have f0 := (hSw.cell 0 HRL.out (fun h => h)).trans HRQ.out))
       go_simp; first | done | rfl)
    try simp only [Act.put, List.setIfInBounds_toArray, List.set_cons_zero, List.set_cons_succ]
    -- 8 Op.move (Operand.tmp 0)
    refine wpMono_take' 8 (v := ?_) rfl (by kernel_rfl) (by kernel_rfl) (by kernel_rfl) (fun _ _ _ h => h) (by rfl) ?_ ?_
    rotate_left
    · (intro W hSw; (try (have f0 := (hSw.cell 0 HRL.out (fun h => h)).trans HRQ.out))
       go_simp; first | done | rfl)
    try simp only [Act.put, List.setIfInBounds_toArray, List.set_cons_zero, List.set_cons_succ]
    -- 9 Op.move (Operand.tmp 2)
    refine wpMono_take' 9 (v := ?_) rfl (by kernel_rfl) (by kernel_rfl) (by kernel_rfl) (fun _ _ _ h => h) (by rfl) ?_ ?_
    rotate_left
    · (intro W hSw; (try (have f0 := (hSw.cell 0 HRL.out (fun h => h)).trans HRQ.out))
       go_simp; first | done | rfl)
    try simp only [Act.put, List.setIfInBounds_toArray, List.set_cons_zero, List.set_cons_succ]
    -- 11 Op.move (Operand.tmp 1)
    refine wpMono_take' 11 (v := ?_) rfl (by kernel_rfl) (by kernel_rfl) (by kernel_rfl) (fun _ _ _ h => h) (by rfl) ?_ ?_
    rotate_left
    · (intro W hSw; (try (have f0 := (hSw.cell 0 HRL.out (fun h => h)).trans HRQ.out))
       go_simp; first | done | rfl)
    try simp only [Act.put, List.setIfInBounds_toArray, List.set_cons_zero, List.set_cons_succ]
    -- 12 Op.move (Operand.tmp 2)
    refine wpMono_take' 12 (v := ?_) rfl (by kernel_rfl) (by kernel_rfl) (by kernel_rfl) (fun _ _ _ h => h) (by rfl) ?_ ?_
    rotate_left
    · (intro W hSw; (try (have f0 := (hSw.cell 0 HRL.out (fun h => h)).trans HRQ.out))
       go_simp; first | done | rfl)
    try simp only [Act.put, List.setIfInBounds_toArray, List.set_cons_zero, List.set_cons_succ]
    -- EFFECT 10 Op.call { callee := Callee.value (Operand.func 27), args := #[Operand.tmp 57, Operand.tmp 58], argTypes := #[36, 9] }
    refine wpMono_one' 10 (by kernel_rfl) rfl (by rfl) (fun K hK => ?_)
    go_simp
    refine (keys_any g bm L s _ H3.out.st (by omega)).mono ?_
    rintro e w13 ⟨va, rfl, ho, hb⟩
    obtain ⟨Ak, ck, rfl⟩ := ownsRow_slice ho
    have HRk := Lib.hid (Reads.of_own ho)
    have HBc := Lib.hid hb
    have H4 := Lib.hid (H3.out.below hb)
    clear hb ho
    refine hK.out _ _ ?_ ?_
    · exact .of_below HBc.out
    clear hK K
    try simp only [Act.put, List.setIfInBounds_toArray, List.set_cons_zero, List.set_cons_succ]
    -- EFFECT 13 Op.call { callee := Callee.value (Operand.func 28), args := #[Operand.tmp 60, Operand.tmp 61], argTypes := #[48, 9] }
    refine wpMono_one' 13 (by kernel_rfl) rfl (by rfl) (fun K hK => ?_)
    go_simp
    refine (keys_ref gr A c L s _ H4.out.rf (by omega)).mono ?_
    rintro e w14 ⟨va, rfl, ho, hb⟩
    obtain ⟨Al, cl, rfl⟩ := ownsRow_slice ho
    have HRl := Lib.hid (Reads.of_own ho)
    have HRk2 := Lib.hid (reads_on HRk.out hb)
    have HBd := Lib.hid hb
    have H5 := Lib.hid (H4.out.below hb)
    clear hb ho
    refine hK.out _ _ ?_ ?_
    · exact .of_below HBd.out
    clear hK K
    try simp only [Act.put, List.setIfInBounds_toArray, List.set_cons_zero, List.set_cons_succ]
    -- EFFECT 14 Op.call { callee := Callee.value (Operand.func 26), args := #[Operand.tmp 59, Operand.tmp 62], argTypes := #[83, 83] }
    refine wpMono_one' 14 (by kernel_rfl) rfl (by rfl) (fun K hK => ?_)
    go_simp
    refine (texts_same Ak Al _ ck cl (keysL L s) _ rfl (by have := keysL_len L s; omega) HRk2.out HRl.out).mono ?_
    rintro e w15 ⟨rfl, hb⟩
    have HBe := Lib.hid hb
    have H6 := Lib.hid (H5.out.below hb)
    clear hb
    refine hK.out _ _ ?_ ?_
    · exact .of_below HBe.out
    clear hK K
    try simp only [Act.put, List.setIfInBounds_toArray, List.set_cons_zero, List.set_cons_succ]
    -- 15 Op.pick (Operand.tmp 56) (Operand.tmp 63) (Operand.const (Value.bool false))
    refine wpMono_take' 15 (v := ?_) rfl (by kernel_rfl) (by kernel_rfl) (by kernel_rfl) (fun _ _ _ h => h) (by rfl) ?_ ?_
    rotate_left
    · (intro W hSw; (try (have f0 := (hSw.cell 0 HRL.out (fun h => h)).trans HRQ.out))
       go_simp; first | done | rfl)
    try simp only [Act.put, List.setIfInBounds_toArray, List.set_cons_zero, List.set_cons_succ]
    -- 16 Op.move (Operand.tmp 64)
    refine wpMono_take' 16 (v := ?_) rfl (by kernel_rfl) (by kernel_rfl) (by kernel_rfl) (fun _ _ _ h => h) (by rfl) ?_ ?_
    rotate_left
    · (intro W hSw; (try (have f0 := (hSw.cell 0 HRL.out (fun h => h)).trans HRQ.out))
       go_simp; first | done | rfl)
    try simp only [Act.put, List.setIfInBounds_toArray, List.set_cons_zero, List.set_cons_succ]
    -- 17 Op.move (Operand.tmp 0)
    refine wpMono_take' 17 (v := ?_) rfl (by kernel_rfl) (by kernel_rfl) (by kernel_rfl) (fun _ _ _ h => h) (by rfl) ?_ ?_
    rotate_left
    · (intro W hSw; (try (have f0 := (hSw.cell 0 HRL.out (fun h => h)).trans HRQ.out))
       go_simp; first | done | rfl)
    try simp only [Act.put, List.setIfInBounds_toArray, List.set_cons_zero, List.set_cons_succ]
    -- 19 Op.move (Operand.tmp 1)
    refine wpMono_take' 19 (v := ?_) rfl (by kernel_rfl) (by kernel_rfl) (by kernel_rfl) (fun _ _ _ h => h) (by rfl) ?_ ?_
    rotate_left
    · (intro W hSw; (try (have f0 := (hSw.cell 0 HRL.out (fun h => h)).trans HRQ.out))
       go_simp; first | done | rfl)
    try simp only [Act.put, List.setIfInBounds_toArray, List.set_cons_zero, List.set_cons_succ]
    -- EFFECT 18 Op.call { callee := Callee.value (Operand.func 29), args := #[Operand.tmp 66], argTypes := #[36] }
    refine wpMono_one' 18 (by kernel_rfl) rfl (by rfl) (fun K hK => ?_)
    go_simp
    refine (lives_any g bm L _ H6.out.st (by omega)).mono ?_
    rintro e w16 ⟨va, rfl, ho, hb⟩
    obtain ⟨Am, cm, rfl⟩ := ownsRow_slice ho
    have HRm := Lib.hid (Reads.of_own ho)
    have HBf := Lib.hid hb
    have H7 := Lib.hid (H6.out.below hb)
    clear hb ho
    refine hK.out _ _ ?_ ?_
    · exact .of_below HBf.out
    clear hK K
    try simp only [Act.put, List.setIfInBounds_toArray, List.set_cons_zero, List.set_cons_succ]
    -- EFFECT 20 Op.call { callee := Callee.value (Operand.func 30), args := #[Operand.tmp 68], argTypes := #[48] }
    refine wpMono_one' 20 (by kernel_rfl) rfl (by rfl) (fun K hK => ?_)
    go_simp
    refine (lives_ref gr A c L _ H7.out.rf (by omega)).mono ?_
    rintro e w17 ⟨va, rfl, ho, hb⟩
    obtain ⟨An, cn, rfl⟩ := ownsRow_slice ho
    have HRn := Lib.hid (Reads.of_own ho)
    have HRm2 := Lib.hid (reads_on HRm.out hb)
    have HBg := Lib.hid hb
    have H8 := Lib.hid (H7.out.below hb)
    clear hb ho
    refine hK.out _ _ ?_ ?_
    · exact .of_below HBg.out
    clear hK K
    try simp only [Act.put, List.setIfInBounds_toArray, List.set_cons_zero, List.set_cons_succ]
    -- EFFECT 21 Op.call { callee := Callee.value (Operand.func 26), args := #[Operand.tmp 67, Operand.tmp 69], argTypes := #[83, 83] }
    refine wpMono_one' 21 (by kernel_rfl) rfl (by rfl) (fun K hK => ?_)
    go_simp
    refine (texts_same Am An _ cm cn (livesL L) _ rfl (by have := livesL_len L; omega) HRm2.out HRn.out).mono ?_
    rintro e w18 ⟨rfl, hb⟩
    have HBh := Lib.hid hb
    have H9 := Lib.hid (H8.out.below hb)
    have HRQ := Lib.hid (H9.out.rf.blk.cell 0)
    have HRL := Lib.hid H9.out.rf.blk.lt
    clear hb
    refine hK.out _ _ ?_ ?_
    · exact .of_below HBh.out
    clear hK K
    try simp only [Act.put, List.setIfInBounds_toArray, List.set_cons_zero, List.set_cons_succ]
    -- 22 Op.pick (Operand.tmp 65) (Operand.tmp 70) (Operand.const (Value.bool false))
    refine wpMono_take' 22 (v := ?_) rfl (by kernel_rfl) (by kernel_rfl) (by kernel_rfl) (fun _ _ _ h => h) (by rfl) ?_ ?_
    rotate_left
    · (intro W hSw; (try (have f0 := (hSw.cell 0 HRL.out (fun h => h)).trans HRQ.out))
       go_simp; first | done | rfl)
    try simp only [Act.put, List.setIfInBounds_toArray, List.set_cons_zero, List.set_cons_succ]
    -- 23 Op.move (Operand.tmp 71)
    refine wpMono_take' 23 (v := ?_) rfl (by kernel_rfl) (by kernel_rfl) (by kernel_rfl) (fun _ _ _ h => h) (by rfl) ?_ ?_
    rotate_left
    · (intro W hSw; (try (have f0 := (hSw.cell 0 HRL.out (fun h => h)).trans HRQ.out))
       go_simp; first | done | rfl)
    try simp only [Act.put, List.setIfInBounds_toArray, List.set_cons_zero, List.set_cons_succ]
    -- 24 Op.move (Operand.tmp 0)
    refine wpMono_take' 24 (v := ?_) rfl (by kernel_rfl) (by kernel_rfl) (by kernel_rfl) (fun _ _ _ h => h) (by rfl) ?_ ?_
    rotate_left
    · (intro W hSw; (try (have f0 := (hSw.cell 0 HRL.out (fun h => h)).trans HRQ.out))
       go_simp; first | done | rfl)
    try simp only [Act.put, List.setIfInBounds_toArray, List.set_cons_zero, List.set_cons_succ]
    -- 27 Op.move (Operand.tmp 1)
    refine wpMono_take' 27 (v := ?_) rfl (by kernel_rfl) (by kernel_rfl) (by kernel_rfl) (fun _ _ _ h => h) (by rfl) ?_ ?_
    rotate_left
    · (intro W hSw; (try (have f0 := (hSw.cell 0 HRL.out (fun h => h)).trans HRQ.out))
       go_simp; first | done | rfl)
    try simp only [Act.put, List.setIfInBounds_toArray, List.set_cons_zero, List.set_cons_succ]
    -- 28 Op.nilCheck (Operand.tmp 76)
    refine wpMono_take' 28 (v := ?_) rfl (by kernel_rfl) (by kernel_rfl) (by kernel_rfl) (fun _ _ _ h => h) (by rfl) ?_ ?_
    rotate_left
    · (intro W hSw; (try (have f0 := (hSw.cell 0 HRL.out (fun h => h)).trans HRQ.out))
       go_simp; first | done | rfl)
    try simp only [Act.put, List.setIfInBounds_toArray, List.set_cons_zero, List.set_cons_succ]
    -- 29 Op.fieldAddr 50 (Operand.tmp 77) 0
    refine wpMono_take' 29 (v := ?_) rfl (by kernel_rfl) (by kernel_rfl) (by kernel_rfl) (fun _ _ _ h => h) (by rfl) ?_ ?_
    rotate_left
    · (intro W hSw; (try (have f0 := (hSw.cell 0 HRL.out (fun h => h)).trans HRQ.out))
       go_simp; first | done | rfl)
    try simp only [Act.put, List.setIfInBounds_toArray, List.set_cons_zero, List.set_cons_succ]
    -- 30 Op.load 22 (Operand.tmp 78)
    refine wpMono_take' 30 (v := ?_) rfl (by kernel_rfl) (by kernel_rfl) (by kernel_rfl) (fun _ _ _ h => h) (by rfl) ?_ ?_
    rotate_left
    · (intro W hSw; (try (have f0 := (hSw.cell 0 HRL.out (fun h => h)).trans HRQ.out))
       go_simp; first | done | rfl)
    try simp only [Act.put, List.setIfInBounds_toArray, List.set_cons_zero, List.set_cons_succ]
    -- EFFECT 25 Op.call { callee := Callee.value (Operand.func 33), args := #[Operand.tmp 73], argTypes := #[36] }
    refine wpMono_one' 25 (by kernel_rfl) rfl (by rfl) (fun K hK => ?_)
    go_simp
    refine (rows_any g bm L _ H9.out.st (by omega)).mono ?_
    rintro e w19 ⟨va, rfl, ho, hb⟩
    obtain ⟨Ao, co, rfl, hro⟩ := own_reads ho
    have HRo := Lib.hid hro
    have HBi := Lib.hid hb
    have H10 := Lib.hid (H9.out.below hb)
    clear hb ho hro
    refine hK.out _ _ ?_ ?_
    · exact .of_below HBi.out
    clear hK K
    try simp only [Act.put, List.setIfInBounds_toArray, List.set_cons_zero, List.set_cons_succ]
    -- EFFECT 26 Op.call { callee := Callee.value (Operand.func 32), args := #[Operand.tmp 74], argTypes := #[41] }
    refine wpMono_one' 26 (by kernel_rfl) rfl (by rfl) (fun K hK => ?_)
    go_simp
    refine (plain_any Ao _ co L _ rfl (by omega) HRo.out).mono ?_
    rintro e w20 ⟨va, rfl, ho, hb⟩
    obtain ⟨Ap, cp, rfl, hrp⟩ := own_reads ho
    have HRp := Lib.hid hrp
    have HBj := Lib.hid hb
    have H11 := Lib.hid (H10.out.below hb)
    clear hb ho hrp
    refine hK.out _ _ ?_ ?_
    · exact .of_below HBj.out
    clear hK K
    try simp only [Act.put, List.setIfInBounds_toArray, List.set_cons_zero, List.set_cons_succ]
    -- EFFECT 31 Op.call { callee := Callee.value (Operand.func 31), args := #[Operand.tmp 75, Operand.tmp 79], argTypes := #[22, 22] }
    refine wpMono_one' 31 (by kernel_rfl) rfl (by rfl) (fun K hK => ?_)
    go_simp
    refine (same_any Ap A _ cp _ c L L _ rfl rfl (by omega) (by omega) HRp.out H11.out.rf.rd).mono ?_
    rintro e w21 ⟨rfl, hb⟩
    rw [decide_eq_true rfl]
    have HBk := Lib.hid hb
    have H12 := Lib.hid (H11.out.below hb)
    clear hb
    refine hK.out _ _ ?_ ?_
    · exact .of_below HBk.out
    clear hK K
    try simp only [Act.put, List.setIfInBounds_toArray, List.set_cons_zero, List.set_cons_succ]
    -- 32 Op.pick (Operand.tmp 72) (Operand.tmp 80) (Operand.const (Value.bool false))
    refine wpMono_take' 32 (v := ?_) rfl (by kernel_rfl) (by kernel_rfl) (by kernel_rfl) (fun _ _ _ h => h) (by rfl) ?_ ?_
    rotate_left
    · (intro W hSw; (try (have f0 := (hSw.cell 0 HRL.out (fun h => h)).trans HRQ.out))
       go_simp; first | done | rfl)
    try simp only [Act.put, List.setIfInBounds_toArray, List.set_cons_zero, List.set_cons_succ]
    -- 33 Op.move (Operand.tmp 81)
    refine wpMono_take' 33 (v := ?_) rfl (by kernel_rfl) (by kernel_rfl) (by kernel_rfl) (fun _ _ _ h => h) (by rfl) ?_ ?_
    rotate_left
    · (intro W hSw; (try (have f0 := (hSw.cell 0 HRL.out (fun h => h)).trans HRQ.out))
       go_simp; first | done | rfl)
    try simp only [Act.put, List.setIfInBounds_toArray, List.set_cons_zero, List.set_cons_succ]
    -- 34 Op.move (Operand.tmp 0)
    refine wpMono_take' 34 (v := ?_) rfl (by kernel_rfl) (by kernel_rfl) (by kernel_rfl) (fun _ _ _ h => h) (by rfl) ?_ ?_
    rotate_left
    · (intro W hSw; (try (have f0 := (hSw.cell 0 HRL.out (fun h => h)).trans HRQ.out))
       go_simp; first | done | rfl)
    try simp only [Act.put, List.setIfInBounds_toArray, List.set_cons_zero, List.set_cons_succ]
    -- 37 Op.move (Operand.tmp 1)
    refine wpMono_take' 37 (v := ?_) rfl (by kernel_rfl) (by kernel_rfl) (by kernel_rfl) (fun _ _ _ h => h) (by rfl) ?_ ?_
    rotate_left
    · (intro W hSw; (try (have f0 := (hSw.cell 0 HRL.out (fun h => h)).trans HRQ.out))
       go_simp; first | done | rfl)
    try simp only [Act.put, List.setIfInBounds_toArray, List.set_cons_zero, List.set_cons_succ]
    -- EFFECT 35 Op.call { callee := Callee.value (Operand.func 34), args := #[Operand.tmp 83], argTypes := #[36] }
    refine wpMono_one' 35 (by kernel_rfl) rfl (by rfl) (fun K hK => ?_)
    go_simp
    refine (shows_any g bm L _ H12.out.st (by omega)).mono ?_
    rintro e w22 ⟨va, rfl, ho, hb⟩
    obtain ⟨Aq, cq, rfl, hro⟩ := own_reads ho
    have HRq := Lib.hid hro
    have HBl := Lib.hid hb
    have H13 := Lib.hid (H12.out.below hb)
    clear hb ho hro
    refine hK.out _ _ ?_ ?_
    · exact .of_below HBl.out
    clear hK K
    try simp only [Act.put, List.setIfInBounds_toArray, List.set_cons_zero, List.set_cons_succ]
    -- EFFECT 36 Op.call { callee := Callee.value (Operand.func 32), args := #[Operand.tmp 84], argTypes := #[41] }
    refine wpMono_one' 36 (by kernel_rfl) rfl (by rfl) (fun K hK => ?_)
    go_simp
    refine (plain_any Aq _ cq (showL L) _ rfl (by have := showL_len L; omega) HRq.out).mono ?_
    rintro e w23 ⟨va, rfl, ho, hb⟩
    obtain ⟨Ar, cr, rfl, hrp⟩ := own_reads ho
    have HRr := Lib.hid hrp
    have HBm := Lib.hid hb
    have H14 := Lib.hid (H13.out.below hb)
    clear hb ho hrp
    refine hK.out _ _ ?_ ?_
    · exact .of_below HBm.out
    clear hK K
    try simp only [Act.put, List.setIfInBounds_toArray, List.set_cons_zero, List.set_cons_succ]
    -- EFFECT 38 Op.call { callee := Callee.value (Operand.func 35), args := #[Operand.tmp 86], argTypes := #[48] }
    refine wpMono_one' 38 (by kernel_rfl) rfl (by rfl) (fun K hK => ?_)
    go_simp
    refine (shows_ref gr A c L _ H14.out.rf H14.out.st.up (by omega)).mono ?_
    rintro e w24 ⟨va, rfl, ho, hb⟩
    obtain ⟨As, cs, rfl, hrp⟩ := own_reads ho
    have HRs := Lib.hid hrp
    have HRr2 := Lib.hid (reads_on HRr.out hb)
    have HBn := Lib.hid hb
    have H15 := Lib.hid (H14.out.below hb)
    clear hb ho hrp
    refine hK.out _ _ ?_ ?_
    · exact .of_below HBn.out
    clear hK K
    try simp only [Act.put, List.setIfInBounds_toArray, List.set_cons_zero, List.set_cons_succ]
    -- EFFECT 39 Op.call { callee := Callee.value (Operand.func 31), args := #[Operand.tmp 85, Operand.tmp 87], argTypes := #[22, 22] }
    refine wpMono_one' 39 (by kernel_rfl) rfl (by rfl) (fun K hK => ?_)
    go_simp
    refine (same_any Ar As _ cr _ cs (showL L) (showL L) _ rfl rfl (by have := showL_len L; omega) (by have := showL_len L; omega) HRr2.out HRs.out).mono ?_
    rintro e w25 ⟨rfl, hb⟩
    rw [decide_eq_true rfl]
    have HBo := Lib.hid hb
    have H16 := Lib.hid (H15.out.below hb)
    clear hb
    refine hK.out _ _ ?_ ?_
    · exact .of_below HBo.out
    clear hK K
    try simp only [Act.put, List.setIfInBounds_toArray, List.set_cons_zero, List.set_cons_succ]
    -- 40 Op.pick (Operand.tmp 82) (Operand.tmp 88) (Operand.const (Value.bool false))
    refine wpMono_take' 40 (v := ?_) rfl (by kernel_rfl) (by kernel_rfl) (by kernel_rfl) (fun _ _ _ h => h) (by rfl) ?_ ?_
    rotate_left
    · (intro W hSw; (try (have f0 := (hSw.cell 0 HRL.out (fun h => h)).trans HRQ.out))
       go_simp; first | done | rfl)
    try simp only [Act.put, List.setIfInBounds_toArray, List.set_cons_zero, List.set_cons_succ]
    -- 41 Op.assign (Operand.tmp 89)
    refine wpMono_take' 41 (v := ?_) rfl (by kernel_rfl) (by kernel_rfl) (by kernel_rfl) (fun _ _ _ h => h) (by rfl) ?_ ?_
    rotate_left
    · (intro W hSw; (try (have f0 := (hSw.cell 0 HRL.out (fun h => h)).trans HRQ.out))
       go_simp; first | done | rfl)
    try simp only [Act.put, List.setIfInBounds_toArray, List.set_cons_zero, List.set_cons_succ]
    refine wpMono_done (by kernel_rfl) ?_ _
    go_wp2
    go_ret
    exact ⟨rfl, H16.out.bel⟩
end Go.Proofs.YtgfamdakjcjdkaaDoor.store
