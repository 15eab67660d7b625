/- The walks of feed's Writes and Batch. -/
import Derived.Test.YtmclmefgddomfaaAdd
namespace Go.Proofs.Ytmclmefgddomfaa.feed
open Go.RowKit Go.Proofs.Ytmclmefgddomfaa.base Go.Proofs.Ytmclmefgddomfaa.rowe Go.Proofs.Ytmclmefgddomfaa.err Go.Proofs.Ytmclmefgddomfaa.wire Go.Proofs.Ytmclmefgddomfaa.monoj

def ListR (L : List Wr) (w : World) (e : Ending) (w' : World) : Prop := (∃ v L', e = .returned v ∧ L'.map Wr.abs = L ∧ OW w' (since w w') w.heap.size v L') ∧ Below w.heap.size w w'
theorem listR_none (w : World) : ListR [] w (.returned (.slice none 0 0)) w := ⟨⟨_, [], rfl, rfl, OW.none _ _ _⟩, Below.refl _ _⟩
theorem ListR.from {L : List Wr} {w w1 w2 : World} {e : Ending} (hb : Below w.heap.size w w1) (h : ListR L w1 e w2) : ListR L w e w2 := by
  obtain ⟨⟨v, L', h1, h2, h3⟩, h4⟩ := h
  have hs := hb.size
  refine ⟨⟨v, L', h1, h2, ?_⟩, hb.trans (h4.mono hs)⟩
  refine ⟨⟨h3.row.1, h3.row.2.imp id ?_⟩, h3.few, fun x hx => (h3.nums x hx).base hs, fun i hi => ⟨Nat.le_trans hs (h3.inS i hi).1, (h3.inS i hi).2⟩, fun x hx i hi => ⟨Nat.le_trans hs (h3.numS x hx i hi).1, (h3.numS x hx i hi).2⟩⟩
  rintro ⟨g, cap, cur, e, h5, h6⟩
  exact ⟨g, cap, cur, e, Nat.le_trans hs h5, h6⟩
section
variable {S : Nat → Prop} {w : World} {g rg nn bs : Nat} {L : List Wr} {K : List Int}
theorem writes_any (h : FeedS w S g rg nn bs L K) : Calls Try.prog 17 #[.pointer (some ⟨g, 0, none⟩)] w (ListR L w) := by
  obtain ⟨L', vw, k0, ck, rfl, h⟩ := h
  have c3 : w.cell? ⟨g, 3, none⟩ = _ := h.blk.cell 3
  have hlt := h.blk.lt
  obtain ⟨A, c, rfl⟩ := ownsRow_slice h.ow.row
  simp at c3
  have H := Lib.hid h
  clear h
  go_enter Try.func17, Try.ntmps17
  go_wp2_with fail
  refine (some_any _ L' w H.out.ow.rw).mono ?_
  rintro e w1 ⟨⟨v, L2, rfl, h1, h2⟩, h3⟩
  have HR := Lib.hid (show ListR (L'.map Wr.abs) w (.returned v) w1 from ⟨⟨v, L2, rfl, h1, h2⟩, h3⟩)
  clear h1 h2 h3
  go_wp2
  go_ret
  exact HR.out
theorem RW.cut {w : World} {b off m c : Nat} {L : List Wr} (h : RW w (.slice (some ⟨b, off, none⟩) m c) L) {k j : Nat} (hk : k < m) (hj : j ≤ m - k) : RW w (.slice (some ⟨b, off + k * 10, none⟩) j (c - k)) ((L.drop k).take j) := by
  obtain ⟨A, c', e, h1, h2, h3, h4⟩ := h
  injection e with e1 e2 e3
  subst e1 e2 e3
  have hlen : ((L.drop k).take j).length = j := by simp; omega
  refine ⟨some ⟨b, off + k * 10, none⟩, c - k, by rw [hlen], by omega, by omega, ?_, fun x hx => h4 x (List.mem_of_mem_drop (List.mem_of_mem_take hx))⟩
  rw [hlen]
  exact Reads.takeAt Wr.cells Wr.len (Reads.dropAt Wr.cells Wr.len h3 hk) hj (by omega)
theorem RW.zero (w : World) (A : Option Addr) (c : Nat) : RW w (.slice A 0 c) [] := ⟨A, c, rfl, by simp, by simp, ⟨by simp, fun h => absurd h (by simp)⟩, by simp⟩
def batchL (bs : Nat) (L : List Wr) (hv : Int) : List Wr := if (bs + L.length : Nat) ≤ hv then [] else (L.drop (hv - bs).toNat).take 8
set_option maxRecDepth 100000 in
theorem batch_any (hv : Int) (h : FeedS w S g rg nn bs L K) : Calls Try.prog 14 #[.pointer (some ⟨g, 0, none⟩), .int .i64 hv] w (ListR (batchL bs L hv) w) := by
  have H := Lib.hid h
  obtain ⟨L', vw, k0, ck, hLL, h⟩ := h
  have hL2 : L'.length = L.length := by rw [← hLL, List.length_map]
  have hlast := h.last
  rw [hL2] at hlast
  cases h1 : decide (((bs : Int) + (L.length : Nat)) ≤ hv) with
  | true =>
    have HQ := Lib.hid (show batchL bs L hv = [] by unfold batchL; rw [if_pos (by simp at h1; omega)])
    clear h
    go_enter Try.func14, Try.ntmps14
    go_wp2_with fail
    refine (last_any H.out).mono ?_
    rintro e w1 ⟨rfl, hb⟩
    have HR := Lib.hid (show ListR (batchL bs L hv) w (.returned (.slice none 0 0)) w1 from HQ.out ▸ ListR.from hb (listR_none w1))
    clear hb
    go_wp2
    go_ret
    exact HR.out
  | false =>
    simp at h1
    have hq : batchL bs L hv = (L.drop (hv - bs).toNat).take 8 := by unfold batchL; rw [if_neg (by omega)]
    obtain ⟨k, hk⟩ : ∃ k, (hv - bs).toNat = k := ⟨_, rfl⟩
    rw [hk] at hq
    have hkm' : k ≤ L'.length := by omega
    by_cases hL0 : L'.length = 0
    · have hL0' : L' = [] := List.eq_nil_of_length_eq_zero hL0
      subst hL0'
      obtain rfl : L = [] := hLL.symm
      obtain rfl : k = 0 := by simpa using hkm'
      have HQ := Lib.hid (show batchL bs [] hv = [] by rw [hq]; rfl)
      have hmaxk : (if hv < (bs : Int) then (bs : Int) else hv) - (bs : Int) = 0 := by simp at h1; rw [if_pos h1]; omega
      have d2 : decide ((bs : Int) ≤ hv) = false := by simp at h1 ⊢; exact h1
      have HF := Lib.hid h
      obtain ⟨A, c, rfl⟩ := ownsRow_slice h.ow.row
      clear h hq hk
      go_enter Try.func14, Try.ntmps14
      go_wp2_with fail
      refine (last_any H.out).mono ?_
      rintro e w1 ⟨rfl, hb1⟩
      have hf1 := HF.out.keeps (X := nobody) (.of_below hb1) (fun _ _ h => h)
      have c3 : w1.cell? ⟨g, 3, none⟩ = _ := hf1.blk.cell 3
      have c2 : w1.cell? ⟨g, 2, none⟩ = _ := hf1.blk.cell 2
      have hlt := hf1.blk.lt
      simp at c3 c2
      have HB1 := Lib.hid hb1
      clear hf1 hb1
      go_wp2_with fail
      refine wp_region_mono nobody (by kernel_rfl) ?_
      -- 0 Op.move (Operand.tmp 0)
      refine wpMono_take' 0 (v := ?_) rfl (by kernel_rfl) (by kernel_rfl) (by kernel_rfl) (fun _ _ _ h => h) (by rfl) ?_ ?_
      rotate_left
      · (intro W hSw; have hcW := hSw.cells; try simp only [World.size_drew, World.cell?_drew] at hcW
         go_simp; first | done | rfl)
      try simp only [Act.put, List.setIfInBounds_toArray, List.set_cons_zero, List.set_cons_succ]
      -- 1 Op.nilCheck (Operand.tmp 14)
      refine wpMono_take' 1 (v := ?_) rfl (by kernel_rfl) (by kernel_rfl) (by kernel_rfl) (fun _ _ _ h => h) (by rfl) ?_ ?_
      rotate_left
      · (intro W hSw; have hcW := hSw.cells; try simp only [World.size_drew, World.cell?_drew] at hcW
         go_simp; first | done | rfl)
      try simp only [Act.put, List.setIfInBounds_toArray, List.set_cons_zero, List.set_cons_succ]
      -- 2 Op.fieldAddr 66 (Operand.tmp 15) 3
      refine wpMono_take' 2 (v := ?_) rfl (by kernel_rfl) (by kernel_rfl) (by kernel_rfl) (fun _ _ _ h => h) (by rfl) ?_ ?_
      rotate_left
      · (intro W hSw; have hcW := hSw.cells; try simp only [World.size_drew, World.cell?_drew] at hcW
         go_simp; first | done | rfl)
      try simp only [Act.put, List.setIfInBounds_toArray, List.set_cons_zero, List.set_cons_succ]
      -- 3 Op.load 41 (Operand.tmp 16)
      refine wpMono_take' 3 (v := ?_) rfl (by kernel_rfl) (by kernel_rfl) (by kernel_rfl) (fun _ _ _ h => h) (by rfl) ?_ ?_
      rotate_left
      · (intro W hSw; have hcW := hSw.cells; try simp only [World.size_drew, World.cell?_drew] at hcW
         go_simp; first | done | rfl)
      try simp only [Act.put, List.setIfInBounds_toArray, List.set_cons_zero, List.set_cons_succ]
      -- 4 Op.move (Operand.tmp 1)
      refine wpMono_take' 4 (v := ?_) rfl (by kernel_rfl) (by kernel_rfl) (by kernel_rfl) (fun _ _ _ h => h) (by rfl) ?_ ?_
      rotate_left
      · (intro W hSw; have hcW := hSw.cells; try simp only [World.size_drew, World.cell?_drew] at hcW
         go_simp; first | done | rfl)
      try simp only [Act.put, List.setIfInBounds_toArray, List.set_cons_zero, List.set_cons_succ]
      -- 5 Op.move (Operand.tmp 0)
      refine wpMono_take' 5 (v := ?_) rfl (by kernel_rfl) (by kernel_rfl) (by kernel_rfl) (fun _ _ _ h => h) (by rfl) ?_ ?_
      rotate_left
      · (intro W hSw; have hcW := hSw.cells; try simp only [World.size_drew, World.cell?_drew] at hcW
         go_simp; first | done | rfl)
      try simp only [Act.put, List.setIfInBounds_toArray, List.set_cons_zero, List.set_cons_succ]
      -- 6 Op.nilCheck (Operand.tmp 19)
      refine wpMono_take' 6 (v := ?_) rfl (by kernel_rfl) (by kernel_rfl) (by kernel_rfl) (fun _ _ _ h => h) (by rfl) ?_ ?_
      rotate_left
      · (intro W hSw; have hcW := hSw.cells; try simp only [World.size_drew, World.cell?_drew] at hcW
         go_simp; first | done | rfl)
      try simp only [Act.put, List.setIfInBounds_toArray, List.set_cons_zero, List.set_cons_succ]
      -- 7 Op.fieldAddr 66 (Operand.tmp 20) 2
      refine wpMono_take' 7 (v := ?_) rfl (by kernel_rfl) (by kernel_rfl) (by kernel_rfl) (fun _ _ _ h => h) (by rfl) ?_ ?_
      rotate_left
      · (intro W hSw; have hcW := hSw.cells; try simp only [World.size_drew, World.cell?_drew] at hcW
         go_simp; first | done | rfl)
      try simp only [Act.put, List.setIfInBounds_toArray, List.set_cons_zero, List.set_cons_succ]
      -- 8 Op.load 3 (Operand.tmp 21)
      refine wpMono_take' 8 (v := ?_) rfl (by kernel_rfl) (by kernel_rfl) (by kernel_rfl) (fun _ _ _ h => h) (by rfl) ?_ ?_
      rotate_left
      · (intro W hSw; have hcW := hSw.cells; try simp only [World.size_drew, World.cell?_drew] at hcW
         go_simp; first | done | rfl)
      try simp only [Act.put, List.setIfInBounds_toArray, List.set_cons_zero, List.set_cons_succ]
      -- 9 Op.call { callee := Callee.builtin Builtin.max, args := #[Operand.tmp 18, Operand.tmp 22],
      refine wpMono_take' 9 (v := ?_) rfl (by kernel_rfl) (by kernel_rfl) (by kernel_rfl) (fun _ _ _ h => h) (by rfl) ?_ ?_
      rotate_left
      · (intro W hSw; have hcW := hSw.cells; try simp only [World.size_drew, World.cell?_drew] at hcW
         go_simp; first | done | rfl)
      try simp only [Act.put, List.setIfInBounds_toArray, List.set_cons_zero, List.set_cons_succ]
      -- 10 Op.move (Operand.tmp 0)
      refine wpMono_take' 10 (v := ?_) rfl (by kernel_rfl) (by kernel_rfl) (by kernel_rfl) (fun _ _ _ h => h) (by rfl) ?_ ?_
      rotate_left
      · (intro W hSw; have hcW := hSw.cells; try simp only [World.size_drew, World.cell?_drew] at hcW
         go_simp; first | done | rfl)
      try simp only [Act.put, List.setIfInBounds_toArray, List.set_cons_zero, List.set_cons_succ]
      -- 11 Op.nilCheck (Operand.tmp 24)
      refine wpMono_take' 11 (v := ?_) rfl (by kernel_rfl) (by kernel_rfl) (by kernel_rfl) (fun _ _ _ h => h) (by rfl) ?_ ?_
      rotate_left
      · (intro W hSw; have hcW := hSw.cells; try simp only [World.size_drew, World.cell?_drew] at hcW
         go_simp; first | done | rfl)
      try simp only [Act.put, List.setIfInBounds_toArray, List.set_cons_zero, List.set_cons_succ]
      -- 12 Op.fieldAddr 66 (Operand.tmp 25) 2
      refine wpMono_take' 12 (v := ?_) rfl (by kernel_rfl) (by kernel_rfl) (by kernel_rfl) (fun _ _ _ h => h) (by rfl) ?_ ?_
      rotate_left
      · (intro W hSw; have hcW := hSw.cells; try simp only [World.size_drew, World.cell?_drew] at hcW
         go_simp; first | done | rfl)
      try simp only [Act.put, List.setIfInBounds_toArray, List.set_cons_zero, List.set_cons_succ]
      -- 13 Op.load 3 (Operand.tmp 26)
      refine wpMono_take' 13 (v := ?_) rfl (by kernel_rfl) (by kernel_rfl) (by kernel_rfl) (fun _ _ _ h => h) (by rfl) ?_ ?_
      rotate_left
      · (intro W hSw; have hcW := hSw.cells; try simp only [World.size_drew, World.cell?_drew] at hcW
         go_simp; first | done | rfl)
      try simp only [Act.put, List.setIfInBounds_toArray, List.set_cons_zero, List.set_cons_succ]
      -- 14 Op.binOp BinOp.sub 3 (Operand.tmp 23) (Operand.tmp 27) 3
      refine wpMono_take' 14 (v := ?_) rfl (by kernel_rfl) (by kernel_rfl) (by kernel_rfl) (fun _ _ _ h => h) (by rfl) ?_ ?_
      rotate_left
      · (intro W hSw; have hcW := hSw.cells; try simp only [World.size_drew, World.cell?_drew] at hcW
         go_simp; first | done | rfl)
      try simp only [Act.put, List.setIfInBounds_toArray, List.set_cons_zero, List.set_cons_succ]
      -- 15 Op.slice 41 (Operand.tmp 17) (some (Operand.tmp 28)) none none
      refine wpMono_take' 15 (v := ?_) rfl (by kernel_rfl) (by kernel_rfl) (by kernel_rfl) (fun _ _ _ h => h) (by rfl) ?_ ?_
      rotate_left
      · (intro W hSw; have hcW := hSw.cells; try simp only [World.size_drew, World.cell?_drew] at hcW
         go_simp; first | done | rfl)
      try simp only [Act.put, List.setIfInBounds_toArray, List.set_cons_zero, List.set_cons_succ]
      -- 16 Op.assign (Operand.tmp 29)
      refine wpMono_take' 16 (v := ?_) rfl (by kernel_rfl) (by kernel_rfl) (by kernel_rfl) (fun _ _ _ h => h) (by rfl) ?_ ?_
      rotate_left
      · (intro W hSw; have hcW := hSw.cells; try simp only [World.size_drew, World.cell?_drew] at hcW
         go_simp; first | done | rfl)
      try simp only [Act.put, List.setIfInBounds_toArray, List.set_cons_zero, List.set_cons_succ]
      refine wpMono_done (by kernel_rfl) ?_ _
      go_wp2_with fail
      all_goals
        refine (some_any _ [] _ (RW.zero _ _ _)).mono ?_
        rintro e w2 ⟨⟨v, L2, rfl, h1, h2⟩, h3⟩
        have HR := Lib.hid (show ListR (batchL bs [] hv) w (.returned v) w2 from ListR.from HB1.out.drew ⟨⟨v, L2, rfl, h1.trans HQ.out.symm, h2⟩, h3⟩)
        clear h1 h2 h3
        go_wp2
        go_ret
        exact HR.out
    have hkm : k < L'.length := by omega
    have d1 : decide ((bs : Int) + (L.length : Nat) ≤ hv) = false := by simp; omega
    obtain ⟨A, c, rfl⟩ := ownsRow_slice h.ow.row
    obtain ⟨b, off, rfl, hb⟩ := (Reads.of_own h.ow.row).at_some (by omega)
    have hcap : L'.length ≤ c := by
      obtain ⟨A', c', e, _, h2, _⟩ := h.ow.rw
      injection e with _ _ e
      omega
    obtain ⟨j, hj⟩ : ∃ j, j = min (L'.length - k) 8 := ⟨_, rfl⟩
    have hcut : ((L'.drop k).take j).map Wr.abs = batchL bs L hv := by
      rw [hq, ← hLL, List.map_take, List.map_drop, hj]
      by_cases h8 : 8 ≤ L'.length - k
      · rw [Nat.min_eq_right h8]
      · rw [Nat.min_eq_left (by omega), List.take_of_length_le (by simp), List.take_of_length_le (by simp; omega)]
    have hmaxk : (if hv < (bs : Int) then (bs : Int) else hv) - (bs : Int) = (k : Int) := by split <;> omega
    have hwk := IntWalk.i64_in (k : Int) (by omega)
    have hk1 : k ≤ L.length := by omega
    have hk2 : (k : Int) ≤ (L.length : Int) := by omega
    have hck : ¬ c = k := by omega
    have HF := Lib.hid h
    have HC := Lib.hid hcut
    clear h hcut hq
    go_enter Try.func14, Try.ntmps14
    go_wp2_with fail
    refine (last_any H.out).mono ?_
    rintro e w1 ⟨rfl, hb1⟩
    have hf1 := HF.out.keeps (X := nobody) (.of_below hb1) (fun _ _ h => h)
    have c3 : w1.cell? ⟨g, 3, none⟩ = _ := hf1.blk.cell 3
    have c2 : w1.cell? ⟨g, 2, none⟩ = _ := hf1.blk.cell 2
    have hlt := hf1.blk.lt
    simp at c3 c2
    have HF1 := Lib.hid hf1
    have HB1 := Lib.hid hb1
    clear hf1 hb1
    go_wp2_with fail
    refine wp_region_mono nobody (by kernel_rfl) ?_
    -- 0 Op.move (Operand.tmp 0)
    refine wpMono_take' 0 (v := ?_) rfl (by kernel_rfl) (by kernel_rfl) (by kernel_rfl) (fun _ _ _ h => h) (by rfl) ?_ ?_
    rotate_left
    · (intro W hSw; have hcW := hSw.cells; try simp only [World.size_drew, World.cell?_drew] at hcW
       go_simp; first | done | rfl)
    try simp only [Act.put, List.setIfInBounds_toArray, List.set_cons_zero, List.set_cons_succ]
    -- 1 Op.nilCheck (Operand.tmp 14)
    refine wpMono_take' 1 (v := ?_) rfl (by kernel_rfl) (by kernel_rfl) (by kernel_rfl) (fun _ _ _ h => h) (by rfl) ?_ ?_
    rotate_left
    · (intro W hSw; have hcW := hSw.cells; try simp only [World.size_drew, World.cell?_drew] at hcW
       go_simp; first | done | rfl)
    try simp only [Act.put, List.setIfInBounds_toArray, List.set_cons_zero, List.set_cons_succ]
    -- 2 Op.fieldAddr 66 (Operand.tmp 15) 3
    refine wpMono_take' 2 (v := ?_) rfl (by kernel_rfl) (by kernel_rfl) (by kernel_rfl) (fun _ _ _ h => h) (by rfl) ?_ ?_
    rotate_left
    · (intro W hSw; have hcW := hSw.cells; try simp only [World.size_drew, World.cell?_drew] at hcW
       go_simp; first | done | rfl)
    try simp only [Act.put, List.setIfInBounds_toArray, List.set_cons_zero, List.set_cons_succ]
    -- 3 Op.load 41 (Operand.tmp 16)
    refine wpMono_take' 3 (v := ?_) rfl (by kernel_rfl) (by kernel_rfl) (by kernel_rfl) (fun _ _ _ h => h) (by rfl) ?_ ?_
    rotate_left
    · (intro W hSw; have hcW := hSw.cells; try simp only [World.size_drew, World.cell?_drew] at hcW
       go_simp; first | done | rfl)
    try simp only [Act.put, List.setIfInBounds_toArray, List.set_cons_zero, List.set_cons_succ]
    -- 4 Op.move (Operand.tmp 1)
    refine wpMono_take' 4 (v := ?_) rfl (by kernel_rfl) (by kernel_rfl) (by kernel_rfl) (fun _ _ _ h => h) (by rfl) ?_ ?_
    rotate_left
    · (intro W hSw; have hcW := hSw.cells; try simp only [World.size_drew, World.cell?_drew] at hcW
       go_simp; first | done | rfl)
    try simp only [Act.put, List.setIfInBounds_toArray, List.set_cons_zero, List.set_cons_succ]
    -- 5 Op.move (Operand.tmp 0)
    refine wpMono_take' 5 (v := ?_) rfl (by kernel_rfl) (by kernel_rfl) (by kernel_rfl) (fun _ _ _ h => h) (by rfl) ?_ ?_
    rotate_left
    · (intro W hSw; have hcW := hSw.cells; try simp only [World.size_drew, World.cell?_drew] at hcW
       go_simp; first | done | rfl)
    try simp only [Act.put, List.setIfInBounds_toArray, List.set_cons_zero, List.set_cons_succ]
    -- 6 Op.nilCheck (Operand.tmp 19)
    refine wpMono_take' 6 (v := ?_) rfl (by kernel_rfl) (by kernel_rfl) (by kernel_rfl) (fun _ _ _ h => h) (by rfl) ?_ ?_
    rotate_left
    · (intro W hSw; have hcW := hSw.cells; try simp only [World.size_drew, World.cell?_drew] at hcW
       go_simp; first | done | rfl)
    try simp only [Act.put, List.setIfInBounds_toArray, List.set_cons_zero, List.set_cons_succ]
    -- 7 Op.fieldAddr 66 (Operand.tmp 20) 2
    refine wpMono_take' 7 (v := ?_) rfl (by kernel_rfl) (by kernel_rfl) (by kernel_rfl) (fun _ _ _ h => h) (by rfl) ?_ ?_
    rotate_left
    · (intro W hSw; have hcW := hSw.cells; try simp only [World.size_drew, World.cell?_drew] at hcW
       go_simp; first | done | rfl)
    try simp only [Act.put, List.setIfInBounds_toArray, List.set_cons_zero, List.set_cons_succ]
    -- 8 Op.load 3 (Operand.tmp 21)
    refine wpMono_take' 8 (v := ?_) rfl (by kernel_rfl) (by kernel_rfl) (by kernel_rfl) (fun _ _ _ h => h) (by rfl) ?_ ?_
    rotate_left
    · (intro W hSw; have hcW := hSw.cells; try simp only [World.size_drew, World.cell?_drew] at hcW
       go_simp; first | done | rfl)
    try simp only [Act.put, List.setIfInBounds_toArray, List.set_cons_zero, List.set_cons_succ]
    -- 9 Op.call { callee := Callee.builtin Builtin.max, args := #[Operand.tmp 18, Operand.tmp 22],
    refine wpMono_take' 9 (v := ?_) rfl (by kernel_rfl) (by kernel_rfl) (by kernel_rfl) (fun _ _ _ h => h) (by rfl) ?_ ?_
    rotate_left
    · (intro W hSw; have hcW := hSw.cells; try simp only [World.size_drew, World.cell?_drew] at hcW
       go_simp; first | done | rfl)
    try simp only [Act.put, List.setIfInBounds_toArray, List.set_cons_zero, List.set_cons_succ]
    -- 10 Op.move (Operand.tmp 0)
    refine wpMono_take' 10 (v := ?_) rfl (by kernel_rfl) (by kernel_rfl) (by kernel_rfl) (fun _ _ _ h => h) (by rfl) ?_ ?_
    rotate_left
    · (intro W hSw; have hcW := hSw.cells; try simp only [World.size_drew, World.cell?_drew] at hcW
       go_simp; first | done | rfl)
    try simp only [Act.put, List.setIfInBounds_toArray, List.set_cons_zero, List.set_cons_succ]
    -- 11 Op.nilCheck (Operand.tmp 24)
    refine wpMono_take' 11 (v := ?_) rfl (by kernel_rfl) (by kernel_rfl) (by kernel_rfl) (fun _ _ _ h => h) (by rfl) ?_ ?_
    rotate_left
    · (intro W hSw; have hcW := hSw.cells; try simp only [World.size_drew, World.cell?_drew] at hcW
       go_simp; first | done | rfl)
    try simp only [Act.put, List.setIfInBounds_toArray, List.set_cons_zero, List.set_cons_succ]
    -- 12 Op.fieldAddr 66 (Operand.tmp 25) 2
    refine wpMono_take' 12 (v := ?_) rfl (by kernel_rfl) (by kernel_rfl) (by kernel_rfl) (fun _ _ _ h => h) (by rfl) ?_ ?_
    rotate_left
    · (intro W hSw; have hcW := hSw.cells; try simp only [World.size_drew, World.cell?_drew] at hcW
       go_simp; first | done | rfl)
    try simp only [Act.put, List.setIfInBounds_toArray, List.set_cons_zero, List.set_cons_succ]
    -- 13 Op.load 3 (Operand.tmp 26)
    refine wpMono_take' 13 (v := ?_) rfl (by kernel_rfl) (by kernel_rfl) (by kernel_rfl) (fun _ _ _ h => h) (by rfl) ?_ ?_
    rotate_left
    · (intro W hSw; have hcW := hSw.cells; try simp only [World.size_drew, World.cell?_drew] at hcW
       go_simp; first | done | rfl)
    try simp only [Act.put, List.setIfInBounds_toArray, List.set_cons_zero, List.set_cons_succ]
    -- 14 Op.binOp BinOp.sub 3 (Operand.tmp 23) (Operand.tmp 27) 3
    refine wpMono_take' 14 (v := ?_) rfl (by kernel_rfl) (by kernel_rfl) (by kernel_rfl) (fun _ _ _ h => h) (by rfl) ?_ ?_
    rotate_left
    · (intro W hSw; have hcW := hSw.cells; try simp only [World.size_drew, World.cell?_drew] at hcW
       go_simp; first | done | rfl)
    try simp only [Act.put, List.setIfInBounds_toArray, List.set_cons_zero, List.set_cons_succ]
    -- 15 Op.slice 41 (Operand.tmp 17) (some (Operand.tmp 28)) none none
    refine wpMono_take' 15 (v := ?_) rfl (by kernel_rfl) (by kernel_rfl) (by kernel_rfl) (fun _ _ _ h => h) (by rfl) ?_ ?_
    rotate_left
    · (intro W hSw; have hcW := hSw.cells; try simp only [World.size_drew, World.cell?_drew] at hcW
       go_simp; first | done | rfl)
    try simp only [Act.put, List.setIfInBounds_toArray, List.set_cons_zero, List.set_cons_succ]
    -- 16 Op.assign (Operand.tmp 29)
    refine wpMono_take' 16 (v := ?_) rfl (by kernel_rfl) (by kernel_rfl) (by kernel_rfl) (fun _ _ _ h => h) (by rfl) ?_ ?_
    rotate_left
    · (intro W hSw; have hcW := hSw.cells; try simp only [World.size_drew, World.cell?_drew] at hcW
       go_simp; first | done | rfl)
    try simp only [Act.put, List.setIfInBounds_toArray, List.set_cons_zero, List.set_cons_succ]
    refine wpMono_done (by kernel_rfl) ?_ _
    go_wp2_with fail
    all_goals
      have hrw := HF1.out.ow.rw.below (Below.refl _ w1).drew
      rw [hL2] at hrw
      have hjj : (8 < L.length - k ∧ j = 8) ∨ (L.length - k ≤ 8 ∧ j = L.length - k) := by omega
      rcases hjj with ⟨hj1, hj2⟩ | ⟨hj1, hj2⟩
      all_goals first
        | (exfalso; omega; done)
        | (subst hj2
           refine (some_any _ _ _ (RW.cut hrw (show k < L.length by omega) (by omega))).mono ?_
           rintro e w2 ⟨⟨v, L2, rfl, h1, h2⟩, h3⟩
           have HR := Lib.hid (show ListR (batchL bs L hv) w (.returned v) w2 from ListR.from HB1.out.drew ⟨⟨v, L2, rfl, h1.trans HC.out, h2⟩, h3⟩)
           clear h1 h2 h3 hrw hj
           go_wp2
           go_ret
           exact HR.out)
end
end Go.Proofs.Ytmclmefgddomfaa.feed
