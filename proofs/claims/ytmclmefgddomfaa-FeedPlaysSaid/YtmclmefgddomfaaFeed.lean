/- A feed in memory; the walks of Last, Base, is, Known and Ack. -/
import Derived.Test.YtmclmefgddomfaaSome
namespace Go.Proofs.Ytmclmefgddomfaa.feed
open Go.RowKit Go.Proofs.Ytmclmefgddomfaa.base Go.Proofs.Ytmclmefgddomfaa.rowe Go.Proofs.Ytmclmefgddomfaa.err Go.Proofs.Ytmclmefgddomfaa.wire

/-- a feed of the region rg of nn, base bs, writes L', known K: block g, rows vw and k0; all its blocks are in S -/
structure FeedF (w : World) (S : Nat → Prop) (g rg nn bs : Nat) (L' : List Wr) (K : List Int) (vw : Value) (k0 ck : Nat) : Prop where
  blk : Blk w g 66 #[.int .i64 rg, .int .i64 nn, .int .i64 bs, vw, .slice (some ⟨k0, 0, none⟩) K.length ck]
  ow : OW w S (k0 + 1) vw L'
  know : w.ownsRow (g + 1) 3 1 (.slice (some ⟨k0, 0, none⟩) K.length ck) K.length (K.map (Value.int .i64))
  inG : S g
  inK : S k0
  klen : K.length = nn
  r0 : 1 ≤ rg
  r1 : rg ≤ nn
  n1 : nn ≤ 16
  last : bs + L'.length ≤ 1099511627776
  small : ∀ i, S i → i < w.heap.size
  kb : ∀ k ∈ K, 0 ≤ k ∧ k ≤ 1099511627776
def FeedS (w : World) (S : Nat → Prop) (g rg nn bs : Nat) (L : List Wr) (K : List Int) : Prop := ∃ L' vw k0 ck, L'.map Wr.abs = L ∧ FeedF w S g rg nn bs L' K vw k0 ck
theorem ow_keeps' {X : Nat → Prop} {w w' : World} {base : Nat} {e : TypeId} {size n : Nat} {v : Value} {xs : List Value} (h : w.ownsRow base e size v n xs) (hk : Keeps X w w') (hx : ∀ g, v.ownBlock = some g → ¬ X g) : w'.ownsRow base e size v n xs := by
  refine ⟨h.1, h.2.imp id ?_⟩
  rintro ⟨g, cap, cur, rfl, h1, h2, h3⟩
  exact ⟨g, cap, cur, rfl, h1, (hk.block g (heap_lt h2) (hx g rfl)).trans h2, h3⟩
theorem FeedF.keeps {X S : Nat → Prop} {w w' : World} {g rg nn bs : Nat} {L' : List Wr} {K : List Int} {vw : Value} {k0 ck : Nat} (h : FeedF w S g rg nn bs L' K vw k0 ck) (hk : Keeps X w w') (hx : ∀ i, S i → ¬ X i) : FeedF w' S g rg nn bs L' K vw k0 ck :=
  ⟨h.blk.keeps hk (hx g h.inG), h.ow.keeps hk hx, ow_keeps' h.know hk (fun i hi => by injection hi with hi; subst hi; exact hx k0 h.inK), h.inG, h.inK, h.klen, h.r0, h.r1, h.n1, h.last, fun i hi => Nat.lt_of_lt_of_le (h.small i hi) hk.size, h.kb⟩
theorem FeedF.k0lt {S : Nat → Prop} {w : World} {g rg nn bs : Nat} {L' : List Wr} {K : List Int} {vw : Value} {k0 ck : Nat} (h : FeedF w S g rg nn bs L' K vw k0 ck) : g < k0 := by
  have := (h.know.lt k0 rfl).1; omega
theorem FeedS.keeps {X S : Nat → Prop} {w w' : World} {g rg nn bs : Nat} {L : List Wr} {K : List Int} (h : FeedS w S g rg nn bs L K) (hk : Keeps X w w') (hx : ∀ i, S i → ¬ X i) : FeedS w' S g rg nn bs L K := by
  obtain ⟨L', vw, k0, ck, h1, h2⟩ := h
  exact ⟨L', vw, k0, ck, h1, h2.keeps hk hx⟩
theorem FeedS.below {S : Nat → Prop} {w w' : World} {g rg nn bs : Nat} {L : List Wr} {K : List Int} (h : FeedS w S g rg nn bs L K) (hk : Below w.heap.size w w') : FeedS w' S g rg nn bs L K := h.keeps (X := nobody) (.of_below hk) (fun _ _ h => h)

theorem _root_.Go.Proofs.Ytmclmefgddomfaa.wire.OW.keepsLo {X S : Nat → Prop} {w w' : World} {lo : Nat} {v : Value} {L : List Wr} (h : OW w S lo v L) (hk : Keeps X w w') (hx : ∀ i, lo ≤ i → ¬ X i) : OW w' S lo v L :=
  ⟨ow_keeps' h.row hk (fun i hi => hx i (h.row.lt _ hi).1), h.few, fun x hx' => (h.nums x hx').keeps hk (fun i hi => hx i ((h.nums x hx').1.lt _ hi).1), h.inS, h.numS⟩
theorem FeedF.setK {S : Nat → Prop} {w : World} {g rg nn bs : Nat} {L' : List Wr} {K : List Int} {vw : Value} {k0 ck : Nat} (h : FeedF w S g rg nn bs L' K vw k0 ck) (q : Nat) (hv : Int) (hb : 0 ≤ hv ∧ hv ≤ 1099511627776) : FeedF (w.setCell ⟨k0, q, none⟩ (.int .i64 hv)) S g rg nn bs L' (K.set q hv) vw k0 ck := by
  have hlt := h.k0lt
  refine ⟨?_, h.ow.keepsLo (Keeps.set1 w k0 q _) (fun i hi e => by omega), ?_, h.inG, h.inK, by rw [List.length_set]; exact h.klen, h.r0, h.r1, h.n1, h.last, fun i hi => by have := h.small i hi; simpa using this, fun k hk => (List.mem_or_eq_of_mem_set hk).elim (h.kb k) (fun e => e ▸ hb)⟩
  · rw [List.length_set]; exact h.blk.far (p := ⟨k0, q, none⟩) (by simp; omega) _
  · have := (h.know.stored q (.int .i64 hv)).1
    rw [List.length_set, List.map_set]
    exact this
section
variable {S : Nat → Prop} {w : World} {g rg nn bs : Nat} {L : List Wr} {K : List Int}
theorem last_any (h : FeedS w S g rg nn bs L K) : Calls Try.prog 15 #[.pointer (some ⟨g, 0, none⟩)] w fun e w' => e = .returned (.int .i64 (bs + L.length : Nat)) ∧ Below w.heap.size w w' := by
  obtain ⟨L', vw, k0, ck, rfl, h⟩ := h
  obtain ⟨A, c, rfl⟩ := ownsRow_slice h.ow.row
  have c2 : w.cell? ⟨g, 2, none⟩ = _ := h.blk.cell 2
  have c3 : w.cell? ⟨g, 3, none⟩ = _ := h.blk.cell 3
  have hlt := h.blk.lt
  have hl := h.last
  simp at c2 c3
  rw [List.length_map]
  have hw := IntWalk.i64_in ((bs : Int) + (L'.length : Nat)) (by omega)
  clear h
  go_enter Try.func15, Try.ntmps15
  go_wp2
  refine wp_region_mono nobody (by kernel_rfl) ?_
  -- 0 Op.move (Operand.tmp 0)
  refine wpMono_take' 0 (v := ?_) rfl (by kernel_rfl) (by kernel_rfl) (by kernel_rfl) (fun _ _ _ h => h) (by rfl) ?_ ?_
  rotate_left
  · (intro W hSw; have hcW := hSw.cells; try simp only [World.size_drew, World.cell?_drew] at hcW
     go_simp; first | done | rfl)
  try simp only [Act.put, List.setIfInBounds_toArray, List.set_cons_zero, List.set_cons_succ]
  -- 1 Op.nilCheck (Operand.tmp 5)
  refine wpMono_take' 1 (v := ?_) rfl (by kernel_rfl) (by kernel_rfl) (by kernel_rfl) (fun _ _ _ h => h) (by rfl) ?_ ?_
  rotate_left
  · (intro W hSw; have hcW := hSw.cells; try simp only [World.size_drew, World.cell?_drew] at hcW
     go_simp; first | done | rfl)
  try simp only [Act.put, List.setIfInBounds_toArray, List.set_cons_zero, List.set_cons_succ]
  -- 2 Op.fieldAddr 66 (Operand.tmp 6) 2
  refine wpMono_take' 2 (v := ?_) rfl (by kernel_rfl) (by kernel_rfl) (by kernel_rfl) (fun _ _ _ h => h) (by rfl) ?_ ?_
  rotate_left
  · (intro W hSw; have hcW := hSw.cells; try simp only [World.size_drew, World.cell?_drew] at hcW
     go_simp; first | done | rfl)
  try simp only [Act.put, List.setIfInBounds_toArray, List.set_cons_zero, List.set_cons_succ]
  -- 3 Op.load 3 (Operand.tmp 7)
  refine wpMono_take' 3 (v := ?_) rfl (by kernel_rfl) (by kernel_rfl) (by kernel_rfl) (fun _ _ _ h => h) (by rfl) ?_ ?_
  rotate_left
  · (intro W hSw; have hcW := hSw.cells; try simp only [World.size_drew, World.cell?_drew] at hcW
     go_simp; first | done | rfl)
  try simp only [Act.put, List.setIfInBounds_toArray, List.set_cons_zero, List.set_cons_succ]
  -- 4 Op.move (Operand.tmp 0)
  refine wpMono_take' 4 (v := ?_) rfl (by kernel_rfl) (by kernel_rfl) (by kernel_rfl) (fun _ _ _ h => h) (by rfl) ?_ ?_
  rotate_left
  · (intro W hSw; have hcW := hSw.cells; try simp only [World.size_drew, World.cell?_drew] at hcW
     go_simp; first | done | rfl)
  try simp only [Act.put, List.setIfInBounds_toArray, List.set_cons_zero, List.set_cons_succ]
  -- 5 Op.nilCheck (Operand.tmp 9)
  refine wpMono_take' 5 (v := ?_) rfl (by kernel_rfl) (by kernel_rfl) (by kernel_rfl) (fun _ _ _ h => h) (by rfl) ?_ ?_
  rotate_left
  · (intro W hSw; have hcW := hSw.cells; try simp only [World.size_drew, World.cell?_drew] at hcW
     go_simp; first | done | rfl)
  try simp only [Act.put, List.setIfInBounds_toArray, List.set_cons_zero, List.set_cons_succ]
  -- 6 Op.fieldAddr 66 (Operand.tmp 10) 3
  refine wpMono_take' 6 (v := ?_) rfl (by kernel_rfl) (by kernel_rfl) (by kernel_rfl) (fun _ _ _ h => h) (by rfl) ?_ ?_
  rotate_left
  · (intro W hSw; have hcW := hSw.cells; try simp only [World.size_drew, World.cell?_drew] at hcW
     go_simp; first | done | rfl)
  try simp only [Act.put, List.setIfInBounds_toArray, List.set_cons_zero, List.set_cons_succ]
  -- 7 Op.load 41 (Operand.tmp 11)
  refine wpMono_take' 7 (v := ?_) rfl (by kernel_rfl) (by kernel_rfl) (by kernel_rfl) (fun _ _ _ h => h) (by rfl) ?_ ?_
  rotate_left
  · (intro W hSw; have hcW := hSw.cells; try simp only [World.size_drew, World.cell?_drew] at hcW
     go_simp; first | done | rfl)
  try simp only [Act.put, List.setIfInBounds_toArray, List.set_cons_zero, List.set_cons_succ]
  -- 8 Op.call { callee := Callee.builtin Builtin.len, args := #[Operand.tmp 12], argTypes := #[4
  refine wpMono_take' 8 (v := ?_) rfl (by kernel_rfl) (by kernel_rfl) (by kernel_rfl) (fun _ _ _ h => h) (by rfl) ?_ ?_
  rotate_left
  · (intro W hSw; have hcW := hSw.cells; try simp only [World.size_drew, World.cell?_drew] at hcW
     go_simp; first | done | rfl)
  try simp only [Act.put, List.setIfInBounds_toArray, List.set_cons_zero, List.set_cons_succ]
  -- 9 Op.binOp BinOp.add 3 (Operand.tmp 8) (Operand.tmp 13) 3
  refine wpMono_take' 9 (v := ?_) rfl (by kernel_rfl) (by kernel_rfl) (by kernel_rfl) (fun _ _ _ h => h) (by rfl) ?_ ?_
  rotate_left
  · (intro W hSw; have hcW := hSw.cells; try simp only [World.size_drew, World.cell?_drew] at hcW
     go_simp; first | done | rfl)
  try simp only [Act.put, List.setIfInBounds_toArray, List.set_cons_zero, List.set_cons_succ]
  -- 10 Op.assign (Operand.tmp 14)
  refine wpMono_take' 10 (v := ?_) rfl (by kernel_rfl) (by kernel_rfl) (by kernel_rfl) (fun _ _ _ h => h) (by rfl) ?_ ?_
  rotate_left
  · (intro W hSw; have hcW := hSw.cells; try simp only [World.size_drew, World.cell?_drew] at hcW
     go_simp; first | done | rfl)
  try simp only [Act.put, List.setIfInBounds_toArray, List.set_cons_zero, List.set_cons_succ]
  refine wpMono_done (by kernel_rfl) ?_ _
  go_wp2
  go_ret
  exact ⟨by go_num, (Below.refl _ _).drew⟩
theorem base_any (h : FeedS w S g rg nn bs L K) : Calls Try.prog 16 #[.pointer (some ⟨g, 0, none⟩)] w fun e w' => e = .returned (.int .i64 bs) ∧ w' = w := by
  obtain ⟨L', vw, k0, ck, rfl, h⟩ := h
  have c2 : w.cell? ⟨g, 2, none⟩ = _ := h.blk.cell 2
  have hlt := h.blk.lt
  simp at c2
  clear h
  go_enter Try.func16, Try.ntmps16
  go_wp2
  go_ret
  exact ⟨rfl, rfl⟩
def isB (rg nn : Nat) (p : Int) : Bool := decide (1 ≤ p) && (decide (p ≤ nn) && !(p == rg))
theorem is_any (p : Int) (h : FeedS w S g rg nn bs L K) : Calls Try.prog 31 #[.pointer (some ⟨g, 0, none⟩), .int .i64 p] w fun e w' => e = .returned (.bool (isB rg nn p)) ∧ w' = w := by
  obtain ⟨L', vw, k0, ck, rfl, h⟩ := h
  have c0 : w.cell? ⟨g, 0, none⟩ = _ := h.blk.cell 0
  have c1 : w.cell? ⟨g, 1, none⟩ = _ := h.blk.cell 1
  have hlt := h.blk.lt
  simp at c0 c1
  clear h
  cases h1 : decide (1 ≤ p) with
  | false =>
    have HF := Lib.hid (show isB rg nn p = false by unfold isB; rw [h1]; rfl)
    go_enter Try.func31, Try.ntmps31
    go_wp2
    go_ret
    exact ⟨ret_bool HF.out.symm, rfl⟩
  | true =>
    cases h2 : decide (p ≤ (nn : Int)) with
    | false =>
      have HF := Lib.hid (show isB rg nn p = false by unfold isB; rw [h1, h2]; rfl)
      go_enter Try.func31, Try.ntmps31
      go_wp2
      go_ret
      exact ⟨ret_bool HF.out.symm, rfl⟩
    | true =>
      cases h3 : (p != (rg : Int)) with
      | true =>
        have HF := Lib.hid (show isB rg nn p = true by unfold isB; rw [h1, h2]; exact h3)
        go_enter Try.func31, Try.ntmps31
        go_wp2
        go_ret
        exact ⟨ret_bool HF.out.symm, rfl⟩
      | false =>
        have HF := Lib.hid (show isB rg nn p = false by unfold isB; rw [h1, h2]; exact h3)
        go_enter Try.func31, Try.ntmps31
        go_wp2
        go_ret
        exact ⟨ret_bool HF.out.symm, rfl⟩
theorem is_at {rg nn : Nat} {p : Int} (h : isB rg nn p = true) : ∃ q : Nat, p = ((q + 1 : Nat) : Int) ∧ q < nn ∧ q + 1 ≠ rg := by
  unfold isB at h
  simp at h
  exact ⟨(p - 1).toNat, by omega, by omega, by omega⟩
def knownI (rg nn : Nat) (K : List Int) (p : Int) : Int := if isB rg nn p = true then K.getD (p - 1).toNat 0 else 0
theorem known_any (p : Int) (h : FeedS w S g rg nn bs L K) : Calls Try.prog 13 #[.pointer (some ⟨g, 0, none⟩), .int .i64 p] w fun e w' => e = .returned (.int .i64 (knownI rg nn K p)) ∧ w' = w := by
  have H := Lib.hid h
  obtain ⟨L', vw, k0, ck, rfl, h⟩ := h
  by_cases hp : isB rg nn p = true
  · obtain ⟨q, rfl, hq, _⟩ := is_at hp
    have c4 : w.cell? ⟨g, 4, none⟩ = _ := h.blk.cell 4
    have hlt := h.blk.lt
    simp at c4
    have hK : knownI rg nn K ((q + 1 : Nat) : Int) = K.getD q 0 := by
      unfold knownI
      rw [if_pos hp]
      congr 1
      omega
    have hkl := h.klen
    have hn1 := h.n1
    have hq5 : q < 16 := by omega
    have ck0 := (Reads.of_own h.know).int (k := q) (by omega)
    rw [Nat.zero_add] at ck0
    have e1 : ((q + 1 : Nat) : Int) - 1 = (q : Int) := by omega
    have hq2 : (q : Int) < (K.length : Int) := by omega
    have hq3 : q < K.length := by omega
    obtain ⟨y, hy⟩ : ∃ y, K.getD q 0 = y := ⟨_, rfl⟩
    rw [hy] at ck0 hK
    have Hp := Lib.hid hp
    have HK := Lib.hid hK
    clear hp hK
    clear h hy
    go_enter Try.func13, Try.ntmps13
    go_wp2_with fail
    refine (is_any ((q + 1 : Nat) : Int) H.out).mono ?_
    rintro e w1 ⟨rfl, rfl⟩
    rw [Hp.out]
    go_wp2
    go_ret
    exact ⟨ret_int HK.out.symm, rfl⟩
  · have hp : isB rg nn p = false := by simpa using hp
    have HK := Lib.hid (show knownI rg nn K p = 0 by unfold knownI; rw [hp]; rfl)
    have Hp := Lib.hid hp
    clear hp
    clear h
    go_enter Try.func13, Try.ntmps13
    go_wp2_with fail
    refine (is_any p H.out).mono ?_
    rintro e w1 ⟨rfl, rfl⟩
    rw [Hp.out]
    go_wp2
    go_ret
    exact ⟨ret_int HK.out.symm, rfl⟩
/-- what others are known to have, once one has told -/
def ackB (rg nn bs : Nat) (L : List Wr) (K : List Int) (p h : Int) : Bool := isB rg nn p && (decide (K.getD (p - 1).toNat 0 < h) && decide (h ≤ (bs + L.length : Nat)))
def ackK (rg nn bs : Nat) (L : List Wr) (K : List Int) (p h : Int) : List Int := if ackB rg nn bs L K p h = true then K.set (p - 1).toNat h else K
def AckR (S : Nat → Prop) (g rg nn bs : Nat) (L : List Wr) (K : List Int) (p h : Int) (w : World) (e : Ending) (w' : World) : Prop :=
  e = .returned (.bool (ackB rg nn bs L K p h)) ∧ FeedS w' S g rg nn bs L (ackK rg nn bs L K p h) ∧ Keeps S w w'
set_option maxRecDepth 10000 in
theorem ack_any (p hv : Int) (h : FeedS w S g rg nn bs L K) : Calls Try.prog 11 #[.pointer (some ⟨g, 0, none⟩), .int .i64 p, .int .i64 hv] w (AckR S g rg nn bs L K p hv w) := by
  have H := Lib.hid h
  by_cases hp : isB rg nn p = true
  · obtain ⟨q, rfl, hq, _⟩ := is_at hp
    obtain ⟨L', vw, k0, ck, rfl, h⟩ := h
    have c4 : w.cell? ⟨g, 4, none⟩ = _ := h.blk.cell 4
    have hlt := h.blk.lt
    simp at c4
    have hkl := h.klen
    have hn1 := h.n1
    have hq5 : q < 16 := by omega
    have ck0 := (Reads.of_own h.know).int (k := q) (by omega)
    rw [Nat.zero_add] at ck0
    have e1 : ((q + 1 : Nat) : Int) - 1 = (q : Int) := by omega
    have e2 : (((q + 1 : Nat) : Int) - 1).toNat = q := by omega
    have hq2 : (q : Int) < (K.length : Int) := by omega
    have hq3 : q < K.length := by omega
    have HA := Lib.hid (show ackB rg nn bs (L'.map Wr.abs) K ((q + 1 : Nat) : Int) hv = (decide (K.getD q 0 < hv) && decide (hv ≤ (bs + (L'.map Wr.abs).length : Nat))) by unfold ackB; rw [hp, e2]; rfl)
    have HE2 := Lib.hid e2
    obtain ⟨y, hy⟩ : ∃ y, K.getD q 0 = y := ⟨_, rfl⟩
    rw [hy] at ck0
    have Hy := Lib.hid hy
    have Hf := Lib.hid h
    have Hp := Lib.hid hp
    clear hp
    clear e2 hy h
    cases h1 : decide (hv ≤ y) with
    | true =>
      have HF := Lib.hid (show ackB rg nn bs (L'.map Wr.abs) K ((q + 1 : Nat) : Int) hv = false by rw [HA.out, Hy.out, decide_eq_false (p := y < hv) (by simp at h1; omega)]; rfl)
      go_enter Try.func11, Try.ntmps11
      go_wp2_with fail
      refine (is_any ((q + 1 : Nat) : Int) H.out).mono ?_
      rintro e w1 ⟨rfl, rfl⟩
      rw [Hp.out]
      go_wp2
      go_ret
      exact ⟨ret_bool HF.out.symm, by unfold ackK; rw [HF.out]; exact H.out, .refl _ _⟩
    | false =>
      cases h2 : decide ((bs : Int) + (L'.length : Nat) < hv) with
      | true =>
        have HF := Lib.hid (show ackB rg nn bs (L'.map Wr.abs) K ((q + 1 : Nat) : Int) hv = false by rw [HA.out, decide_eq_false (p := hv ≤ ((bs + (L'.map Wr.abs).length : Nat) : Int)) (by simp at h2 ⊢; omega), Bool.and_false])
        have H2 := Lib.hid h2
        clear h2
        go_enter Try.func11, Try.ntmps11
        go_wp2_with fail
        refine (is_any ((q + 1 : Nat) : Int) H.out).mono ?_
        rintro e w1 ⟨rfl, rfl⟩
        rw [Hp.out]
        go_wp2_with fail
        refine (last_any H.out).mono ?_
        rintro e w2 ⟨rfl, hb2⟩
        have h2 := H2.out
        have HW := Lib.hid hb2
        clear hb2
        go_wp2
        go_ret
        exact ⟨ret_bool HF.out.symm, by unfold ackK; rw [HF.out]; exact H.out.below HW.out, .of_below HW.out⟩
      | false =>
        have HF := Lib.hid (show ackB rg nn bs (L'.map Wr.abs) K ((q + 1 : Nat) : Int) hv = true by rw [HA.out, Hy.out, decide_eq_true (p := y < hv) (by simp at h1; omega), decide_eq_true (p := hv ≤ ((bs + (L'.map Wr.abs).length : Nat) : Int)) (by simp at h2 ⊢; omega)]; rfl)
        have H2 := Lib.hid h2
        clear h2
        go_enter Try.func11, Try.ntmps11
        go_wp2_with fail
        refine (is_any ((q + 1 : Nat) : Int) H.out).mono ?_
        rintro e w1 ⟨rfl, rfl⟩
        rw [Hp.out]
        go_wp2_with fail
        refine (last_any H.out).mono ?_
        rintro e w2 ⟨rfl, hb2⟩
        have h2 := H2.out
        have h' := Hf.out.keeps (X := nobody) (.of_below hb2) (fun _ _ h => h)
        have k4 : w2.cell? ⟨g, 4, none⟩ = _ := h'.blk.cell 4
        have k0lt := h'.blk.lt
        have kk := (Reads.of_own h'.know).int (k := q) (by omega)
        have kf := h'.know.frozenAt q
        simp at k4 kk
        have HW := Lib.hid hb2
        have H' := Lib.hid h'
        clear hb2 h'
        go_wp2
        go_ret
        have hk : Keeps S w2 (w2.setCell ⟨k0, q, none⟩ (.int .i64 hv)) := .setCell (.inl H'.out.inK) _
        refine ⟨ret_bool HF.out.symm, ?_, (Keeps.of_below HW.out).trans hk⟩
        unfold ackK
        rw [HF.out, HE2.out]
        exact ⟨L', vw, k0, ck, rfl, H'.out.setK q hv (by
          have h3 := H'.out.kb (K.getD q 0) (by rw [List.getD_eq_getElem?_getD, List.getElem?_eq_getElem hq3]; simp)
          rw [Hy.out] at h3
          have h4 := H'.out.last
          simp at h1 h2
          omega)⟩
  · have hp : isB rg nn p = false := by simpa using hp
    have HF := Lib.hid (show ackB rg nn bs L K p hv = false by unfold ackB; rw [hp]; rfl)
    have Hp := Lib.hid hp
    clear hp
    clear h
    go_enter Try.func11, Try.ntmps11
    go_wp2_with fail
    refine (is_any p H.out).mono ?_
    rintro e w1 ⟨rfl, rfl⟩
    rw [Hp.out]
    go_wp2
    go_ret
    exact ⟨ret_bool HF.out.symm, by unfold ackK; rw [HF.out]; exact H.out, .refl _ _⟩
end
end Go.Proofs.Ytmclmefgddomfaa.feed
