/- The document's feed in memory; the walks of its Last, Is and Ack. -/
import Derived.Test.YtmclmefgddomfaaNew
import Derived.Test.YtmclmefgddomfaaSame
namespace Go.Proofs.Ytmclmefgddomfaa.feed
open Go.RowKit Go.Proofs.Ytmclmefgddomfaa.base Go.Proofs.Ytmclmefgddomfaa.rowe Go.Proofs.Ytmclmefgddomfaa.err Go.Proofs.Ytmclmefgddomfaa.wire Go.Proofs.Ytmclmefgddomfaa.monoj

/-- a list of writes that lies in blocks of S, from lo on -/
structure RL (w : World) (S : Nat → Prop) (lo : Nat) (A : Option Addr) (c : Nat) (L : List Wr) : Prop where
  row : Reads w w.heap.size 10 A L.length (L.flatMap Wr.cells)
  cap : L.length ≤ c
  few : L.length ≤ 1000000
  blkS : ∀ b off, A = some ⟨b, off, none⟩ → 0 < L.length → S b ∧ lo ≤ b
  nums : ∀ x ∈ L, NumsO w lo x.d x.z
  numS : ∀ x ∈ L, ∀ i, x.d.ownBlock = some i → S i
theorem RL.rw {w : World} {S : Nat → Prop} {lo c : Nat} {A : Option Addr} {L : List Wr} (h : RL w S lo A c L) : RW w (.slice A L.length c) L :=
  ⟨A, c, rfl, h.few, h.cap, h.row, fun x hx => ⟨(h.nums x hx).nums, (h.nums x hx).2⟩⟩
theorem RL.keeps {X S : Nat → Prop} {w w' : World} {lo c : Nat} {A : Option Addr} {L : List Wr} (h : RL w S lo A c L) (hk : Keeps X w w') (hx : ∀ i, S i → lo ≤ i → ¬ X i) : RL w' S lo A c L := by
  refine ⟨⟨h.row.1, fun hp => ?_⟩, h.cap, h.few, h.blkS, fun x hx' => (h.nums x hx').keeps hk (fun i hi => hx i (h.numS x hx' i hi) ((h.nums x hx').1.lt _ hi).1), h.numS⟩
  obtain ⟨b, off, e, hb, hc⟩ := h.row.2 hp
  refine ⟨b, off, e, Nat.lt_of_lt_of_le hb hk.size, fun j hj => ?_⟩
  have hs := h.blkS b off e hp
  rw [hk.cell _ hb (hx b hs.1 hs.2)]
  exact hc j hj
theorem RL.more {S S' : Nat → Prop} {w : World} {lo c : Nat} {A : Option Addr} {L : List Wr} (h : RL w S lo A c L) (hs : ∀ i, S i → S' i) : RL w S' lo A c L :=
  ⟨h.row, h.cap, h.few, fun b off e hp => ⟨hs b (h.blkS b off e hp).1, (h.blkS b off e hp).2⟩, h.nums, fun x hx i hi => hs i (h.numS x hx i hi)⟩
structure RefF (w : World) (S : Nat → Prop) (g rg nn bs : Nat) (L' : List Wr) (K : List Int) (A : Option Addr) (c k0 ck : Nat) : Prop where
  blk : Blk w g 61 #[.int .i64 rg, .int .i64 nn, .int .i64 bs, .slice A L'.length c, .slice (some ⟨k0, 0, none⟩) K.length ck]
  rl : RL w S (k0 + 1) A c L'
  know : w.ownsRow (g + 1) 3 1 (.slice (some ⟨k0, 0, none⟩) K.length ck) K.length (K.map (Value.int .i64))
  inG : S g
  inK : S k0
  klen : K.length = nn
  r0 : 1 ≤ rg
  r1 : rg ≤ nn
  n1 : nn ≤ 16
  last : bs + L'.length ≤ 1099511627776
  small : ∀ i, S i → i < w.heap.size
def RefS (w : World) (S : Nat → Prop) (g rg nn bs : Nat) (L : List Wr) (K : List Int) : Prop := ∃ L' A c k0 ck, L'.map Wr.abs = L ∧ RefF w S g rg nn bs L' K A c k0 ck
theorem RefF.k0lt {S : Nat → Prop} {w : World} {g rg nn bs : Nat} {L' : List Wr} {K : List Int} {A : Option Addr} {c k0 ck : Nat} (h : RefF w S g rg nn bs L' K A c k0 ck) : g < k0 := by
  have := (h.know.lt k0 rfl).1; omega
theorem RefF.keeps {X S : Nat → Prop} {w w' : World} {g rg nn bs : Nat} {L' : List Wr} {K : List Int} {A : Option Addr} {c k0 ck : Nat} (h : RefF w S g rg nn bs L' K A c k0 ck) (hk : Keeps X w w') (hx : ∀ i, S i → ¬ X i) : RefF w' S g rg nn bs L' K A c k0 ck :=
  ⟨h.blk.keeps hk (hx g h.inG), h.rl.keeps hk (fun i hi _ => hx i hi), ow_keeps' h.know hk (fun i hi => by injection hi with hi; subst hi; exact hx k0 h.inK), h.inG, h.inK, h.klen, h.r0, h.r1, h.n1, h.last, fun i hi => Nat.lt_of_lt_of_le (h.small i hi) hk.size⟩
theorem RefS.keeps {X S : Nat → Prop} {w w' : World} {g rg nn bs : Nat} {L : List Wr} {K : List Int} (h : RefS w S g rg nn bs L K) (hk : Keeps X w w') (hx : ∀ i, S i → ¬ X i) : RefS w' S g rg nn bs L K := by
  obtain ⟨L', A, c, k0, ck, h1, h2⟩ := h
  exact ⟨L', A, c, k0, ck, h1, h2.keeps hk hx⟩
theorem RefS.below {S : Nat → Prop} {w w' : World} {g rg nn bs : Nat} {L : List Wr} {K : List Int} (h : RefS w S g rg nn bs L K) (hk : Below w.heap.size w w') : RefS w' S g rg nn bs L K := h.keeps (X := nobody) (.of_below hk) (fun _ _ h => h)
theorem RefF.setK {S : Nat → Prop} {w : World} {g rg nn bs : Nat} {L' : List Wr} {K : List Int} {A : Option Addr} {c k0 ck : Nat} (h : RefF w S g rg nn bs L' K A c k0 ck) (q : Nat) (hv : Int) : RefF (w.setCell ⟨k0, q, none⟩ (.int .i64 hv)) S g rg nn bs L' (K.set q hv) A c k0 ck := by
  have hlt := h.k0lt
  refine ⟨?_, h.rl.keeps (Keeps.set1 w k0 q _) (fun i _ hi e => by omega), ?_, h.inG, h.inK, by rw [List.length_set]; exact h.klen, h.r0, h.r1, h.n1, h.last, fun i hi => by have := h.small i hi; simpa using this⟩
  · rw [List.length_set]; exact h.blk.far (p := ⟨k0, q, none⟩) (by simp; omega) _
  · have := (h.know.stored q (.int .i64 hv)).1
    rw [List.length_set, List.map_set]
    exact this
section
variable {S : Nat → Prop} {w : World} {g rg nn bs : Nat} {L : List Wr} {K : List Int}
theorem last_ref (h : RefS w S g rg nn bs L K) : Calls Try.prog 21 #[.pointer (some ⟨g, 0, none⟩)] w fun e w' => e = .returned (.int .i64 (bs + L.length : Nat)) ∧ Below w.heap.size w w' := by
  obtain ⟨L', A, c, k0, ck, rfl, h⟩ := h
  have c2 : w.cell? ⟨g, 2, none⟩ = _ := h.blk.cell 2
  have c3 : w.cell? ⟨g, 3, none⟩ = _ := h.blk.cell 3
  have hlt := h.blk.lt
  have hl := h.last
  simp at c2 c3
  rw [List.length_map]
  have hw := IntWalk.i64_in ((bs : Int) + (L'.length : Nat)) (by omega)
  clear h
  go_enter Try.func21, Try.ntmps21
  go_wp2
  refine wp_region_mono nobody (by kernel_rfl) ?_
  -- 0 Op.move (Operand.tmp 0)
  refine wpMono_take' 0 (v := ?_) rfl (by kernel_rfl) (by kernel_rfl) (by kernel_rfl) (fun _ _ _ h => h) (by rfl) ?_ ?_
  rotate_left
  · (intro W hSw; have hcW := hSw.cells; try simp only [World.size_drew, World.cell?_drew] at hcW
     go_simp; first | done | rfl)
  try simp only [Act.put, List.setIfInBounds_toArray, List.set_cons_zero, List.set_cons_succ]
  -- 1 Op.nilCheck (Operand.tmp 3)
  refine wpMono_take' 1 (v := ?_) rfl (by kernel_rfl) (by kernel_rfl) (by kernel_rfl) (fun _ _ _ h => h) (by rfl) ?_ ?_
  rotate_left
  · (intro W hSw; have hcW := hSw.cells; try simp only [World.size_drew, World.cell?_drew] at hcW
     go_simp; first | done | rfl)
  try simp only [Act.put, List.setIfInBounds_toArray, List.set_cons_zero, List.set_cons_succ]
  -- 2 Op.fieldAddr 61 (Operand.tmp 4) 2
  refine wpMono_take' 2 (v := ?_) rfl (by kernel_rfl) (by kernel_rfl) (by kernel_rfl) (fun _ _ _ h => h) (by rfl) ?_ ?_
  rotate_left
  · (intro W hSw; have hcW := hSw.cells; try simp only [World.size_drew, World.cell?_drew] at hcW
     go_simp; first | done | rfl)
  try simp only [Act.put, List.setIfInBounds_toArray, List.set_cons_zero, List.set_cons_succ]
  -- 3 Op.load 3 (Operand.tmp 5)
  refine wpMono_take' 3 (v := ?_) rfl (by kernel_rfl) (by kernel_rfl) (by kernel_rfl) (fun _ _ _ h => h) (by rfl) ?_ ?_
  rotate_left
  · (intro W hSw; have hcW := hSw.cells; try simp only [World.size_drew, World.cell?_drew] at hcW
     go_simp; first | done | rfl)
  try simp only [Act.put, List.setIfInBounds_toArray, List.set_cons_zero, List.set_cons_succ]
  -- 4 Op.move (Operand.tmp 0)
  refine wpMono_take' 4 (v := ?_) rfl (by kernel_rfl) (by kernel_rfl) (by kernel_rfl) (fun _ _ _ h => h) (by rfl) ?_ ?_
  rotate_left
  · (intro W hSw; have hcW := hSw.cells; try simp only [World.size_drew, World.cell?_drew] at hcW
     go_simp; first | done | rfl)
  try simp only [Act.put, List.setIfInBounds_toArray, List.set_cons_zero, List.set_cons_succ]
  -- 5 Op.nilCheck (Operand.tmp 7)
  refine wpMono_take' 5 (v := ?_) rfl (by kernel_rfl) (by kernel_rfl) (by kernel_rfl) (fun _ _ _ h => h) (by rfl) ?_ ?_
  rotate_left
  · (intro W hSw; have hcW := hSw.cells; try simp only [World.size_drew, World.cell?_drew] at hcW
     go_simp; first | done | rfl)
  try simp only [Act.put, List.setIfInBounds_toArray, List.set_cons_zero, List.set_cons_succ]
  -- 6 Op.fieldAddr 61 (Operand.tmp 8) 3
  refine wpMono_take' 6 (v := ?_) rfl (by kernel_rfl) (by kernel_rfl) (by kernel_rfl) (fun _ _ _ h => h) (by rfl) ?_ ?_
  rotate_left
  · (intro W hSw; have hcW := hSw.cells; try simp only [World.size_drew, World.cell?_drew] at hcW
     go_simp; first | done | rfl)
  try simp only [Act.put, List.setIfInBounds_toArray, List.set_cons_zero, List.set_cons_succ]
  -- 7 Op.load 41 (Operand.tmp 9)
  refine wpMono_take' 7 (v := ?_) rfl (by kernel_rfl) (by kernel_rfl) (by kernel_rfl) (fun _ _ _ h => h) (by rfl) ?_ ?_
  rotate_left
  · (intro W hSw; have hcW := hSw.cells; try simp only [World.size_drew, World.cell?_drew] at hcW
     go_simp; first | done | rfl)
  try simp only [Act.put, List.setIfInBounds_toArray, List.set_cons_zero, List.set_cons_succ]
  -- 8 Op.call { callee := Callee.builtin Builtin.len, args := #[Operand.tmp 10], argTypes := #[4
  refine wpMono_take' 8 (v := ?_) rfl (by kernel_rfl) (by kernel_rfl) (by kernel_rfl) (fun _ _ _ h => h) (by rfl) ?_ ?_
  rotate_left
  · (intro W hSw; have hcW := hSw.cells; try simp only [World.size_drew, World.cell?_drew] at hcW
     go_simp; first | done | rfl)
  try simp only [Act.put, List.setIfInBounds_toArray, List.set_cons_zero, List.set_cons_succ]
  -- 9 Op.binOp BinOp.add 3 (Operand.tmp 6) (Operand.tmp 11) 3
  refine wpMono_take' 9 (v := ?_) rfl (by kernel_rfl) (by kernel_rfl) (by kernel_rfl) (fun _ _ _ h => h) (by rfl) ?_ ?_
  rotate_left
  · (intro W hSw; have hcW := hSw.cells; try simp only [World.size_drew, World.cell?_drew] at hcW
     go_simp; first | done | rfl)
  try simp only [Act.put, List.setIfInBounds_toArray, List.set_cons_zero, List.set_cons_succ]
  -- 10 Op.assign (Operand.tmp 12)
  refine wpMono_take' 10 (v := ?_) rfl (by kernel_rfl) (by kernel_rfl) (by kernel_rfl) (fun _ _ _ h => h) (by rfl) ?_ ?_
  rotate_left
  · (intro W hSw; have hcW := hSw.cells; try simp only [World.size_drew, World.cell?_drew] at hcW
     go_simp; first | done | rfl)
  try simp only [Act.put, List.setIfInBounds_toArray, List.set_cons_zero, List.set_cons_succ]
  refine wpMono_done (by kernel_rfl) ?_ _
  go_wp2
  go_ret
  exact ⟨by go_num, (Below.refl _ _).drew⟩
theorem is_ref (p : Int) (h : RefS w S g rg nn bs L K) : Calls Try.prog 27 #[.pointer (some ⟨g, 0, none⟩), .int .i64 p] w fun e w' => e = .returned (.bool (isB rg nn p)) ∧ w' = w := by
  obtain ⟨L', A, c, k0, ck, rfl, h⟩ := h
  have c0 : w.cell? ⟨g, 0, none⟩ = _ := h.blk.cell 0
  have c1 : w.cell? ⟨g, 1, none⟩ = _ := h.blk.cell 1
  have hlt := h.blk.lt
  simp at c0 c1
  clear h
  cases h1 : decide (1 ≤ p) with
  | false =>
    have HF := Lib.hid (show isB rg nn p = false by unfold isB; rw [h1]; rfl)
    go_enter Try.func27, Try.ntmps27
    go_wp2
    go_ret
    exact ⟨ret_bool HF.out.symm, rfl⟩
  | true =>
    cases h2 : decide (p ≤ (nn : Int)) with
    | false =>
      have HF := Lib.hid (show isB rg nn p = false by unfold isB; rw [h1, h2]; rfl)
      go_enter Try.func27, Try.ntmps27
      go_wp2
      go_ret
      exact ⟨ret_bool HF.out.symm, rfl⟩
    | true =>
      cases h3 : (p != (rg : Int)) with
      | true =>
        have HF := Lib.hid (show isB rg nn p = true by unfold isB; rw [h1, h2]; exact h3)
        go_enter Try.func27, Try.ntmps27
        go_wp2
        go_ret
        exact ⟨ret_bool HF.out.symm, rfl⟩
      | false =>
        have HF := Lib.hid (show isB rg nn p = false by unfold isB; rw [h1, h2]; exact h3)
        go_enter Try.func27, Try.ntmps27
        go_wp2
        go_ret
        exact ⟨ret_bool HF.out.symm, rfl⟩
def AckRR (S : Nat → Prop) (g rg nn bs : Nat) (L : List Wr) (K : List Int) (p h : Int) (w : World) (e : Ending) (w' : World) : Prop :=
  e = .returned (.bool (ackB rg nn bs L K p h)) ∧ RefS w' S g rg nn bs L (ackK rg nn bs L K p h) ∧ Keeps S w w'
set_option maxRecDepth 10000 in
theorem ack_ref (p hv : Int) (h : RefS w S g rg nn bs L K) : Calls Try.prog 23 #[.pointer (some ⟨g, 0, none⟩), .int .i64 p, .int .i64 hv] w (AckRR S g rg nn bs L K p hv w) := by
  have H := Lib.hid h
  by_cases hp : isB rg nn p = true
  · obtain ⟨q, rfl, hq, _⟩ := is_at hp
    obtain ⟨L', A, c, k0, ck, rfl, h⟩ := h
    have c4 : w.cell? ⟨g, 4, none⟩ = _ := h.blk.cell 4
    have hlt := h.blk.lt
    simp at c4
    have hkl := h.klen
    have hn1 := h.n1
    have hq5 : q < 16 := by omega
    have ck0 := (Reads.of_own h.know).int (k := q) (by omega)
    rw [Nat.zero_add] at ck0
    have e1 : ((q + 1 : Nat) : Int) - 1 = (q : Int) := by omega
    have e2 : (((q + 1 : Nat) : Int) - 1).toNat = q := by omega
    have hq2 : (q : Int) < (K.length : Int) := by omega
    have hq3 : q < K.length := by omega
    have HA := Lib.hid (show ackB rg nn bs (L'.map Wr.abs) K ((q + 1 : Nat) : Int) hv = (decide (K.getD q 0 < hv) && decide (hv ≤ (bs + (L'.map Wr.abs).length : Nat))) by unfold ackB; rw [hp, e2]; rfl)
    have HE2 := Lib.hid e2
    obtain ⟨y, hy⟩ : ∃ y, K.getD q 0 = y := ⟨_, rfl⟩
    rw [hy] at ck0
    have Hy := Lib.hid hy
    have Hf := Lib.hid h
    have Hp := Lib.hid hp
    clear hp
    clear e2 hy h
    cases h1 : decide (hv ≤ y) with
    | true =>
      have HF := Lib.hid (show ackB rg nn bs (L'.map Wr.abs) K ((q + 1 : Nat) : Int) hv = false by rw [HA.out, Hy.out, decide_eq_false (p := y < hv) (by simp at h1; omega)]; rfl)
      go_enter Try.func23, Try.ntmps23
      go_wp2_with fail
      refine (is_ref ((q + 1 : Nat) : Int) H.out).mono ?_
      rintro e w1 ⟨rfl, rfl⟩
      rw [Hp.out]
      go_wp2
      go_ret
      exact ⟨ret_bool HF.out.symm, by unfold ackK; rw [HF.out]; exact H.out, .refl _ _⟩
    | false =>
      cases h2 : decide ((bs : Int) + (L'.length : Nat) < hv) with
      | true =>
        have HF := Lib.hid (show ackB rg nn bs (L'.map Wr.abs) K ((q + 1 : Nat) : Int) hv = false by rw [HA.out, decide_eq_false (p := hv ≤ ((bs + (L'.map Wr.abs).length : Nat) : Int)) (by simp at h2 ⊢; omega), Bool.and_false])
        have H2 := Lib.hid h2
        clear h2
        go_enter Try.func23, Try.ntmps23
        go_wp2_with fail
        refine (is_ref ((q + 1 : Nat) : Int) H.out).mono ?_
        rintro e w1 ⟨rfl, rfl⟩
        rw [Hp.out]
        go_wp2_with fail
        refine (last_ref H.out).mono ?_
        rintro e w2 ⟨rfl, hb2⟩
        have h2 := H2.out
        have HW := Lib.hid hb2
        clear hb2
        go_wp2
        go_ret
        exact ⟨ret_bool HF.out.symm, by unfold ackK; rw [HF.out]; exact H.out.below HW.out, .of_below HW.out⟩
      | false =>
        have HF := Lib.hid (show ackB rg nn bs (L'.map Wr.abs) K ((q + 1 : Nat) : Int) hv = true by rw [HA.out, Hy.out, decide_eq_true (p := y < hv) (by simp at h1; omega), decide_eq_true (p := hv ≤ ((bs + (L'.map Wr.abs).length : Nat) : Int)) (by simp at h2 ⊢; omega)]; rfl)
        have H2 := Lib.hid h2
        clear h2
        go_enter Try.func23, Try.ntmps23
        go_wp2_with fail
        refine (is_ref ((q + 1 : Nat) : Int) H.out).mono ?_
        rintro e w1 ⟨rfl, rfl⟩
        rw [Hp.out]
        go_wp2_with fail
        refine (last_ref H.out).mono ?_
        rintro e w2 ⟨rfl, hb2⟩
        have h2 := H2.out
        have h' := Hf.out.keeps (X := nobody) (.of_below hb2) (fun _ _ h => h)
        have k4 : w2.cell? ⟨g, 4, none⟩ = _ := h'.blk.cell 4
        have k0lt := h'.blk.lt
        have kk := (Reads.of_own h'.know).int (k := q) (by omega)
        have kf := h'.know.frozenAt q
        simp at k4 kk
        have HW := Lib.hid hb2
        have H' := Lib.hid h'
        clear hb2 h'
        go_wp2
        go_ret
        have hk : Keeps S w2 (w2.setCell ⟨k0, q, none⟩ (.int .i64 hv)) := .setCell (.inl H'.out.inK) _
        refine ⟨ret_bool HF.out.symm, ?_, (Keeps.of_below HW.out).trans hk⟩
        unfold ackK
        rw [HF.out, HE2.out]
        exact ⟨L', A, c, k0, ck, rfl, H'.out.setK q hv⟩
  · have hp : isB rg nn p = false := by simpa using hp
    have HF := Lib.hid (show ackB rg nn bs L K p hv = false by unfold ackB; rw [hp]; rfl)
    have Hp := Lib.hid hp
    clear hp
    clear h
    go_enter Try.func23, Try.ntmps23
    go_wp2_with fail
    refine (is_ref p H.out).mono ?_
    rintro e w1 ⟨rfl, rfl⟩
    rw [Hp.out]
    go_wp2
    go_ret
    exact ⟨ret_bool HF.out.symm, by unfold ackK; rw [HF.out]; exact H.out, .refl _ _⟩
end
end Go.Proofs.Ytmclmefgddomfaa.feed
