/- A message is lost. -/
import Derived.Test.YtempojdgbgaanaaDel
namespace Go.Proofs.Ytempojdgbgaanaa.drop
open Go.RowKit Go.Proofs.Ytempojdgbgaanaa.base Go.Proofs.Ytempojdgbgaanaa.map_ Go.Proofs.Ytempojdgbgaanaa.err Go.Proofs.Ytempojdgbgaanaa.net Go.Proofs.Ytempojdgbgaanaa.state Go.Proofs.Ytempojdgbgaanaa.at_ Go.Proofs.Ytempojdgbgaanaa.del Go.Maps

theorem wrap_j (j : Nat) (h : j ≤ 64) : IntKind.i64.wrap ((j : Int) + 1) = ((j + 1 : Nat) : Int) := by
  simp [IntKind.wrap, IntKind.bits, IntKind.signed]
  omega
def DropR (S : Nat → Prop) (g bb cb k : Nat) (n : Int) (F : W2 → List ByteArray) (C : W2 → Bool) (x : W2) (i : Int) (w : World) (e : Ending) (w' : World) : Prop :=
  ∃ S', e = .returned (.bool (atOk n F x)) ∧ (∀ i, S' i → S i ∨ w.heap.size ≤ i) ∧ NetS w' S' g bb cb (k + 1) n (if atOk n F x then upd F x ((F x).eraseIdx (idx i (F x).length)) else F) C ∧ Keeps (fun i => S i ∨ i = bb) w w'
section
variable {S : Nat → Prop} {g bb cb k : Nat} {n : Int} {F : W2 → List ByteArray} {C : W2 → Bool} {x : W2} {i : Int} {w w2 w' : World}
theorem drop_no (h : NetS w S g bb cb k n F C) (hs : atOk n F x = false) (hb : Below w.heap.size w w') :
    DropR S g bb cb k n F C x i w (.returned (.bool false)) w' := by
  refine ⟨S, by rw [hs], fun i hi => .inl hi, ?_, .of_below hb⟩
  rw [hs]
  exact NetS.more (h.below hb) (by omega)
theorem drop_ok (hs : atOk n F x = true) (hb : Below w.heap.size w w2)
    (h : NetS w' (fun i => S i ∨ w2.heap.size ≤ i) g bb cb (k + 1) n (upd F x ((F x).eraseIdx (idx i (F x).length))) C) (hk : Keeps (fun i => S i ∨ i = bb) w2 w') :
    DropR S g bb cb k n F C x i w (.returned (.bool true)) w' := by
  have := hb.size
  refine ⟨fun i => S i ∨ w2.heap.size ≤ i, by rw [hs], fun i hi => Or.imp id (fun h => by omega) hi, by rw [hs]; exact h, (Keeps.of_below hb).trans hk⟩
end
set_option maxRecDepth 100000 in
theorem drop_nil (a b i : Int) (w : World) : Calls Try.prog 11 #[.pointer none, .int .i64 a, .int .i64 b, .int .i64 i] w fun e w' => e = .returned (.bool false) ∧ Below w.heap.size w w' := by
  have hwa := below_new w (.cells #[.int .i64 a, .int .i64 b] 56)
  have Hwa := Lib.hid hwa
  clear hwa
  go_enter Try.func11, Try.ntmps11
  go_wp2_with fail
  refine (at_nil a b i _).mono ?_
  rintro e w2 ⟨rfl, hb2⟩
  have HB := Lib.hid (below_step Hwa.out hb2)
  go_wp2
  go_ret
  exact ⟨rfl, HB.out⟩
set_option maxRecDepth 100000 in
set_option maxHeartbeats 3200000 in
theorem drop_any (S : Nat → Prop) (g bb cb k : Nat) (n a b i : Int) (F : W2 → List ByteArray) (C : W2 → Bool) (w : World) (h : NetS w S g bb cb k n F C) (hx : okW (a, b)) (hl : (F (a, b)).length ≤ 64) :
    Calls Try.prog 11 #[.pointer (some ⟨g, 0, none⟩), .int .i64 a, .int .i64 b, .int .i64 i] w (DropR S g bb cb k n F C (a, b) i w) := by
  have hwa := below_new w (.cells #[.int .i64 a, .int .i64 b] 56)
  have hW := Blk.new w 56 #[.int .i64 a, .int .i64 b]
  have h1 := h.below hwa
  have Hx := Lib.hid hx
  have H := Lib.hid h
  have Hwa := Lib.hid hwa
  have HW := Lib.hid hW
  have H1 := Lib.hid h1
  clear hwa hW h1
  clear hx h
  cases hs : atOk n F (a, b)
  · have Hs := Lib.hid hs
    go_enter Try.func11, Try.ntmps11
    go_wp2_with fail
    refine (at_any S g bb cb k n a b i F C _ H1.out Hx.out hl).mono ?_
    rintro e w2 ⟨rfl, hb2⟩
    rw [hs]
    have HB := Lib.hid (below_step Hwa.out hb2)
    go_wp2
    go_ret
    exact drop_no H.out Hs.out HB.out
  · have Hs := Lib.hid hs
    go_enter Try.func11, Try.ntmps11
    go_wp2_with fail
    refine (at_any S g bb cb k n a b i F C _ H1.out Hx.out hl).mono ?_
    rintro e w2 ⟨rfl, hb2⟩
    rw [hs, if_pos rfl]
    have HB := Lib.hid (below_step Hwa.out hb2)
    have H3 := Lib.hid (H1.out.below hb2)
    have HW3 := Lib.hid (HW.out.below hb2 HW.out.lt)
    go_wp2_with fail
    obtain ⟨m, m1, m2, m3, m4, m5⟩ := H3.out.bags
    have hold := bag_of m2 m4 (a, b)
    have hne : (F (a, b)).length ≠ 0 := by intro h0; simp [atOk, h0] at hs
    generalize hv0 : (getM m (a, b)).getD (.slice none 0 0) = v0 at hold
    obtain ⟨h4, ⟨_, h5⟩ | ⟨gb, cap, cur, he, _, h6, _⟩⟩ := hold
    · exact absurd h5 hne
    subst he
    have hrow := bag_of m2 m4 (a, b)
    rw [hv0] at hrow
    have hxg : ¬ ((some gb = some g) ∨ g = bb) := by
      rintro (he | he)
      · exact own_blk_ne hrow H3.out.net (by decide) he
      · exact m1.not_blk H3.out.net he
    have hxw : ¬ ((some gb = some w.heap.size) ∨ w.heap.size = bb) := by
      rintro (he | he)
      · exact own_blk_ne hrow HW3.out (by decide) he
      · exact m1.not_blk HW3.out he
    have hgb : gb ≠ bb := fun he => hrow.ne_map m1 (by rw [← he]; rfl)
    have q1 : w2.cell? ⟨w.heap.size, 0, none⟩ = _ := HW3.out.cell 0
    have q2 : w2.cell? ⟨w.heap.size, 1, none⟩ = _ := HW3.out.cell 1
    have q5 : w2.cell? ⟨g, 1, none⟩ = _ := H3.out.net.cell 1
    have q3 := H3.out.net.lt
    have q4 := HW3.out.lt
    simp at q1 q2 q5
    have M1 := Lib.hid m1
    have M2 := Lib.hid m2
    have M3 := Lib.hid m3
    have M4 := Lib.hid m4
    have Hrow := Lib.hid hrow
    have Hv0 := Lib.hid hv0
    have Hxg := Lib.hid hxg
    have Hxw := Lib.hid hxw
    have Hq3 := Lib.hid q3
    have Hq4 := Lib.hid q4
    have Hne := Lib.hid hne
    have Hgb := Lib.hid hgb
    clear m1 m2 m3 m4 hrow hv0 hxg hxw hne h4 h6 hgb
    have hil : idx i (F (a, b)).length < (F (a, b)).length := idx_lt i (by have := Hne.out; omega)
    generalize hj : idx i (F (a, b)).length = j at hil
    have Hj := Lib.hid hj
    clear hj
    refine wp_region_mono (fun i => some gb = some i ∨ i = bb) (by kernel_rfl) ?_
    -- 0 Op.move (Operand.tmp 0)
    refine wpMono_take' 0 (v := ?_) rfl (by kernel_rfl) (by kernel_rfl) (by kernel_rfl) (fun _ _ _ h => h) (by rfl) ?_ ?_
    rotate_left
    · (intro W hSw; try (have e1 := (hSw.cell 1 Hq3.out Hxg.out).trans q5; have e2 := (hSw.cell 0 Hq4.out Hxw.out).trans q1; have e3 := (hSw.cell 1 Hq4.out Hxw.out).trans q2)
       go_simp; first | done | rfl)
    try simp only [Act.put, List.setIfInBounds_toArray, List.set_cons_zero, List.set_cons_succ]
    -- 1 Op.nilCheck (Operand.tmp 23)
    refine wpMono_take' 1 (v := ?_) rfl (by kernel_rfl) (by kernel_rfl) (by kernel_rfl) (fun _ _ _ h => h) (by rfl) ?_ ?_
    rotate_left
    · (intro W hSw; try (have e1 := (hSw.cell 1 Hq3.out Hxg.out).trans q5; have e2 := (hSw.cell 0 Hq4.out Hxw.out).trans q1; have e3 := (hSw.cell 1 Hq4.out Hxw.out).trans q2)
       go_simp; first | done | rfl)
    try simp only [Act.put, List.setIfInBounds_toArray, List.set_cons_zero, List.set_cons_succ]
    -- 2 Op.fieldAddr 54 (Operand.tmp 24) 1
    refine wpMono_take' 2 (v := ?_) rfl (by kernel_rfl) (by kernel_rfl) (by kernel_rfl) (fun _ _ _ h => h) (by rfl) ?_ ?_
    rotate_left
    · (intro W hSw; try (have e1 := (hSw.cell 1 Hq3.out Hxg.out).trans q5; have e2 := (hSw.cell 0 Hq4.out Hxw.out).trans q1; have e3 := (hSw.cell 1 Hq4.out Hxw.out).trans q2)
       go_simp; first | done | rfl)
    try simp only [Act.put, List.setIfInBounds_toArray, List.set_cons_zero, List.set_cons_succ]
    -- 3 Op.load 51 (Operand.tmp 25)
    refine wpMono_take' 3 (v := ?_) rfl (by kernel_rfl) (by kernel_rfl) (by kernel_rfl) (fun _ _ _ h => h) (by rfl) ?_ ?_
    rotate_left
    · (intro W hSw; try (have e1 := (hSw.cell 1 Hq3.out Hxg.out).trans q5; have e2 := (hSw.cell 0 Hq4.out Hxw.out).trans q1; have e3 := (hSw.cell 1 Hq4.out Hxw.out).trans q2)
       go_simp; first | done | rfl)
    try simp only [Act.put, List.setIfInBounds_toArray, List.set_cons_zero, List.set_cons_succ]
    -- 4 Op.load 56 (Operand.tmp 9)
    refine wpMono_take' 4 (v := ?_) rfl (by kernel_rfl) (by kernel_rfl) (by kernel_rfl) (fun _ _ _ h => h) (by rfl) ?_ ?_
    rotate_left
    · (intro W hSw; try (have e1 := (hSw.cell 1 Hq3.out Hxg.out).trans q5; have e2 := (hSw.cell 0 Hq4.out Hxw.out).trans q1; have e3 := (hSw.cell 1 Hq4.out Hxw.out).trans q2)
       go_simp; first | done | rfl)
    try simp only [Act.put, List.setIfInBounds_toArray, List.set_cons_zero, List.set_cons_succ]
    -- 5 Op.move (Operand.tmp 0)
    refine wpMono_take' 5 (v := ?_) rfl (by kernel_rfl) (by kernel_rfl) (by kernel_rfl) (fun _ _ _ h => h) (by rfl) ?_ ?_
    rotate_left
    · (intro W hSw; try (have e1 := (hSw.cell 1 Hq3.out Hxg.out).trans q5; have e2 := (hSw.cell 0 Hq4.out Hxw.out).trans q1; have e3 := (hSw.cell 1 Hq4.out Hxw.out).trans q2)
       go_simp; first | done | rfl)
    try simp only [Act.put, List.setIfInBounds_toArray, List.set_cons_zero, List.set_cons_succ]
    -- 6 Op.nilCheck (Operand.tmp 28)
    refine wpMono_take' 6 (v := ?_) rfl (by kernel_rfl) (by kernel_rfl) (by kernel_rfl) (fun _ _ _ h => h) (by rfl) ?_ ?_
    rotate_left
    · (intro W hSw; try (have e1 := (hSw.cell 1 Hq3.out Hxg.out).trans q5; have e2 := (hSw.cell 0 Hq4.out Hxw.out).trans q1; have e3 := (hSw.cell 1 Hq4.out Hxw.out).trans q2)
       go_simp; first | done | rfl)
    try simp only [Act.put, List.setIfInBounds_toArray, List.set_cons_zero, List.set_cons_succ]
    -- 7 Op.fieldAddr 54 (Operand.tmp 29) 1
    refine wpMono_take' 7 (v := ?_) rfl (by kernel_rfl) (by kernel_rfl) (by kernel_rfl) (fun _ _ _ h => h) (by rfl) ?_ ?_
    rotate_left
    · (intro W hSw; try (have e1 := (hSw.cell 1 Hq3.out Hxg.out).trans q5; have e2 := (hSw.cell 0 Hq4.out Hxw.out).trans q1; have e3 := (hSw.cell 1 Hq4.out Hxw.out).trans q2)
       go_simp; first | done | rfl)
    try simp only [Act.put, List.setIfInBounds_toArray, List.set_cons_zero, List.set_cons_succ]
    -- 8 Op.load 51 (Operand.tmp 30)
    refine wpMono_take' 8 (v := ?_) rfl (by kernel_rfl) (by kernel_rfl) (by kernel_rfl) (fun _ _ _ h => h) (by rfl) ?_ ?_
    rotate_left
    · (intro W hSw; try (have e1 := (hSw.cell 1 Hq3.out Hxg.out).trans q5; have e2 := (hSw.cell 0 Hq4.out Hxw.out).trans q1; have e3 := (hSw.cell 1 Hq4.out Hxw.out).trans q2)
       go_simp; first | done | rfl)
    try simp only [Act.put, List.setIfInBounds_toArray, List.set_cons_zero, List.set_cons_succ]
    -- 9 Op.load 56 (Operand.tmp 9)
    refine wpMono_take' 9 (v := ?_) rfl (by kernel_rfl) (by kernel_rfl) (by kernel_rfl) (fun _ _ _ h => h) (by rfl) ?_ ?_
    rotate_left
    · (intro W hSw; try (have e1 := (hSw.cell 1 Hq3.out Hxg.out).trans q5; have e2 := (hSw.cell 0 Hq4.out Hxw.out).trans q1; have e3 := (hSw.cell 1 Hq4.out Hxw.out).trans q2)
       go_simp; first | done | rfl)
    try simp only [Act.put, List.setIfInBounds_toArray, List.set_cons_zero, List.set_cons_succ]
    -- 11 Op.move (Operand.tmp 10)
    refine wpMono_take' 11 (v := ?_) rfl (by kernel_rfl) (by kernel_rfl) (by kernel_rfl) (fun _ _ _ h => h) (by rfl) ?_ ?_
    rotate_left
    · (intro W hSw; try (have e1 := (hSw.cell 1 Hq3.out Hxg.out).trans q5; have e2 := (hSw.cell 0 Hq4.out Hxw.out).trans q1; have e3 := (hSw.cell 1 Hq4.out Hxw.out).trans q2)
       go_simp; first | done | rfl)
    try simp only [Act.put, List.setIfInBounds_toArray, List.set_cons_zero, List.set_cons_succ]
    -- 12 Op.move (Operand.tmp 10)
    refine wpMono_take' 12 (v := ?_) rfl (by kernel_rfl) (by kernel_rfl) (by kernel_rfl) (fun _ _ _ h => h) (by rfl) ?_ ?_
    rotate_left
    · (intro W hSw; try (have e1 := (hSw.cell 1 Hq3.out Hxg.out).trans q5; have e2 := (hSw.cell 0 Hq4.out Hxw.out).trans q1; have e3 := (hSw.cell 1 Hq4.out Hxw.out).trans q2)
       go_simp; first | done | rfl)
    try simp only [Act.put, List.setIfInBounds_toArray, List.set_cons_zero, List.set_cons_succ]
    -- 13 Op.binOp BinOp.add 3 (Operand.tmp 35) (Operand.const (Value.int IntKind.i64 1)) 3
    refine wpMono_take' 13 (v := ?_) rfl (by kernel_rfl) (by kernel_rfl) (by kernel_rfl) (fun _ _ _ h => h) (by rfl) ?_ ?_
    rotate_left
    · (intro W hSw; try (have e1 := (hSw.cell 1 Hq3.out Hxg.out).trans q5; have e2 := (hSw.cell 0 Hq4.out Hxw.out).trans q1; have e3 := (hSw.cell 1 Hq4.out Hxw.out).trans q2)
       go_simp; first | done | rfl)
    try simp only [Act.put, List.setIfInBounds_toArray, List.set_cons_zero, List.set_cons_succ]
    -- EFFECT 10 Op.lookup 51 (Operand.tmp 31) (Operand.tmp 32) false
    refine wpMono_one' 10 (by kernel_rfl) rfl (by rfl) (fun K hK => ?_)
    have hlk := (M1.out.keeps (X := nobody) .drew (fun h => h)).look keyed Try.underlying51 (zero_slice w2.drew) Hx.out
    rw [Hv0.out] at hlk
    have Hlk := Lib.hid hlk
    clear hlk
    have hlk : (Instr.lookup _ (.map (some bb)) (.agg #[.int .i64 a, .int .i64 b]) false).run _ _ = _ := Hlk.out
    go_simp
    refine hK.out _ _ ?_ ?_
    · exact .refl _ _
    clear hK K
    try simp only [Act.put, List.setIfInBounds_toArray, List.set_cons_zero, List.set_cons_succ]
    -- EFFECT 14 Op.call { callee := Callee.value (Operand.func 29), args := #[Operand.tmp 33, Operand.tmp 34, Operand.tmp 36], argTypes := #[37, 3, 3] }
    refine wpMono_one' 14 (by kernel_rfl) rfl (by rfl) (fun K hK => ?_)
    go_simp
    have hw : IntKind.i64.wrap ((j : Int) + 1) = ((j + 1 : Nat) : Int) := (Go.Proofs.Ytempojdgbgaanaa.drop.wrap_j j (by omega))
    rw [hw]
    clear hw
    refine (delete_any (n := (F (a, b)).length) (xs := F (a, b)) (g := gb) (cap := cap) (Hrow.out.keeps .drew (fun _ _ h => h)) j rfl hil).mono ?_
    rintro e w3 ⟨rfl, hd1, hd2⟩
    refine hK.out _ _ ?_ ?_
    · exact hd2.more fun i _ hi => .inl (by rw [hi])
    clear hK K
    try simp only [Act.put, List.setIfInBounds_toArray, List.set_cons_zero, List.set_cons_succ]
    -- EFFECT 15 Op.mapUpdate 51 (Operand.tmp 26) (Operand.tmp 27) (Operand.tmp 37)
    refine wpMono_one' 15 (by kernel_rfl) rfl (by rfl) (fun K hK => ?_)
    have m1' : MapM wayE w3 bb m := M1.out.keeps (Keeps.drew.trans hd2) (fun h => Hgb.out h.symm)
    obtain ⟨w4, hp1, hp2, hp3⟩ := m1'.put keyed Try.underlying51 Hx.out (.slice (some ⟨gb, 0, none⟩) ((F (a, b)).length - 1) cap)
    have Hp1 := Lib.hid hp1
    clear hp1
    have hp1 : (Instr.mapUpdate _ (.map (some bb)) (.agg #[.int .i64 a, .int .i64 b]) _).run _ _ = _ := Hp1.out
    go_simp
    refine hK.out _ _ ?_ ?_
    · exact hp3.more fun i _ hi => .inr hi
    clear hK K
    try simp only [Act.put]
    refine wpMono_done (by kernel_rfl) ?_ _
    have hk5 : Keeps (fun i => (Value.slice (some ⟨gb, 0, none⟩) (F (a, b)).length cap).ownBlock = some i ∨ i = bb) w2 w4 := (Keeps.drew.trans (hd2.more fun i _ hi => .inl (by rw [hi]; rfl))).trans (hp3.more fun i _ hi => .inr hi)
    have hb5 := hd1.keeps hp3 fun i hi he => Hgb.out (by rw [← he]; injection hi)
    obtain ⟨r1, r2⟩ := H3.out.set M1.out M2.out M3.out M4.out m5 Hv0.out hk5 hp2 hb5 (.inl rfl)
    rw [← Hj.out] at r1
    have hR := drop_ok (i := i) Hs.out HB.out r1 r2
    have HR := Lib.hid hR
    clear hR r1 r2 hb5 hk5 hp1 hp2 hp3 hd1 hd2
    go_wp2
    go_ret
    exact HR.out
end Go.Proofs.Ytempojdgbgaanaa.drop
