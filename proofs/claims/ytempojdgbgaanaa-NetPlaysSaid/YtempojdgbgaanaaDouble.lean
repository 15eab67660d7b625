/- A message is doubled. -/
import Derived.Test.YtempojdgbgaanaaCut
namespace Go.Proofs.Ytempojdgbgaanaa.double
open Go.RowKit Go.Proofs.Ytempojdgbgaanaa.base Go.Proofs.Ytempojdgbgaanaa.map_ Go.Proofs.Ytempojdgbgaanaa.err Go.Proofs.Ytempojdgbgaanaa.net Go.Proofs.Ytempojdgbgaanaa.state Go.Proofs.Ytempojdgbgaanaa.at_ Go.Proofs.Ytempojdgbgaanaa.take Go.Maps

def doubleB (n : Int) (F : W2 → List ByteArray) (x : W2) : Bool := atOk n F x && decide ((F x).length < 64)
def DoubleR (S : Nat → Prop) (g bb cb k : Nat) (n : Int) (F : W2 → List ByteArray) (C : W2 → Bool) (x : W2) (i : Int) (w : World) (e : Ending) (w' : World) : Prop :=
  ∃ S', e = .returned (.bool (doubleB n F x)) ∧ (∀ i, S' i → S i ∨ w.heap.size ≤ i) ∧ NetS w' S' g bb cb (k + 1) n (if doubleB n F x then upd F x (F x ++ [msg F x i]) else F) C ∧ Keeps (fun i => S i ∨ i = bb) w w'
section
variable {S : Nat → Prop} {g bb cb k : Nat} {n : Int} {F : W2 → List ByteArray} {C : W2 → Bool} {x : W2} {i : Int} {w w2 w' : World}
theorem double_no (h : NetS w S g bb cb k n F C) (hs : doubleB n F x = false) (hb : Below w.heap.size w w') :
    DoubleR S g bb cb k n F C x i w (.returned (.bool false)) w' := by
  refine ⟨S, by rw [hs], fun i hi => .inl hi, ?_, .of_below hb⟩
  rw [hs]
  exact NetS.more (h.below hb) (by omega)
theorem double_ok (hs : doubleB n F x = true) (hb : Below w.heap.size w w2) {s : ByteArray} (hm : s = msg F x i)
    (h : NetS w' (fun i => S i ∨ w2.heap.size ≤ i) g bb cb (k + 1) n (upd F x (F x ++ [s])) C) (hk : Keeps (fun i => S i ∨ i = bb) w2 w') :
    DoubleR S g bb cb k n F C x i w (.returned (.bool true)) w' := by
  have := hb.size
  subst hm
  refine ⟨fun i => S i ∨ w2.heap.size ≤ i, by rw [hs], fun i hi => Or.imp id (fun h => by omega) hi, by rw [hs]; exact h, (Keeps.of_below hb).trans hk⟩
end
set_option maxRecDepth 100000 in
set_option maxHeartbeats 3200000 in
theorem double_any (S : Nat → Prop) (g bb cb k : Nat) (n a b i : Int) (F : W2 → List ByteArray) (C : W2 → Bool) (w : World) (h : NetS w S g bb cb k n F C) (hx : okW (a, b)) (hl : (F (a, b)).length ≤ 64) (hk : k ≤ 100000) :
    Calls Try.prog 12 #[.pointer (some ⟨g, 0, none⟩), .int .i64 a, .int .i64 b, .int .i64 i] w (DoubleR S g bb cb k n F C (a, b) i w) := by
  have hwa := below_new w (.cells #[.int .i64 a, .int .i64 b] 56)
  have hW := Blk.new w 56 #[.int .i64 a, .int .i64 b]
  have h1 := h.below hwa
  have Hx := Lib.hid hx
  have H := Lib.hid h
  have Hwa := Lib.hid hwa
  have HW := Lib.hid hW
  have H1 := Lib.hid h1
  clear hwa hW h1
  clear hx h
  cases hs : atOk n F (a, b)
  · have Hno := Lib.hid (show doubleB n F (a, b) = false by simp [doubleB, hs])
    go_enter Try.func12, Try.ntmps12
    go_wp2_with fail
    refine (at_any S g bb cb k n a b i F C _ H1.out Hx.out hl).mono ?_
    rintro e w2 ⟨rfl, hb2⟩
    rw [hs]
    have HB := Lib.hid (below_step Hwa.out hb2)
    go_wp2_with fail
    refine wp_region_mono nobody (by kernel_rfl) ?_
    -- 0 Op.move (Operand.tmp 11)
    refine wpMono_take' 0 (v := ?_) rfl (by kernel_rfl) (by kernel_rfl) (by kernel_rfl) (fun _ _ _ h => h) (by rfl) ?_ ?_
    rotate_left
    · (intro W hSw; have hcW := hSw.cells; try simp only [World.size_drew, World.cell?_drew] at hcW
       go_simp; first | done | rfl)
    try simp only [Act.put, List.setIfInBounds_toArray, List.set_cons_zero, List.set_cons_succ]
    -- 1 Op.unOp UnOp.not 4 (Operand.tmp 22)
    refine wpMono_take' 1 (v := ?_) rfl (by kernel_rfl) (by kernel_rfl) (by kernel_rfl) (fun _ _ _ h => h) (by rfl) ?_ ?_
    rotate_left
    · (intro W hSw; have hcW := hSw.cells; try simp only [World.size_drew, World.cell?_drew] at hcW
       go_simp; first | done | rfl)
    try simp only [Act.put, List.setIfInBounds_toArray, List.set_cons_zero, List.set_cons_succ]
    -- 2 Op.move (Operand.tmp 23)
    refine wpMono_take' 2 (v := ?_) rfl (by kernel_rfl) (by kernel_rfl) (by kernel_rfl) (fun _ _ _ h => h) (by rfl) ?_ ?_
    rotate_left
    · (intro W hSw; have hcW := hSw.cells; try simp only [World.size_drew, World.cell?_drew] at hcW
       go_simp; first | done | rfl)
    try simp only [Act.put, List.setIfInBounds_toArray, List.set_cons_zero, List.set_cons_succ]
    -- 3 Op.move (Operand.tmp 0)
    refine wpMono_skip' 3 rfl (by kernel_rfl) (by kernel_rfl) (by kernel_rfl) (fun _ _ _ h => h) (by rfl) ?_
    try simp only [Act.put, List.setIfInBounds_toArray, List.set_cons_zero, List.set_cons_succ]
    -- 4 Op.nilCheck (Operand.tmp 25)
    refine wpMono_skip' 4 rfl (by kernel_rfl) (by kernel_rfl) (by kernel_rfl) (fun _ _ _ h => h) (by rfl) ?_
    try simp only [Act.put, List.setIfInBounds_toArray, List.set_cons_zero, List.set_cons_succ]
    -- 5 Op.fieldAddr 54 (Operand.tmp 26) 1
    refine wpMono_skip' 5 rfl (by kernel_rfl) (by kernel_rfl) (by kernel_rfl) (fun _ _ _ h => h) (by rfl) ?_
    try simp only [Act.put, List.setIfInBounds_toArray, List.set_cons_zero, List.set_cons_succ]
    -- 6 Op.load 51 (Operand.tmp 27)
    refine wpMono_skip' 6 rfl (by kernel_rfl) (by kernel_rfl) (by kernel_rfl) (fun _ _ _ h => h) (by rfl) ?_
    try simp only [Act.put, List.setIfInBounds_toArray, List.set_cons_zero, List.set_cons_succ]
    -- 7 Op.load 56 (Operand.tmp 9)
    refine wpMono_skip' 7 rfl (by kernel_rfl) (by kernel_rfl) (by kernel_rfl) (fun _ _ _ h => h) (by rfl) ?_
    try simp only [Act.put, List.setIfInBounds_toArray, List.set_cons_zero, List.set_cons_succ]
    -- 8 Op.lookup 51 (Operand.tmp 28) (Operand.tmp 29) false
    refine wpMono_skip' 8 rfl (by kernel_rfl) (by kernel_rfl) (by kernel_rfl) (fun _ _ _ h => h) (by rfl) ?_
    try simp only [Act.put, List.setIfInBounds_toArray, List.set_cons_zero, List.set_cons_succ]
    -- 9 Op.call { callee := Callee.builtin Builtin.len, args := #[Operand.tmp 30], argTypes := #[3
    refine wpMono_skip' 9 rfl (by kernel_rfl) (by kernel_rfl) (by kernel_rfl) (fun _ _ _ h => h) (by rfl) ?_
    try simp only [Act.put, List.setIfInBounds_toArray, List.set_cons_zero, List.set_cons_succ]
    -- 10 Op.binOp BinOp.geq 3 (Operand.tmp 31) (Operand.const (Value.int IntKind.i64 64)) 3
    refine wpMono_skip' 10 rfl (by kernel_rfl) (by kernel_rfl) (by kernel_rfl) (fun _ _ _ h => h) (by rfl) ?_
    try simp only [Act.put, List.setIfInBounds_toArray, List.set_cons_zero, List.set_cons_succ]
    -- 11 Op.pick (Operand.tmp 24) (Operand.const (Value.bool true)) (Operand.tmp 32)
    refine wpMono_take' 11 (v := ?_) rfl (by kernel_rfl) (by kernel_rfl) (by kernel_rfl) (fun _ _ _ h => h) (by rfl) ?_ ?_
    rotate_left
    · (intro W hSw; have hcW := hSw.cells; try simp only [World.size_drew, World.cell?_drew] at hcW
       go_simp; first | done | rfl)
    try simp only [Act.put, List.setIfInBounds_toArray, List.set_cons_zero, List.set_cons_succ]
    refine wpMono_done (by kernel_rfl) ?_ _
    go_wp2
    go_ret
    exact double_no H.out Hno.out (below_drewN HB.out 1)
  · have Hs := Lib.hid hs
    have hne : (F (a, b)).length ≠ 0 := by intro h0; simp [atOk, h0] at hs
    have hil : idx i (F (a, b)).length < (F (a, b)).length := idx_lt i (by omega)
    by_cases hf : (F (a, b)).length < 64
    · have Hyes := Lib.hid (show doubleB n F (a, b) = true by simp [doubleB, hs, hf])
      have d1 : decide ((64 : Int) ≤ ((F (a, b)).length : Nat)) = false := by simp; omega
      go_enter Try.func12, Try.ntmps12
      go_wp2_with fail
      refine (at_any S g bb cb k n a b i F C _ H1.out Hx.out hl).mono ?_
      rintro e w2 ⟨rfl, hb2⟩
      rw [hs, if_pos rfl]
      have HB := Lib.hid (below_step Hwa.out hb2)
      have H3 := Lib.hid (H1.out.below hb2)
      have HW3 := Lib.hid (HW.out.below hb2 HW.out.lt)
      have q1 : w2.cell? ⟨w.heap.size, 0, none⟩ = _ := HW3.out.cell 0
      have q2 : w2.cell? ⟨w.heap.size, 1, none⟩ = _ := HW3.out.cell 1
      have q5 : w2.cell? ⟨g, 1, none⟩ = _ := H3.out.net.cell 1
      have q3 := H3.out.net.lt
      have q4 := HW3.out.lt
      simp at q1 q2 q5
      go_wp2_with fail
      refine wp_region_mono nobody (by kernel_rfl) ?_
      -- 0 Op.move (Operand.tmp 11)
      refine wpMono_take' 0 (v := ?_) rfl (by kernel_rfl) (by kernel_rfl) (by kernel_rfl) (fun _ _ _ h => h) (by rfl) ?_ ?_
      rotate_left
      · (intro W hSw; have hcW := hSw.cells; try simp only [World.size_drew, World.cell?_drew] at hcW
         go_simp; first | done | rfl)
      try simp only [Act.put, List.setIfInBounds_toArray, List.set_cons_zero, List.set_cons_succ]
      -- 1 Op.unOp UnOp.not 4 (Operand.tmp 22)
      refine wpMono_take' 1 (v := ?_) rfl (by kernel_rfl) (by kernel_rfl) (by kernel_rfl) (fun _ _ _ h => h) (by rfl) ?_ ?_
      rotate_left
      · (intro W hSw; have hcW := hSw.cells; try simp only [World.size_drew, World.cell?_drew] at hcW
         go_simp; first | done | rfl)
      try simp only [Act.put, List.setIfInBounds_toArray, List.set_cons_zero, List.set_cons_succ]
      -- 2 Op.move (Operand.tmp 23)
      refine wpMono_take' 2 (v := ?_) rfl (by kernel_rfl) (by kernel_rfl) (by kernel_rfl) (fun _ _ _ h => h) (by rfl) ?_ ?_
      rotate_left
      · (intro W hSw; have hcW := hSw.cells; try simp only [World.size_drew, World.cell?_drew] at hcW
         go_simp; first | done | rfl)
      try simp only [Act.put, List.setIfInBounds_toArray, List.set_cons_zero, List.set_cons_succ]
      -- 3 Op.move (Operand.tmp 0)
      refine wpMono_take' 3 (v := ?_) rfl (by kernel_rfl) (by kernel_rfl) (by kernel_rfl) (fun _ _ _ h => h) (by rfl) ?_ ?_
      rotate_left
      · (intro W hSw; have hcW := hSw.cells; try simp only [World.size_drew, World.cell?_drew] at hcW
         go_simp; first | done | rfl)
      try simp only [Act.put, List.setIfInBounds_toArray, List.set_cons_zero, List.set_cons_succ]
      -- 4 Op.nilCheck (Operand.tmp 25)
      refine wpMono_take' 4 (v := ?_) rfl (by kernel_rfl) (by kernel_rfl) (by kernel_rfl) (fun _ _ _ h => h) (by rfl) ?_ ?_
      rotate_left
      · (intro W hSw; have hcW := hSw.cells; try simp only [World.size_drew, World.cell?_drew] at hcW
         go_simp; first | done | rfl)
      try simp only [Act.put, List.setIfInBounds_toArray, List.set_cons_zero, List.set_cons_succ]
      -- 5 Op.fieldAddr 54 (Operand.tmp 26) 1
      refine wpMono_take' 5 (v := ?_) rfl (by kernel_rfl) (by kernel_rfl) (by kernel_rfl) (fun _ _ _ h => h) (by rfl) ?_ ?_
      rotate_left
      · (intro W hSw; have hcW := hSw.cells; try simp only [World.size_drew, World.cell?_drew] at hcW
         go_simp; first | done | rfl)
      try simp only [Act.put, List.setIfInBounds_toArray, List.set_cons_zero, List.set_cons_succ]
      -- 6 Op.load 51 (Operand.tmp 27)
      refine wpMono_take' 6 (v := ?_) rfl (by kernel_rfl) (by kernel_rfl) (by kernel_rfl) (fun _ _ _ h => h) (by rfl) ?_ ?_
      rotate_left
      · (intro W hSw; have hcW := hSw.cells; try simp only [World.size_drew, World.cell?_drew] at hcW
         go_simp; first | done | rfl)
      try simp only [Act.put, List.setIfInBounds_toArray, List.set_cons_zero, List.set_cons_succ]
      -- 7 Op.load 56 (Operand.tmp 9)
      refine wpMono_take' 7 (v := ?_) rfl (by kernel_rfl) (by kernel_rfl) (by kernel_rfl) (fun _ _ _ h => h) (by rfl) ?_ ?_
      rotate_left
      · (intro W hSw; have hcW := hSw.cells; try simp only [World.size_drew, World.cell?_drew] at hcW
         go_simp; first | done | rfl)
      try simp only [Act.put, List.setIfInBounds_toArray, List.set_cons_zero, List.set_cons_succ]
      -- EFFECT 8 Op.lookup 51 (Operand.tmp 28) (Operand.tmp 29) false
      refine wpMono_one' 8 (by kernel_rfl) rfl (by rfl) (fun K hK => ?_)
      obtain ⟨fA, fc, hlk, _, _⟩ := H3.out.drew.bags.look Hx.out
      have hlk : (Instr.lookup _ (.map (some bb)) (.agg #[.int .i64 a, .int .i64 b]) false).run _ _ = _ := hlk
      go_simp
      refine hK.out _ _ ?_ ?_
      · exact .refl _ _
      clear hK K
      try simp only [Act.put, List.setIfInBounds_toArray, List.set_cons_zero, List.set_cons_succ]
      -- 9 Op.call { callee := Callee.builtin Builtin.len, args := #[Operand.tmp 30], argTypes := #[3
      refine wpMono_take' 9 (v := ?_) rfl (by kernel_rfl) (by kernel_rfl) (by kernel_rfl) (fun _ _ _ h => h) (by rfl) ?_ ?_
      rotate_left
      · (intro W hSw; have hcW := hSw.cells; try simp only [World.size_drew, World.cell?_drew] at hcW
         go_simp; first | done | rfl)
      try simp only [Act.put, List.setIfInBounds_toArray, List.set_cons_zero, List.set_cons_succ]
      -- 10 Op.binOp BinOp.geq 3 (Operand.tmp 31) (Operand.const (Value.int IntKind.i64 64)) 3
      refine wpMono_take' 10 (v := ?_) rfl (by kernel_rfl) (by kernel_rfl) (by kernel_rfl) (fun _ _ _ h => h) (by rfl) ?_ ?_
      rotate_left
      · (intro W hSw; have hcW := hSw.cells; try simp only [World.size_drew, World.cell?_drew] at hcW
         go_simp; first | done | rfl)
      try simp only [Act.put, List.setIfInBounds_toArray, List.set_cons_zero, List.set_cons_succ]
      -- 11 Op.pick (Operand.tmp 24) (Operand.const (Value.bool true)) (Operand.tmp 32)
      refine wpMono_take' 11 (v := ?_) rfl (by kernel_rfl) (by kernel_rfl) (by kernel_rfl) (fun _ _ _ h => h) (by rfl) ?_ ?_
      rotate_left
      · (intro W hSw; have hcW := hSw.cells; try simp only [World.size_drew, World.cell?_drew] at hcW
         go_simp; first | done | rfl)
      try simp only [Act.put, List.setIfInBounds_toArray, List.set_cons_zero, List.set_cons_succ]
      refine wpMono_done (by kernel_rfl) ?_ _
      go_wp2_with fail
      obtain ⟨m, m1, m2, m3, m4, m5⟩ := H3.out.bags
      have hold := bag_of m2 m4 (a, b)
      generalize hv0 : (getM m (a, b)).getD (.slice none 0 0) = v0 at hold
      have hbd := hold
      obtain ⟨h4, ⟨_, h5⟩ | ⟨gb, cap, cur, he, _, h6, _, _, _, h7⟩⟩ := hbd
      · exact absurd h5 hne
      have hgb : v0.ownBlock = some gb := by rw [he]; rfl
      have h8 : w2.cell? ⟨gb, idx i (F (a, b)).length, none⟩ = some (.string (msg F (a, b) i)) := by
        have hb : Blk w2 gb 9 cur := h6
        rw [hb.cell, ← Array.getElem?_toList]
        have h9 : cur.toList[idx i (F (a, b)).length]? = ((F (a, b)).map Value.string)[idx i (F (a, b)).length]? := by
          rw [← h7, List.getElem?_take_of_lt (by omega)]
        rw [h9]
        unfold msg
        rw [List.getElem?_map, List.getElem?_eq_getElem hil, List.getD_eq_getElem?_getD, List.getElem?_eq_getElem hil]
        rfl
      subst he
      clear hgb h4 h6 h7
      have hxg : ¬ (some gb = some g ∨ g = bb) := by
        rintro (he | he)
        · exact own_blk_ne hold H3.out.net (by decide) he
        · exact m1.not_blk H3.out.net he
      have hxw : ¬ (some gb = some w.heap.size ∨ w.heap.size = bb) := by
        rintro (he | he)
        · exact own_blk_ne hold HW3.out (by decide) he
        · exact m1.not_blk HW3.out he
      have hfin : ∀ w' sm, sm = msg F (a, b) i → NetS w' (fun i => S i ∨ w2.heap.size ≤ i) g bb cb (k + 1) n (upd F (a, b) (F (a, b) ++ [sm])) C → Keeps (fun i => S i ∨ i = bb) w2 w' → DoubleR S g bb cb k n F C (a, b) i w (.returned (.bool true)) w' := fun w' sm h1 h2 h3 => double_ok Hyes.out HB.out h1 h2 h3
      have Hfin := Lib.hid hfin
      have M1 := Lib.hid m1
      have M2 := Lib.hid m2
      have M3 := Lib.hid m3
      have M4 := Lib.hid m4
      have Hold := Lib.hid hold
      have Hv0 := Lib.hid hv0
      have Hxg := Lib.hid hxg
      have Hxw := Lib.hid hxw
      have Hq3 := Lib.hid q3
      have Hq4 := Lib.hid q4
      clear hxg hxw hlk hfin m1 m2 m3 m4 hold hv0
      generalize hj : idx i (F (a, b)).length = j at h8 hil
      generalize hs : msg F (a, b) i = s at h8
      have Hj := Lib.hid hj
      have Hm := Lib.hid hs
      clear hj hs
      refine wp_region_mono (fun i => some gb = some i ∨ i = bb) (by kernel_rfl) ?_
      -- 0 Op.move (Operand.tmp 0)
      refine wpMono_take' 0 (v := ?_) rfl (by kernel_rfl) (by kernel_rfl) (by kernel_rfl) (fun _ _ _ h => h) (by rfl) ?_ ?_
      rotate_left
      · (intro W hSw; try (have e1 := (hSw.cell 1 Hq3.out Hxg.out).trans q5; have e2 := (hSw.cell 0 Hq4.out Hxw.out).trans q1; have e3 := (hSw.cell 1 Hq4.out Hxw.out).trans q2)
         go_simp; first | done | rfl)
      try simp only [Act.put, List.setIfInBounds_toArray, List.set_cons_zero, List.set_cons_succ]
      -- 1 Op.nilCheck (Operand.tmp 34)
      refine wpMono_take' 1 (v := ?_) rfl (by kernel_rfl) (by kernel_rfl) (by kernel_rfl) (fun _ _ _ h => h) (by rfl) ?_ ?_
      rotate_left
      · (intro W hSw; try (have e1 := (hSw.cell 1 Hq3.out Hxg.out).trans q5; have e2 := (hSw.cell 0 Hq4.out Hxw.out).trans q1; have e3 := (hSw.cell 1 Hq4.out Hxw.out).trans q2)
         go_simp; first | done | rfl)
      try simp only [Act.put, List.setIfInBounds_toArray, List.set_cons_zero, List.set_cons_succ]
      -- 2 Op.fieldAddr 54 (Operand.tmp 35) 1
      refine wpMono_take' 2 (v := ?_) rfl (by kernel_rfl) (by kernel_rfl) (by kernel_rfl) (fun _ _ _ h => h) (by rfl) ?_ ?_
      rotate_left
      · (intro W hSw; try (have e1 := (hSw.cell 1 Hq3.out Hxg.out).trans q5; have e2 := (hSw.cell 0 Hq4.out Hxw.out).trans q1; have e3 := (hSw.cell 1 Hq4.out Hxw.out).trans q2)
         go_simp; first | done | rfl)
      try simp only [Act.put, List.setIfInBounds_toArray, List.set_cons_zero, List.set_cons_succ]
      -- 3 Op.load 51 (Operand.tmp 36)
      refine wpMono_take' 3 (v := ?_) rfl (by kernel_rfl) (by kernel_rfl) (by kernel_rfl) (fun _ _ _ h => h) (by rfl) ?_ ?_
      rotate_left
      · (intro W hSw; try (have e1 := (hSw.cell 1 Hq3.out Hxg.out).trans q5; have e2 := (hSw.cell 0 Hq4.out Hxw.out).trans q1; have e3 := (hSw.cell 1 Hq4.out Hxw.out).trans q2)
         go_simp; first | done | rfl)
      try simp only [Act.put, List.setIfInBounds_toArray, List.set_cons_zero, List.set_cons_succ]
      -- 4 Op.load 56 (Operand.tmp 9)
      refine wpMono_take' 4 (v := ?_) rfl (by kernel_rfl) (by kernel_rfl) (by kernel_rfl) (fun _ _ _ h => h) (by rfl) ?_ ?_
      rotate_left
      · (intro W hSw; try (have e1 := (hSw.cell 1 Hq3.out Hxg.out).trans q5; have e2 := (hSw.cell 0 Hq4.out Hxw.out).trans q1; have e3 := (hSw.cell 1 Hq4.out Hxw.out).trans q2)
         go_simp; first | done | rfl)
      try simp only [Act.put, List.setIfInBounds_toArray, List.set_cons_zero, List.set_cons_succ]
      -- 5 Op.move (Operand.tmp 0)
      refine wpMono_take' 5 (v := ?_) rfl (by kernel_rfl) (by kernel_rfl) (by kernel_rfl) (fun _ _ _ h => h) (by rfl) ?_ ?_
      rotate_left
      · (intro W hSw; try (have e1 := (hSw.cell 1 Hq3.out Hxg.out).trans q5; have e2 := (hSw.cell 0 Hq4.out Hxw.out).trans q1; have e3 := (hSw.cell 1 Hq4.out Hxw.out).trans q2)
         go_simp; first | done | rfl)
      try simp only [Act.put, List.setIfInBounds_toArray, List.set_cons_zero, List.set_cons_succ]
      -- 6 Op.nilCheck (Operand.tmp 40)
      refine wpMono_take' 6 (v := ?_) rfl (by kernel_rfl) (by kernel_rfl) (by kernel_rfl) (fun _ _ _ h => h) (by rfl) ?_ ?_
      rotate_left
      · (intro W hSw; try (have e1 := (hSw.cell 1 Hq3.out Hxg.out).trans q5; have e2 := (hSw.cell 0 Hq4.out Hxw.out).trans q1; have e3 := (hSw.cell 1 Hq4.out Hxw.out).trans q2)
         go_simp; first | done | rfl)
      try simp only [Act.put, List.setIfInBounds_toArray, List.set_cons_zero, List.set_cons_succ]
      -- 7 Op.fieldAddr 54 (Operand.tmp 41) 1
      refine wpMono_take' 7 (v := ?_) rfl (by kernel_rfl) (by kernel_rfl) (by kernel_rfl) (fun _ _ _ h => h) (by rfl) ?_ ?_
      rotate_left
      · (intro W hSw; try (have e1 := (hSw.cell 1 Hq3.out Hxg.out).trans q5; have e2 := (hSw.cell 0 Hq4.out Hxw.out).trans q1; have e3 := (hSw.cell 1 Hq4.out Hxw.out).trans q2)
         go_simp; first | done | rfl)
      try simp only [Act.put, List.setIfInBounds_toArray, List.set_cons_zero, List.set_cons_succ]
      -- 8 Op.load 51 (Operand.tmp 42)
      refine wpMono_take' 8 (v := ?_) rfl (by kernel_rfl) (by kernel_rfl) (by kernel_rfl) (fun _ _ _ h => h) (by rfl) ?_ ?_
      rotate_left
      · (intro W hSw; try (have e1 := (hSw.cell 1 Hq3.out Hxg.out).trans q5; have e2 := (hSw.cell 0 Hq4.out Hxw.out).trans q1; have e3 := (hSw.cell 1 Hq4.out Hxw.out).trans q2)
         go_simp; first | done | rfl)
      try simp only [Act.put, List.setIfInBounds_toArray, List.set_cons_zero, List.set_cons_succ]
      -- 9 Op.load 56 (Operand.tmp 9)
      refine wpMono_take' 9 (v := ?_) rfl (by kernel_rfl) (by kernel_rfl) (by kernel_rfl) (fun _ _ _ h => h) (by rfl) ?_ ?_
      rotate_left
      · (intro W hSw; try (have e1 := (hSw.cell 1 Hq3.out Hxg.out).trans q5; have e2 := (hSw.cell 0 Hq4.out Hxw.out).trans q1; have e3 := (hSw.cell 1 Hq4.out Hxw.out).trans q2)
         go_simp; first | done | rfl)
      try simp only [Act.put, List.setIfInBounds_toArray, List.set_cons_zero, List.set_cons_succ]
      -- 11 Op.move (Operand.tmp 10)
      refine wpMono_take' 11 (v := ?_) rfl (by kernel_rfl) (by kernel_rfl) (by kernel_rfl) (fun _ _ _ h => h) (by rfl) ?_ ?_
      rotate_left
      · (intro W hSw; try (have e1 := (hSw.cell 1 Hq3.out Hxg.out).trans q5; have e2 := (hSw.cell 0 Hq4.out Hxw.out).trans q1; have e3 := (hSw.cell 1 Hq4.out Hxw.out).trans q2)
         go_simp; first | done | rfl)
      try simp only [Act.put, List.setIfInBounds_toArray, List.set_cons_zero, List.set_cons_succ]
      -- EFFECT 10 Op.lookup 51 (Operand.tmp 43) (Operand.tmp 44) false
      refine wpMono_one' 10 (by kernel_rfl) rfl (by rfl) (fun K hK => ?_)
      have hlk := (M1.out.keeps (X := nobody) (w' := w2.drew.drew) (Keeps.drew.trans .drew) (fun h => h)).look keyed Try.underlying51 (zero_slice w2.drew.drew) Hx.out
      rw [Hv0.out] at hlk
      have Hlk := Lib.hid hlk
      clear hlk
      have hlk : (Instr.lookup _ (.map (some bb)) (.agg #[.int .i64 a, .int .i64 b]) false).run _ _ = _ := Hlk.out
      go_simp
      refine hK.out _ _ ?_ ?_
      · exact .refl _ _
      clear hK K
      try simp only [Act.put, List.setIfInBounds_toArray, List.set_cons_zero, List.set_cons_succ]
      -- 12 Op.indexAddr 37 (Operand.tmp 45) (Operand.tmp 46)
      refine wpMono_take' 12 (v := ?_) rfl (by kernel_rfl) (by kernel_rfl) (by kernel_rfl) (fun _ _ _ h => h) (by rfl) ?_ ?_
      rotate_left
      · (intro W hSw; try (have e1 := (hSw.cell 1 Hq3.out Hxg.out).trans q5; have e2 := (hSw.cell 0 Hq4.out Hxw.out).trans q1; have e3 := (hSw.cell 1 Hq4.out Hxw.out).trans q2)
         go_simp; first | done | rfl)
      try simp only [Act.put, List.setIfInBounds_toArray, List.set_cons_zero, List.set_cons_succ]
      -- EFFECT 13 Op.load 9 (Operand.tmp 47)
      refine wpMono_one' 13 (by kernel_rfl) rfl (by rfl) (fun K hK => ?_)
      go_simp
      refine hK.out _ _ ?_ ?_
      · exact .refl _ _
      clear hK K
      try simp only [Act.put, List.setIfInBounds_toArray, List.set_cons_zero, List.set_cons_succ]
      -- EFFECT 14 Op.buildSlice 37 1 #[(0, Operand.tmp 48)]
      refine wpMono_one' 14 (by kernel_rfl) rfl (by rfl) (fun K hK => ?_)
      go_simp
      refine hK.out _ _ ?_ ?_
      · exact .alloc _
      clear hK K
      try simp only [Act.put, List.setIfInBounds_toArray, List.set_cons_zero, List.set_cons_succ]
      -- EFFECT 15 Op.mapEntry 51 (Operand.tmp 37) (Operand.tmp 38)
      refine wpMono_one' 15 (by kernel_rfl) rfl (by rfl) (fun K hK => ?_)
      obtain ⟨st, w3, he1, he2, he3, he4⟩ := (M1.out.keeps (X := nobody) (w' := (w2.alloc (.cells #[.string s] 9)).drew.drew) (((Keeps.alloc _).trans .drew).trans .drew) (fun h => h)).entry way_law Try.underlying51 (z := .slice none 0 0) zero_slice Hx.out (by omega)
      rw [Hv0.out] at he1
      have He1 := Lib.hid he1
      have He2 := Lib.hid he2
      have He4 := Lib.hid he4
      clear he1 he2 he4
      have he1 : (Instr.mapEntry _ (.map (some bb)) (.agg #[.int .i64 a, .int .i64 b])).run _ _ = _ := He1.out
      go_simp
      refine hK.out _ _ ?_ ?_
      · exact He2.out.more fun i _ hi => .inr hi
      clear hK K
      try simp only [Act.put, List.setIfInBounds_toArray, List.set_cons_zero, List.set_cons_succ]
      -- 16 Op.extract (Operand.tmp 50) 0
      refine wpMono_take' 16 (v := ?_) rfl (by kernel_rfl) (by kernel_rfl) (by kernel_rfl) (fun _ _ _ h => h) (by rfl) ?_ ?_
      rotate_left
      · (intro W hSw; try (have e1 := (hSw.cell 1 Hq3.out Hxg.out).trans q5; have e2 := (hSw.cell 0 Hq4.out Hxw.out).trans q1; have e3 := (hSw.cell 1 Hq4.out Hxw.out).trans q2)
         go_simp; first | done | rfl)
      try simp only [Act.put, List.setIfInBounds_toArray, List.set_cons_zero, List.set_cons_succ]
      -- 18 Op.extract (Operand.tmp 50) 1
      refine wpMono_take' 18 (v := ?_) rfl (by kernel_rfl) (by kernel_rfl) (by kernel_rfl) (fun _ _ _ h => h) (by rfl) ?_ ?_
      rotate_left
      · (intro W hSw; try (have e1 := (hSw.cell 1 Hq3.out Hxg.out).trans q5; have e2 := (hSw.cell 0 Hq4.out Hxw.out).trans q1; have e3 := (hSw.cell 1 Hq4.out Hxw.out).trans q2)
         go_simp; first | done | rfl)
      try simp only [Act.put, List.setIfInBounds_toArray, List.set_cons_zero, List.set_cons_succ]
      -- EFFECT 17 Op.call { callee := Callee.builtin Builtin.append, args := #[Operand.tmp 39, Operand.tmp 49], argTypes := #[37, 37] }
      refine wpMono_one' 17 (by kernel_rfl) rfl (by rfl) (fun K hK => ?_)
      clear he1
      obtain ⟨i0, hi, hz⟩ := Option.map_eq_some_iff.1 str_info
      simp only [Prod.mk.injEq] at hz
      obtain ⟨hz0, hz1, hz2⟩ := hz
      have hlt : bb < w2.heap.size := M1.out.lt
      have hk3 : Keeps (· = bb) w2 w3 := (((Keeps.alloc _).trans .drew).trans .drew).trans He2.out
      have hold3 := Hold.out.keeps hk3 (fun i hi he => Hold.out.ne_map M1.out (by rw [hi, he]))
      have hnew : Blk w3 w2.heap.size 9 #[.string s] := (Blk.new w2 9 #[.string s]).drew.drew.keeps He2.out (by omega)
      have hc0 := hnew.cell 0
      have hr : Reads w3 w3.heap.size 1 (some ⟨w2.heap.size, 0, none⟩) 1 [.string s] := ⟨by simp, fun _ => ⟨_, _, rfl, hnew.lt, fun j hj => by simp at hj; subst hj; simpa using hc0⟩⟩
      refine wp_append_any _ (.tmp 39) (.tmp 49) _ (by rfl) 0 9 i0 _ 1 16 Try.underlying37 hi hz0 hz1 hz2 rfl (by omega) (.slice (some ⟨gb, 0, none⟩) (F (a, b)).length cap) (F (a, b)).length _ (by rfl) hold3 _ _ 1 1 [.string s] (by rfl) hr (by simp [Value.oneCell']) (by unfold maxLen; omega) (by omega) (Nat.zero_le _) fun v' w4 hv' hg4 ho4 => ?_
      refine hK.out _ _ ?_ ?_
      · exact .grown hg4 fun i hi => .inl (.inl hi)
      clear hK K
      try simp only [Act.put, List.setIfInBounds_toArray, List.set_cons_zero, List.set_cons_succ]
      -- EFFECT 19 Op.entryStore 51 (Operand.tmp 37) (Operand.tmp 52) (Operand.tmp 51)
      refine wpMono_one' 19 (by kernel_rfl) rfl (by rfl) (fun K hK => ?_)
      have hne0 : (Value.slice (some ⟨gb, 0, none⟩) (F (a, b)).length cap).ownBlock ≠ some bb := Hold.out.ne_map M1.out
      have hlt3 : w2.heap.size ≤ w3.heap.size := hk3.size
      obtain ⟨w5, hf1, hf2, hf3⟩ := He4.out w4 v' (hg4.block bb (by omega) (Ne.symm hne0))
      have hf1 : (Instr.entryStore _ (.map (some bb)) (.int .i64 st) v').run _ _ = _ := hf1
      go_simp
      refine hK.out _ _ ?_ ?_
      · exact hf3.more fun i _ hi => .inr hi
      clear hK K
      try simp only [Act.put]
      refine wpMono_done (by kernel_rfl) ?_ _
      have hne0 : (Value.slice (some ⟨gb, 0, none⟩) (F (a, b)).length cap).ownBlock ≠ some bb := Hold.out.ne_map M1.out
      have hk5 : Keeps (fun i => (Value.slice (some ⟨gb, 0, none⟩) (F (a, b)).length cap).ownBlock = some i ∨ i = bb) w2 w5 := ((hk3.more fun i _ hi => .inr hi).trans (.grown hg4 fun i hi => .inl (.inl hi))).trans (hf3.more fun i _ hi => .inr hi)
      have hb5 : Bag w5 v' (F (a, b) ++ [s]) := by
        have hb4 : Bag w4 v' (F (a, b) ++ [s]) := by unfold Bag; simpa using hv'
        refine hb4.keeps hf3 fun i hi he => ?_
        subst he
        rcases ho4 with ho4 | ho4
        · rw [ho4] at hi; exact hne0 hi
        · rw [ho4] at hi; injection hi with hi; omega
      obtain ⟨r1, r2⟩ := H3.out.set M1.out M2.out M3.out M4.out m5 Hv0.out hk5 hf2 hb5 (ho4.imp id fun h => ⟨_, h, by omega⟩)
      have hR := Hfin.out w5 s Hm.out.symm r1 r2
      have HR := Lib.hid hR
      clear hR r1 r2 hb5 hk5 hf1 hf2 hf3
      go_wp2
      go_ret
      exact HR.out
    · have Hno := Lib.hid (show doubleB n F (a, b) = false by simp [doubleB, hf])
      have d1 : decide ((64 : Int) ≤ ((F (a, b)).length : Nat)) = true := by simp; omega
      go_enter Try.func12, Try.ntmps12
      go_wp2_with fail
      refine (at_any S g bb cb k n a b i F C _ H1.out Hx.out hl).mono ?_
      rintro e w2 ⟨rfl, hb2⟩
      rw [hs, if_pos rfl]
      have HB := Lib.hid (below_step Hwa.out hb2)
      have H3 := Lib.hid (H1.out.below hb2)
      have HW3 := Lib.hid (HW.out.below hb2 HW.out.lt)
      have q1 : w2.cell? ⟨w.heap.size, 0, none⟩ = _ := HW3.out.cell 0
      have q2 : w2.cell? ⟨w.heap.size, 1, none⟩ = _ := HW3.out.cell 1
      have q5 : w2.cell? ⟨g, 1, none⟩ = _ := H3.out.net.cell 1
      have q3 := H3.out.net.lt
      have q4 := HW3.out.lt
      simp at q1 q2 q5
      go_wp2_with fail
      refine wp_region_mono nobody (by kernel_rfl) ?_
      -- 0 Op.move (Operand.tmp 11)
      refine wpMono_take' 0 (v := ?_) rfl (by kernel_rfl) (by kernel_rfl) (by kernel_rfl) (fun _ _ _ h => h) (by rfl) ?_ ?_
      rotate_left
      · (intro W hSw; have hcW := hSw.cells; try simp only [World.size_drew, World.cell?_drew] at hcW
         go_simp; first | done | rfl)
      try simp only [Act.put, List.setIfInBounds_toArray, List.set_cons_zero, List.set_cons_succ]
      -- 1 Op.unOp UnOp.not 4 (Operand.tmp 22)
      refine wpMono_take' 1 (v := ?_) rfl (by kernel_rfl) (by kernel_rfl) (by kernel_rfl) (fun _ _ _ h => h) (by rfl) ?_ ?_
      rotate_left
      · (intro W hSw; have hcW := hSw.cells; try simp only [World.size_drew, World.cell?_drew] at hcW
         go_simp; first | done | rfl)
      try simp only [Act.put, List.setIfInBounds_toArray, List.set_cons_zero, List.set_cons_succ]
      -- 2 Op.move (Operand.tmp 23)
      refine wpMono_take' 2 (v := ?_) rfl (by kernel_rfl) (by kernel_rfl) (by kernel_rfl) (fun _ _ _ h => h) (by rfl) ?_ ?_
      rotate_left
      · (intro W hSw; have hcW := hSw.cells; try simp only [World.size_drew, World.cell?_drew] at hcW
         go_simp; first | done | rfl)
      try simp only [Act.put, List.setIfInBounds_toArray, List.set_cons_zero, List.set_cons_succ]
      -- 3 Op.move (Operand.tmp 0)
      refine wpMono_take' 3 (v := ?_) rfl (by kernel_rfl) (by kernel_rfl) (by kernel_rfl) (fun _ _ _ h => h) (by rfl) ?_ ?_
      rotate_left
      · (intro W hSw; have hcW := hSw.cells; try simp only [World.size_drew, World.cell?_drew] at hcW
         go_simp; first | done | rfl)
      try simp only [Act.put, List.setIfInBounds_toArray, List.set_cons_zero, List.set_cons_succ]
      -- 4 Op.nilCheck (Operand.tmp 25)
      refine wpMono_take' 4 (v := ?_) rfl (by kernel_rfl) (by kernel_rfl) (by kernel_rfl) (fun _ _ _ h => h) (by rfl) ?_ ?_
      rotate_left
      · (intro W hSw; have hcW := hSw.cells; try simp only [World.size_drew, World.cell?_drew] at hcW
         go_simp; first | done | rfl)
      try simp only [Act.put, List.setIfInBounds_toArray, List.set_cons_zero, List.set_cons_succ]
      -- 5 Op.fieldAddr 54 (Operand.tmp 26) 1
      refine wpMono_take' 5 (v := ?_) rfl (by kernel_rfl) (by kernel_rfl) (by kernel_rfl) (fun _ _ _ h => h) (by rfl) ?_ ?_
      rotate_left
      · (intro W hSw; have hcW := hSw.cells; try simp only [World.size_drew, World.cell?_drew] at hcW
         go_simp; first | done | rfl)
      try simp only [Act.put, List.setIfInBounds_toArray, List.set_cons_zero, List.set_cons_succ]
      -- 6 Op.load 51 (Operand.tmp 27)
      refine wpMono_take' 6 (v := ?_) rfl (by kernel_rfl) (by kernel_rfl) (by kernel_rfl) (fun _ _ _ h => h) (by rfl) ?_ ?_
      rotate_left
      · (intro W hSw; have hcW := hSw.cells; try simp only [World.size_drew, World.cell?_drew] at hcW
         go_simp; first | done | rfl)
      try simp only [Act.put, List.setIfInBounds_toArray, List.set_cons_zero, List.set_cons_succ]
      -- 7 Op.load 56 (Operand.tmp 9)
      refine wpMono_take' 7 (v := ?_) rfl (by kernel_rfl) (by kernel_rfl) (by kernel_rfl) (fun _ _ _ h => h) (by rfl) ?_ ?_
      rotate_left
      · (intro W hSw; have hcW := hSw.cells; try simp only [World.size_drew, World.cell?_drew] at hcW
         go_simp; first | done | rfl)
      try simp only [Act.put, List.setIfInBounds_toArray, List.set_cons_zero, List.set_cons_succ]
      -- EFFECT 8 Op.lookup 51 (Operand.tmp 28) (Operand.tmp 29) false
      refine wpMono_one' 8 (by kernel_rfl) rfl (by rfl) (fun K hK => ?_)
      obtain ⟨fA, fc, hlk, _, _⟩ := H3.out.drew.bags.look Hx.out
      have hlk : (Instr.lookup _ (.map (some bb)) (.agg #[.int .i64 a, .int .i64 b]) false).run _ _ = _ := hlk
      go_simp
      refine hK.out _ _ ?_ ?_
      · exact .refl _ _
      clear hK K
      try simp only [Act.put, List.setIfInBounds_toArray, List.set_cons_zero, List.set_cons_succ]
      -- 9 Op.call { callee := Callee.builtin Builtin.len, args := #[Operand.tmp 30], argTypes := #[3
      refine wpMono_take' 9 (v := ?_) rfl (by kernel_rfl) (by kernel_rfl) (by kernel_rfl) (fun _ _ _ h => h) (by rfl) ?_ ?_
      rotate_left
      · (intro W hSw; have hcW := hSw.cells; try simp only [World.size_drew, World.cell?_drew] at hcW
         go_simp; first | done | rfl)
      try simp only [Act.put, List.setIfInBounds_toArray, List.set_cons_zero, List.set_cons_succ]
      -- 10 Op.binOp BinOp.geq 3 (Operand.tmp 31) (Operand.const (Value.int IntKind.i64 64)) 3
      refine wpMono_take' 10 (v := ?_) rfl (by kernel_rfl) (by kernel_rfl) (by kernel_rfl) (fun _ _ _ h => h) (by rfl) ?_ ?_
      rotate_left
      · (intro W hSw; have hcW := hSw.cells; try simp only [World.size_drew, World.cell?_drew] at hcW
         go_simp; first | done | rfl)
      try simp only [Act.put, List.setIfInBounds_toArray, List.set_cons_zero, List.set_cons_succ]
      -- 11 Op.pick (Operand.tmp 24) (Operand.const (Value.bool true)) (Operand.tmp 32)
      refine wpMono_take' 11 (v := ?_) rfl (by kernel_rfl) (by kernel_rfl) (by kernel_rfl) (fun _ _ _ h => h) (by rfl) ?_ ?_
      rotate_left
      · (intro W hSw; have hcW := hSw.cells; try simp only [World.size_drew, World.cell?_drew] at hcW
         go_simp; first | done | rfl)
      try simp only [Act.put, List.setIfInBounds_toArray, List.set_cons_zero, List.set_cons_succ]
      refine wpMono_done (by kernel_rfl) ?_ _
      go_wp2
      go_ret
      exact double_no H.out Hno.out (below_drewN HB.out 1)
end Go.Proofs.Ytempojdgbgaanaa.double
