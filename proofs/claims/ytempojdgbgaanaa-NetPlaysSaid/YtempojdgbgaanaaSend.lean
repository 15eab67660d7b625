/- The walks of New and Send. -/
import Derived.Test.YtempojdgbgaanaaState
namespace Go.Proofs.Ytempojdgbgaanaa.send
open Go.RowKit Go.Proofs.Ytempojdgbgaanaa.base Go.Proofs.Ytempojdgbgaanaa.map_ Go.Proofs.Ytempojdgbgaanaa.err Go.Proofs.Ytempojdgbgaanaa.net Go.Proofs.Ytempojdgbgaanaa.state Go.Maps

def NewYes (n : Int) (w : World) (e : Ending) (w' : World) : Prop := ∃ g bb cb, e = .returned (.tuple #[.pointer (some ⟨g, 0, none⟩), .nilIface]) ∧ NetS w' nobody g bb cb 0 n (fun _ => []) (fun _ => false) ∧ w.heap.size ≤ g ∧ w.heap.size ≤ bb ∧ w.heap.size ≤ cb ∧ Below w.heap.size w w'
theorem new_yes (n : Int) (w : World) (h1 : 1 ≤ n) (h2 : n ≤ 16) : Calls Try.prog 8 #[.int .i64 n] w (NewYes n w) := by
  have hmm := @run_makeMap Try.prog
  have hN : NetS (((w.alloc (.map #[] 0)).alloc (.map #[] 0)).alloc (.cells #[.int .i64 n, .map (some w.heap.size), .map (some (w.heap.size + 1))] 54)) nobody (w.heap.size + 2) w.heap.size (w.heap.size + 1) 0 n (fun _ => []) (fun _ => false) := by
    refine ⟨Blk.newAt _ _ _ (by simp), ?_, ?_, by omega⟩
    · exact ((Bags.new w 0).below (below_new _ _)).below (below_new _ _)
    · have := (Cuts.new (w.alloc (.map #[] 0)) 0).below (below_new _ (.cells #[.int .i64 n, .map (some w.heap.size), .map (some (w.heap.size + 1))] 54))
      simpa using this
  have hb := below_alloc (below_alloc (below_new w (.map #[] 0)) (.map #[] 0)) (.cells #[.int .i64 n, .map (some w.heap.size), .map (some (w.heap.size + 1))] 54)
  have HN := Lib.hid hN
  have Hb := Lib.hid hb
  clear hN hb
  go_enter Try.func8, Try.ntmps8
  go_wp2
  go_ret2
  exact ⟨_, _, _, rfl, HN.out, by omega, by omega, by omega, Hb.out⟩
def sendB (n : Int) (F : W2 → List ByteArray) (C : W2 → Bool) (x : W2) : Bool := isW n x.1 x.2 && !C x && decide ((F x).length < 64)
def SendR (S : Nat → Prop) (g bb cb k : Nat) (n : Int) (F : W2 → List ByteArray) (C : W2 → Bool) (x : W2) (s : ByteArray) (w : World) (e : Ending) (w' : World) : Prop :=
  ∃ S', e = .returned (.bool (sendB n F C x)) ∧ (∀ i, S' i → S i ∨ w.heap.size ≤ i) ∧ NetS w' S' g bb cb (k + 1) n (if sendB n F C x then upd F x (F x ++ [s]) else F) C ∧ Keeps (fun i => S i ∨ i = bb) w w'
theorem send_no {S : Nat → Prop} {g bb cb k : Nat} {n : Int} {F : W2 → List ByteArray} {C : W2 → Bool} {x : W2} {s : ByteArray} {w w' : World} (h : NetS w S g bb cb k n F C) (hs : sendB n F C x = false) (hb : Below w.heap.size w w') :
    SendR S g bb cb k n F C x s w (.returned (.bool false)) w' := by
  refine ⟨S, by rw [hs], fun i hi => .inl hi, ?_, .of_below hb⟩
  rw [hs]
  exact NetS.more (h.below hb) (by omega)
theorem send_ok {S : Nat → Prop} {g bb cb k : Nat} {n : Int} {F : W2 → List ByteArray} {C : W2 → Bool} {x : W2} {s : ByteArray} {w w2 w' : World} (hs : sendB n F C x = true) (hb : Below w.heap.size w w2)
    (h : NetS w' (fun i => S i ∨ w2.heap.size ≤ i) g bb cb (k + 1) n (upd F x (F x ++ [s])) C) (hk : Keeps (fun i => S i ∨ i = bb) w2 w') :
    SendR S g bb cb k n F C x s w (.returned (.bool true)) w' := by
  have := hb.size
  refine ⟨fun i => S i ∨ w2.heap.size ≤ i, by rw [hs], fun i hi => Or.imp id (fun h => by omega) hi, by rw [hs]; exact h, (Keeps.of_below hb).trans hk⟩
set_option maxRecDepth 100000 in
set_option maxHeartbeats 3200000 in
theorem send_any (S : Nat → Prop) (g bb cb k : Nat) (n a b : Int) (F : W2 → List ByteArray) (C : W2 → Bool) (s : ByteArray) (w : World) (h : NetS w S g bb cb k n F C) (hx : okW (a, b)) (hk : k ≤ 100000) :
    Calls Try.prog 9 #[.pointer (some ⟨g, 0, none⟩), .int .i64 a, .int .i64 b, .string s] w (SendR S g bb cb k n F C (a, b) s w) := by
  have hwa := below_new w (.cells #[.int .i64 a, .int .i64 b] 56)
  have hW := Blk.new w 56 #[.int .i64 a, .int .i64 b]
  have h1 := h.below hwa
  have Hx := Lib.hid hx
  have Hwa := Lib.hid hwa
  have HW := Lib.hid hW
  have H1 := Lib.hid h1
  clear hwa hW h1
  clear hx
  by_cases hi : isW n a b = true
  · cases hC : C (a, b)
    · by_cases hf : (F (a, b)).length < 64
      · have hyes : sendB n F C (a, b) = true := by simp [sendB, hi, hC, hf]
        have d1 : decide ((64 : Int) ≤ ((F (a, b)).length : Nat)) = false := by simp; omega
        have Hno := Lib.hid hyes
        have His := Lib.hid hi
        have HC := Lib.hid hC
        have H := Lib.hid h
        clear hyes hi hC h
        go_enter Try.func9, Try.ntmps9
        go_wp2_with fail
        refine wp_region_mono nobody (by kernel_rfl) ?_
        -- 0 Op.move (Operand.tmp 0)
        refine wpMono_take' 0 (v := ?_) rfl (by kernel_rfl) (by kernel_rfl) (by kernel_rfl) (fun _ _ _ h => h) (by rfl) ?_ ?_
        rotate_left
        · (intro W hSw; have hcW := hSw.cells; try simp only [World.size_drew, World.cell?_drew] at hcW
           go_simp; first | done | rfl)
        try simp only [Act.put, List.setIfInBounds_toArray, List.set_cons_zero, List.set_cons_succ]
        -- 1 Op.load 56 (Operand.tmp 9)
        refine wpMono_take' 1 (v := ?_) rfl (by kernel_rfl) (by kernel_rfl) (by kernel_rfl) (fun _ _ _ h => h) (by rfl) ?_ ?_
        rotate_left
        · (intro W hSw; have hcW := hSw.cells; try simp only [World.size_drew, World.cell?_drew] at hcW
           go_simp; first | done | rfl)
        try simp only [Act.put, List.setIfInBounds_toArray, List.set_cons_zero, List.set_cons_succ]
        -- EFFECT 2 Op.call { callee := Callee.value (Operand.func 27), args := #[Operand.tmp 13, Operand.tmp 14], argTypes := #[24, 56] }
        refine wpMono_one' 2 (by kernel_rfl) rfl (by rfl) (fun K hK => ?_)
        go_simp
        refine (is_any g bb cb n a b _ H1.out.drew.net).mono ?_
        rintro e w2 ⟨rfl, hb2⟩
        rw [His.out]
        have hb2' := below_ofDrew hb2
        have h3 := H1.out.below hb2'
        have hW3 := HW.out.below hb2' HW.out.lt
        have q0 : w2.cell? ⟨g, 2, none⟩ = _ := h3.net.cell 2
        have q1 : w2.cell? ⟨w.heap.size, 0, none⟩ = _ := hW3.cell 0
        have q2 : w2.cell? ⟨w.heap.size, 1, none⟩ = _ := hW3.cell 1
        have q5 : w2.cell? ⟨g, 1, none⟩ = _ := h3.net.cell 1
        have q3 := h3.net.lt
        have q4 := hW3.lt
        simp at q0 q1 q2 q5
        have H3 := Lib.hid h3
        have HW3 := Lib.hid hW3
        have HB := Lib.hid (below_step Hwa.out hb2')
        clear h3 hb2' hW3
        refine hK.out _ _ ?_ ?_
        · exact .of_below hb2
        clear hK K
        try simp only [Act.put, List.setIfInBounds_toArray, List.set_cons_zero, List.set_cons_succ]
        -- 3 Op.unOp UnOp.not 4 (Operand.tmp 15)
        refine wpMono_take' 3 (v := ?_) rfl (by kernel_rfl) (by kernel_rfl) (by kernel_rfl) (fun _ _ _ h => h) (by rfl) ?_ ?_
        rotate_left
        · (intro W hSw; have hcW := hSw.cells; try simp only [World.size_drew, World.cell?_drew] at hcW
           go_simp; first | done | rfl)
        try simp only [Act.put, List.setIfInBounds_toArray, List.set_cons_zero, List.set_cons_succ]
        -- 4 Op.move (Operand.tmp 16)
        refine wpMono_take' 4 (v := ?_) rfl (by kernel_rfl) (by kernel_rfl) (by kernel_rfl) (fun _ _ _ h => h) (by rfl) ?_ ?_
        rotate_left
        · (intro W hSw; have hcW := hSw.cells; try simp only [World.size_drew, World.cell?_drew] at hcW
           go_simp; first | done | rfl)
        try simp only [Act.put, List.setIfInBounds_toArray, List.set_cons_zero, List.set_cons_succ]
        -- 5 Op.move (Operand.tmp 0)
        refine wpMono_take' 5 (v := ?_) rfl (by kernel_rfl) (by kernel_rfl) (by kernel_rfl) (fun _ _ _ h => h) (by rfl) ?_ ?_
        rotate_left
        · (intro W hSw; have hcW := hSw.cells; try simp only [World.size_drew, World.cell?_drew] at hcW
           go_simp; first | done | rfl)
        try simp only [Act.put, List.setIfInBounds_toArray, List.set_cons_zero, List.set_cons_succ]
        -- 6 Op.nilCheck (Operand.tmp 18)
        refine wpMono_take' 6 (v := ?_) rfl (by kernel_rfl) (by kernel_rfl) (by kernel_rfl) (fun _ _ _ h => h) (by rfl) ?_ ?_
        rotate_left
        · (intro W hSw; have hcW := hSw.cells; try simp only [World.size_drew, World.cell?_drew] at hcW
           go_simp; first | done | rfl)
        try simp only [Act.put, List.setIfInBounds_toArray, List.set_cons_zero, List.set_cons_succ]
        -- 7 Op.fieldAddr 54 (Operand.tmp 19) 2
        refine wpMono_take' 7 (v := ?_) rfl (by kernel_rfl) (by kernel_rfl) (by kernel_rfl) (fun _ _ _ h => h) (by rfl) ?_ ?_
        rotate_left
        · (intro W hSw; have hcW := hSw.cells; try simp only [World.size_drew, World.cell?_drew] at hcW
           go_simp; first | done | rfl)
        try simp only [Act.put, List.setIfInBounds_toArray, List.set_cons_zero, List.set_cons_succ]
        -- 8 Op.load 52 (Operand.tmp 20)
        refine wpMono_take' 8 (v := ?_) rfl (by kernel_rfl) (by kernel_rfl) (by kernel_rfl) (fun _ _ _ h => h) (by rfl) ?_ ?_
        rotate_left
        · (intro W hSw; have hcW := hSw.cells; try simp only [World.size_drew, World.cell?_drew] at hcW
           go_simp; first | done | rfl)
        try simp only [Act.put, List.setIfInBounds_toArray, List.set_cons_zero, List.set_cons_succ]
        -- 9 Op.load 56 (Operand.tmp 9)
        refine wpMono_take' 9 (v := ?_) rfl (by kernel_rfl) (by kernel_rfl) (by kernel_rfl) (fun _ _ _ h => h) (by rfl) ?_ ?_
        rotate_left
        · (intro W hSw; have hcW := hSw.cells; try simp only [World.size_drew, World.cell?_drew] at hcW
           go_simp; first | done | rfl)
        try simp only [Act.put, List.setIfInBounds_toArray, List.set_cons_zero, List.set_cons_succ]
        -- EFFECT 10 Op.lookup 52 (Operand.tmp 21) (Operand.tmp 22) false
        refine wpMono_one' 10 (by kernel_rfl) rfl (by rfl) (fun K hK => ?_)
        have hlk := H3.out.cuts.look Hx.out
        rw [HC.out] at hlk
        unfold way at hlk
        go_simp
        refine hK.out _ _ ?_ ?_
        · exact .refl _ _
        clear hK K
        try simp only [Act.put, List.setIfInBounds_toArray, List.set_cons_zero, List.set_cons_succ]
        -- 11 Op.pick (Operand.tmp 17) (Operand.const (Value.bool true)) (Operand.tmp 23)
        refine wpMono_take' 11 (v := ?_) rfl (by kernel_rfl) (by kernel_rfl) (by kernel_rfl) (fun _ _ _ h => h) (by rfl) ?_ ?_
        rotate_left
        · (intro W hSw; have hcW := hSw.cells; try simp only [World.size_drew, World.cell?_drew] at hcW
           go_simp; first | done | rfl)
        try simp only [Act.put, List.setIfInBounds_toArray, List.set_cons_zero, List.set_cons_succ]
        -- 12 Op.move (Operand.tmp 24)
        refine wpMono_take' 12 (v := ?_) rfl (by kernel_rfl) (by kernel_rfl) (by kernel_rfl) (fun _ _ _ h => h) (by rfl) ?_ ?_
        rotate_left
        · (intro W hSw; have hcW := hSw.cells; try simp only [World.size_drew, World.cell?_drew] at hcW
           go_simp; first | done | rfl)
        try simp only [Act.put, List.setIfInBounds_toArray, List.set_cons_zero, List.set_cons_succ]
        -- 13 Op.move (Operand.tmp 0)
        refine wpMono_take' 13 (v := ?_) rfl (by kernel_rfl) (by kernel_rfl) (by kernel_rfl) (fun _ _ _ h => h) (by rfl) ?_ ?_
        rotate_left
        · (intro W hSw; have hcW := hSw.cells; try simp only [World.size_drew, World.cell?_drew] at hcW
           go_simp; first | done | rfl)
        try simp only [Act.put, List.setIfInBounds_toArray, List.set_cons_zero, List.set_cons_succ]
        -- 14 Op.nilCheck (Operand.tmp 26)
        refine wpMono_take' 14 (v := ?_) rfl (by kernel_rfl) (by kernel_rfl) (by kernel_rfl) (fun _ _ _ h => h) (by rfl) ?_ ?_
        rotate_left
        · (intro W hSw; have hcW := hSw.cells; try simp only [World.size_drew, World.cell?_drew] at hcW
           go_simp; first | done | rfl)
        try simp only [Act.put, List.setIfInBounds_toArray, List.set_cons_zero, List.set_cons_succ]
        -- 15 Op.fieldAddr 54 (Operand.tmp 27) 1
        refine wpMono_take' 15 (v := ?_) rfl (by kernel_rfl) (by kernel_rfl) (by kernel_rfl) (fun _ _ _ h => h) (by rfl) ?_ ?_
        rotate_left
        · (intro W hSw; have hcW := hSw.cells; try simp only [World.size_drew, World.cell?_drew] at hcW
           go_simp; first | done | rfl)
        try simp only [Act.put, List.setIfInBounds_toArray, List.set_cons_zero, List.set_cons_succ]
        -- 16 Op.load 51 (Operand.tmp 28)
        refine wpMono_take' 16 (v := ?_) rfl (by kernel_rfl) (by kernel_rfl) (by kernel_rfl) (fun _ _ _ h => h) (by rfl) ?_ ?_
        rotate_left
        · (intro W hSw; have hcW := hSw.cells; try simp only [World.size_drew, World.cell?_drew] at hcW
           go_simp; first | done | rfl)
        try simp only [Act.put, List.setIfInBounds_toArray, List.set_cons_zero, List.set_cons_succ]
        -- 17 Op.load 56 (Operand.tmp 9)
        refine wpMono_take' 17 (v := ?_) rfl (by kernel_rfl) (by kernel_rfl) (by kernel_rfl) (fun _ _ _ h => h) (by rfl) ?_ ?_
        rotate_left
        · (intro W hSw; have hcW := hSw.cells; try simp only [World.size_drew, World.cell?_drew] at hcW
           go_simp; first | done | rfl)
        try simp only [Act.put, List.setIfInBounds_toArray, List.set_cons_zero, List.set_cons_succ]
        -- EFFECT 18 Op.lookup 51 (Operand.tmp 29) (Operand.tmp 30) false
        refine wpMono_one' 18 (by kernel_rfl) rfl (by rfl) (fun K hK => ?_)
        obtain ⟨fA, fc, hlk2, hbag, hS⟩ := H3.out.bags.look Hx.out
        have Hbag := Lib.hid hbag
        have HS := Lib.hid hS
        clear hbag hS
        unfold way at hlk2
        go_simp
        refine hK.out _ _ ?_ ?_
        · exact .refl _ _
        clear hK K
        try simp only [Act.put, List.setIfInBounds_toArray, List.set_cons_zero, List.set_cons_succ]
        -- 19 Op.call { callee := Callee.builtin Builtin.len, args := #[Operand.tmp 31], argTypes := #[3
        refine wpMono_take' 19 (v := ?_) rfl (by kernel_rfl) (by kernel_rfl) (by kernel_rfl) (fun _ _ _ h => h) (by rfl) ?_ ?_
        rotate_left
        · (intro W hSw; have hcW := hSw.cells; try simp only [World.size_drew, World.cell?_drew] at hcW
           go_simp; first | done | rfl)
        try simp only [Act.put, List.setIfInBounds_toArray, List.set_cons_zero, List.set_cons_succ]
        -- 20 Op.binOp BinOp.geq 3 (Operand.tmp 32) (Operand.const (Value.int IntKind.i64 64)) 3
        refine wpMono_take' 20 (v := ?_) rfl (by kernel_rfl) (by kernel_rfl) (by kernel_rfl) (fun _ _ _ h => h) (by rfl) ?_ ?_
        rotate_left
        · (intro W hSw; have hcW := hSw.cells; try simp only [World.size_drew, World.cell?_drew] at hcW
           go_simp; first | done | rfl)
        try simp only [Act.put, List.setIfInBounds_toArray, List.set_cons_zero, List.set_cons_succ]
        -- 21 Op.pick (Operand.tmp 25) (Operand.const (Value.bool true)) (Operand.tmp 33)
        refine wpMono_take' 21 (v := ?_) rfl (by kernel_rfl) (by kernel_rfl) (by kernel_rfl) (fun _ _ _ h => h) (by rfl) ?_ ?_
        rotate_left
        · (intro W hSw; have hcW := hSw.cells; try simp only [World.size_drew, World.cell?_drew] at hcW
           go_simp; first | done | rfl)
        try simp only [Act.put, List.setIfInBounds_toArray, List.set_cons_zero, List.set_cons_succ]
        refine wpMono_done (by kernel_rfl) ?_ _
        go_wp2_with fail
        obtain ⟨m, m1, m2, m3, m4, m5⟩ := H3.out.bags
        have hold := bag_of m2 m4 (a, b)
        have hown := fun i => own_of (m := m) (x := (a, b)) (i := i)
        generalize hv0 : (getM m (a, b)).getD (.slice none 0 0) = v0 at hold hown
        have M1 := Lib.hid m1
        have M2 := Lib.hid m2
        have M3 := Lib.hid m3
        have M4 := Lib.hid m4
        have Hold := Lib.hid hold
        have Hown := Lib.hid hown
        have Hv0 := Lib.hid hv0
        clear m1 m2 m3 m4 hold hown hv0
        have hxg : ¬ (v0.ownBlock = some g ∨ g = bb) := by
          rintro (he | he)
          · exact own_blk_ne Hold.out H3.out.net (by decide) he
          · exact M1.out.not_blk H3.out.net he
        have hxw : ¬ (v0.ownBlock = some w.heap.size ∨ w.heap.size = bb) := by
          rintro (he | he)
          · exact own_blk_ne Hold.out HW3.out (by decide) he
          · exact M1.out.not_blk HW3.out he
        have Hxg := Lib.hid hxg
        have Hxw := Lib.hid hxw
        have Hq3 := Lib.hid q3
        have Hq4 := Lib.hid q4
        clear hxg hxw
        refine wp_region_mono (fun i => v0.ownBlock = some i ∨ i = bb) (by kernel_rfl) ?_
        -- 0 Op.move (Operand.tmp 0)
        refine wpMono_take' 0 (v := ?_) rfl (by kernel_rfl) (by kernel_rfl) (by kernel_rfl) (fun _ _ _ h => h) (by rfl) ?_ ?_
        rotate_left
        · (intro W hSw; try (have e1 := (hSw.cell 1 Hq3.out Hxg.out).trans q5; have e2 := (hSw.cell 0 Hq4.out Hxw.out).trans q1; have e3 := (hSw.cell 1 Hq4.out Hxw.out).trans q2)
           go_simp; first | done | rfl)
        try simp only [Act.put, List.setIfInBounds_toArray, List.set_cons_zero, List.set_cons_succ]
        -- 1 Op.nilCheck (Operand.tmp 35)
        refine wpMono_take' 1 (v := ?_) rfl (by kernel_rfl) (by kernel_rfl) (by kernel_rfl) (fun _ _ _ h => h) (by rfl) ?_ ?_
        rotate_left
        · (intro W hSw; try (have e1 := (hSw.cell 1 Hq3.out Hxg.out).trans q5; have e2 := (hSw.cell 0 Hq4.out Hxw.out).trans q1; have e3 := (hSw.cell 1 Hq4.out Hxw.out).trans q2)
           go_simp; first | done | rfl)
        try simp only [Act.put, List.setIfInBounds_toArray, List.set_cons_zero, List.set_cons_succ]
        -- 2 Op.fieldAddr 54 (Operand.tmp 36) 1
        refine wpMono_take' 2 (v := ?_) rfl (by kernel_rfl) (by kernel_rfl) (by kernel_rfl) (fun _ _ _ h => h) (by rfl) ?_ ?_
        rotate_left
        · (intro W hSw; try (have e1 := (hSw.cell 1 Hq3.out Hxg.out).trans q5; have e2 := (hSw.cell 0 Hq4.out Hxw.out).trans q1; have e3 := (hSw.cell 1 Hq4.out Hxw.out).trans q2)
           go_simp; first | done | rfl)
        try simp only [Act.put, List.setIfInBounds_toArray, List.set_cons_zero, List.set_cons_succ]
        -- 3 Op.load 51 (Operand.tmp 37)
        refine wpMono_take' 3 (v := ?_) rfl (by kernel_rfl) (by kernel_rfl) (by kernel_rfl) (fun _ _ _ h => h) (by rfl) ?_ ?_
        rotate_left
        · (intro W hSw; try (have e1 := (hSw.cell 1 Hq3.out Hxg.out).trans q5; have e2 := (hSw.cell 0 Hq4.out Hxw.out).trans q1; have e3 := (hSw.cell 1 Hq4.out Hxw.out).trans q2)
           go_simp; first | done | rfl)
        try simp only [Act.put, List.setIfInBounds_toArray, List.set_cons_zero, List.set_cons_succ]
        -- 4 Op.load 56 (Operand.tmp 9)
        refine wpMono_take' 4 (v := ?_) rfl (by kernel_rfl) (by kernel_rfl) (by kernel_rfl) (fun _ _ _ h => h) (by rfl) ?_ ?_
        rotate_left
        · (intro W hSw; try (have e1 := (hSw.cell 1 Hq3.out Hxg.out).trans q5; have e2 := (hSw.cell 0 Hq4.out Hxw.out).trans q1; have e3 := (hSw.cell 1 Hq4.out Hxw.out).trans q2)
           go_simp; first | done | rfl)
        try simp only [Act.put, List.setIfInBounds_toArray, List.set_cons_zero, List.set_cons_succ]
        -- 5 Op.move (Operand.tmp 3)
        refine wpMono_take' 5 (v := ?_) rfl (by kernel_rfl) (by kernel_rfl) (by kernel_rfl) (fun _ _ _ h => h) (by rfl) ?_ ?_
        rotate_left
        · (intro W hSw; try (have e1 := (hSw.cell 1 Hq3.out Hxg.out).trans q5; have e2 := (hSw.cell 0 Hq4.out Hxw.out).trans q1; have e3 := (hSw.cell 1 Hq4.out Hxw.out).trans q2)
           go_simp; first | done | rfl)
        try simp only [Act.put, List.setIfInBounds_toArray, List.set_cons_zero, List.set_cons_succ]
        -- EFFECT 6 Op.buildSlice 37 1 #[(0, Operand.tmp 41)]
        refine wpMono_one' 6 (by kernel_rfl) rfl (by rfl) (fun K hK => ?_)
        go_simp
        refine hK.out _ _ ?_ ?_
        · exact .alloc _
        clear hK K
        try simp only [Act.put, List.setIfInBounds_toArray, List.set_cons_zero, List.set_cons_succ]
        -- EFFECT 7 Op.mapEntry 51 (Operand.tmp 38) (Operand.tmp 39)
        refine wpMono_one' 7 (by kernel_rfl) rfl (by rfl) (fun K hK => ?_)
        obtain ⟨st, w3, he1, he2, he3, he4⟩ := (M1.out.keeps (X := nobody) (w' := (w2.alloc (.cells #[.string s] 9)).drew) ((Keeps.alloc _).trans .drew) (fun h => h)).entry way_law Try.underlying51 (z := .slice none 0 0) zero_slice Hx.out (by omega)
        rw [Hv0.out] at he1
        have He1 := Lib.hid he1
        have He2 := Lib.hid he2
        have He4 := Lib.hid he4
        clear he1 he2 he4
        have he1 : (Instr.mapEntry _ (.map (some bb)) (.agg #[.int .i64 a, .int .i64 b])).run _ _ = _ := He1.out
        go_simp
        refine hK.out _ _ ?_ ?_
        · exact He2.out.more fun i _ hi => .inr hi
        clear hK K
        try simp only [Act.put, List.setIfInBounds_toArray, List.set_cons_zero, List.set_cons_succ]
        -- 8 Op.extract (Operand.tmp 43) 0
        refine wpMono_take' 8 (v := ?_) rfl (by kernel_rfl) (by kernel_rfl) (by kernel_rfl) (fun _ _ _ h => h) (by rfl) ?_ ?_
        rotate_left
        · (intro W hSw; try (have e1 := (hSw.cell 1 Hq3.out Hxg.out).trans q5; have e2 := (hSw.cell 0 Hq4.out Hxw.out).trans q1; have e3 := (hSw.cell 1 Hq4.out Hxw.out).trans q2)
           go_simp; first | done | rfl)
        try simp only [Act.put, List.setIfInBounds_toArray, List.set_cons_zero, List.set_cons_succ]
        -- 10 Op.extract (Operand.tmp 43) 1
        refine wpMono_take' 10 (v := ?_) rfl (by kernel_rfl) (by kernel_rfl) (by kernel_rfl) (fun _ _ _ h => h) (by rfl) ?_ ?_
        rotate_left
        · (intro W hSw; try (have e1 := (hSw.cell 1 Hq3.out Hxg.out).trans q5; have e2 := (hSw.cell 0 Hq4.out Hxw.out).trans q1; have e3 := (hSw.cell 1 Hq4.out Hxw.out).trans q2)
           go_simp; first | done | rfl)
        try simp only [Act.put, List.setIfInBounds_toArray, List.set_cons_zero, List.set_cons_succ]
        -- EFFECT 9 Op.call { callee := Callee.builtin Builtin.append, args := #[Operand.tmp 40, Operand.tmp 42], argTypes := #[37, 37] }
        refine wpMono_one' 9 (by kernel_rfl) rfl (by rfl) (fun K hK => ?_)
        clear he1
        obtain ⟨i0, hi, hz⟩ := Option.map_eq_some_iff.1 str_info
        simp only [Prod.mk.injEq] at hz
        obtain ⟨hz0, hz1, hz2⟩ := hz
        have hlt : bb < w2.heap.size := M1.out.lt
        have hk3 : Keeps (· = bb) w2 w3 := ((Keeps.alloc _).trans .drew).trans He2.out
        have hold3 := Hold.out.keeps hk3 (fun i hi he => Hold.out.ne_map M1.out (by rw [hi, he]))
        have hnew : Blk w3 w2.heap.size 9 #[.string s] := (Blk.new w2 9 #[.string s]).drew.keeps He2.out (by omega)
        have hc0 := hnew.cell 0
        have hr : Reads w3 w3.heap.size 1 (some ⟨w2.heap.size, 0, none⟩) 1 [.string s] := ⟨by simp, fun _ => ⟨_, _, rfl, hnew.lt, fun j hj => by simp at hj; subst hj; simpa using hc0⟩⟩
        refine wp_append_any _ (.tmp 40) (.tmp 42) _ (by rfl) 0 9 i0 _ 1 16 Try.underlying37 hi hz0 hz1 hz2 rfl (by omega) v0 (F (a, b)).length _ (by rfl) hold3 _ _ 1 1 [.string s] (by rfl) hr (by simp [Value.oneCell']) (by unfold maxLen; omega) (by omega) (Nat.zero_le _) fun v' w4 hv' hg4 ho4 => ?_
        refine hK.out _ _ ?_ ?_
        · exact .grown hg4 fun i hi => .inl (.inl hi)
        clear hK K
        try simp only [Act.put, List.setIfInBounds_toArray, List.set_cons_zero, List.set_cons_succ]
        -- EFFECT 11 Op.entryStore 51 (Operand.tmp 38) (Operand.tmp 45) (Operand.tmp 44)
        refine wpMono_one' 11 (by kernel_rfl) rfl (by rfl) (fun K hK => ?_)
        have hne0 : v0.ownBlock ≠ some bb := Hold.out.ne_map M1.out
        have hlt3 : w2.heap.size ≤ w3.heap.size := hk3.size
        obtain ⟨w5, hf1, hf2, hf3⟩ := He4.out w4 v' (hg4.block bb (by omega) (Ne.symm hne0))
        have hf1 : (Instr.entryStore _ (.map (some bb)) (.int .i64 st) v').run _ _ = _ := hf1
        go_simp
        refine hK.out _ _ ?_ ?_
        · exact hf3.more fun i _ hi => .inr hi
        clear hK K
        try simp only [Act.put]
        refine wpMono_done (by kernel_rfl) ?_ _
        have hne0 : v0.ownBlock ≠ some bb := Hold.out.ne_map M1.out
        have hk5 : Keeps (fun i => v0.ownBlock = some i ∨ i = bb) w2 w5 := ((hk3.more fun i _ hi => .inr hi).trans (.grown hg4 fun i hi => .inl (.inl hi))).trans (hf3.more fun i _ hi => .inr hi)
        have hb5 : Bag w5 v' (F (a, b) ++ [s]) := by
          have hb4 : Bag w4 v' (F (a, b) ++ [s]) := by unfold Bag; simpa using hv'
          refine hb4.keeps hf3 fun i hi he => ?_
          subst he
          rcases ho4 with ho4 | ho4
          · rw [ho4] at hi; exact hne0 hi
          · rw [ho4] at hi; injection hi with hi; omega
        obtain ⟨r1, r2⟩ := H3.out.set M1.out M2.out M3.out M4.out m5 Hv0.out hk5 hf2 hb5 (ho4.imp id fun h => ⟨_, h, by omega⟩)
        have hR := send_ok Hno.out HB.out r1 r2
        have HR := Lib.hid hR
        clear hR r1 r2 hb5 hk5 hf1 hf2 hf3
        go_wp2
        go_ret
        exact HR.out
      · have hno : sendB n F C (a, b) = false := by simp [sendB, hf]
        have d1 : decide ((64 : Int) ≤ ((F (a, b)).length : Nat)) = true := by simp; omega
        have Hno := Lib.hid hno
        have His := Lib.hid hi
        have HC := Lib.hid hC
        have H := Lib.hid h
        clear hno hi hC h
        go_enter Try.func9, Try.ntmps9
        go_wp2_with fail
        refine wp_region_mono nobody (by kernel_rfl) ?_
        -- 0 Op.move (Operand.tmp 0)
        refine wpMono_take' 0 (v := ?_) rfl (by kernel_rfl) (by kernel_rfl) (by kernel_rfl) (fun _ _ _ h => h) (by rfl) ?_ ?_
        rotate_left
        · (intro W hSw; have hcW := hSw.cells; try simp only [World.size_drew, World.cell?_drew] at hcW
           go_simp; first | done | rfl)
        try simp only [Act.put, List.setIfInBounds_toArray, List.set_cons_zero, List.set_cons_succ]
        -- 1 Op.load 56 (Operand.tmp 9)
        refine wpMono_take' 1 (v := ?_) rfl (by kernel_rfl) (by kernel_rfl) (by kernel_rfl) (fun _ _ _ h => h) (by rfl) ?_ ?_
        rotate_left
        · (intro W hSw; have hcW := hSw.cells; try simp only [World.size_drew, World.cell?_drew] at hcW
           go_simp; first | done | rfl)
        try simp only [Act.put, List.setIfInBounds_toArray, List.set_cons_zero, List.set_cons_succ]
        -- EFFECT 2 Op.call { callee := Callee.value (Operand.func 27), args := #[Operand.tmp 13, Operand.tmp 14], argTypes := #[24, 56] }
        refine wpMono_one' 2 (by kernel_rfl) rfl (by rfl) (fun K hK => ?_)
        go_simp
        refine (is_any g bb cb n a b _ H1.out.drew.net).mono ?_
        rintro e w2 ⟨rfl, hb2⟩
        rw [His.out]
        have hb2' := below_ofDrew hb2
        have h3 := H1.out.below hb2'
        have hW3 := HW.out.below hb2' HW.out.lt
        have q0 : w2.cell? ⟨g, 2, none⟩ = _ := h3.net.cell 2
        have q1 : w2.cell? ⟨w.heap.size, 0, none⟩ = _ := hW3.cell 0
        have q2 : w2.cell? ⟨w.heap.size, 1, none⟩ = _ := hW3.cell 1
        have q5 : w2.cell? ⟨g, 1, none⟩ = _ := h3.net.cell 1
        have q3 := h3.net.lt
        have q4 := hW3.lt
        simp at q0 q1 q2 q5
        have H3 := Lib.hid h3
        have HW3 := Lib.hid hW3
        have HB := Lib.hid (below_step Hwa.out hb2')
        clear h3 hb2' hW3
        refine hK.out _ _ ?_ ?_
        · exact .of_below hb2
        clear hK K
        try simp only [Act.put, List.setIfInBounds_toArray, List.set_cons_zero, List.set_cons_succ]
        -- 3 Op.unOp UnOp.not 4 (Operand.tmp 15)
        refine wpMono_take' 3 (v := ?_) rfl (by kernel_rfl) (by kernel_rfl) (by kernel_rfl) (fun _ _ _ h => h) (by rfl) ?_ ?_
        rotate_left
        · (intro W hSw; have hcW := hSw.cells; try simp only [World.size_drew, World.cell?_drew] at hcW
           go_simp; first | done | rfl)
        try simp only [Act.put, List.setIfInBounds_toArray, List.set_cons_zero, List.set_cons_succ]
        -- 4 Op.move (Operand.tmp 16)
        refine wpMono_take' 4 (v := ?_) rfl (by kernel_rfl) (by kernel_rfl) (by kernel_rfl) (fun _ _ _ h => h) (by rfl) ?_ ?_
        rotate_left
        · (intro W hSw; have hcW := hSw.cells; try simp only [World.size_drew, World.cell?_drew] at hcW
           go_simp; first | done | rfl)
        try simp only [Act.put, List.setIfInBounds_toArray, List.set_cons_zero, List.set_cons_succ]
        -- 5 Op.move (Operand.tmp 0)
        refine wpMono_take' 5 (v := ?_) rfl (by kernel_rfl) (by kernel_rfl) (by kernel_rfl) (fun _ _ _ h => h) (by rfl) ?_ ?_
        rotate_left
        · (intro W hSw; have hcW := hSw.cells; try simp only [World.size_drew, World.cell?_drew] at hcW
           go_simp; first | done | rfl)
        try simp only [Act.put, List.setIfInBounds_toArray, List.set_cons_zero, List.set_cons_succ]
        -- 6 Op.nilCheck (Operand.tmp 18)
        refine wpMono_take' 6 (v := ?_) rfl (by kernel_rfl) (by kernel_rfl) (by kernel_rfl) (fun _ _ _ h => h) (by rfl) ?_ ?_
        rotate_left
        · (intro W hSw; have hcW := hSw.cells; try simp only [World.size_drew, World.cell?_drew] at hcW
           go_simp; first | done | rfl)
        try simp only [Act.put, List.setIfInBounds_toArray, List.set_cons_zero, List.set_cons_succ]
        -- 7 Op.fieldAddr 54 (Operand.tmp 19) 2
        refine wpMono_take' 7 (v := ?_) rfl (by kernel_rfl) (by kernel_rfl) (by kernel_rfl) (fun _ _ _ h => h) (by rfl) ?_ ?_
        rotate_left
        · (intro W hSw; have hcW := hSw.cells; try simp only [World.size_drew, World.cell?_drew] at hcW
           go_simp; first | done | rfl)
        try simp only [Act.put, List.setIfInBounds_toArray, List.set_cons_zero, List.set_cons_succ]
        -- 8 Op.load 52 (Operand.tmp 20)
        refine wpMono_take' 8 (v := ?_) rfl (by kernel_rfl) (by kernel_rfl) (by kernel_rfl) (fun _ _ _ h => h) (by rfl) ?_ ?_
        rotate_left
        · (intro W hSw; have hcW := hSw.cells; try simp only [World.size_drew, World.cell?_drew] at hcW
           go_simp; first | done | rfl)
        try simp only [Act.put, List.setIfInBounds_toArray, List.set_cons_zero, List.set_cons_succ]
        -- 9 Op.load 56 (Operand.tmp 9)
        refine wpMono_take' 9 (v := ?_) rfl (by kernel_rfl) (by kernel_rfl) (by kernel_rfl) (fun _ _ _ h => h) (by rfl) ?_ ?_
        rotate_left
        · (intro W hSw; have hcW := hSw.cells; try simp only [World.size_drew, World.cell?_drew] at hcW
           go_simp; first | done | rfl)
        try simp only [Act.put, List.setIfInBounds_toArray, List.set_cons_zero, List.set_cons_succ]
        -- EFFECT 10 Op.lookup 52 (Operand.tmp 21) (Operand.tmp 22) false
        refine wpMono_one' 10 (by kernel_rfl) rfl (by rfl) (fun K hK => ?_)
        have hlk := H3.out.cuts.look Hx.out
        rw [HC.out] at hlk
        unfold way at hlk
        go_simp
        refine hK.out _ _ ?_ ?_
        · exact .refl _ _
        clear hK K
        try simp only [Act.put, List.setIfInBounds_toArray, List.set_cons_zero, List.set_cons_succ]
        -- 11 Op.pick (Operand.tmp 17) (Operand.const (Value.bool true)) (Operand.tmp 23)
        refine wpMono_take' 11 (v := ?_) rfl (by kernel_rfl) (by kernel_rfl) (by kernel_rfl) (fun _ _ _ h => h) (by rfl) ?_ ?_
        rotate_left
        · (intro W hSw; have hcW := hSw.cells; try simp only [World.size_drew, World.cell?_drew] at hcW
           go_simp; first | done | rfl)
        try simp only [Act.put, List.setIfInBounds_toArray, List.set_cons_zero, List.set_cons_succ]
        -- 12 Op.move (Operand.tmp 24)
        refine wpMono_take' 12 (v := ?_) rfl (by kernel_rfl) (by kernel_rfl) (by kernel_rfl) (fun _ _ _ h => h) (by rfl) ?_ ?_
        rotate_left
        · (intro W hSw; have hcW := hSw.cells; try simp only [World.size_drew, World.cell?_drew] at hcW
           go_simp; first | done | rfl)
        try simp only [Act.put, List.setIfInBounds_toArray, List.set_cons_zero, List.set_cons_succ]
        -- 13 Op.move (Operand.tmp 0)
        refine wpMono_take' 13 (v := ?_) rfl (by kernel_rfl) (by kernel_rfl) (by kernel_rfl) (fun _ _ _ h => h) (by rfl) ?_ ?_
        rotate_left
        · (intro W hSw; have hcW := hSw.cells; try simp only [World.size_drew, World.cell?_drew] at hcW
           go_simp; first | done | rfl)
        try simp only [Act.put, List.setIfInBounds_toArray, List.set_cons_zero, List.set_cons_succ]
        -- 14 Op.nilCheck (Operand.tmp 26)
        refine wpMono_take' 14 (v := ?_) rfl (by kernel_rfl) (by kernel_rfl) (by kernel_rfl) (fun _ _ _ h => h) (by rfl) ?_ ?_
        rotate_left
        · (intro W hSw; have hcW := hSw.cells; try simp only [World.size_drew, World.cell?_drew] at hcW
           go_simp; first | done | rfl)
        try simp only [Act.put, List.setIfInBounds_toArray, List.set_cons_zero, List.set_cons_succ]
        -- 15 Op.fieldAddr 54 (Operand.tmp 27) 1
        refine wpMono_take' 15 (v := ?_) rfl (by kernel_rfl) (by kernel_rfl) (by kernel_rfl) (fun _ _ _ h => h) (by rfl) ?_ ?_
        rotate_left
        · (intro W hSw; have hcW := hSw.cells; try simp only [World.size_drew, World.cell?_drew] at hcW
           go_simp; first | done | rfl)
        try simp only [Act.put, List.setIfInBounds_toArray, List.set_cons_zero, List.set_cons_succ]
        -- 16 Op.load 51 (Operand.tmp 28)
        refine wpMono_take' 16 (v := ?_) rfl (by kernel_rfl) (by kernel_rfl) (by kernel_rfl) (fun _ _ _ h => h) (by rfl) ?_ ?_
        rotate_left
        · (intro W hSw; have hcW := hSw.cells; try simp only [World.size_drew, World.cell?_drew] at hcW
           go_simp; first | done | rfl)
        try simp only [Act.put, List.setIfInBounds_toArray, List.set_cons_zero, List.set_cons_succ]
        -- 17 Op.load 56 (Operand.tmp 9)
        refine wpMono_take' 17 (v := ?_) rfl (by kernel_rfl) (by kernel_rfl) (by kernel_rfl) (fun _ _ _ h => h) (by rfl) ?_ ?_
        rotate_left
        · (intro W hSw; have hcW := hSw.cells; try simp only [World.size_drew, World.cell?_drew] at hcW
           go_simp; first | done | rfl)
        try simp only [Act.put, List.setIfInBounds_toArray, List.set_cons_zero, List.set_cons_succ]
        -- EFFECT 18 Op.lookup 51 (Operand.tmp 29) (Operand.tmp 30) false
        refine wpMono_one' 18 (by kernel_rfl) rfl (by rfl) (fun K hK => ?_)
        obtain ⟨fA, fc, hlk2, hbag, hS⟩ := H3.out.bags.look Hx.out
        have Hbag := Lib.hid hbag
        have HS := Lib.hid hS
        clear hbag hS
        unfold way at hlk2
        go_simp
        refine hK.out _ _ ?_ ?_
        · exact .refl _ _
        clear hK K
        try simp only [Act.put, List.setIfInBounds_toArray, List.set_cons_zero, List.set_cons_succ]
        -- 19 Op.call { callee := Callee.builtin Builtin.len, args := #[Operand.tmp 31], argTypes := #[3
        refine wpMono_take' 19 (v := ?_) rfl (by kernel_rfl) (by kernel_rfl) (by kernel_rfl) (fun _ _ _ h => h) (by rfl) ?_ ?_
        rotate_left
        · (intro W hSw; have hcW := hSw.cells; try simp only [World.size_drew, World.cell?_drew] at hcW
           go_simp; first | done | rfl)
        try simp only [Act.put, List.setIfInBounds_toArray, List.set_cons_zero, List.set_cons_succ]
        -- 20 Op.binOp BinOp.geq 3 (Operand.tmp 32) (Operand.const (Value.int IntKind.i64 64)) 3
        refine wpMono_take' 20 (v := ?_) rfl (by kernel_rfl) (by kernel_rfl) (by kernel_rfl) (fun _ _ _ h => h) (by rfl) ?_ ?_
        rotate_left
        · (intro W hSw; have hcW := hSw.cells; try simp only [World.size_drew, World.cell?_drew] at hcW
           go_simp; first | done | rfl)
        try simp only [Act.put, List.setIfInBounds_toArray, List.set_cons_zero, List.set_cons_succ]
        -- 21 Op.pick (Operand.tmp 25) (Operand.const (Value.bool true)) (Operand.tmp 33)
        refine wpMono_take' 21 (v := ?_) rfl (by kernel_rfl) (by kernel_rfl) (by kernel_rfl) (fun _ _ _ h => h) (by rfl) ?_ ?_
        rotate_left
        · (intro W hSw; have hcW := hSw.cells; try simp only [World.size_drew, World.cell?_drew] at hcW
           go_simp; first | done | rfl)
        try simp only [Act.put, List.setIfInBounds_toArray, List.set_cons_zero, List.set_cons_succ]
        refine wpMono_done (by kernel_rfl) ?_ _
        go_wp2
        go_ret
        exact send_no H.out Hno.out HB.out
    · have hno : sendB n F C (a, b) = false := by simp [sendB, hC]
      have Hno := Lib.hid hno
      have His := Lib.hid hi
      have HC := Lib.hid hC
      have H := Lib.hid h
      clear hno hi hC h
      go_enter Try.func9, Try.ntmps9
      go_wp2_with fail
      refine wp_region_mono nobody (by kernel_rfl) ?_
      -- 0 Op.move (Operand.tmp 0)
      refine wpMono_take' 0 (v := ?_) rfl (by kernel_rfl) (by kernel_rfl) (by kernel_rfl) (fun _ _ _ h => h) (by rfl) ?_ ?_
      rotate_left
      · (intro W hSw; have hcW := hSw.cells; try simp only [World.size_drew, World.cell?_drew] at hcW
         go_simp; first | done | rfl)
      try simp only [Act.put, List.setIfInBounds_toArray, List.set_cons_zero, List.set_cons_succ]
      -- 1 Op.load 56 (Operand.tmp 9)
      refine wpMono_take' 1 (v := ?_) rfl (by kernel_rfl) (by kernel_rfl) (by kernel_rfl) (fun _ _ _ h => h) (by rfl) ?_ ?_
      rotate_left
      · (intro W hSw; have hcW := hSw.cells; try simp only [World.size_drew, World.cell?_drew] at hcW
         go_simp; first | done | rfl)
      try simp only [Act.put, List.setIfInBounds_toArray, List.set_cons_zero, List.set_cons_succ]
      -- EFFECT 2 Op.call { callee := Callee.value (Operand.func 27), args := #[Operand.tmp 13, Operand.tmp 14], argTypes := #[24, 56] }
      refine wpMono_one' 2 (by kernel_rfl) rfl (by rfl) (fun K hK => ?_)
      go_simp
      refine (is_any g bb cb n a b _ H1.out.drew.net).mono ?_
      rintro e w2 ⟨rfl, hb2⟩
      rw [His.out]
      have hb2' := below_ofDrew hb2
      have h3 := H1.out.below hb2'
      have hW3 := HW.out.below hb2' HW.out.lt
      have q0 : w2.cell? ⟨g, 2, none⟩ = _ := h3.net.cell 2
      have q1 : w2.cell? ⟨w.heap.size, 0, none⟩ = _ := hW3.cell 0
      have q2 : w2.cell? ⟨w.heap.size, 1, none⟩ = _ := hW3.cell 1
      have q5 : w2.cell? ⟨g, 1, none⟩ = _ := h3.net.cell 1
      have q3 := h3.net.lt
      have q4 := hW3.lt
      simp at q0 q1 q2 q5
      have H3 := Lib.hid h3
      have HW3 := Lib.hid hW3
      have HB := Lib.hid (below_step Hwa.out hb2')
      clear h3 hb2' hW3
      refine hK.out _ _ ?_ ?_
      · exact .of_below hb2
      clear hK K
      try simp only [Act.put, List.setIfInBounds_toArray, List.set_cons_zero, List.set_cons_succ]
      -- 3 Op.unOp UnOp.not 4 (Operand.tmp 15)
      refine wpMono_take' 3 (v := ?_) rfl (by kernel_rfl) (by kernel_rfl) (by kernel_rfl) (fun _ _ _ h => h) (by rfl) ?_ ?_
      rotate_left
      · (intro W hSw; have hcW := hSw.cells; try simp only [World.size_drew, World.cell?_drew] at hcW
         go_simp; first | done | rfl)
      try simp only [Act.put, List.setIfInBounds_toArray, List.set_cons_zero, List.set_cons_succ]
      -- 4 Op.move (Operand.tmp 16)
      refine wpMono_take' 4 (v := ?_) rfl (by kernel_rfl) (by kernel_rfl) (by kernel_rfl) (fun _ _ _ h => h) (by rfl) ?_ ?_
      rotate_left
      · (intro W hSw; have hcW := hSw.cells; try simp only [World.size_drew, World.cell?_drew] at hcW
         go_simp; first | done | rfl)
      try simp only [Act.put, List.setIfInBounds_toArray, List.set_cons_zero, List.set_cons_succ]
      -- 5 Op.move (Operand.tmp 0)
      refine wpMono_take' 5 (v := ?_) rfl (by kernel_rfl) (by kernel_rfl) (by kernel_rfl) (fun _ _ _ h => h) (by rfl) ?_ ?_
      rotate_left
      · (intro W hSw; have hcW := hSw.cells; try simp only [World.size_drew, World.cell?_drew] at hcW
         go_simp; first | done | rfl)
      try simp only [Act.put, List.setIfInBounds_toArray, List.set_cons_zero, List.set_cons_succ]
      -- 6 Op.nilCheck (Operand.tmp 18)
      refine wpMono_take' 6 (v := ?_) rfl (by kernel_rfl) (by kernel_rfl) (by kernel_rfl) (fun _ _ _ h => h) (by rfl) ?_ ?_
      rotate_left
      · (intro W hSw; have hcW := hSw.cells; try simp only [World.size_drew, World.cell?_drew] at hcW
         go_simp; first | done | rfl)
      try simp only [Act.put, List.setIfInBounds_toArray, List.set_cons_zero, List.set_cons_succ]
      -- 7 Op.fieldAddr 54 (Operand.tmp 19) 2
      refine wpMono_take' 7 (v := ?_) rfl (by kernel_rfl) (by kernel_rfl) (by kernel_rfl) (fun _ _ _ h => h) (by rfl) ?_ ?_
      rotate_left
      · (intro W hSw; have hcW := hSw.cells; try simp only [World.size_drew, World.cell?_drew] at hcW
         go_simp; first | done | rfl)
      try simp only [Act.put, List.setIfInBounds_toArray, List.set_cons_zero, List.set_cons_succ]
      -- 8 Op.load 52 (Operand.tmp 20)
      refine wpMono_take' 8 (v := ?_) rfl (by kernel_rfl) (by kernel_rfl) (by kernel_rfl) (fun _ _ _ h => h) (by rfl) ?_ ?_
      rotate_left
      · (intro W hSw; have hcW := hSw.cells; try simp only [World.size_drew, World.cell?_drew] at hcW
         go_simp; first | done | rfl)
      try simp only [Act.put, List.setIfInBounds_toArray, List.set_cons_zero, List.set_cons_succ]
      -- 9 Op.load 56 (Operand.tmp 9)
      refine wpMono_take' 9 (v := ?_) rfl (by kernel_rfl) (by kernel_rfl) (by kernel_rfl) (fun _ _ _ h => h) (by rfl) ?_ ?_
      rotate_left
      · (intro W hSw; have hcW := hSw.cells; try simp only [World.size_drew, World.cell?_drew] at hcW
         go_simp; first | done | rfl)
      try simp only [Act.put, List.setIfInBounds_toArray, List.set_cons_zero, List.set_cons_succ]
      -- EFFECT 10 Op.lookup 52 (Operand.tmp 21) (Operand.tmp 22) false
      refine wpMono_one' 10 (by kernel_rfl) rfl (by rfl) (fun K hK => ?_)
      have hlk := H3.out.cuts.look Hx.out
      rw [HC.out] at hlk
      unfold way at hlk
      go_simp
      refine hK.out _ _ ?_ ?_
      · exact .refl _ _
      clear hK K
      try simp only [Act.put, List.setIfInBounds_toArray, List.set_cons_zero, List.set_cons_succ]
      -- 11 Op.pick (Operand.tmp 17) (Operand.const (Value.bool true)) (Operand.tmp 23)
      refine wpMono_take' 11 (v := ?_) rfl (by kernel_rfl) (by kernel_rfl) (by kernel_rfl) (fun _ _ _ h => h) (by rfl) ?_ ?_
      rotate_left
      · (intro W hSw; have hcW := hSw.cells; try simp only [World.size_drew, World.cell?_drew] at hcW
         go_simp; first | done | rfl)
      try simp only [Act.put, List.setIfInBounds_toArray, List.set_cons_zero, List.set_cons_succ]
      -- 12 Op.move (Operand.tmp 24)
      refine wpMono_take' 12 (v := ?_) rfl (by kernel_rfl) (by kernel_rfl) (by kernel_rfl) (fun _ _ _ h => h) (by rfl) ?_ ?_
      rotate_left
      · (intro W hSw; have hcW := hSw.cells; try simp only [World.size_drew, World.cell?_drew] at hcW
         go_simp; first | done | rfl)
      try simp only [Act.put, List.setIfInBounds_toArray, List.set_cons_zero, List.set_cons_succ]
      -- 13 Op.move (Operand.tmp 0)
      refine wpMono_skip' 13 rfl (by kernel_rfl) (by kernel_rfl) (by kernel_rfl) (fun _ _ _ h => h) (by rfl) ?_
      try simp only [Act.put, List.setIfInBounds_toArray, List.set_cons_zero, List.set_cons_succ]
      -- 14 Op.nilCheck (Operand.tmp 26)
      refine wpMono_skip' 14 rfl (by kernel_rfl) (by kernel_rfl) (by kernel_rfl) (fun _ _ _ h => h) (by rfl) ?_
      try simp only [Act.put, List.setIfInBounds_toArray, List.set_cons_zero, List.set_cons_succ]
      -- 15 Op.fieldAddr 54 (Operand.tmp 27) 1
      refine wpMono_skip' 15 rfl (by kernel_rfl) (by kernel_rfl) (by kernel_rfl) (fun _ _ _ h => h) (by rfl) ?_
      try simp only [Act.put, List.setIfInBounds_toArray, List.set_cons_zero, List.set_cons_succ]
      -- 16 Op.load 51 (Operand.tmp 28)
      refine wpMono_skip' 16 rfl (by kernel_rfl) (by kernel_rfl) (by kernel_rfl) (fun _ _ _ h => h) (by rfl) ?_
      try simp only [Act.put, List.setIfInBounds_toArray, List.set_cons_zero, List.set_cons_succ]
      -- 17 Op.load 56 (Operand.tmp 9)
      refine wpMono_skip' 17 rfl (by kernel_rfl) (by kernel_rfl) (by kernel_rfl) (fun _ _ _ h => h) (by rfl) ?_
      try simp only [Act.put, List.setIfInBounds_toArray, List.set_cons_zero, List.set_cons_succ]
      -- 18 Op.lookup 51 (Operand.tmp 29) (Operand.tmp 30) false
      refine wpMono_skip' 18 rfl (by kernel_rfl) (by kernel_rfl) (by kernel_rfl) (fun _ _ _ h => h) (by rfl) ?_
      try simp only [Act.put, List.setIfInBounds_toArray, List.set_cons_zero, List.set_cons_succ]
      -- 19 Op.call { callee := Callee.builtin Builtin.len, args := #[Operand.tmp 31], argTypes := #[3
      refine wpMono_skip' 19 rfl (by kernel_rfl) (by kernel_rfl) (by kernel_rfl) (fun _ _ _ h => h) (by rfl) ?_
      try simp only [Act.put, List.setIfInBounds_toArray, List.set_cons_zero, List.set_cons_succ]
      -- 20 Op.binOp BinOp.geq 3 (Operand.tmp 32) (Operand.const (Value.int IntKind.i64 64)) 3
      refine wpMono_skip' 20 rfl (by kernel_rfl) (by kernel_rfl) (by kernel_rfl) (fun _ _ _ h => h) (by rfl) ?_
      try simp only [Act.put, List.setIfInBounds_toArray, List.set_cons_zero, List.set_cons_succ]
      -- 21 Op.pick (Operand.tmp 25) (Operand.const (Value.bool true)) (Operand.tmp 33)
      refine wpMono_take' 21 (v := ?_) rfl (by kernel_rfl) (by kernel_rfl) (by kernel_rfl) (fun _ _ _ h => h) (by rfl) ?_ ?_
      rotate_left
      · (intro W hSw; have hcW := hSw.cells; try simp only [World.size_drew, World.cell?_drew] at hcW
         go_simp; first | done | rfl)
      try simp only [Act.put, List.setIfInBounds_toArray, List.set_cons_zero, List.set_cons_succ]
      refine wpMono_done (by kernel_rfl) ?_ _
      go_wp2
      go_ret
      exact send_no H.out Hno.out HB.out
  · have hno : sendB n F C (a, b) = false := by simp [sendB]; intro h; exact absurd h hi
    have hi : isW n a b = false := by simpa using hi
    have hC : True := trivial
    have Hno := Lib.hid hno
    have His := Lib.hid hi
    have HC := Lib.hid hC
    have H := Lib.hid h
    clear hno hi hC h
    go_enter Try.func9, Try.ntmps9
    go_wp2_with fail
    refine wp_region_mono nobody (by kernel_rfl) ?_
    -- 0 Op.move (Operand.tmp 0)
    refine wpMono_take' 0 (v := ?_) rfl (by kernel_rfl) (by kernel_rfl) (by kernel_rfl) (fun _ _ _ h => h) (by rfl) ?_ ?_
    rotate_left
    · (intro W hSw; have hcW := hSw.cells; try simp only [World.size_drew, World.cell?_drew] at hcW
       go_simp; first | done | rfl)
    try simp only [Act.put, List.setIfInBounds_toArray, List.set_cons_zero, List.set_cons_succ]
    -- 1 Op.load 56 (Operand.tmp 9)
    refine wpMono_take' 1 (v := ?_) rfl (by kernel_rfl) (by kernel_rfl) (by kernel_rfl) (fun _ _ _ h => h) (by rfl) ?_ ?_
    rotate_left
    · (intro W hSw; have hcW := hSw.cells; try simp only [World.size_drew, World.cell?_drew] at hcW
       go_simp; first | done | rfl)
    try simp only [Act.put, List.setIfInBounds_toArray, List.set_cons_zero, List.set_cons_succ]
    -- EFFECT 2 Op.call { callee := Callee.value (Operand.func 27), args := #[Operand.tmp 13, Operand.tmp 14], argTypes := #[24, 56] }
    refine wpMono_one' 2 (by kernel_rfl) rfl (by rfl) (fun K hK => ?_)
    go_simp
    refine (is_any g bb cb n a b _ H1.out.drew.net).mono ?_
    rintro e w2 ⟨rfl, hb2⟩
    rw [His.out]
    have hb2' := below_ofDrew hb2
    have h3 := H1.out.below hb2'
    have hW3 := HW.out.below hb2' HW.out.lt
    have q0 : w2.cell? ⟨g, 2, none⟩ = _ := h3.net.cell 2
    have q1 : w2.cell? ⟨w.heap.size, 0, none⟩ = _ := hW3.cell 0
    have q2 : w2.cell? ⟨w.heap.size, 1, none⟩ = _ := hW3.cell 1
    have q5 : w2.cell? ⟨g, 1, none⟩ = _ := h3.net.cell 1
    have q3 := h3.net.lt
    have q4 := hW3.lt
    simp at q0 q1 q2 q5
    have H3 := Lib.hid h3
    have HW3 := Lib.hid hW3
    have HB := Lib.hid (below_step Hwa.out hb2')
    clear h3 hb2' hW3
    refine hK.out _ _ ?_ ?_
    · exact .of_below hb2
    clear hK K
    try simp only [Act.put, List.setIfInBounds_toArray, List.set_cons_zero, List.set_cons_succ]
    -- 3 Op.unOp UnOp.not 4 (Operand.tmp 15)
    refine wpMono_take' 3 (v := ?_) rfl (by kernel_rfl) (by kernel_rfl) (by kernel_rfl) (fun _ _ _ h => h) (by rfl) ?_ ?_
    rotate_left
    · (intro W hSw; have hcW := hSw.cells; try simp only [World.size_drew, World.cell?_drew] at hcW
       go_simp; first | done | rfl)
    try simp only [Act.put, List.setIfInBounds_toArray, List.set_cons_zero, List.set_cons_succ]
    -- 4 Op.move (Operand.tmp 16)
    refine wpMono_take' 4 (v := ?_) rfl (by kernel_rfl) (by kernel_rfl) (by kernel_rfl) (fun _ _ _ h => h) (by rfl) ?_ ?_
    rotate_left
    · (intro W hSw; have hcW := hSw.cells; try simp only [World.size_drew, World.cell?_drew] at hcW
       go_simp; first | done | rfl)
    try simp only [Act.put, List.setIfInBounds_toArray, List.set_cons_zero, List.set_cons_succ]
    -- 5 Op.move (Operand.tmp 0)
    refine wpMono_skip' 5 rfl (by kernel_rfl) (by kernel_rfl) (by kernel_rfl) (fun _ _ _ h => h) (by rfl) ?_
    try simp only [Act.put, List.setIfInBounds_toArray, List.set_cons_zero, List.set_cons_succ]
    -- 6 Op.nilCheck (Operand.tmp 18)
    refine wpMono_skip' 6 rfl (by kernel_rfl) (by kernel_rfl) (by kernel_rfl) (fun _ _ _ h => h) (by rfl) ?_
    try simp only [Act.put, List.setIfInBounds_toArray, List.set_cons_zero, List.set_cons_succ]
    -- 7 Op.fieldAddr 54 (Operand.tmp 19) 2
    refine wpMono_skip' 7 rfl (by kernel_rfl) (by kernel_rfl) (by kernel_rfl) (fun _ _ _ h => h) (by rfl) ?_
    try simp only [Act.put, List.setIfInBounds_toArray, List.set_cons_zero, List.set_cons_succ]
    -- 8 Op.load 52 (Operand.tmp 20)
    refine wpMono_skip' 8 rfl (by kernel_rfl) (by kernel_rfl) (by kernel_rfl) (fun _ _ _ h => h) (by rfl) ?_
    try simp only [Act.put, List.setIfInBounds_toArray, List.set_cons_zero, List.set_cons_succ]
    -- 9 Op.load 56 (Operand.tmp 9)
    refine wpMono_skip' 9 rfl (by kernel_rfl) (by kernel_rfl) (by kernel_rfl) (fun _ _ _ h => h) (by rfl) ?_
    try simp only [Act.put, List.setIfInBounds_toArray, List.set_cons_zero, List.set_cons_succ]
    -- 10 Op.lookup 52 (Operand.tmp 21) (Operand.tmp 22) false
    refine wpMono_skip' 10 rfl (by kernel_rfl) (by kernel_rfl) (by kernel_rfl) (fun _ _ _ h => h) (by rfl) ?_
    try simp only [Act.put, List.setIfInBounds_toArray, List.set_cons_zero, List.set_cons_succ]
    -- 11 Op.pick (Operand.tmp 17) (Operand.const (Value.bool true)) (Operand.tmp 23)
    refine wpMono_take' 11 (v := ?_) rfl (by kernel_rfl) (by kernel_rfl) (by kernel_rfl) (fun _ _ _ h => h) (by rfl) ?_ ?_
    rotate_left
    · (intro W hSw; have hcW := hSw.cells; try simp only [World.size_drew, World.cell?_drew] at hcW
       go_simp; first | done | rfl)
    try simp only [Act.put, List.setIfInBounds_toArray, List.set_cons_zero, List.set_cons_succ]
    -- 12 Op.move (Operand.tmp 24)
    refine wpMono_take' 12 (v := ?_) rfl (by kernel_rfl) (by kernel_rfl) (by kernel_rfl) (fun _ _ _ h => h) (by rfl) ?_ ?_
    rotate_left
    · (intro W hSw; have hcW := hSw.cells; try simp only [World.size_drew, World.cell?_drew] at hcW
       go_simp; first | done | rfl)
    try simp only [Act.put, List.setIfInBounds_toArray, List.set_cons_zero, List.set_cons_succ]
    -- 13 Op.move (Operand.tmp 0)
    refine wpMono_skip' 13 rfl (by kernel_rfl) (by kernel_rfl) (by kernel_rfl) (fun _ _ _ h => h) (by rfl) ?_
    try simp only [Act.put, List.setIfInBounds_toArray, List.set_cons_zero, List.set_cons_succ]
    -- 14 Op.nilCheck (Operand.tmp 26)
    refine wpMono_skip' 14 rfl (by kernel_rfl) (by kernel_rfl) (by kernel_rfl) (fun _ _ _ h => h) (by rfl) ?_
    try simp only [Act.put, List.setIfInBounds_toArray, List.set_cons_zero, List.set_cons_succ]
    -- 15 Op.fieldAddr 54 (Operand.tmp 27) 1
    refine wpMono_skip' 15 rfl (by kernel_rfl) (by kernel_rfl) (by kernel_rfl) (fun _ _ _ h => h) (by rfl) ?_
    try simp only [Act.put, List.setIfInBounds_toArray, List.set_cons_zero, List.set_cons_succ]
    -- 16 Op.load 51 (Operand.tmp 28)
    refine wpMono_skip' 16 rfl (by kernel_rfl) (by kernel_rfl) (by kernel_rfl) (fun _ _ _ h => h) (by rfl) ?_
    try simp only [Act.put, List.setIfInBounds_toArray, List.set_cons_zero, List.set_cons_succ]
    -- 17 Op.load 56 (Operand.tmp 9)
    refine wpMono_skip' 17 rfl (by kernel_rfl) (by kernel_rfl) (by kernel_rfl) (fun _ _ _ h => h) (by rfl) ?_
    try simp only [Act.put, List.setIfInBounds_toArray, List.set_cons_zero, List.set_cons_succ]
    -- 18 Op.lookup 51 (Operand.tmp 29) (Operand.tmp 30) false
    refine wpMono_skip' 18 rfl (by kernel_rfl) (by kernel_rfl) (by kernel_rfl) (fun _ _ _ h => h) (by rfl) ?_
    try simp only [Act.put, List.setIfInBounds_toArray, List.set_cons_zero, List.set_cons_succ]
    -- 19 Op.call { callee := Callee.builtin Builtin.len, args := #[Operand.tmp 31], argTypes := #[3
    refine wpMono_skip' 19 rfl (by kernel_rfl) (by kernel_rfl) (by kernel_rfl) (fun _ _ _ h => h) (by rfl) ?_
    try simp only [Act.put, List.setIfInBounds_toArray, List.set_cons_zero, List.set_cons_succ]
    -- 20 Op.binOp BinOp.geq 3 (Operand.tmp 32) (Operand.const (Value.int IntKind.i64 64)) 3
    refine wpMono_skip' 20 rfl (by kernel_rfl) (by kernel_rfl) (by kernel_rfl) (fun _ _ _ h => h) (by rfl) ?_
    try simp only [Act.put, List.setIfInBounds_toArray, List.set_cons_zero, List.set_cons_succ]
    -- 21 Op.pick (Operand.tmp 25) (Operand.const (Value.bool true)) (Operand.tmp 33)
    refine wpMono_take' 21 (v := ?_) rfl (by kernel_rfl) (by kernel_rfl) (by kernel_rfl) (fun _ _ _ h => h) (by rfl) ?_ ?_
    rotate_left
    · (intro W hSw; have hcW := hSw.cells; try simp only [World.size_drew, World.cell?_drew] at hcW
       go_simp; first | done | rfl)
    try simp only [Act.put, List.setIfInBounds_toArray, List.set_cons_zero, List.set_cons_succ]
    refine wpMono_done (by kernel_rfl) ?_ _
    go_wp2
    go_ret
    exact send_no H.out Hno.out HB.out
end Go.Proofs.Ytempojdgbgaanaa.send
