/- The walk of the law NetPlays. -/
import Derived.Test.YtempojdgbgaanaaPlay
import Derived.LoopTactic
import Derived.LoopN
namespace Go.Proofs.Ytempojdgbgaanaa.wNetPlays
open Go.RowKit Go.Proofs.Ytempojdgbgaanaa.base Go.Proofs.Ytempojdgbgaanaa.err Go.Proofs.Ytempojdgbgaanaa.net Go.Proofs.Ytempojdgbgaanaa.state Go.Proofs.Ytempojdgbgaanaa.at_ Go.Proofs.Ytempojdgbgaanaa.send Go.Proofs.Ytempojdgbgaanaa.take Go.Proofs.Ytempojdgbgaanaa.double Go.Proofs.Ytempojdgbgaanaa.cut Go.Proofs.Ytempojdgbgaanaa.all_ Go.Proofs.Ytempojdgbgaanaa.awake Go.Proofs.Ytempojdgbgaanaa.own Go.Proofs.Ytempojdgbgaanaa.wNetNone Go.Proofs.Ytempojdgbgaanaa.args Go.Proofs.Ytempojdgbgaanaa.keepo Go.Proofs.Ytempojdgbgaanaa.refnet Go.Proofs.Ytempojdgbgaanaa.refat Go.Proofs.Ytempojdgbgaanaa.refcnt Go.Proofs.Ytempojdgbgaanaa.refsend Go.Proofs.Ytempojdgbgaanaa.reftake Go.Proofs.Ytempojdgbgaanaa.refcut Go.Proofs.Ytempojdgbgaanaa.netlaw Go.Proofs.Ytempojdgbgaanaa.play

set_option maxRecDepth 100000 in
set_option maxHeartbeats 12800000 in
theorem walk (v0 : Value) (v1 : Value) (w : World) (a0 : Arg Try.prog w 3 v0) (a1 : Arg Try.prog w 22 v1) :
    Calls Try.prog 6 #[v0, v1] w fun e w' => e = .returned (.bool true) ∧ Below w.heap.size w w' := by
  obtain ⟨n, rfl, hn⟩ := a0.int Try.underlying3
  obtain ⟨A, len, cap, l, rfl, hT⟩ := ops_arg a1
  have hlc := hT.2.1
  have hcm := hT.2.2.1
  unfold maxLen at hcm
  clear a0 a1 hn
  have HT := Lib.hid hT
  clear hT
  by_cases hr : n < 1 ∨ 16 < n
  · have hp : (decide (n < 1) = true) ∨ (decide (n < 1) = false ∧ decide (16 < n) = true) := by
      rcases hr with h | h
      · exact .inl (by simpa using h)
      · by_cases h1 : n < 1
        · exact .inl (by simpa using h1)
        · exact .inr ⟨by simpa using h1, by simpa using h⟩
    rcases hp with d1 | ⟨d1, d2⟩
    · skip
      as_aux_lemma =>
        go_enter Try.func6, Try.ntmps6
        go_wp2_with fail
        refine (awake_yes _).mono ?_
        rintro e w1 ⟨rfl, hb1⟩
        have Hb1 := Lib.hid hb1
        clear hb1
        go_wp2_with fail
        refine (new_no n _ hr).mono ?_
        rintro e w2 ⟨v, rfl, hv, hb2⟩
        have Hb2 := Lib.hid (below_step Hb1.out hb2)
        obtain ⟨q, rfl⟩ := hv.form
        clear hb2
        go_wp2_with fail
        refine (is_err _ 1 1 _ hv).mono ?_
        rintro e w3 ⟨rfl, rfl⟩
        go_wp2
        go_ret
        exact ⟨rfl, Hb2.out⟩
    · skip
      as_aux_lemma =>
        go_enter Try.func6, Try.ntmps6
        go_wp2_with fail
        refine (awake_yes _).mono ?_
        rintro e w1 ⟨rfl, hb1⟩
        have Hb1 := Lib.hid hb1
        clear hb1
        go_wp2_with fail
        refine (new_no n _ hr).mono ?_
        rintro e w2 ⟨v, rfl, hv, hb2⟩
        have Hb2 := Lib.hid (below_step Hb1.out hb2)
        obtain ⟨q, rfl⟩ := hv.form
        clear hb2
        go_wp2_with fail
        refine (is_err _ 1 1 _ hv).mono ?_
        rintro e w3 ⟨rfl, rfl⟩
        go_wp2
        go_ret
        exact ⟨rfl, Hb2.out⟩
  · have d1 : decide (n < 1) = false := by simp; omega
    have d2 : decide (16 < n) = false := by simp; omega
    go_enter Try.func6, Try.ntmps6
    go_wp2_with fail
    refine (awake_yes _).mono ?_
    rintro e w1 ⟨rfl, hb1⟩
    have Hb1 := Lib.hid hb1
    clear hb1
    go_wp2_with fail
    refine (new_o n _ (by omega) (by omega)).mono ?_
    rintro e w2 ⟨g, bb, cb, rfl, h2, hb2⟩
    have hsz : w1.heap.size ≤ w2.heap.size := hb2.size
    have hst := Sta.mk (rg := w2.heap.size) (k := 0) ((NetT.of h2).below (below_new w2 (.cells #[.int .i64 n, .slice none 0 0, .slice none 0 0] 48))) ⟨none, 0, none, 0, Blk.new w2 _ _, World.ownsRow_nil _ _ _ _, World.ownsRow_nil _ _ _ _, hsz⟩ (rel_none n) (Nat.le_refl _) (Nat.le_refl _)
    have Hst := Lib.hid hst
    have hwB : w.heap.size ≤ w1.heap.size := Hb1.out.size
    have Hb2 := Lib.hid (below_alloc (below_step Hb1.out hb2) (.cells #[.int .i64 n, .slice none 0 0, .slice none 0 0] 48))
    clear h2 hb2 hst
    generalize hB : w1.heap.size = B at *
    generalize hrg : w2.heap.size = rg at *
    go_wp2
    go_loopw [8, 9, 10, 11, 12, 13, 14, 64, 83, 115, 134, 153, 167, 181] (fun iv _ _ _ _ _ _ _ _ _ _ _ _ _ wr => ∃ (i : Nat) (F : W2 → List ByteArray) (C : W2 → Bool) (L : List M) (Ws : List W2), i ≤ len ∧ i ≤ 300 ∧ iv = .int .i64 i ∧ Sta wr B g bb cb rg (2 * i) n F C L Ws ∧ Below w.heap.size w wr) (fun iv _ _ _ _ _ _ _ _ _ _ _ _ _ _ => 300 - (intOf iv).toNat)
    case atStart => exact ⟨0, _, _, [], [], by omega, by omega, rfl, Hst.out, Hb2.out⟩
    case round =>
      obtain ⟨i, F, C, L, Ws, hi, hi3, rfl, hS, hbw⟩ := hrel
      have h3' : decide ((i : Int) < 300) = decide (i < 300) := decide_eq_decide.2 (by omega)
      have hl' : decide ((i : Int) < (len : Int)) = decide (i < len) := decide_eq_decide.2 (by omega)
      by_cases hlt : i < len
      · by_cases h3 : i < 300
        · obtain ⟨ob, off, rfl, hob⟩ := HT.out.at_some (by omega)
          obtain ⟨o, ho⟩ := HT.out.get hlt
          obtain ⟨ok1, ok2, _⟩ := HT.out.2.2.2.2 o (List.mem_of_getElem? ho)
          obtain ⟨c0, c1, c2, c3, c4⟩ := (HT.out.below hbw).cell hlt ho
          have hob2 : ob < wr.heap.size := by have := hbw.size; omega
          obtain ⟨k, a, b, x, s⟩ := o
          dsimp only at c0 c1 c2 c3 c4 ok1 ok2
          have hok : okW (a, b) := ⟨ok1, ok2⟩
          have hLk := hS.hL
          have hWk := hS.hW
          have HO := Lib.hid (Blk.new wr 30 #[.int .i64 k, .int .i64 a, .int .i64 b, .int .i64 x, .string s])
          have HS := Lib.hid (hS.below (below_new wr (.cells #[.int .i64 k, .int .i64 a, .int .i64 b, .int .i64 x, .string s] 30)))
          have Hbw := Lib.hid (below_alloc hbw (.cells #[.int .i64 k, .int .i64 a, .int .i64 b, .int .i64 x, .string s] 30))
          have Hok := Lib.hid hok
          clear hS hbw hok ok1 ok2 ho
          by_cases hsz : s.size ≤ 1000
          · have hd : decide (1000 < (s.size : Int)) = false := by simp; omega
            by_cases hk0 : k = 0
            · subst hk0
              as_aux_lemma =>
                go_wp2_with fail
                generalize wr.alloc (.cells #[.int .i64 0, .int .i64 a, .int .i64 b, .int .i64 x, .string s] 30) = W at *
                have hOd := HO.out.drew
                have HOd := Lib.hid hOd
                have q0 : W.drew.cell? ⟨wr.heap.size, 0, none⟩ = some (.int .i64 0) := hOd.cell 0
                have q1 : W.drew.cell? ⟨wr.heap.size, 1, none⟩ = some (.int .i64 a) := hOd.cell 1
                have q2 : W.drew.cell? ⟨wr.heap.size, 2, none⟩ = some (.int .i64 b) := hOd.cell 2
                have q3 : W.drew.cell? ⟨wr.heap.size, 3, none⟩ = some (.int .i64 x) := hOd.cell 3
                have q4 : W.drew.cell? ⟨wr.heap.size, 4, none⟩ = some (.string s) := hOd.cell 4
                have q5 := hOd.lt
                have HSd := Lib.hid (HS.out.below (below_drewN (Below.refl _ _) 1 : Below W.heap.size W W.drew))
                have Hbd := Lib.hid (below_drewN Hbw.out 1)
                have Hq := Lib.hid q5
                have Hx := Lib.hid (op_not hOd)
                clear hOd
                refine wp_region_mono (bothX W.drew) (by kernel_rfl) ?_
                -- 0 Op.move (Operand.tmp 5)
                refine wpMono_take' 0 (v := ?_) rfl (by kernel_rfl) (by kernel_rfl) (by kernel_rfl) (fun _ _ _ h => h) (by rfl) ?_ ?_
                rotate_left
                · (intro W hSw; try (have e1 := (hSw.cell 1 Hq.out Hx.out).trans q1; have e2 := (hSw.cell 2 Hq.out Hx.out).trans q2; have e3 := (hSw.cell 3 Hq.out Hx.out).trans q3; have e4 := (hSw.cell 4 Hq.out Hx.out).trans q4; have e5 := Nat.lt_of_lt_of_le Hq.out hSw.size)
                   go_simp; first | done | rfl)
                try simp only [Act.put, List.setIfInBounds_toArray, List.set_cons_zero, List.set_cons_succ]
                -- 1 Op.fieldAddr 30 (Operand.tmp 9) 1
                refine wpMono_take' 1 (v := ?_) rfl (by kernel_rfl) (by kernel_rfl) (by kernel_rfl) (fun _ _ _ h => h) (by rfl) ?_ ?_
                rotate_left
                · (intro W hSw; try (have e1 := (hSw.cell 1 Hq.out Hx.out).trans q1; have e2 := (hSw.cell 2 Hq.out Hx.out).trans q2; have e3 := (hSw.cell 3 Hq.out Hx.out).trans q3; have e4 := (hSw.cell 4 Hq.out Hx.out).trans q4; have e5 := Nat.lt_of_lt_of_le Hq.out hSw.size)
                   go_simp; first | done | rfl)
                try simp only [Act.put, List.setIfInBounds_toArray, List.set_cons_zero, List.set_cons_succ]
                -- 2 Op.load 3 (Operand.tmp 67)
                refine wpMono_take' 2 (v := ?_) rfl (by kernel_rfl) (by kernel_rfl) (by kernel_rfl) (fun _ _ _ h => h) (by rfl) ?_ ?_
                rotate_left
                · (intro W hSw; try (have e1 := (hSw.cell 1 Hq.out Hx.out).trans q1; have e2 := (hSw.cell 2 Hq.out Hx.out).trans q2; have e3 := (hSw.cell 3 Hq.out Hx.out).trans q3; have e4 := (hSw.cell 4 Hq.out Hx.out).trans q4; have e5 := Nat.lt_of_lt_of_le Hq.out hSw.size)
                   go_simp; first | done | rfl)
                try simp only [Act.put, List.setIfInBounds_toArray, List.set_cons_zero, List.set_cons_succ]
                -- 3 Op.fieldAddr 30 (Operand.tmp 9) 2
                refine wpMono_take' 3 (v := ?_) rfl (by kernel_rfl) (by kernel_rfl) (by kernel_rfl) (fun _ _ _ h => h) (by rfl) ?_ ?_
                rotate_left
                · (intro W hSw; try (have e1 := (hSw.cell 1 Hq.out Hx.out).trans q1; have e2 := (hSw.cell 2 Hq.out Hx.out).trans q2; have e3 := (hSw.cell 3 Hq.out Hx.out).trans q3; have e4 := (hSw.cell 4 Hq.out Hx.out).trans q4; have e5 := Nat.lt_of_lt_of_le Hq.out hSw.size)
                   go_simp; first | done | rfl)
                try simp only [Act.put, List.setIfInBounds_toArray, List.set_cons_zero, List.set_cons_succ]
                -- 4 Op.load 3 (Operand.tmp 69)
                refine wpMono_take' 4 (v := ?_) rfl (by kernel_rfl) (by kernel_rfl) (by kernel_rfl) (fun _ _ _ h => h) (by rfl) ?_ ?_
                rotate_left
                · (intro W hSw; try (have e1 := (hSw.cell 1 Hq.out Hx.out).trans q1; have e2 := (hSw.cell 2 Hq.out Hx.out).trans q2; have e3 := (hSw.cell 3 Hq.out Hx.out).trans q3; have e4 := (hSw.cell 4 Hq.out Hx.out).trans q4; have e5 := Nat.lt_of_lt_of_le Hq.out hSw.size)
                   go_simp; first | done | rfl)
                try simp only [Act.put, List.setIfInBounds_toArray, List.set_cons_zero, List.set_cons_succ]
                -- 5 Op.fieldAddr 30 (Operand.tmp 9) 4
                refine wpMono_take' 5 (v := ?_) rfl (by kernel_rfl) (by kernel_rfl) (by kernel_rfl) (fun _ _ _ h => h) (by rfl) ?_ ?_
                rotate_left
                · (intro W hSw; try (have e1 := (hSw.cell 1 Hq.out Hx.out).trans q1; have e2 := (hSw.cell 2 Hq.out Hx.out).trans q2; have e3 := (hSw.cell 3 Hq.out Hx.out).trans q3; have e4 := (hSw.cell 4 Hq.out Hx.out).trans q4; have e5 := Nat.lt_of_lt_of_le Hq.out hSw.size)
                   go_simp; first | done | rfl)
                try simp only [Act.put, List.setIfInBounds_toArray, List.set_cons_zero, List.set_cons_succ]
                -- 6 Op.load 9 (Operand.tmp 71)
                refine wpMono_take' 6 (v := ?_) rfl (by kernel_rfl) (by kernel_rfl) (by kernel_rfl) (fun _ _ _ h => h) (by rfl) ?_ ?_
                rotate_left
                · (intro W hSw; try (have e1 := (hSw.cell 1 Hq.out Hx.out).trans q1; have e2 := (hSw.cell 2 Hq.out Hx.out).trans q2; have e3 := (hSw.cell 3 Hq.out Hx.out).trans q3; have e4 := (hSw.cell 4 Hq.out Hx.out).trans q4; have e5 := Nat.lt_of_lt_of_le Hq.out hSw.size)
                   go_simp; first | done | rfl)
                try simp only [Act.put, List.setIfInBounds_toArray, List.set_cons_zero, List.set_cons_succ]
                -- 8 Op.move (Operand.tmp 7)
                refine wpMono_take' 8 (v := ?_) rfl (by kernel_rfl) (by kernel_rfl) (by kernel_rfl) (fun _ _ _ h => h) (by rfl) ?_ ?_
                rotate_left
                · (intro W hSw; try (have e1 := (hSw.cell 1 Hq.out Hx.out).trans q1; have e2 := (hSw.cell 2 Hq.out Hx.out).trans q2; have e3 := (hSw.cell 3 Hq.out Hx.out).trans q3; have e4 := (hSw.cell 4 Hq.out Hx.out).trans q4; have e5 := Nat.lt_of_lt_of_le Hq.out hSw.size)
                   go_simp; first | done | rfl)
                try simp only [Act.put, List.setIfInBounds_toArray, List.set_cons_zero, List.set_cons_succ]
                -- 9 Op.fieldAddr 30 (Operand.tmp 9) 1
                refine wpMono_take' 9 (v := ?_) rfl (by kernel_rfl) (by kernel_rfl) (by kernel_rfl) (fun _ _ _ h => h) (by rfl) ?_ ?_
                rotate_left
                · (intro W hSw; try (have e1 := (hSw.cell 1 Hq.out Hx.out).trans q1; have e2 := (hSw.cell 2 Hq.out Hx.out).trans q2; have e3 := (hSw.cell 3 Hq.out Hx.out).trans q3; have e4 := (hSw.cell 4 Hq.out Hx.out).trans q4; have e5 := Nat.lt_of_lt_of_le Hq.out hSw.size)
                   go_simp; first | done | rfl)
                try simp only [Act.put, List.setIfInBounds_toArray, List.set_cons_zero, List.set_cons_succ]
                -- 10 Op.load 3 (Operand.tmp 75)
                refine wpMono_take' 10 (v := ?_) rfl (by kernel_rfl) (by kernel_rfl) (by kernel_rfl) (fun _ _ _ h => h) (by rfl) ?_ ?_
                rotate_left
                · (intro W hSw; try (have e1 := (hSw.cell 1 Hq.out Hx.out).trans q1; have e2 := (hSw.cell 2 Hq.out Hx.out).trans q2; have e3 := (hSw.cell 3 Hq.out Hx.out).trans q3; have e4 := (hSw.cell 4 Hq.out Hx.out).trans q4; have e5 := Nat.lt_of_lt_of_le Hq.out hSw.size)
                   go_simp; first | done | rfl)
                try simp only [Act.put, List.setIfInBounds_toArray, List.set_cons_zero, List.set_cons_succ]
                -- 11 Op.fieldAddr 30 (Operand.tmp 9) 2
                refine wpMono_take' 11 (v := ?_) rfl (by kernel_rfl) (by kernel_rfl) (by kernel_rfl) (fun _ _ _ h => h) (by rfl) ?_ ?_
                rotate_left
                · (intro W hSw; try (have e1 := (hSw.cell 1 Hq.out Hx.out).trans q1; have e2 := (hSw.cell 2 Hq.out Hx.out).trans q2; have e3 := (hSw.cell 3 Hq.out Hx.out).trans q3; have e4 := (hSw.cell 4 Hq.out Hx.out).trans q4; have e5 := Nat.lt_of_lt_of_le Hq.out hSw.size)
                   go_simp; first | done | rfl)
                try simp only [Act.put, List.setIfInBounds_toArray, List.set_cons_zero, List.set_cons_succ]
                -- 12 Op.load 3 (Operand.tmp 77)
                refine wpMono_take' 12 (v := ?_) rfl (by kernel_rfl) (by kernel_rfl) (by kernel_rfl) (fun _ _ _ h => h) (by rfl) ?_ ?_
                rotate_left
                · (intro W hSw; try (have e1 := (hSw.cell 1 Hq.out Hx.out).trans q1; have e2 := (hSw.cell 2 Hq.out Hx.out).trans q2; have e3 := (hSw.cell 3 Hq.out Hx.out).trans q3; have e4 := (hSw.cell 4 Hq.out Hx.out).trans q4; have e5 := Nat.lt_of_lt_of_le Hq.out hSw.size)
                   go_simp; first | done | rfl)
                try simp only [Act.put, List.setIfInBounds_toArray, List.set_cons_zero, List.set_cons_succ]
                -- 13 Op.fieldAddr 30 (Operand.tmp 9) 4
                refine wpMono_take' 13 (v := ?_) rfl (by kernel_rfl) (by kernel_rfl) (by kernel_rfl) (fun _ _ _ h => h) (by rfl) ?_ ?_
                rotate_left
                · (intro W hSw; try (have e1 := (hSw.cell 1 Hq.out Hx.out).trans q1; have e2 := (hSw.cell 2 Hq.out Hx.out).trans q2; have e3 := (hSw.cell 3 Hq.out Hx.out).trans q3; have e4 := (hSw.cell 4 Hq.out Hx.out).trans q4; have e5 := Nat.lt_of_lt_of_le Hq.out hSw.size)
                   go_simp; first | done | rfl)
                try simp only [Act.put, List.setIfInBounds_toArray, List.set_cons_zero, List.set_cons_succ]
                -- 14 Op.load 9 (Operand.tmp 79)
                refine wpMono_take' 14 (v := ?_) rfl (by kernel_rfl) (by kernel_rfl) (by kernel_rfl) (fun _ _ _ h => h) (by rfl) ?_ ?_
                rotate_left
                · (intro W hSw; try (have e1 := (hSw.cell 1 Hq.out Hx.out).trans q1; have e2 := (hSw.cell 2 Hq.out Hx.out).trans q2; have e3 := (hSw.cell 3 Hq.out Hx.out).trans q3; have e4 := (hSw.cell 4 Hq.out Hx.out).trans q4; have e5 := Nat.lt_of_lt_of_le Hq.out hSw.size)
                   go_simp; first | done | rfl)
                try simp only [Act.put, List.setIfInBounds_toArray, List.set_cons_zero, List.set_cons_succ]
                -- EFFECT 7 Op.call { callee := Callee.value (Operand.func 9), args := #[Operand.tmp 66, Operand.tmp 68, Operand.tmp 70, Operand.tmp 72], argTypes := #[
                refine wpMono_one' 7 (by kernel_rfl) rfl (by rfl) (fun K hK => ?_)
                go_simp
                refine (send_t B g bb cb (2 * i) n a b F C L Ws s _ HSd.out.net HSd.out.rel Hok.out (by omega)).mono ?_
                rintro e w3 ⟨rfl, hN3, hB3, hk3⟩
                have hO3 := hk3.blk HOd.out (by simp [netP])
                have q0 : w3.cell? ⟨wr.heap.size, 0, none⟩ = some (.int .i64 0) := hO3.cell 0
                have q1 : w3.cell? ⟨wr.heap.size, 1, none⟩ = some (.int .i64 a) := hO3.cell 1
                have q2 : w3.cell? ⟨wr.heap.size, 2, none⟩ = some (.int .i64 b) := hO3.cell 2
                have q3 : w3.cell? ⟨wr.heap.size, 3, none⟩ = some (.int .i64 x) := hO3.cell 3
                have q4 : w3.cell? ⟨wr.heap.size, 4, none⟩ = some (.string s) := hO3.cell 4
                have q5 := hO3.lt
                have Hq := Lib.hid q5
                clear hO3
                refine hK.out _ _ ?_ ?_
                · exact first hk3
                clear hK K
                try simp only [Act.put, List.setIfInBounds_toArray, List.set_cons_zero, List.set_cons_succ]
                -- EFFECT 15 Op.call { callee := Callee.value (Operand.func 19), args := #[Operand.tmp 74, Operand.tmp 76, Operand.tmp 78, Operand.tmp 80], argTypes := #
                refine wpMono_one' 15 (by kernel_rfl) rfl (by rfl) (fun K hK => ?_)
                go_simp
                refine (send_x B rg n a b L Ws s _ (HSd.out.ref.net hk3) (by omega) (by omega)).mono ?_
                rintro e w4 ⟨rfl, hR4⟩
                refine hK.out _ _ ?_ ?_
                · exact chain hk3 hR4.2.2
                clear hK K
                try simp only [Act.put, List.setIfInBounds_toArray, List.set_cons_zero, List.set_cons_succ]
                -- 16 Op.binOp BinOp.eql 4 (Operand.tmp 73) (Operand.tmp 81) 4
                refine wpMono_take' 16 (v := ?_) rfl (by kernel_rfl) (by kernel_rfl) (by kernel_rfl) (fun _ _ _ h => h) (by rfl) ?_ ?_
                rotate_left
                · (intro W hSw; try (have e1 := (hSw.cell 1 Hq.out Hx.out).trans q1; have e2 := (hSw.cell 2 Hq.out Hx.out).trans q2; have e3 := (hSw.cell 3 Hq.out Hx.out).trans q3; have e4 := (hSw.cell 4 Hq.out Hx.out).trans q4; have e5 := Nat.lt_of_lt_of_le Hq.out hSw.size)
                   go_simp; first | done | rfl)
                try simp only [Act.put, List.setIfInBounds_toArray, List.set_cons_zero, List.set_cons_succ]
                -- 17 Op.assign (Operand.tmp 82)
                refine wpMono_take' 17 (v := ?_) rfl (by kernel_rfl) (by kernel_rfl) (by kernel_rfl) (fun _ _ _ h => h) (by rfl) ?_ ?_
                rotate_left
                · (intro W hSw; try (have e1 := (hSw.cell 1 Hq.out Hx.out).trans q1; have e2 := (hSw.cell 2 Hq.out Hx.out).trans q2; have e3 := (hSw.cell 3 Hq.out Hx.out).trans q3; have e4 := (hSw.cell 4 Hq.out Hx.out).trans q4; have e5 := Nat.lt_of_lt_of_le Hq.out hSw.size)
                   go_simp; first | done | rfl)
                try simp only [Act.put, List.setIfInBounds_toArray, List.set_cons_zero, List.set_cons_succ]
                refine wpMono_done (by kernel_rfl) ?_ _
                have HSx := Lib.hid (Sta.both (NetT.more hN3 (by omega : _ ≤ 2 * (i + 1))) hR4 (rel_send HSd.out.rel (a, b) s).2 (by have := sendL_le n L Ws (a, b) s; omega) (by omega))
                have HOx := Lib.hid (hR4.2.2.blk (hk3.blk HOd.out (by simp [netP])) (by simp [refP]))
                have Hbx := Lib.hid ((Hbd.out.trans (hB3.mono hwB)).trans (hR4.2.1.mono hwB))
                generalize sendF n F C (a, b) s = Fx at HSx
                generalize C = Cx at HSx
                generalize sendL n L Ws (a, b) s = Lx at HSx
                generalize Ws = Wx at HSx
                clear hN3 hR4 hB3 hk3
                clear q0 q1 q2 q3 q4 q5 HSd HOd HS HO Hbd Hq Hx Hbw
                have hSd := HSx.out.below (below_drewN (Below.refl _ _) 1 : Below w4.heap.size w4 w4.drew)
                have HSd := Lib.hid hSd
                obtain ⟨A1, e1, A2, e2, hRf⟩ := HSx.out.ref
                have hO := HOx.out
                have q0 : w4.cell? ⟨wr.heap.size, 0, none⟩ = some (.int .i64 0) := hO.cell 0
                have q1 : w4.cell? ⟨wr.heap.size, 1, none⟩ = some (.int .i64 a) := hO.cell 1
                have q2 : w4.cell? ⟨wr.heap.size, 2, none⟩ = some (.int .i64 b) := hO.cell 2
                have q3 : w4.cell? ⟨wr.heap.size, 3, none⟩ = some (.int .i64 x) := hO.cell 3
                have q4 : w4.cell? ⟨wr.heap.size, 4, none⟩ = some (.string s) := hO.cell 4
                have q5 := hO.lt
                have r1 : w4.cell? ⟨rg, 1, none⟩ = some (.slice A1 Lx.length e1) := hRf.blk.cell 1
                have r2 := hRf.blk.lt
                have hLx := HSx.out.hL
                have hWx := HSx.out.hW
                clear hO hRf hSd
                go_wp2_with fail
                refine wp_region_mono nobody (by kernel_rfl) ?_
                -- 0 Op.move (Operand.tmp 10)
                refine wpMono_take' 0 (v := ?_) rfl (by kernel_rfl) (by kernel_rfl) (by kernel_rfl) (fun _ _ _ h => h) (by rfl) ?_ ?_
                rotate_left
                · (intro W hSw; have hcW := hSw.cells; try simp only [World.size_drew, World.cell?_drew] at hcW
                   go_simp; first | done | rfl)
                try simp only [Act.put, List.setIfInBounds_toArray, List.set_cons_zero, List.set_cons_succ]
                -- 1 Op.unOp UnOp.not 4 (Operand.tmp 188)
                refine wpMono_take' 1 (v := ?_) rfl (by kernel_rfl) (by kernel_rfl) (by kernel_rfl) (fun _ _ _ h => h) (by rfl) ?_ ?_
                rotate_left
                · (intro W hSw; have hcW := hSw.cells; try simp only [World.size_drew, World.cell?_drew] at hcW
                   go_simp; first | done | rfl)
                try simp only [Act.put, List.setIfInBounds_toArray, List.set_cons_zero, List.set_cons_succ]
                -- 2 Op.move (Operand.tmp 189)
                refine wpMono_take' 2 (v := ?_) rfl (by kernel_rfl) (by kernel_rfl) (by kernel_rfl) (fun _ _ _ h => h) (by rfl) ?_ ?_
                rotate_left
                · (intro W hSw; have hcW := hSw.cells; try simp only [World.size_drew, World.cell?_drew] at hcW
                   go_simp; first | done | rfl)
                try simp only [Act.put, List.setIfInBounds_toArray, List.set_cons_zero, List.set_cons_succ]
                -- 3 Op.move (Operand.tmp 5)
                refine wpMono_take' 3 (v := ?_) rfl (by kernel_rfl) (by kernel_rfl) (by kernel_rfl) (fun _ _ _ h => h) (by rfl) ?_ ?_
                rotate_left
                · (intro W hSw; have hcW := hSw.cells; try simp only [World.size_drew, World.cell?_drew] at hcW
                   go_simp; first | done | rfl)
                try simp only [Act.put, List.setIfInBounds_toArray, List.set_cons_zero, List.set_cons_succ]
                -- 5 Op.move (Operand.tmp 7)
                refine wpMono_take' 5 (v := ?_) rfl (by kernel_rfl) (by kernel_rfl) (by kernel_rfl) (fun _ _ _ h => h) (by rfl) ?_ ?_
                rotate_left
                · (intro W hSw; have hcW := hSw.cells; try simp only [World.size_drew, World.cell?_drew] at hcW
                   go_simp; first | done | rfl)
                try simp only [Act.put, List.setIfInBounds_toArray, List.set_cons_zero, List.set_cons_succ]
                -- 6 Op.nilCheck (Operand.tmp 193)
                refine wpMono_take' 6 (v := ?_) rfl (by kernel_rfl) (by kernel_rfl) (by kernel_rfl) (fun _ _ _ h => h) (by rfl) ?_ ?_
                rotate_left
                · (intro W hSw; have hcW := hSw.cells; try simp only [World.size_drew, World.cell?_drew] at hcW
                   go_simp; first | done | rfl)
                try simp only [Act.put, List.setIfInBounds_toArray, List.set_cons_zero, List.set_cons_succ]
                -- 7 Op.fieldAddr 48 (Operand.tmp 194) 1
                refine wpMono_take' 7 (v := ?_) rfl (by kernel_rfl) (by kernel_rfl) (by kernel_rfl) (fun _ _ _ h => h) (by rfl) ?_ ?_
                rotate_left
                · (intro W hSw; have hcW := hSw.cells; try simp only [World.size_drew, World.cell?_drew] at hcW
                   go_simp; first | done | rfl)
                try simp only [Act.put, List.setIfInBounds_toArray, List.set_cons_zero, List.set_cons_succ]
                -- 8 Op.load 45 (Operand.tmp 195)
                refine wpMono_take' 8 (v := ?_) rfl (by kernel_rfl) (by kernel_rfl) (by kernel_rfl) (fun _ _ _ h => h) (by rfl) ?_ ?_
                rotate_left
                · (intro W hSw; have hcW := hSw.cells; try simp only [World.size_drew, World.cell?_drew] at hcW
                   go_simp; first | done | rfl)
                try simp only [Act.put, List.setIfInBounds_toArray, List.set_cons_zero, List.set_cons_succ]
                -- 9 Op.call { callee := Callee.builtin Builtin.len, args := #[Operand.tmp 196], argTypes := #[
                refine wpMono_take' 9 (v := ?_) rfl (by kernel_rfl) (by kernel_rfl) (by kernel_rfl) (fun _ _ _ h => h) (by rfl) ?_ ?_
                rotate_left
                · (intro W hSw; have hcW := hSw.cells; try simp only [World.size_drew, World.cell?_drew] at hcW
                   go_simp; first | done | rfl)
                try simp only [Act.put, List.setIfInBounds_toArray, List.set_cons_zero, List.set_cons_succ]
                -- EFFECT 4 Op.call { callee := Callee.value (Operand.func 17), args := #[Operand.tmp 191], argTypes := #[24] }
                refine wpMono_one' 4 (by kernel_rfl) rfl (by rfl) (fun K hK => ?_)
                go_simp
                refine (all_t B g bb cb (2 * (i + 1)) n Fx Cx Lx Wx _ HSd.out.net HSd.out.rel (by omega)).mono ?_
                rintro e wy ⟨rfl, hby⟩
                have hOy := HOx.out.drew.below hby HOx.out.drew.lt
                have q0 : wy.cell? ⟨wr.heap.size, 0, none⟩ = some (.int .i64 0) := hOy.cell 0
                have q1 : wy.cell? ⟨wr.heap.size, 1, none⟩ = some (.int .i64 a) := hOy.cell 1
                have q2 : wy.cell? ⟨wr.heap.size, 2, none⟩ = some (.int .i64 b) := hOy.cell 2
                have q3 : wy.cell? ⟨wr.heap.size, 3, none⟩ = some (.int .i64 x) := hOy.cell 3
                have q4 : wy.cell? ⟨wr.heap.size, 4, none⟩ = some (.string s) := hOy.cell 4
                have q5 := hOy.lt
                clear hOy
                refine hK.out _ _ ?_ ?_
                · exact .of_below hby
                clear hK K
                try simp only [Act.put, List.setIfInBounds_toArray, List.set_cons_zero, List.set_cons_succ]
                -- 10 Op.binOp BinOp.neq 3 (Operand.tmp 192) (Operand.tmp 197) 3
                refine wpMono_take' 10 (v := ?_) rfl (by kernel_rfl) (by kernel_rfl) (by kernel_rfl) (fun _ _ _ h => h) (by rfl) ?_ ?_
                rotate_left
                · (intro W hSw; have hcW := hSw.cells; try simp only [World.size_drew, World.cell?_drew] at hcW
                   go_simp; first | done | rfl)
                try simp only [Act.put, List.setIfInBounds_toArray, List.set_cons_zero, List.set_cons_succ]
                -- 11 Op.pick (Operand.tmp 190) (Operand.const (Value.bool true)) (Operand.tmp 198)
                refine wpMono_take' 11 (v := ?_) rfl (by kernel_rfl) (by kernel_rfl) (by kernel_rfl) (fun _ _ _ h => h) (by rfl) ?_ ?_
                rotate_left
                · (intro W hSw; have hcW := hSw.cells; try simp only [World.size_drew, World.cell?_drew] at hcW
                   go_simp; first | done | rfl)
                try simp only [Act.put, List.setIfInBounds_toArray, List.set_cons_zero, List.set_cons_succ]
                -- 12 Op.move (Operand.tmp 199)
                refine wpMono_take' 12 (v := ?_) rfl (by kernel_rfl) (by kernel_rfl) (by kernel_rfl) (fun _ _ _ h => h) (by rfl) ?_ ?_
                rotate_left
                · (intro W hSw; have hcW := hSw.cells; try simp only [World.size_drew, World.cell?_drew] at hcW
                   go_simp; first | done | rfl)
                try simp only [Act.put, List.setIfInBounds_toArray, List.set_cons_zero, List.set_cons_succ]
                -- 13 Op.move (Operand.tmp 5)
                refine wpMono_take' 13 (v := ?_) rfl (by kernel_rfl) (by kernel_rfl) (by kernel_rfl) (fun _ _ _ h => h) (by rfl) ?_ ?_
                rotate_left
                · (intro W hSw; have hcW := hSw.cells; try simp only [World.size_drew, World.cell?_drew] at hcW
                   go_simp; first | done | rfl)
                try simp only [Act.put, List.setIfInBounds_toArray, List.set_cons_zero, List.set_cons_succ]
                -- 14 Op.fieldAddr 30 (Operand.tmp 9) 1
                refine wpMono_take' 14 (v := ?_) rfl (by kernel_rfl) (by kernel_rfl) (by kernel_rfl) (fun _ _ _ h => h) (by rfl) ?_ ?_
                rotate_left
                · (intro W hSw; have hcW := hSw.cells; try simp only [World.size_drew, World.cell?_drew] at hcW
                   go_simp; first | done | rfl)
                try simp only [Act.put, List.setIfInBounds_toArray, List.set_cons_zero, List.set_cons_succ]
                -- 15 Op.load 3 (Operand.tmp 202)
                refine wpMono_take' 15 (v := ?_) rfl (by kernel_rfl) (by kernel_rfl) (by kernel_rfl) (fun _ _ _ h => h) (by rfl) ?_ ?_
                rotate_left
                · (intro W hSw; have hcW := hSw.cells; try simp only [World.size_drew, World.cell?_drew] at hcW
                   go_simp; first | done | rfl)
                try simp only [Act.put, List.setIfInBounds_toArray, List.set_cons_zero, List.set_cons_succ]
                -- 16 Op.fieldAddr 30 (Operand.tmp 9) 2
                refine wpMono_take' 16 (v := ?_) rfl (by kernel_rfl) (by kernel_rfl) (by kernel_rfl) (fun _ _ _ h => h) (by rfl) ?_ ?_
                rotate_left
                · (intro W hSw; have hcW := hSw.cells; try simp only [World.size_drew, World.cell?_drew] at hcW
                   go_simp; first | done | rfl)
                try simp only [Act.put, List.setIfInBounds_toArray, List.set_cons_zero, List.set_cons_succ]
                -- 17 Op.load 3 (Operand.tmp 204)
                refine wpMono_take' 17 (v := ?_) rfl (by kernel_rfl) (by kernel_rfl) (by kernel_rfl) (fun _ _ _ h => h) (by rfl) ?_ ?_
                rotate_left
                · (intro W hSw; have hcW := hSw.cells; try simp only [World.size_drew, World.cell?_drew] at hcW
                   go_simp; first | done | rfl)
                try simp only [Act.put, List.setIfInBounds_toArray, List.set_cons_zero, List.set_cons_succ]
                -- 19 Op.move (Operand.tmp 7)
                refine wpMono_take' 19 (v := ?_) rfl (by kernel_rfl) (by kernel_rfl) (by kernel_rfl) (fun _ _ _ h => h) (by rfl) ?_ ?_
                rotate_left
                · (intro W hSw; have hcW := hSw.cells; try simp only [World.size_drew, World.cell?_drew] at hcW
                   go_simp; first | done | rfl)
                try simp only [Act.put, List.setIfInBounds_toArray, List.set_cons_zero, List.set_cons_succ]
                -- 20 Op.fieldAddr 30 (Operand.tmp 9) 1
                refine wpMono_take' 20 (v := ?_) rfl (by kernel_rfl) (by kernel_rfl) (by kernel_rfl) (fun _ _ _ h => h) (by rfl) ?_ ?_
                rotate_left
                · (intro W hSw; have hcW := hSw.cells; try simp only [World.size_drew, World.cell?_drew] at hcW
                   go_simp; first | done | rfl)
                try simp only [Act.put, List.setIfInBounds_toArray, List.set_cons_zero, List.set_cons_succ]
                -- 21 Op.load 3 (Operand.tmp 208)
                refine wpMono_take' 21 (v := ?_) rfl (by kernel_rfl) (by kernel_rfl) (by kernel_rfl) (fun _ _ _ h => h) (by rfl) ?_ ?_
                rotate_left
                · (intro W hSw; have hcW := hSw.cells; try simp only [World.size_drew, World.cell?_drew] at hcW
                   go_simp; first | done | rfl)
                try simp only [Act.put, List.setIfInBounds_toArray, List.set_cons_zero, List.set_cons_succ]
                -- 22 Op.fieldAddr 30 (Operand.tmp 9) 2
                refine wpMono_take' 22 (v := ?_) rfl (by kernel_rfl) (by kernel_rfl) (by kernel_rfl) (fun _ _ _ h => h) (by rfl) ?_ ?_
                rotate_left
                · (intro W hSw; have hcW := hSw.cells; try simp only [World.size_drew, World.cell?_drew] at hcW
                   go_simp; first | done | rfl)
                try simp only [Act.put, List.setIfInBounds_toArray, List.set_cons_zero, List.set_cons_succ]
                -- 23 Op.load 3 (Operand.tmp 210)
                refine wpMono_take' 23 (v := ?_) rfl (by kernel_rfl) (by kernel_rfl) (by kernel_rfl) (fun _ _ _ h => h) (by rfl) ?_ ?_
                rotate_left
                · (intro W hSw; have hcW := hSw.cells; try simp only [World.size_drew, World.cell?_drew] at hcW
                   go_simp; first | done | rfl)
                try simp only [Act.put, List.setIfInBounds_toArray, List.set_cons_zero, List.set_cons_succ]
                -- EFFECT 18 Op.call { callee := Callee.value (Operand.func 13), args := #[Operand.tmp 201, Operand.tmp 203, Operand.tmp 205], argTypes := #[24, 3, 3] }
                refine wpMono_one' 18 (by kernel_rfl) rfl (by rfl) (fun K hK => ?_)
                go_simp
                refine (count_t B g bb cb (2 * (i + 1)) n a b Fx Cx Lx Wx _ (HSd.out.below hby).net HSd.out.rel Hok.out).mono ?_
                rintro e wz ⟨rfl, rfl⟩
                refine hK.out _ _ ?_ ?_
                · exact .refl _ _
                clear hK K
                try simp only [Act.put, List.setIfInBounds_toArray, List.set_cons_zero, List.set_cons_succ]
                -- EFFECT 24 Op.call { callee := Callee.value (Operand.func 25), args := #[Operand.tmp 207, Operand.tmp 209, Operand.tmp 211], argTypes := #[44, 3, 3] }
                refine wpMono_one' 24 (by kernel_rfl) rfl (by rfl) (fun K hK => ?_)
                go_simp
                refine (count_x B rg n a b Lx Wx _ (HSd.out.below hby).ref (by omega)).mono ?_
                rintro e wu ⟨rfl, rfl⟩
                refine hK.out _ _ ?_ ?_
                · exact .refl _ _
                clear hK K
                try simp only [Act.put, List.setIfInBounds_toArray, List.set_cons_zero, List.set_cons_succ]
                -- 25 Op.binOp BinOp.neq 3 (Operand.tmp 206) (Operand.tmp 212) 3
                refine wpMono_take' 25 (v := ?_) rfl (by kernel_rfl) (by kernel_rfl) (by kernel_rfl) (fun _ _ _ h => h) (by rfl) ?_ ?_
                rotate_left
                · (intro W hSw; have hcW := hSw.cells; try simp only [World.size_drew, World.cell?_drew] at hcW
                   go_simp; first | done | rfl)
                try simp only [Act.put, List.setIfInBounds_toArray, List.set_cons_zero, List.set_cons_succ]
                -- 26 Op.pick (Operand.tmp 200) (Operand.const (Value.bool true)) (Operand.tmp 213)
                refine wpMono_take' 26 (v := ?_) rfl (by kernel_rfl) (by kernel_rfl) (by kernel_rfl) (fun _ _ _ h => h) (by rfl) ?_ ?_
                rotate_left
                · (intro W hSw; have hcW := hSw.cells; try simp only [World.size_drew, World.cell?_drew] at hcW
                   go_simp; first | done | rfl)
                try simp only [Act.put, List.setIfInBounds_toArray, List.set_cons_zero, List.set_cons_succ]
                refine wpMono_done (by kernel_rfl) ?_ _
                have HSy := Lib.hid (HSd.out.below hby)
                have Hby := Lib.hid ((below_drewN Hbx.out 1).trans (hby.mono (by have := (below_drewN Hbx.out 1).size; omega)))
                clear hby HSd HSx
                go_wp2
                go_roundw
                case rel => exact ⟨i + 1, Fx, Cx, Lx, Wx, by omega, by omega, by go_num, HSy.out, Hby.out⟩
                case measure => simp [intOf]; omega
            · by_cases hk1 : k = 1
              · subst hk1
                as_aux_lemma =>
                  go_wp2_with fail
                  generalize wr.alloc (.cells #[.int .i64 1, .int .i64 a, .int .i64 b, .int .i64 x, .string s] 30) = W at *
                  refine (take_t B g bb cb (2 * i) n a b x F C L Ws _ HS.out.net HS.out.rel Hok.out).mono ?_
                  rintro e w3 ⟨rfl, hN3, hB3, hk3⟩
                  have hO3 := hk3.blk HO.out (by simp [netP])
                  have q0 : w3.cell? ⟨wr.heap.size, 0, none⟩ = some (.int .i64 1) := hO3.cell 0
                  have q1 : w3.cell? ⟨wr.heap.size, 1, none⟩ = some (.int .i64 a) := hO3.cell 1
                  have q2 : w3.cell? ⟨wr.heap.size, 2, none⟩ = some (.int .i64 b) := hO3.cell 2
                  have q3 : w3.cell? ⟨wr.heap.size, 3, none⟩ = some (.int .i64 x) := hO3.cell 3
                  have q4 : w3.cell? ⟨wr.heap.size, 4, none⟩ = some (.string s) := hO3.cell 4
                  have q5 := hO3.lt
                  clear hO3
                  go_wp2_with fail
                  refine (take_x B rg n a b x L Ws _ (HS.out.ref.net hk3) (by omega) (by omega)).mono ?_
                  rintro e w4 ⟨rfl, hR4⟩
                  have HSx := Lib.hid (Sta.both (NetT.more hN3 (by omega : _ ≤ 2 * (i + 1))) hR4 (rel_take HS.out.rel (a, b) x).2.2 (by have := takeL_le L Ws (a, b) x; omega) (by omega))
                  have HOx := Lib.hid (hR4.2.2.blk (hk3.blk HO.out (by simp [netP])) (by simp [refP]))
                  have Hbx := Lib.hid ((Hbw.out.trans (hB3.mono hwB)).trans (hR4.2.1.mono hwB))
                  generalize takeF n F C (a, b) x = Fx at HSx
                  generalize C = Cx at HSx
                  generalize takeL L Ws (a, b) x = Lx at HSx
                  generalize Ws = Wx at HSx
                  clear hN3 hR4 hB3 hk3
                  clear q0 q1 q2 q3 q4 q5 HS HO Hbw
                  have hSd := HSx.out.below (below_drewN (Below.refl _ _) 1 : Below w4.heap.size w4 w4.drew)
                  have HSd := Lib.hid hSd
                  obtain ⟨A1, e1, A2, e2, hRf⟩ := HSx.out.ref
                  have hO := HOx.out
                  have q0 : w4.cell? ⟨wr.heap.size, 0, none⟩ = some (.int .i64 1) := hO.cell 0
                  have q1 : w4.cell? ⟨wr.heap.size, 1, none⟩ = some (.int .i64 a) := hO.cell 1
                  have q2 : w4.cell? ⟨wr.heap.size, 2, none⟩ = some (.int .i64 b) := hO.cell 2
                  have q3 : w4.cell? ⟨wr.heap.size, 3, none⟩ = some (.int .i64 x) := hO.cell 3
                  have q4 : w4.cell? ⟨wr.heap.size, 4, none⟩ = some (.string s) := hO.cell 4
                  have q5 := hO.lt
                  have r1 : w4.cell? ⟨rg, 1, none⟩ = some (.slice A1 Lx.length e1) := hRf.blk.cell 1
                  have r2 := hRf.blk.lt
                  have hLx := HSx.out.hL
                  have hWx := HSx.out.hW
                  clear hO hRf hSd
                  go_wp2_with fail
                  refine wp_region_mono nobody (by kernel_rfl) ?_
                  -- 0 Op.move (Operand.tmp 10)
                  refine wpMono_take' 0 (v := ?_) rfl (by kernel_rfl) (by kernel_rfl) (by kernel_rfl) (fun _ _ _ h => h) (by rfl) ?_ ?_
                  rotate_left
                  · (intro W hSw; have hcW := hSw.cells; try simp only [World.size_drew, World.cell?_drew] at hcW
                     go_simp; first | done | rfl)
                  try simp only [Act.put, List.setIfInBounds_toArray, List.set_cons_zero, List.set_cons_succ]
                  -- 1 Op.unOp UnOp.not 4 (Operand.tmp 188)
                  refine wpMono_take' 1 (v := ?_) rfl (by kernel_rfl) (by kernel_rfl) (by kernel_rfl) (fun _ _ _ h => h) (by rfl) ?_ ?_
                  rotate_left
                  · (intro W hSw; have hcW := hSw.cells; try simp only [World.size_drew, World.cell?_drew] at hcW
                     go_simp; first | done | rfl)
                  try simp only [Act.put, List.setIfInBounds_toArray, List.set_cons_zero, List.set_cons_succ]
                  -- 2 Op.move (Operand.tmp 189)
                  refine wpMono_take' 2 (v := ?_) rfl (by kernel_rfl) (by kernel_rfl) (by kernel_rfl) (fun _ _ _ h => h) (by rfl) ?_ ?_
                  rotate_left
                  · (intro W hSw; have hcW := hSw.cells; try simp only [World.size_drew, World.cell?_drew] at hcW
                     go_simp; first | done | rfl)
                  try simp only [Act.put, List.setIfInBounds_toArray, List.set_cons_zero, List.set_cons_succ]
                  -- 3 Op.move (Operand.tmp 5)
                  refine wpMono_take' 3 (v := ?_) rfl (by kernel_rfl) (by kernel_rfl) (by kernel_rfl) (fun _ _ _ h => h) (by rfl) ?_ ?_
                  rotate_left
                  · (intro W hSw; have hcW := hSw.cells; try simp only [World.size_drew, World.cell?_drew] at hcW
                     go_simp; first | done | rfl)
                  try simp only [Act.put, List.setIfInBounds_toArray, List.set_cons_zero, List.set_cons_succ]
                  -- 5 Op.move (Operand.tmp 7)
                  refine wpMono_take' 5 (v := ?_) rfl (by kernel_rfl) (by kernel_rfl) (by kernel_rfl) (fun _ _ _ h => h) (by rfl) ?_ ?_
                  rotate_left
                  · (intro W hSw; have hcW := hSw.cells; try simp only [World.size_drew, World.cell?_drew] at hcW
                     go_simp; first | done | rfl)
                  try simp only [Act.put, List.setIfInBounds_toArray, List.set_cons_zero, List.set_cons_succ]
                  -- 6 Op.nilCheck (Operand.tmp 193)
                  refine wpMono_take' 6 (v := ?_) rfl (by kernel_rfl) (by kernel_rfl) (by kernel_rfl) (fun _ _ _ h => h) (by rfl) ?_ ?_
                  rotate_left
                  · (intro W hSw; have hcW := hSw.cells; try simp only [World.size_drew, World.cell?_drew] at hcW
                     go_simp; first | done | rfl)
                  try simp only [Act.put, List.setIfInBounds_toArray, List.set_cons_zero, List.set_cons_succ]
                  -- 7 Op.fieldAddr 48 (Operand.tmp 194) 1
                  refine wpMono_take' 7 (v := ?_) rfl (by kernel_rfl) (by kernel_rfl) (by kernel_rfl) (fun _ _ _ h => h) (by rfl) ?_ ?_
                  rotate_left
                  · (intro W hSw; have hcW := hSw.cells; try simp only [World.size_drew, World.cell?_drew] at hcW
                     go_simp; first | done | rfl)
                  try simp only [Act.put, List.setIfInBounds_toArray, List.set_cons_zero, List.set_cons_succ]
                  -- 8 Op.load 45 (Operand.tmp 195)
                  refine wpMono_take' 8 (v := ?_) rfl (by kernel_rfl) (by kernel_rfl) (by kernel_rfl) (fun _ _ _ h => h) (by rfl) ?_ ?_
                  rotate_left
                  · (intro W hSw; have hcW := hSw.cells; try simp only [World.size_drew, World.cell?_drew] at hcW
                     go_simp; first | done | rfl)
                  try simp only [Act.put, List.setIfInBounds_toArray, List.set_cons_zero, List.set_cons_succ]
                  -- 9 Op.call { callee := Callee.builtin Builtin.len, args := #[Operand.tmp 196], argTypes := #[
                  refine wpMono_take' 9 (v := ?_) rfl (by kernel_rfl) (by kernel_rfl) (by kernel_rfl) (fun _ _ _ h => h) (by rfl) ?_ ?_
                  rotate_left
                  · (intro W hSw; have hcW := hSw.cells; try simp only [World.size_drew, World.cell?_drew] at hcW
                     go_simp; first | done | rfl)
                  try simp only [Act.put, List.setIfInBounds_toArray, List.set_cons_zero, List.set_cons_succ]
                  -- EFFECT 4 Op.call { callee := Callee.value (Operand.func 17), args := #[Operand.tmp 191], argTypes := #[24] }
                  refine wpMono_one' 4 (by kernel_rfl) rfl (by rfl) (fun K hK => ?_)
                  go_simp
                  refine (all_t B g bb cb (2 * (i + 1)) n Fx Cx Lx Wx _ HSd.out.net HSd.out.rel (by omega)).mono ?_
                  rintro e wy ⟨rfl, hby⟩
                  have hOy := HOx.out.drew.below hby HOx.out.drew.lt
                  have q0 : wy.cell? ⟨wr.heap.size, 0, none⟩ = some (.int .i64 1) := hOy.cell 0
                  have q1 : wy.cell? ⟨wr.heap.size, 1, none⟩ = some (.int .i64 a) := hOy.cell 1
                  have q2 : wy.cell? ⟨wr.heap.size, 2, none⟩ = some (.int .i64 b) := hOy.cell 2
                  have q3 : wy.cell? ⟨wr.heap.size, 3, none⟩ = some (.int .i64 x) := hOy.cell 3
                  have q4 : wy.cell? ⟨wr.heap.size, 4, none⟩ = some (.string s) := hOy.cell 4
                  have q5 := hOy.lt
                  clear hOy
                  refine hK.out _ _ ?_ ?_
                  · exact .of_below hby
                  clear hK K
                  try simp only [Act.put, List.setIfInBounds_toArray, List.set_cons_zero, List.set_cons_succ]
                  -- 10 Op.binOp BinOp.neq 3 (Operand.tmp 192) (Operand.tmp 197) 3
                  refine wpMono_take' 10 (v := ?_) rfl (by kernel_rfl) (by kernel_rfl) (by kernel_rfl) (fun _ _ _ h => h) (by rfl) ?_ ?_
                  rotate_left
                  · (intro W hSw; have hcW := hSw.cells; try simp only [World.size_drew, World.cell?_drew] at hcW
                     go_simp; first | done | rfl)
                  try simp only [Act.put, List.setIfInBounds_toArray, List.set_cons_zero, List.set_cons_succ]
                  -- 11 Op.pick (Operand.tmp 190) (Operand.const (Value.bool true)) (Operand.tmp 198)
                  refine wpMono_take' 11 (v := ?_) rfl (by kernel_rfl) (by kernel_rfl) (by kernel_rfl) (fun _ _ _ h => h) (by rfl) ?_ ?_
                  rotate_left
                  · (intro W hSw; have hcW := hSw.cells; try simp only [World.size_drew, World.cell?_drew] at hcW
                     go_simp; first | done | rfl)
                  try simp only [Act.put, List.setIfInBounds_toArray, List.set_cons_zero, List.set_cons_succ]
                  -- 12 Op.move (Operand.tmp 199)
                  refine wpMono_take' 12 (v := ?_) rfl (by kernel_rfl) (by kernel_rfl) (by kernel_rfl) (fun _ _ _ h => h) (by rfl) ?_ ?_
                  rotate_left
                  · (intro W hSw; have hcW := hSw.cells; try simp only [World.size_drew, World.cell?_drew] at hcW
                     go_simp; first | done | rfl)
                  try simp only [Act.put, List.setIfInBounds_toArray, List.set_cons_zero, List.set_cons_succ]
                  -- 13 Op.move (Operand.tmp 5)
                  refine wpMono_take' 13 (v := ?_) rfl (by kernel_rfl) (by kernel_rfl) (by kernel_rfl) (fun _ _ _ h => h) (by rfl) ?_ ?_
                  rotate_left
                  · (intro W hSw; have hcW := hSw.cells; try simp only [World.size_drew, World.cell?_drew] at hcW
                     go_simp; first | done | rfl)
                  try simp only [Act.put, List.setIfInBounds_toArray, List.set_cons_zero, List.set_cons_succ]
                  -- 14 Op.fieldAddr 30 (Operand.tmp 9) 1
                  refine wpMono_take' 14 (v := ?_) rfl (by kernel_rfl) (by kernel_rfl) (by kernel_rfl) (fun _ _ _ h => h) (by rfl) ?_ ?_
                  rotate_left
                  · (intro W hSw; have hcW := hSw.cells; try simp only [World.size_drew, World.cell?_drew] at hcW
                     go_simp; first | done | rfl)
                  try simp only [Act.put, List.setIfInBounds_toArray, List.set_cons_zero, List.set_cons_succ]
                  -- 15 Op.load 3 (Operand.tmp 202)
                  refine wpMono_take' 15 (v := ?_) rfl (by kernel_rfl) (by kernel_rfl) (by kernel_rfl) (fun _ _ _ h => h) (by rfl) ?_ ?_
                  rotate_left
                  · (intro W hSw; have hcW := hSw.cells; try simp only [World.size_drew, World.cell?_drew] at hcW
                     go_simp; first | done | rfl)
                  try simp only [Act.put, List.setIfInBounds_toArray, List.set_cons_zero, List.set_cons_succ]
                  -- 16 Op.fieldAddr 30 (Operand.tmp 9) 2
                  refine wpMono_take' 16 (v := ?_) rfl (by kernel_rfl) (by kernel_rfl) (by kernel_rfl) (fun _ _ _ h => h) (by rfl) ?_ ?_
                  rotate_left
                  · (intro W hSw; have hcW := hSw.cells; try simp only [World.size_drew, World.cell?_drew] at hcW
                     go_simp; first | done | rfl)
                  try simp only [Act.put, List.setIfInBounds_toArray, List.set_cons_zero, List.set_cons_succ]
                  -- 17 Op.load 3 (Operand.tmp 204)
                  refine wpMono_take' 17 (v := ?_) rfl (by kernel_rfl) (by kernel_rfl) (by kernel_rfl) (fun _ _ _ h => h) (by rfl) ?_ ?_
                  rotate_left
                  · (intro W hSw; have hcW := hSw.cells; try simp only [World.size_drew, World.cell?_drew] at hcW
                     go_simp; first | done | rfl)
                  try simp only [Act.put, List.setIfInBounds_toArray, List.set_cons_zero, List.set_cons_succ]
                  -- 19 Op.move (Operand.tmp 7)
                  refine wpMono_take' 19 (v := ?_) rfl (by kernel_rfl) (by kernel_rfl) (by kernel_rfl) (fun _ _ _ h => h) (by rfl) ?_ ?_
                  rotate_left
                  · (intro W hSw; have hcW := hSw.cells; try simp only [World.size_drew, World.cell?_drew] at hcW
                     go_simp; first | done | rfl)
                  try simp only [Act.put, List.setIfInBounds_toArray, List.set_cons_zero, List.set_cons_succ]
                  -- 20 Op.fieldAddr 30 (Operand.tmp 9) 1
                  refine wpMono_take' 20 (v := ?_) rfl (by kernel_rfl) (by kernel_rfl) (by kernel_rfl) (fun _ _ _ h => h) (by rfl) ?_ ?_
                  rotate_left
                  · (intro W hSw; have hcW := hSw.cells; try simp only [World.size_drew, World.cell?_drew] at hcW
                     go_simp; first | done | rfl)
                  try simp only [Act.put, List.setIfInBounds_toArray, List.set_cons_zero, List.set_cons_succ]
                  -- 21 Op.load 3 (Operand.tmp 208)
                  refine wpMono_take' 21 (v := ?_) rfl (by kernel_rfl) (by kernel_rfl) (by kernel_rfl) (fun _ _ _ h => h) (by rfl) ?_ ?_
                  rotate_left
                  · (intro W hSw; have hcW := hSw.cells; try simp only [World.size_drew, World.cell?_drew] at hcW
                     go_simp; first | done | rfl)
                  try simp only [Act.put, List.setIfInBounds_toArray, List.set_cons_zero, List.set_cons_succ]
                  -- 22 Op.fieldAddr 30 (Operand.tmp 9) 2
                  refine wpMono_take' 22 (v := ?_) rfl (by kernel_rfl) (by kernel_rfl) (by kernel_rfl) (fun _ _ _ h => h) (by rfl) ?_ ?_
                  rotate_left
                  · (intro W hSw; have hcW := hSw.cells; try simp only [World.size_drew, World.cell?_drew] at hcW
                     go_simp; first | done | rfl)
                  try simp only [Act.put, List.setIfInBounds_toArray, List.set_cons_zero, List.set_cons_succ]
                  -- 23 Op.load 3 (Operand.tmp 210)
                  refine wpMono_take' 23 (v := ?_) rfl (by kernel_rfl) (by kernel_rfl) (by kernel_rfl) (fun _ _ _ h => h) (by rfl) ?_ ?_
                  rotate_left
                  · (intro W hSw; have hcW := hSw.cells; try simp only [World.size_drew, World.cell?_drew] at hcW
                     go_simp; first | done | rfl)
                  try simp only [Act.put, List.setIfInBounds_toArray, List.set_cons_zero, List.set_cons_succ]
                  -- EFFECT 18 Op.call { callee := Callee.value (Operand.func 13), args := #[Operand.tmp 201, Operand.tmp 203, Operand.tmp 205], argTypes := #[24, 3, 3] }
                  refine wpMono_one' 18 (by kernel_rfl) rfl (by rfl) (fun K hK => ?_)
                  go_simp
                  refine (count_t B g bb cb (2 * (i + 1)) n a b Fx Cx Lx Wx _ (HSd.out.below hby).net HSd.out.rel Hok.out).mono ?_
                  rintro e wz ⟨rfl, rfl⟩
                  refine hK.out _ _ ?_ ?_
                  · exact .refl _ _
                  clear hK K
                  try simp only [Act.put, List.setIfInBounds_toArray, List.set_cons_zero, List.set_cons_succ]
                  -- EFFECT 24 Op.call { callee := Callee.value (Operand.func 25), args := #[Operand.tmp 207, Operand.tmp 209, Operand.tmp 211], argTypes := #[44, 3, 3] }
                  refine wpMono_one' 24 (by kernel_rfl) rfl (by rfl) (fun K hK => ?_)
                  go_simp
                  refine (count_x B rg n a b Lx Wx _ (HSd.out.below hby).ref (by omega)).mono ?_
                  rintro e wu ⟨rfl, rfl⟩
                  refine hK.out _ _ ?_ ?_
                  · exact .refl _ _
                  clear hK K
                  try simp only [Act.put, List.setIfInBounds_toArray, List.set_cons_zero, List.set_cons_succ]
                  -- 25 Op.binOp BinOp.neq 3 (Operand.tmp 206) (Operand.tmp 212) 3
                  refine wpMono_take' 25 (v := ?_) rfl (by kernel_rfl) (by kernel_rfl) (by kernel_rfl) (fun _ _ _ h => h) (by rfl) ?_ ?_
                  rotate_left
                  · (intro W hSw; have hcW := hSw.cells; try simp only [World.size_drew, World.cell?_drew] at hcW
                     go_simp; first | done | rfl)
                  try simp only [Act.put, List.setIfInBounds_toArray, List.set_cons_zero, List.set_cons_succ]
                  -- 26 Op.pick (Operand.tmp 200) (Operand.const (Value.bool true)) (Operand.tmp 213)
                  refine wpMono_take' 26 (v := ?_) rfl (by kernel_rfl) (by kernel_rfl) (by kernel_rfl) (fun _ _ _ h => h) (by rfl) ?_ ?_
                  rotate_left
                  · (intro W hSw; have hcW := hSw.cells; try simp only [World.size_drew, World.cell?_drew] at hcW
                     go_simp; first | done | rfl)
                  try simp only [Act.put, List.setIfInBounds_toArray, List.set_cons_zero, List.set_cons_succ]
                  refine wpMono_done (by kernel_rfl) ?_ _
                  have HSy := Lib.hid (HSd.out.below hby)
                  have Hby := Lib.hid ((below_drewN Hbx.out 1).trans (hby.mono (by have := (below_drewN Hbx.out 1).size; omega)))
                  clear hby HSd HSx
                  go_wp2
                  go_roundw
                  case rel => exact ⟨i + 1, Fx, Cx, Lx, Wx, by omega, by omega, by go_num, HSy.out, Hby.out⟩
                  case measure => simp [intOf]; omega
              · by_cases hk2 : k = 2
                · subst hk2
                  as_aux_lemma =>
                    go_wp2_with fail
                    generalize wr.alloc (.cells #[.int .i64 2, .int .i64 a, .int .i64 b, .int .i64 x, .string s] 30) = W at *
                    have hOd := HO.out.drew
                    have HOd := Lib.hid hOd
                    have q0 : W.drew.cell? ⟨wr.heap.size, 0, none⟩ = some (.int .i64 2) := hOd.cell 0
                    have q1 : W.drew.cell? ⟨wr.heap.size, 1, none⟩ = some (.int .i64 a) := hOd.cell 1
                    have q2 : W.drew.cell? ⟨wr.heap.size, 2, none⟩ = some (.int .i64 b) := hOd.cell 2
                    have q3 : W.drew.cell? ⟨wr.heap.size, 3, none⟩ = some (.int .i64 x) := hOd.cell 3
                    have q4 : W.drew.cell? ⟨wr.heap.size, 4, none⟩ = some (.string s) := hOd.cell 4
                    have q5 := hOd.lt
                    have HSd := Lib.hid (HS.out.below (below_drewN (Below.refl _ _) 1 : Below W.heap.size W W.drew))
                    have Hbd := Lib.hid (below_drewN Hbw.out 1)
                    have Hq := Lib.hid q5
                    have Hx := Lib.hid (op_not hOd)
                    clear hOd
                    refine wp_region_mono (bothX W.drew) (by kernel_rfl) ?_
                    -- 0 Op.move (Operand.tmp 5)
                    refine wpMono_take' 0 (v := ?_) rfl (by kernel_rfl) (by kernel_rfl) (by kernel_rfl) (fun _ _ _ h => h) (by rfl) ?_ ?_
                    rotate_left
                    · (intro W hSw; try (have e1 := (hSw.cell 1 Hq.out Hx.out).trans q1; have e2 := (hSw.cell 2 Hq.out Hx.out).trans q2; have e3 := (hSw.cell 3 Hq.out Hx.out).trans q3; have e4 := (hSw.cell 4 Hq.out Hx.out).trans q4; have e5 := Nat.lt_of_lt_of_le Hq.out hSw.size)
                       go_simp; first | done | rfl)
                    try simp only [Act.put, List.setIfInBounds_toArray, List.set_cons_zero, List.set_cons_succ]
                    -- 1 Op.fieldAddr 30 (Operand.tmp 9) 1
                    refine wpMono_take' 1 (v := ?_) rfl (by kernel_rfl) (by kernel_rfl) (by kernel_rfl) (fun _ _ _ h => h) (by rfl) ?_ ?_
                    rotate_left
                    · (intro W hSw; try (have e1 := (hSw.cell 1 Hq.out Hx.out).trans q1; have e2 := (hSw.cell 2 Hq.out Hx.out).trans q2; have e3 := (hSw.cell 3 Hq.out Hx.out).trans q3; have e4 := (hSw.cell 4 Hq.out Hx.out).trans q4; have e5 := Nat.lt_of_lt_of_le Hq.out hSw.size)
                       go_simp; first | done | rfl)
                    try simp only [Act.put, List.setIfInBounds_toArray, List.set_cons_zero, List.set_cons_succ]
                    -- 2 Op.load 3 (Operand.tmp 118)
                    refine wpMono_take' 2 (v := ?_) rfl (by kernel_rfl) (by kernel_rfl) (by kernel_rfl) (fun _ _ _ h => h) (by rfl) ?_ ?_
                    rotate_left
                    · (intro W hSw; try (have e1 := (hSw.cell 1 Hq.out Hx.out).trans q1; have e2 := (hSw.cell 2 Hq.out Hx.out).trans q2; have e3 := (hSw.cell 3 Hq.out Hx.out).trans q3; have e4 := (hSw.cell 4 Hq.out Hx.out).trans q4; have e5 := Nat.lt_of_lt_of_le Hq.out hSw.size)
                       go_simp; first | done | rfl)
                    try simp only [Act.put, List.setIfInBounds_toArray, List.set_cons_zero, List.set_cons_succ]
                    -- 3 Op.fieldAddr 30 (Operand.tmp 9) 2
                    refine wpMono_take' 3 (v := ?_) rfl (by kernel_rfl) (by kernel_rfl) (by kernel_rfl) (fun _ _ _ h => h) (by rfl) ?_ ?_
                    rotate_left
                    · (intro W hSw; try (have e1 := (hSw.cell 1 Hq.out Hx.out).trans q1; have e2 := (hSw.cell 2 Hq.out Hx.out).trans q2; have e3 := (hSw.cell 3 Hq.out Hx.out).trans q3; have e4 := (hSw.cell 4 Hq.out Hx.out).trans q4; have e5 := Nat.lt_of_lt_of_le Hq.out hSw.size)
                       go_simp; first | done | rfl)
                    try simp only [Act.put, List.setIfInBounds_toArray, List.set_cons_zero, List.set_cons_succ]
                    -- 4 Op.load 3 (Operand.tmp 120)
                    refine wpMono_take' 4 (v := ?_) rfl (by kernel_rfl) (by kernel_rfl) (by kernel_rfl) (fun _ _ _ h => h) (by rfl) ?_ ?_
                    rotate_left
                    · (intro W hSw; try (have e1 := (hSw.cell 1 Hq.out Hx.out).trans q1; have e2 := (hSw.cell 2 Hq.out Hx.out).trans q2; have e3 := (hSw.cell 3 Hq.out Hx.out).trans q3; have e4 := (hSw.cell 4 Hq.out Hx.out).trans q4; have e5 := Nat.lt_of_lt_of_le Hq.out hSw.size)
                       go_simp; first | done | rfl)
                    try simp only [Act.put, List.setIfInBounds_toArray, List.set_cons_zero, List.set_cons_succ]
                    -- 5 Op.fieldAddr 30 (Operand.tmp 9) 3
                    refine wpMono_take' 5 (v := ?_) rfl (by kernel_rfl) (by kernel_rfl) (by kernel_rfl) (fun _ _ _ h => h) (by rfl) ?_ ?_
                    rotate_left
                    · (intro W hSw; try (have e1 := (hSw.cell 1 Hq.out Hx.out).trans q1; have e2 := (hSw.cell 2 Hq.out Hx.out).trans q2; have e3 := (hSw.cell 3 Hq.out Hx.out).trans q3; have e4 := (hSw.cell 4 Hq.out Hx.out).trans q4; have e5 := Nat.lt_of_lt_of_le Hq.out hSw.size)
                       go_simp; first | done | rfl)
                    try simp only [Act.put, List.setIfInBounds_toArray, List.set_cons_zero, List.set_cons_succ]
                    -- 6 Op.load 3 (Operand.tmp 122)
                    refine wpMono_take' 6 (v := ?_) rfl (by kernel_rfl) (by kernel_rfl) (by kernel_rfl) (fun _ _ _ h => h) (by rfl) ?_ ?_
                    rotate_left
                    · (intro W hSw; try (have e1 := (hSw.cell 1 Hq.out Hx.out).trans q1; have e2 := (hSw.cell 2 Hq.out Hx.out).trans q2; have e3 := (hSw.cell 3 Hq.out Hx.out).trans q3; have e4 := (hSw.cell 4 Hq.out Hx.out).trans q4; have e5 := Nat.lt_of_lt_of_le Hq.out hSw.size)
                       go_simp; first | done | rfl)
                    try simp only [Act.put, List.setIfInBounds_toArray, List.set_cons_zero, List.set_cons_succ]
                    -- 8 Op.move (Operand.tmp 7)
                    refine wpMono_take' 8 (v := ?_) rfl (by kernel_rfl) (by kernel_rfl) (by kernel_rfl) (fun _ _ _ h => h) (by rfl) ?_ ?_
                    rotate_left
                    · (intro W hSw; try (have e1 := (hSw.cell 1 Hq.out Hx.out).trans q1; have e2 := (hSw.cell 2 Hq.out Hx.out).trans q2; have e3 := (hSw.cell 3 Hq.out Hx.out).trans q3; have e4 := (hSw.cell 4 Hq.out Hx.out).trans q4; have e5 := Nat.lt_of_lt_of_le Hq.out hSw.size)
                       go_simp; first | done | rfl)
                    try simp only [Act.put, List.setIfInBounds_toArray, List.set_cons_zero, List.set_cons_succ]
                    -- 9 Op.fieldAddr 30 (Operand.tmp 9) 1
                    refine wpMono_take' 9 (v := ?_) rfl (by kernel_rfl) (by kernel_rfl) (by kernel_rfl) (fun _ _ _ h => h) (by rfl) ?_ ?_
                    rotate_left
                    · (intro W hSw; try (have e1 := (hSw.cell 1 Hq.out Hx.out).trans q1; have e2 := (hSw.cell 2 Hq.out Hx.out).trans q2; have e3 := (hSw.cell 3 Hq.out Hx.out).trans q3; have e4 := (hSw.cell 4 Hq.out Hx.out).trans q4; have e5 := Nat.lt_of_lt_of_le Hq.out hSw.size)
                       go_simp; first | done | rfl)
                    try simp only [Act.put, List.setIfInBounds_toArray, List.set_cons_zero, List.set_cons_succ]
                    -- 10 Op.load 3 (Operand.tmp 126)
                    refine wpMono_take' 10 (v := ?_) rfl (by kernel_rfl) (by kernel_rfl) (by kernel_rfl) (fun _ _ _ h => h) (by rfl) ?_ ?_
                    rotate_left
                    · (intro W hSw; try (have e1 := (hSw.cell 1 Hq.out Hx.out).trans q1; have e2 := (hSw.cell 2 Hq.out Hx.out).trans q2; have e3 := (hSw.cell 3 Hq.out Hx.out).trans q3; have e4 := (hSw.cell 4 Hq.out Hx.out).trans q4; have e5 := Nat.lt_of_lt_of_le Hq.out hSw.size)
                       go_simp; first | done | rfl)
                    try simp only [Act.put, List.setIfInBounds_toArray, List.set_cons_zero, List.set_cons_succ]
                    -- 11 Op.fieldAddr 30 (Operand.tmp 9) 2
                    refine wpMono_take' 11 (v := ?_) rfl (by kernel_rfl) (by kernel_rfl) (by kernel_rfl) (fun _ _ _ h => h) (by rfl) ?_ ?_
                    rotate_left
                    · (intro W hSw; try (have e1 := (hSw.cell 1 Hq.out Hx.out).trans q1; have e2 := (hSw.cell 2 Hq.out Hx.out).trans q2; have e3 := (hSw.cell 3 Hq.out Hx.out).trans q3; have e4 := (hSw.cell 4 Hq.out Hx.out).trans q4; have e5 := Nat.lt_of_lt_of_le Hq.out hSw.size)
                       go_simp; first | done | rfl)
                    try simp only [Act.put, List.setIfInBounds_toArray, List.set_cons_zero, List.set_cons_succ]
                    -- 12 Op.load 3 (Operand.tmp 128)
                    refine wpMono_take' 12 (v := ?_) rfl (by kernel_rfl) (by kernel_rfl) (by kernel_rfl) (fun _ _ _ h => h) (by rfl) ?_ ?_
                    rotate_left
                    · (intro W hSw; try (have e1 := (hSw.cell 1 Hq.out Hx.out).trans q1; have e2 := (hSw.cell 2 Hq.out Hx.out).trans q2; have e3 := (hSw.cell 3 Hq.out Hx.out).trans q3; have e4 := (hSw.cell 4 Hq.out Hx.out).trans q4; have e5 := Nat.lt_of_lt_of_le Hq.out hSw.size)
                       go_simp; first | done | rfl)
                    try simp only [Act.put, List.setIfInBounds_toArray, List.set_cons_zero, List.set_cons_succ]
                    -- 13 Op.fieldAddr 30 (Operand.tmp 9) 3
                    refine wpMono_take' 13 (v := ?_) rfl (by kernel_rfl) (by kernel_rfl) (by kernel_rfl) (fun _ _ _ h => h) (by rfl) ?_ ?_
                    rotate_left
                    · (intro W hSw; try (have e1 := (hSw.cell 1 Hq.out Hx.out).trans q1; have e2 := (hSw.cell 2 Hq.out Hx.out).trans q2; have e3 := (hSw.cell 3 Hq.out Hx.out).trans q3; have e4 := (hSw.cell 4 Hq.out Hx.out).trans q4; have e5 := Nat.lt_of_lt_of_le Hq.out hSw.size)
                       go_simp; first | done | rfl)
                    try simp only [Act.put, List.setIfInBounds_toArray, List.set_cons_zero, List.set_cons_succ]
                    -- 14 Op.load 3 (Operand.tmp 130)
                    refine wpMono_take' 14 (v := ?_) rfl (by kernel_rfl) (by kernel_rfl) (by kernel_rfl) (fun _ _ _ h => h) (by rfl) ?_ ?_
                    rotate_left
                    · (intro W hSw; try (have e1 := (hSw.cell 1 Hq.out Hx.out).trans q1; have e2 := (hSw.cell 2 Hq.out Hx.out).trans q2; have e3 := (hSw.cell 3 Hq.out Hx.out).trans q3; have e4 := (hSw.cell 4 Hq.out Hx.out).trans q4; have e5 := Nat.lt_of_lt_of_le Hq.out hSw.size)
                       go_simp; first | done | rfl)
                    try simp only [Act.put, List.setIfInBounds_toArray, List.set_cons_zero, List.set_cons_succ]
                    -- EFFECT 7 Op.call { callee := Callee.value (Operand.func 11), args := #[Operand.tmp 117, Operand.tmp 119, Operand.tmp 121, Operand.tmp 123], argTypes 
                    refine wpMono_one' 7 (by kernel_rfl) rfl (by rfl) (fun K hK => ?_)
                    go_simp
                    refine (drop_t B g bb cb (2 * i) n a b x F C L Ws _ HSd.out.net HSd.out.rel Hok.out).mono ?_
                    rintro e w3 ⟨rfl, hN3, hB3, hk3⟩
                    have hO3 := hk3.blk HOd.out (by simp [netP])
                    have q0 : w3.cell? ⟨wr.heap.size, 0, none⟩ = some (.int .i64 2) := hO3.cell 0
                    have q1 : w3.cell? ⟨wr.heap.size, 1, none⟩ = some (.int .i64 a) := hO3.cell 1
                    have q2 : w3.cell? ⟨wr.heap.size, 2, none⟩ = some (.int .i64 b) := hO3.cell 2
                    have q3 : w3.cell? ⟨wr.heap.size, 3, none⟩ = some (.int .i64 x) := hO3.cell 3
                    have q4 : w3.cell? ⟨wr.heap.size, 4, none⟩ = some (.string s) := hO3.cell 4
                    have q5 := hO3.lt
                    have Hq := Lib.hid q5
                    clear hO3
                    refine hK.out _ _ ?_ ?_
                    · exact first hk3
                    clear hK K
                    try simp only [Act.put, List.setIfInBounds_toArray, List.set_cons_zero, List.set_cons_succ]
                    -- EFFECT 15 Op.call { callee := Callee.value (Operand.func 21), args := #[Operand.tmp 125, Operand.tmp 127, Operand.tmp 129, Operand.tmp 131], argTypes 
                    refine wpMono_one' 15 (by kernel_rfl) rfl (by rfl) (fun K hK => ?_)
                    go_simp
                    refine (drop_x B rg n a b x L Ws _ (HSd.out.ref.net hk3) (by omega)).mono ?_
                    rintro e w4 ⟨rfl, hR4⟩
                    refine hK.out _ _ ?_ ?_
                    · exact chain hk3 hR4.2.2
                    clear hK K
                    try simp only [Act.put, List.setIfInBounds_toArray, List.set_cons_zero, List.set_cons_succ]
                    -- 16 Op.binOp BinOp.eql 4 (Operand.tmp 124) (Operand.tmp 132) 4
                    refine wpMono_take' 16 (v := ?_) rfl (by kernel_rfl) (by kernel_rfl) (by kernel_rfl) (fun _ _ _ h => h) (by rfl) ?_ ?_
                    rotate_left
                    · (intro W hSw; try (have e1 := (hSw.cell 1 Hq.out Hx.out).trans q1; have e2 := (hSw.cell 2 Hq.out Hx.out).trans q2; have e3 := (hSw.cell 3 Hq.out Hx.out).trans q3; have e4 := (hSw.cell 4 Hq.out Hx.out).trans q4; have e5 := Nat.lt_of_lt_of_le Hq.out hSw.size)
                       go_simp; first | done | rfl)
                    try simp only [Act.put, List.setIfInBounds_toArray, List.set_cons_zero, List.set_cons_succ]
                    -- 17 Op.assign (Operand.tmp 133)
                    refine wpMono_take' 17 (v := ?_) rfl (by kernel_rfl) (by kernel_rfl) (by kernel_rfl) (fun _ _ _ h => h) (by rfl) ?_ ?_
                    rotate_left
                    · (intro W hSw; try (have e1 := (hSw.cell 1 Hq.out Hx.out).trans q1; have e2 := (hSw.cell 2 Hq.out Hx.out).trans q2; have e3 := (hSw.cell 3 Hq.out Hx.out).trans q3; have e4 := (hSw.cell 4 Hq.out Hx.out).trans q4; have e5 := Nat.lt_of_lt_of_le Hq.out hSw.size)
                       go_simp; first | done | rfl)
                    try simp only [Act.put, List.setIfInBounds_toArray, List.set_cons_zero, List.set_cons_succ]
                    refine wpMono_done (by kernel_rfl) ?_ _
                    have HSx := Lib.hid (Sta.both (NetT.more hN3 (by omega : _ ≤ 2 * (i + 1))) hR4 (rel_drop HSd.out.rel (a, b) x).2 (by have := dropD_le L (a, b) x; omega) (by omega))
                    have HOx := Lib.hid (hR4.2.2.blk (hk3.blk HOd.out (by simp [netP])) (by simp [refP]))
                    have Hbx := Lib.hid ((Hbd.out.trans (hB3.mono hwB)).trans (hR4.2.1.mono hwB))
                    generalize dropF n F (a, b) x = Fx at HSx
                    generalize C = Cx at HSx
                    generalize dropD L (a, b) x = Lx at HSx
                    generalize Ws = Wx at HSx
                    clear hN3 hR4 hB3 hk3
                    clear q0 q1 q2 q3 q4 q5 HSd HOd HS HO Hbd Hq Hx Hbw
                    have hSd := HSx.out.below (below_drewN (Below.refl _ _) 1 : Below w4.heap.size w4 w4.drew)
                    have HSd := Lib.hid hSd
                    obtain ⟨A1, e1, A2, e2, hRf⟩ := HSx.out.ref
                    have hO := HOx.out
                    have q0 : w4.cell? ⟨wr.heap.size, 0, none⟩ = some (.int .i64 2) := hO.cell 0
                    have q1 : w4.cell? ⟨wr.heap.size, 1, none⟩ = some (.int .i64 a) := hO.cell 1
                    have q2 : w4.cell? ⟨wr.heap.size, 2, none⟩ = some (.int .i64 b) := hO.cell 2
                    have q3 : w4.cell? ⟨wr.heap.size, 3, none⟩ = some (.int .i64 x) := hO.cell 3
                    have q4 : w4.cell? ⟨wr.heap.size, 4, none⟩ = some (.string s) := hO.cell 4
                    have q5 := hO.lt
                    have r1 : w4.cell? ⟨rg, 1, none⟩ = some (.slice A1 Lx.length e1) := hRf.blk.cell 1
                    have r2 := hRf.blk.lt
                    have hLx := HSx.out.hL
                    have hWx := HSx.out.hW
                    clear hO hRf hSd
                    go_wp2_with fail
                    refine wp_region_mono nobody (by kernel_rfl) ?_
                    -- 0 Op.move (Operand.tmp 10)
                    refine wpMono_take' 0 (v := ?_) rfl (by kernel_rfl) (by kernel_rfl) (by kernel_rfl) (fun _ _ _ h => h) (by rfl) ?_ ?_
                    rotate_left
                    · (intro W hSw; have hcW := hSw.cells; try simp only [World.size_drew, World.cell?_drew] at hcW
                       go_simp; first | done | rfl)
                    try simp only [Act.put, List.setIfInBounds_toArray, List.set_cons_zero, List.set_cons_succ]
                    -- 1 Op.unOp UnOp.not 4 (Operand.tmp 188)
                    refine wpMono_take' 1 (v := ?_) rfl (by kernel_rfl) (by kernel_rfl) (by kernel_rfl) (fun _ _ _ h => h) (by rfl) ?_ ?_
                    rotate_left
                    · (intro W hSw; have hcW := hSw.cells; try simp only [World.size_drew, World.cell?_drew] at hcW
                       go_simp; first | done | rfl)
                    try simp only [Act.put, List.setIfInBounds_toArray, List.set_cons_zero, List.set_cons_succ]
                    -- 2 Op.move (Operand.tmp 189)
                    refine wpMono_take' 2 (v := ?_) rfl (by kernel_rfl) (by kernel_rfl) (by kernel_rfl) (fun _ _ _ h => h) (by rfl) ?_ ?_
                    rotate_left
                    · (intro W hSw; have hcW := hSw.cells; try simp only [World.size_drew, World.cell?_drew] at hcW
                       go_simp; first | done | rfl)
                    try simp only [Act.put, List.setIfInBounds_toArray, List.set_cons_zero, List.set_cons_succ]
                    -- 3 Op.move (Operand.tmp 5)
                    refine wpMono_take' 3 (v := ?_) rfl (by kernel_rfl) (by kernel_rfl) (by kernel_rfl) (fun _ _ _ h => h) (by rfl) ?_ ?_
                    rotate_left
                    · (intro W hSw; have hcW := hSw.cells; try simp only [World.size_drew, World.cell?_drew] at hcW
                       go_simp; first | done | rfl)
                    try simp only [Act.put, List.setIfInBounds_toArray, List.set_cons_zero, List.set_cons_succ]
                    -- 5 Op.move (Operand.tmp 7)
                    refine wpMono_take' 5 (v := ?_) rfl (by kernel_rfl) (by kernel_rfl) (by kernel_rfl) (fun _ _ _ h => h) (by rfl) ?_ ?_
                    rotate_left
                    · (intro W hSw; have hcW := hSw.cells; try simp only [World.size_drew, World.cell?_drew] at hcW
                       go_simp; first | done | rfl)
                    try simp only [Act.put, List.setIfInBounds_toArray, List.set_cons_zero, List.set_cons_succ]
                    -- 6 Op.nilCheck (Operand.tmp 193)
                    refine wpMono_take' 6 (v := ?_) rfl (by kernel_rfl) (by kernel_rfl) (by kernel_rfl) (fun _ _ _ h => h) (by rfl) ?_ ?_
                    rotate_left
                    · (intro W hSw; have hcW := hSw.cells; try simp only [World.size_drew, World.cell?_drew] at hcW
                       go_simp; first | done | rfl)
                    try simp only [Act.put, List.setIfInBounds_toArray, List.set_cons_zero, List.set_cons_succ]
                    -- 7 Op.fieldAddr 48 (Operand.tmp 194) 1
                    refine wpMono_take' 7 (v := ?_) rfl (by kernel_rfl) (by kernel_rfl) (by kernel_rfl) (fun _ _ _ h => h) (by rfl) ?_ ?_
                    rotate_left
                    · (intro W hSw; have hcW := hSw.cells; try simp only [World.size_drew, World.cell?_drew] at hcW
                       go_simp; first | done | rfl)
                    try simp only [Act.put, List.setIfInBounds_toArray, List.set_cons_zero, List.set_cons_succ]
                    -- 8 Op.load 45 (Operand.tmp 195)
                    refine wpMono_take' 8 (v := ?_) rfl (by kernel_rfl) (by kernel_rfl) (by kernel_rfl) (fun _ _ _ h => h) (by rfl) ?_ ?_
                    rotate_left
                    · (intro W hSw; have hcW := hSw.cells; try simp only [World.size_drew, World.cell?_drew] at hcW
                       go_simp; first | done | rfl)
                    try simp only [Act.put, List.setIfInBounds_toArray, List.set_cons_zero, List.set_cons_succ]
                    -- 9 Op.call { callee := Callee.builtin Builtin.len, args := #[Operand.tmp 196], argTypes := #[
                    refine wpMono_take' 9 (v := ?_) rfl (by kernel_rfl) (by kernel_rfl) (by kernel_rfl) (fun _ _ _ h => h) (by rfl) ?_ ?_
                    rotate_left
                    · (intro W hSw; have hcW := hSw.cells; try simp only [World.size_drew, World.cell?_drew] at hcW
                       go_simp; first | done | rfl)
                    try simp only [Act.put, List.setIfInBounds_toArray, List.set_cons_zero, List.set_cons_succ]
                    -- EFFECT 4 Op.call { callee := Callee.value (Operand.func 17), args := #[Operand.tmp 191], argTypes := #[24] }
                    refine wpMono_one' 4 (by kernel_rfl) rfl (by rfl) (fun K hK => ?_)
                    go_simp
                    refine (all_t B g bb cb (2 * (i + 1)) n Fx Cx Lx Wx _ HSd.out.net HSd.out.rel (by omega)).mono ?_
                    rintro e wy ⟨rfl, hby⟩
                    have hOy := HOx.out.drew.below hby HOx.out.drew.lt
                    have q0 : wy.cell? ⟨wr.heap.size, 0, none⟩ = some (.int .i64 2) := hOy.cell 0
                    have q1 : wy.cell? ⟨wr.heap.size, 1, none⟩ = some (.int .i64 a) := hOy.cell 1
                    have q2 : wy.cell? ⟨wr.heap.size, 2, none⟩ = some (.int .i64 b) := hOy.cell 2
                    have q3 : wy.cell? ⟨wr.heap.size, 3, none⟩ = some (.int .i64 x) := hOy.cell 3
                    have q4 : wy.cell? ⟨wr.heap.size, 4, none⟩ = some (.string s) := hOy.cell 4
                    have q5 := hOy.lt
                    clear hOy
                    refine hK.out _ _ ?_ ?_
                    · exact .of_below hby
                    clear hK K
                    try simp only [Act.put, List.setIfInBounds_toArray, List.set_cons_zero, List.set_cons_succ]
                    -- 10 Op.binOp BinOp.neq 3 (Operand.tmp 192) (Operand.tmp 197) 3
                    refine wpMono_take' 10 (v := ?_) rfl (by kernel_rfl) (by kernel_rfl) (by kernel_rfl) (fun _ _ _ h => h) (by rfl) ?_ ?_
                    rotate_left
                    · (intro W hSw; have hcW := hSw.cells; try simp only [World.size_drew, World.cell?_drew] at hcW
                       go_simp; first | done | rfl)
                    try simp only [Act.put, List.setIfInBounds_toArray, List.set_cons_zero, List.set_cons_succ]
                    -- 11 Op.pick (Operand.tmp 190) (Operand.const (Value.bool true)) (Operand.tmp 198)
                    refine wpMono_take' 11 (v := ?_) rfl (by kernel_rfl) (by kernel_rfl) (by kernel_rfl) (fun _ _ _ h => h) (by rfl) ?_ ?_
                    rotate_left
                    · (intro W hSw; have hcW := hSw.cells; try simp only [World.size_drew, World.cell?_drew] at hcW
                       go_simp; first | done | rfl)
                    try simp only [Act.put, List.setIfInBounds_toArray, List.set_cons_zero, List.set_cons_succ]
                    -- 12 Op.move (Operand.tmp 199)
                    refine wpMono_take' 12 (v := ?_) rfl (by kernel_rfl) (by kernel_rfl) (by kernel_rfl) (fun _ _ _ h => h) (by rfl) ?_ ?_
                    rotate_left
                    · (intro W hSw; have hcW := hSw.cells; try simp only [World.size_drew, World.cell?_drew] at hcW
                       go_simp; first | done | rfl)
                    try simp only [Act.put, List.setIfInBounds_toArray, List.set_cons_zero, List.set_cons_succ]
                    -- 13 Op.move (Operand.tmp 5)
                    refine wpMono_take' 13 (v := ?_) rfl (by kernel_rfl) (by kernel_rfl) (by kernel_rfl) (fun _ _ _ h => h) (by rfl) ?_ ?_
                    rotate_left
                    · (intro W hSw; have hcW := hSw.cells; try simp only [World.size_drew, World.cell?_drew] at hcW
                       go_simp; first | done | rfl)
                    try simp only [Act.put, List.setIfInBounds_toArray, List.set_cons_zero, List.set_cons_succ]
                    -- 14 Op.fieldAddr 30 (Operand.tmp 9) 1
                    refine wpMono_take' 14 (v := ?_) rfl (by kernel_rfl) (by kernel_rfl) (by kernel_rfl) (fun _ _ _ h => h) (by rfl) ?_ ?_
                    rotate_left
                    · (intro W hSw; have hcW := hSw.cells; try simp only [World.size_drew, World.cell?_drew] at hcW
                       go_simp; first | done | rfl)
                    try simp only [Act.put, List.setIfInBounds_toArray, List.set_cons_zero, List.set_cons_succ]
                    -- 15 Op.load 3 (Operand.tmp 202)
                    refine wpMono_take' 15 (v := ?_) rfl (by kernel_rfl) (by kernel_rfl) (by kernel_rfl) (fun _ _ _ h => h) (by rfl) ?_ ?_
                    rotate_left
                    · (intro W hSw; have hcW := hSw.cells; try simp only [World.size_drew, World.cell?_drew] at hcW
                       go_simp; first | done | rfl)
                    try simp only [Act.put, List.setIfInBounds_toArray, List.set_cons_zero, List.set_cons_succ]
                    -- 16 Op.fieldAddr 30 (Operand.tmp 9) 2
                    refine wpMono_take' 16 (v := ?_) rfl (by kernel_rfl) (by kernel_rfl) (by kernel_rfl) (fun _ _ _ h => h) (by rfl) ?_ ?_
                    rotate_left
                    · (intro W hSw; have hcW := hSw.cells; try simp only [World.size_drew, World.cell?_drew] at hcW
                       go_simp; first | done | rfl)
                    try simp only [Act.put, List.setIfInBounds_toArray, List.set_cons_zero, List.set_cons_succ]
                    -- 17 Op.load 3 (Operand.tmp 204)
                    refine wpMono_take' 17 (v := ?_) rfl (by kernel_rfl) (by kernel_rfl) (by kernel_rfl) (fun _ _ _ h => h) (by rfl) ?_ ?_
                    rotate_left
                    · (intro W hSw; have hcW := hSw.cells; try simp only [World.size_drew, World.cell?_drew] at hcW
                       go_simp; first | done | rfl)
                    try simp only [Act.put, List.setIfInBounds_toArray, List.set_cons_zero, List.set_cons_succ]
                    -- 19 Op.move (Operand.tmp 7)
                    refine wpMono_take' 19 (v := ?_) rfl (by kernel_rfl) (by kernel_rfl) (by kernel_rfl) (fun _ _ _ h => h) (by rfl) ?_ ?_
                    rotate_left
                    · (intro W hSw; have hcW := hSw.cells; try simp only [World.size_drew, World.cell?_drew] at hcW
                       go_simp; first | done | rfl)
                    try simp only [Act.put, List.setIfInBounds_toArray, List.set_cons_zero, List.set_cons_succ]
                    -- 20 Op.fieldAddr 30 (Operand.tmp 9) 1
                    refine wpMono_take' 20 (v := ?_) rfl (by kernel_rfl) (by kernel_rfl) (by kernel_rfl) (fun _ _ _ h => h) (by rfl) ?_ ?_
                    rotate_left
                    · (intro W hSw; have hcW := hSw.cells; try simp only [World.size_drew, World.cell?_drew] at hcW
                       go_simp; first | done | rfl)
                    try simp only [Act.put, List.setIfInBounds_toArray, List.set_cons_zero, List.set_cons_succ]
                    -- 21 Op.load 3 (Operand.tmp 208)
                    refine wpMono_take' 21 (v := ?_) rfl (by kernel_rfl) (by kernel_rfl) (by kernel_rfl) (fun _ _ _ h => h) (by rfl) ?_ ?_
                    rotate_left
                    · (intro W hSw; have hcW := hSw.cells; try simp only [World.size_drew, World.cell?_drew] at hcW
                       go_simp; first | done | rfl)
                    try simp only [Act.put, List.setIfInBounds_toArray, List.set_cons_zero, List.set_cons_succ]
                    -- 22 Op.fieldAddr 30 (Operand.tmp 9) 2
                    refine wpMono_take' 22 (v := ?_) rfl (by kernel_rfl) (by kernel_rfl) (by kernel_rfl) (fun _ _ _ h => h) (by rfl) ?_ ?_
                    rotate_left
                    · (intro W hSw; have hcW := hSw.cells; try simp only [World.size_drew, World.cell?_drew] at hcW
                       go_simp; first | done | rfl)
                    try simp only [Act.put, List.setIfInBounds_toArray, List.set_cons_zero, List.set_cons_succ]
                    -- 23 Op.load 3 (Operand.tmp 210)
                    refine wpMono_take' 23 (v := ?_) rfl (by kernel_rfl) (by kernel_rfl) (by kernel_rfl) (fun _ _ _ h => h) (by rfl) ?_ ?_
                    rotate_left
                    · (intro W hSw; have hcW := hSw.cells; try simp only [World.size_drew, World.cell?_drew] at hcW
                       go_simp; first | done | rfl)
                    try simp only [Act.put, List.setIfInBounds_toArray, List.set_cons_zero, List.set_cons_succ]
                    -- EFFECT 18 Op.call { callee := Callee.value (Operand.func 13), args := #[Operand.tmp 201, Operand.tmp 203, Operand.tmp 205], argTypes := #[24, 3, 3] }
                    refine wpMono_one' 18 (by kernel_rfl) rfl (by rfl) (fun K hK => ?_)
                    go_simp
                    refine (count_t B g bb cb (2 * (i + 1)) n a b Fx Cx Lx Wx _ (HSd.out.below hby).net HSd.out.rel Hok.out).mono ?_
                    rintro e wz ⟨rfl, rfl⟩
                    refine hK.out _ _ ?_ ?_
                    · exact .refl _ _
                    clear hK K
                    try simp only [Act.put, List.setIfInBounds_toArray, List.set_cons_zero, List.set_cons_succ]
                    -- EFFECT 24 Op.call { callee := Callee.value (Operand.func 25), args := #[Operand.tmp 207, Operand.tmp 209, Operand.tmp 211], argTypes := #[44, 3, 3] }
                    refine wpMono_one' 24 (by kernel_rfl) rfl (by rfl) (fun K hK => ?_)
                    go_simp
                    refine (count_x B rg n a b Lx Wx _ (HSd.out.below hby).ref (by omega)).mono ?_
                    rintro e wu ⟨rfl, rfl⟩
                    refine hK.out _ _ ?_ ?_
                    · exact .refl _ _
                    clear hK K
                    try simp only [Act.put, List.setIfInBounds_toArray, List.set_cons_zero, List.set_cons_succ]
                    -- 25 Op.binOp BinOp.neq 3 (Operand.tmp 206) (Operand.tmp 212) 3
                    refine wpMono_take' 25 (v := ?_) rfl (by kernel_rfl) (by kernel_rfl) (by kernel_rfl) (fun _ _ _ h => h) (by rfl) ?_ ?_
                    rotate_left
                    · (intro W hSw; have hcW := hSw.cells; try simp only [World.size_drew, World.cell?_drew] at hcW
                       go_simp; first | done | rfl)
                    try simp only [Act.put, List.setIfInBounds_toArray, List.set_cons_zero, List.set_cons_succ]
                    -- 26 Op.pick (Operand.tmp 200) (Operand.const (Value.bool true)) (Operand.tmp 213)
                    refine wpMono_take' 26 (v := ?_) rfl (by kernel_rfl) (by kernel_rfl) (by kernel_rfl) (fun _ _ _ h => h) (by rfl) ?_ ?_
                    rotate_left
                    · (intro W hSw; have hcW := hSw.cells; try simp only [World.size_drew, World.cell?_drew] at hcW
                       go_simp; first | done | rfl)
                    try simp only [Act.put, List.setIfInBounds_toArray, List.set_cons_zero, List.set_cons_succ]
                    refine wpMono_done (by kernel_rfl) ?_ _
                    have HSy := Lib.hid (HSd.out.below hby)
                    have Hby := Lib.hid ((below_drewN Hbx.out 1).trans (hby.mono (by have := (below_drewN Hbx.out 1).size; omega)))
                    clear hby HSd HSx
                    go_wp2
                    go_roundw
                    case rel => exact ⟨i + 1, Fx, Cx, Lx, Wx, by omega, by omega, by go_num, HSy.out, Hby.out⟩
                    case measure => simp [intOf]; omega
                · by_cases hk3 : k = 3
                  · subst hk3
                    as_aux_lemma =>
                      go_wp2_with fail
                      generalize wr.alloc (.cells #[.int .i64 3, .int .i64 a, .int .i64 b, .int .i64 x, .string s] 30) = W at *
                      have hOd := HO.out.drew
                      have HOd := Lib.hid hOd
                      have q0 : W.drew.cell? ⟨wr.heap.size, 0, none⟩ = some (.int .i64 3) := hOd.cell 0
                      have q1 : W.drew.cell? ⟨wr.heap.size, 1, none⟩ = some (.int .i64 a) := hOd.cell 1
                      have q2 : W.drew.cell? ⟨wr.heap.size, 2, none⟩ = some (.int .i64 b) := hOd.cell 2
                      have q3 : W.drew.cell? ⟨wr.heap.size, 3, none⟩ = some (.int .i64 x) := hOd.cell 3
                      have q4 : W.drew.cell? ⟨wr.heap.size, 4, none⟩ = some (.string s) := hOd.cell 4
                      have q5 := hOd.lt
                      have HSd := Lib.hid (HS.out.below (below_drewN (Below.refl _ _) 1 : Below W.heap.size W W.drew))
                      have Hbd := Lib.hid (below_drewN Hbw.out 1)
                      have Hq := Lib.hid q5
                      have Hx := Lib.hid (op_not hOd)
                      clear hOd
                      refine wp_region_mono (bothX W.drew) (by kernel_rfl) ?_
                      -- 0 Op.move (Operand.tmp 5)
                      refine wpMono_take' 0 (v := ?_) rfl (by kernel_rfl) (by kernel_rfl) (by kernel_rfl) (fun _ _ _ h => h) (by rfl) ?_ ?_
                      rotate_left
                      · (intro W hSw; try (have e1 := (hSw.cell 1 Hq.out Hx.out).trans q1; have e2 := (hSw.cell 2 Hq.out Hx.out).trans q2; have e3 := (hSw.cell 3 Hq.out Hx.out).trans q3; have e4 := (hSw.cell 4 Hq.out Hx.out).trans q4; have e5 := Nat.lt_of_lt_of_le Hq.out hSw.size)
                         go_simp; first | done | rfl)
                      try simp only [Act.put, List.setIfInBounds_toArray, List.set_cons_zero, List.set_cons_succ]
                      -- 1 Op.fieldAddr 30 (Operand.tmp 9) 1
                      refine wpMono_take' 1 (v := ?_) rfl (by kernel_rfl) (by kernel_rfl) (by kernel_rfl) (fun _ _ _ h => h) (by rfl) ?_ ?_
                      rotate_left
                      · (intro W hSw; try (have e1 := (hSw.cell 1 Hq.out Hx.out).trans q1; have e2 := (hSw.cell 2 Hq.out Hx.out).trans q2; have e3 := (hSw.cell 3 Hq.out Hx.out).trans q3; have e4 := (hSw.cell 4 Hq.out Hx.out).trans q4; have e5 := Nat.lt_of_lt_of_le Hq.out hSw.size)
                         go_simp; first | done | rfl)
                      try simp only [Act.put, List.setIfInBounds_toArray, List.set_cons_zero, List.set_cons_succ]
                      -- 2 Op.load 3 (Operand.tmp 137)
                      refine wpMono_take' 2 (v := ?_) rfl (by kernel_rfl) (by kernel_rfl) (by kernel_rfl) (fun _ _ _ h => h) (by rfl) ?_ ?_
                      rotate_left
                      · (intro W hSw; try (have e1 := (hSw.cell 1 Hq.out Hx.out).trans q1; have e2 := (hSw.cell 2 Hq.out Hx.out).trans q2; have e3 := (hSw.cell 3 Hq.out Hx.out).trans q3; have e4 := (hSw.cell 4 Hq.out Hx.out).trans q4; have e5 := Nat.lt_of_lt_of_le Hq.out hSw.size)
                         go_simp; first | done | rfl)
                      try simp only [Act.put, List.setIfInBounds_toArray, List.set_cons_zero, List.set_cons_succ]
                      -- 3 Op.fieldAddr 30 (Operand.tmp 9) 2
                      refine wpMono_take' 3 (v := ?_) rfl (by kernel_rfl) (by kernel_rfl) (by kernel_rfl) (fun _ _ _ h => h) (by rfl) ?_ ?_
                      rotate_left
                      · (intro W hSw; try (have e1 := (hSw.cell 1 Hq.out Hx.out).trans q1; have e2 := (hSw.cell 2 Hq.out Hx.out).trans q2; have e3 := (hSw.cell 3 Hq.out Hx.out).trans q3; have e4 := (hSw.cell 4 Hq.out Hx.out).trans q4; have e5 := Nat.lt_of_lt_of_le Hq.out hSw.size)
                         go_simp; first | done | rfl)
                      try simp only [Act.put, List.setIfInBounds_toArray, List.set_cons_zero, List.set_cons_succ]
                      -- 4 Op.load 3 (Operand.tmp 139)
                      refine wpMono_take' 4 (v := ?_) rfl (by kernel_rfl) (by kernel_rfl) (by kernel_rfl) (fun _ _ _ h => h) (by rfl) ?_ ?_
                      rotate_left
                      · (intro W hSw; try (have e1 := (hSw.cell 1 Hq.out Hx.out).trans q1; have e2 := (hSw.cell 2 Hq.out Hx.out).trans q2; have e3 := (hSw.cell 3 Hq.out Hx.out).trans q3; have e4 := (hSw.cell 4 Hq.out Hx.out).trans q4; have e5 := Nat.lt_of_lt_of_le Hq.out hSw.size)
                         go_simp; first | done | rfl)
                      try simp only [Act.put, List.setIfInBounds_toArray, List.set_cons_zero, List.set_cons_succ]
                      -- 5 Op.fieldAddr 30 (Operand.tmp 9) 3
                      refine wpMono_take' 5 (v := ?_) rfl (by kernel_rfl) (by kernel_rfl) (by kernel_rfl) (fun _ _ _ h => h) (by rfl) ?_ ?_
                      rotate_left
                      · (intro W hSw; try (have e1 := (hSw.cell 1 Hq.out Hx.out).trans q1; have e2 := (hSw.cell 2 Hq.out Hx.out).trans q2; have e3 := (hSw.cell 3 Hq.out Hx.out).trans q3; have e4 := (hSw.cell 4 Hq.out Hx.out).trans q4; have e5 := Nat.lt_of_lt_of_le Hq.out hSw.size)
                         go_simp; first | done | rfl)
                      try simp only [Act.put, List.setIfInBounds_toArray, List.set_cons_zero, List.set_cons_succ]
                      -- 6 Op.load 3 (Operand.tmp 141)
                      refine wpMono_take' 6 (v := ?_) rfl (by kernel_rfl) (by kernel_rfl) (by kernel_rfl) (fun _ _ _ h => h) (by rfl) ?_ ?_
                      rotate_left
                      · (intro W hSw; try (have e1 := (hSw.cell 1 Hq.out Hx.out).trans q1; have e2 := (hSw.cell 2 Hq.out Hx.out).trans q2; have e3 := (hSw.cell 3 Hq.out Hx.out).trans q3; have e4 := (hSw.cell 4 Hq.out Hx.out).trans q4; have e5 := Nat.lt_of_lt_of_le Hq.out hSw.size)
                         go_simp; first | done | rfl)
                      try simp only [Act.put, List.setIfInBounds_toArray, List.set_cons_zero, List.set_cons_succ]
                      -- 8 Op.move (Operand.tmp 7)
                      refine wpMono_take' 8 (v := ?_) rfl (by kernel_rfl) (by kernel_rfl) (by kernel_rfl) (fun _ _ _ h => h) (by rfl) ?_ ?_
                      rotate_left
                      · (intro W hSw; try (have e1 := (hSw.cell 1 Hq.out Hx.out).trans q1; have e2 := (hSw.cell 2 Hq.out Hx.out).trans q2; have e3 := (hSw.cell 3 Hq.out Hx.out).trans q3; have e4 := (hSw.cell 4 Hq.out Hx.out).trans q4; have e5 := Nat.lt_of_lt_of_le Hq.out hSw.size)
                         go_simp; first | done | rfl)
                      try simp only [Act.put, List.setIfInBounds_toArray, List.set_cons_zero, List.set_cons_succ]
                      -- 9 Op.fieldAddr 30 (Operand.tmp 9) 1
                      refine wpMono_take' 9 (v := ?_) rfl (by kernel_rfl) (by kernel_rfl) (by kernel_rfl) (fun _ _ _ h => h) (by rfl) ?_ ?_
                      rotate_left
                      · (intro W hSw; try (have e1 := (hSw.cell 1 Hq.out Hx.out).trans q1; have e2 := (hSw.cell 2 Hq.out Hx.out).trans q2; have e3 := (hSw.cell 3 Hq.out Hx.out).trans q3; have e4 := (hSw.cell 4 Hq.out Hx.out).trans q4; have e5 := Nat.lt_of_lt_of_le Hq.out hSw.size)
                         go_simp; first | done | rfl)
                      try simp only [Act.put, List.setIfInBounds_toArray, List.set_cons_zero, List.set_cons_succ]
                      -- 10 Op.load 3 (Operand.tmp 145)
                      refine wpMono_take' 10 (v := ?_) rfl (by kernel_rfl) (by kernel_rfl) (by kernel_rfl) (fun _ _ _ h => h) (by rfl) ?_ ?_
                      rotate_left
                      · (intro W hSw; try (have e1 := (hSw.cell 1 Hq.out Hx.out).trans q1; have e2 := (hSw.cell 2 Hq.out Hx.out).trans q2; have e3 := (hSw.cell 3 Hq.out Hx.out).trans q3; have e4 := (hSw.cell 4 Hq.out Hx.out).trans q4; have e5 := Nat.lt_of_lt_of_le Hq.out hSw.size)
                         go_simp; first | done | rfl)
                      try simp only [Act.put, List.setIfInBounds_toArray, List.set_cons_zero, List.set_cons_succ]
                      -- 11 Op.fieldAddr 30 (Operand.tmp 9) 2
                      refine wpMono_take' 11 (v := ?_) rfl (by kernel_rfl) (by kernel_rfl) (by kernel_rfl) (fun _ _ _ h => h) (by rfl) ?_ ?_
                      rotate_left
                      · (intro W hSw; try (have e1 := (hSw.cell 1 Hq.out Hx.out).trans q1; have e2 := (hSw.cell 2 Hq.out Hx.out).trans q2; have e3 := (hSw.cell 3 Hq.out Hx.out).trans q3; have e4 := (hSw.cell 4 Hq.out Hx.out).trans q4; have e5 := Nat.lt_of_lt_of_le Hq.out hSw.size)
                         go_simp; first | done | rfl)
                      try simp only [Act.put, List.setIfInBounds_toArray, List.set_cons_zero, List.set_cons_succ]
                      -- 12 Op.load 3 (Operand.tmp 147)
                      refine wpMono_take' 12 (v := ?_) rfl (by kernel_rfl) (by kernel_rfl) (by kernel_rfl) (fun _ _ _ h => h) (by rfl) ?_ ?_
                      rotate_left
                      · (intro W hSw; try (have e1 := (hSw.cell 1 Hq.out Hx.out).trans q1; have e2 := (hSw.cell 2 Hq.out Hx.out).trans q2; have e3 := (hSw.cell 3 Hq.out Hx.out).trans q3; have e4 := (hSw.cell 4 Hq.out Hx.out).trans q4; have e5 := Nat.lt_of_lt_of_le Hq.out hSw.size)
                         go_simp; first | done | rfl)
                      try simp only [Act.put, List.setIfInBounds_toArray, List.set_cons_zero, List.set_cons_succ]
                      -- 13 Op.fieldAddr 30 (Operand.tmp 9) 3
                      refine wpMono_take' 13 (v := ?_) rfl (by kernel_rfl) (by kernel_rfl) (by kernel_rfl) (fun _ _ _ h => h) (by rfl) ?_ ?_
                      rotate_left
                      · (intro W hSw; try (have e1 := (hSw.cell 1 Hq.out Hx.out).trans q1; have e2 := (hSw.cell 2 Hq.out Hx.out).trans q2; have e3 := (hSw.cell 3 Hq.out Hx.out).trans q3; have e4 := (hSw.cell 4 Hq.out Hx.out).trans q4; have e5 := Nat.lt_of_lt_of_le Hq.out hSw.size)
                         go_simp; first | done | rfl)
                      try simp only [Act.put, List.setIfInBounds_toArray, List.set_cons_zero, List.set_cons_succ]
                      -- 14 Op.load 3 (Operand.tmp 149)
                      refine wpMono_take' 14 (v := ?_) rfl (by kernel_rfl) (by kernel_rfl) (by kernel_rfl) (fun _ _ _ h => h) (by rfl) ?_ ?_
                      rotate_left
                      · (intro W hSw; try (have e1 := (hSw.cell 1 Hq.out Hx.out).trans q1; have e2 := (hSw.cell 2 Hq.out Hx.out).trans q2; have e3 := (hSw.cell 3 Hq.out Hx.out).trans q3; have e4 := (hSw.cell 4 Hq.out Hx.out).trans q4; have e5 := Nat.lt_of_lt_of_le Hq.out hSw.size)
                         go_simp; first | done | rfl)
                      try simp only [Act.put, List.setIfInBounds_toArray, List.set_cons_zero, List.set_cons_succ]
                      -- EFFECT 7 Op.call { callee := Callee.value (Operand.func 12), args := #[Operand.tmp 136, Operand.tmp 138, Operand.tmp 140, Operand.tmp 142], argTypes 
                      refine wpMono_one' 7 (by kernel_rfl) rfl (by rfl) (fun K hK => ?_)
                      go_simp
                      refine (double_t B g bb cb (2 * i) n a b x F C L Ws _ HSd.out.net HSd.out.rel Hok.out (by omega)).mono ?_
                      rintro e w3 ⟨rfl, hN3, hB3, hk3⟩
                      have hO3 := hk3.blk HOd.out (by simp [netP])
                      have q0 : w3.cell? ⟨wr.heap.size, 0, none⟩ = some (.int .i64 3) := hO3.cell 0
                      have q1 : w3.cell? ⟨wr.heap.size, 1, none⟩ = some (.int .i64 a) := hO3.cell 1
                      have q2 : w3.cell? ⟨wr.heap.size, 2, none⟩ = some (.int .i64 b) := hO3.cell 2
                      have q3 : w3.cell? ⟨wr.heap.size, 3, none⟩ = some (.int .i64 x) := hO3.cell 3
                      have q4 : w3.cell? ⟨wr.heap.size, 4, none⟩ = some (.string s) := hO3.cell 4
                      have q5 := hO3.lt
                      have Hq := Lib.hid q5
                      clear hO3
                      refine hK.out _ _ ?_ ?_
                      · exact first hk3
                      clear hK K
                      try simp only [Act.put, List.setIfInBounds_toArray, List.set_cons_zero, List.set_cons_succ]
                      -- EFFECT 15 Op.call { callee := Callee.value (Operand.func 22), args := #[Operand.tmp 144, Operand.tmp 146, Operand.tmp 148, Operand.tmp 150], argTypes 
                      refine wpMono_one' 15 (by kernel_rfl) rfl (by rfl) (fun K hK => ?_)
                      go_simp
                      refine (double_x B rg n a b x L Ws _ (HSd.out.ref.net hk3) (by omega)).mono ?_
                      rintro e w4 ⟨rfl, hR4⟩
                      refine hK.out _ _ ?_ ?_
                      · exact chain hk3 hR4.2.2
                      clear hK K
                      try simp only [Act.put, List.setIfInBounds_toArray, List.set_cons_zero, List.set_cons_succ]
                      -- 16 Op.binOp BinOp.eql 4 (Operand.tmp 143) (Operand.tmp 151) 4
                      refine wpMono_take' 16 (v := ?_) rfl (by kernel_rfl) (by kernel_rfl) (by kernel_rfl) (fun _ _ _ h => h) (by rfl) ?_ ?_
                      rotate_left
                      · (intro W hSw; try (have e1 := (hSw.cell 1 Hq.out Hx.out).trans q1; have e2 := (hSw.cell 2 Hq.out Hx.out).trans q2; have e3 := (hSw.cell 3 Hq.out Hx.out).trans q3; have e4 := (hSw.cell 4 Hq.out Hx.out).trans q4; have e5 := Nat.lt_of_lt_of_le Hq.out hSw.size)
                         go_simp; first | done | rfl)
                      try simp only [Act.put, List.setIfInBounds_toArray, List.set_cons_zero, List.set_cons_succ]
                      -- 17 Op.assign (Operand.tmp 152)
                      refine wpMono_take' 17 (v := ?_) rfl (by kernel_rfl) (by kernel_rfl) (by kernel_rfl) (fun _ _ _ h => h) (by rfl) ?_ ?_
                      rotate_left
                      · (intro W hSw; try (have e1 := (hSw.cell 1 Hq.out Hx.out).trans q1; have e2 := (hSw.cell 2 Hq.out Hx.out).trans q2; have e3 := (hSw.cell 3 Hq.out Hx.out).trans q3; have e4 := (hSw.cell 4 Hq.out Hx.out).trans q4; have e5 := Nat.lt_of_lt_of_le Hq.out hSw.size)
                         go_simp; first | done | rfl)
                      try simp only [Act.put, List.setIfInBounds_toArray, List.set_cons_zero, List.set_cons_succ]
                      refine wpMono_done (by kernel_rfl) ?_ _
                      have HSx := Lib.hid (Sta.both (NetT.more hN3 (by omega : _ ≤ 2 * (i + 1))) hR4 (rel_double HSd.out.rel (a, b) x).2 (by have := doubleL_le L (a, b) x; omega) (by omega))
                      have HOx := Lib.hid (hR4.2.2.blk (hk3.blk HOd.out (by simp [netP])) (by simp [refP]))
                      have Hbx := Lib.hid ((Hbd.out.trans (hB3.mono hwB)).trans (hR4.2.1.mono hwB))
                      generalize doubleF n F (a, b) x = Fx at HSx
                      generalize C = Cx at HSx
                      generalize doubleL L (a, b) x = Lx at HSx
                      generalize Ws = Wx at HSx
                      clear hN3 hR4 hB3 hk3
                      clear q0 q1 q2 q3 q4 q5 HSd HOd HS HO Hbd Hq Hx Hbw
                      have hSd := HSx.out.below (below_drewN (Below.refl _ _) 1 : Below w4.heap.size w4 w4.drew)
                      have HSd := Lib.hid hSd
                      obtain ⟨A1, e1, A2, e2, hRf⟩ := HSx.out.ref
                      have hO := HOx.out
                      have q0 : w4.cell? ⟨wr.heap.size, 0, none⟩ = some (.int .i64 3) := hO.cell 0
                      have q1 : w4.cell? ⟨wr.heap.size, 1, none⟩ = some (.int .i64 a) := hO.cell 1
                      have q2 : w4.cell? ⟨wr.heap.size, 2, none⟩ = some (.int .i64 b) := hO.cell 2
                      have q3 : w4.cell? ⟨wr.heap.size, 3, none⟩ = some (.int .i64 x) := hO.cell 3
                      have q4 : w4.cell? ⟨wr.heap.size, 4, none⟩ = some (.string s) := hO.cell 4
                      have q5 := hO.lt
                      have r1 : w4.cell? ⟨rg, 1, none⟩ = some (.slice A1 Lx.length e1) := hRf.blk.cell 1
                      have r2 := hRf.blk.lt
                      have hLx := HSx.out.hL
                      have hWx := HSx.out.hW
                      clear hO hRf hSd
                      go_wp2_with fail
                      refine wp_region_mono nobody (by kernel_rfl) ?_
                      -- 0 Op.move (Operand.tmp 10)
                      refine wpMono_take' 0 (v := ?_) rfl (by kernel_rfl) (by kernel_rfl) (by kernel_rfl) (fun _ _ _ h => h) (by rfl) ?_ ?_
                      rotate_left
                      · (intro W hSw; have hcW := hSw.cells; try simp only [World.size_drew, World.cell?_drew] at hcW
                         go_simp; first | done | rfl)
                      try simp only [Act.put, List.setIfInBounds_toArray, List.set_cons_zero, List.set_cons_succ]
                      -- 1 Op.unOp UnOp.not 4 (Operand.tmp 188)
                      refine wpMono_take' 1 (v := ?_) rfl (by kernel_rfl) (by kernel_rfl) (by kernel_rfl) (fun _ _ _ h => h) (by rfl) ?_ ?_
                      rotate_left
                      · (intro W hSw; have hcW := hSw.cells; try simp only [World.size_drew, World.cell?_drew] at hcW
                         go_simp; first | done | rfl)
                      try simp only [Act.put, List.setIfInBounds_toArray, List.set_cons_zero, List.set_cons_succ]
                      -- 2 Op.move (Operand.tmp 189)
                      refine wpMono_take' 2 (v := ?_) rfl (by kernel_rfl) (by kernel_rfl) (by kernel_rfl) (fun _ _ _ h => h) (by rfl) ?_ ?_
                      rotate_left
                      · (intro W hSw; have hcW := hSw.cells; try simp only [World.size_drew, World.cell?_drew] at hcW
                         go_simp; first | done | rfl)
                      try simp only [Act.put, List.setIfInBounds_toArray, List.set_cons_zero, List.set_cons_succ]
                      -- 3 Op.move (Operand.tmp 5)
                      refine wpMono_take' 3 (v := ?_) rfl (by kernel_rfl) (by kernel_rfl) (by kernel_rfl) (fun _ _ _ h => h) (by rfl) ?_ ?_
                      rotate_left
                      · (intro W hSw; have hcW := hSw.cells; try simp only [World.size_drew, World.cell?_drew] at hcW
                         go_simp; first | done | rfl)
                      try simp only [Act.put, List.setIfInBounds_toArray, List.set_cons_zero, List.set_cons_succ]
                      -- 5 Op.move (Operand.tmp 7)
                      refine wpMono_take' 5 (v := ?_) rfl (by kernel_rfl) (by kernel_rfl) (by kernel_rfl) (fun _ _ _ h => h) (by rfl) ?_ ?_
                      rotate_left
                      · (intro W hSw; have hcW := hSw.cells; try simp only [World.size_drew, World.cell?_drew] at hcW
                         go_simp; first | done | rfl)
                      try simp only [Act.put, List.setIfInBounds_toArray, List.set_cons_zero, List.set_cons_succ]
                      -- 6 Op.nilCheck (Operand.tmp 193)
                      refine wpMono_take' 6 (v := ?_) rfl (by kernel_rfl) (by kernel_rfl) (by kernel_rfl) (fun _ _ _ h => h) (by rfl) ?_ ?_
                      rotate_left
                      · (intro W hSw; have hcW := hSw.cells; try simp only [World.size_drew, World.cell?_drew] at hcW
                         go_simp; first | done | rfl)
                      try simp only [Act.put, List.setIfInBounds_toArray, List.set_cons_zero, List.set_cons_succ]
                      -- 7 Op.fieldAddr 48 (Operand.tmp 194) 1
                      refine wpMono_take' 7 (v := ?_) rfl (by kernel_rfl) (by kernel_rfl) (by kernel_rfl) (fun _ _ _ h => h) (by rfl) ?_ ?_
                      rotate_left
                      · (intro W hSw; have hcW := hSw.cells; try simp only [World.size_drew, World.cell?_drew] at hcW
                         go_simp; first | done | rfl)
                      try simp only [Act.put, List.setIfInBounds_toArray, List.set_cons_zero, List.set_cons_succ]
                      -- 8 Op.load 45 (Operand.tmp 195)
                      refine wpMono_take' 8 (v := ?_) rfl (by kernel_rfl) (by kernel_rfl) (by kernel_rfl) (fun _ _ _ h => h) (by rfl) ?_ ?_
                      rotate_left
                      · (intro W hSw; have hcW := hSw.cells; try simp only [World.size_drew, World.cell?_drew] at hcW
                         go_simp; first | done | rfl)
                      try simp only [Act.put, List.setIfInBounds_toArray, List.set_cons_zero, List.set_cons_succ]
                      -- 9 Op.call { callee := Callee.builtin Builtin.len, args := #[Operand.tmp 196], argTypes := #[
                      refine wpMono_take' 9 (v := ?_) rfl (by kernel_rfl) (by kernel_rfl) (by kernel_rfl) (fun _ _ _ h => h) (by rfl) ?_ ?_
                      rotate_left
                      · (intro W hSw; have hcW := hSw.cells; try simp only [World.size_drew, World.cell?_drew] at hcW
                         go_simp; first | done | rfl)
                      try simp only [Act.put, List.setIfInBounds_toArray, List.set_cons_zero, List.set_cons_succ]
                      -- EFFECT 4 Op.call { callee := Callee.value (Operand.func 17), args := #[Operand.tmp 191], argTypes := #[24] }
                      refine wpMono_one' 4 (by kernel_rfl) rfl (by rfl) (fun K hK => ?_)
                      go_simp
                      refine (all_t B g bb cb (2 * (i + 1)) n Fx Cx Lx Wx _ HSd.out.net HSd.out.rel (by omega)).mono ?_
                      rintro e wy ⟨rfl, hby⟩
                      have hOy := HOx.out.drew.below hby HOx.out.drew.lt
                      have q0 : wy.cell? ⟨wr.heap.size, 0, none⟩ = some (.int .i64 3) := hOy.cell 0
                      have q1 : wy.cell? ⟨wr.heap.size, 1, none⟩ = some (.int .i64 a) := hOy.cell 1
                      have q2 : wy.cell? ⟨wr.heap.size, 2, none⟩ = some (.int .i64 b) := hOy.cell 2
                      have q3 : wy.cell? ⟨wr.heap.size, 3, none⟩ = some (.int .i64 x) := hOy.cell 3
                      have q4 : wy.cell? ⟨wr.heap.size, 4, none⟩ = some (.string s) := hOy.cell 4
                      have q5 := hOy.lt
                      clear hOy
                      refine hK.out _ _ ?_ ?_
                      · exact .of_below hby
                      clear hK K
                      try simp only [Act.put, List.setIfInBounds_toArray, List.set_cons_zero, List.set_cons_succ]
                      -- 10 Op.binOp BinOp.neq 3 (Operand.tmp 192) (Operand.tmp 197) 3
                      refine wpMono_take' 10 (v := ?_) rfl (by kernel_rfl) (by kernel_rfl) (by kernel_rfl) (fun _ _ _ h => h) (by rfl) ?_ ?_
                      rotate_left
                      · (intro W hSw; have hcW := hSw.cells; try simp only [World.size_drew, World.cell?_drew] at hcW
                         go_simp; first | done | rfl)
                      try simp only [Act.put, List.setIfInBounds_toArray, List.set_cons_zero, List.set_cons_succ]
                      -- 11 Op.pick (Operand.tmp 190) (Operand.const (Value.bool true)) (Operand.tmp 198)
                      refine wpMono_take' 11 (v := ?_) rfl (by kernel_rfl) (by kernel_rfl) (by kernel_rfl) (fun _ _ _ h => h) (by rfl) ?_ ?_
                      rotate_left
                      · (intro W hSw; have hcW := hSw.cells; try simp only [World.size_drew, World.cell?_drew] at hcW
                         go_simp; first | done | rfl)
                      try simp only [Act.put, List.setIfInBounds_toArray, List.set_cons_zero, List.set_cons_succ]
                      -- 12 Op.move (Operand.tmp 199)
                      refine wpMono_take' 12 (v := ?_) rfl (by kernel_rfl) (by kernel_rfl) (by kernel_rfl) (fun _ _ _ h => h) (by rfl) ?_ ?_
                      rotate_left
                      · (intro W hSw; have hcW := hSw.cells; try simp only [World.size_drew, World.cell?_drew] at hcW
                         go_simp; first | done | rfl)
                      try simp only [Act.put, List.setIfInBounds_toArray, List.set_cons_zero, List.set_cons_succ]
                      -- 13 Op.move (Operand.tmp 5)
                      refine wpMono_take' 13 (v := ?_) rfl (by kernel_rfl) (by kernel_rfl) (by kernel_rfl) (fun _ _ _ h => h) (by rfl) ?_ ?_
                      rotate_left
                      · (intro W hSw; have hcW := hSw.cells; try simp only [World.size_drew, World.cell?_drew] at hcW
                         go_simp; first | done | rfl)
                      try simp only [Act.put, List.setIfInBounds_toArray, List.set_cons_zero, List.set_cons_succ]
                      -- 14 Op.fieldAddr 30 (Operand.tmp 9) 1
                      refine wpMono_take' 14 (v := ?_) rfl (by kernel_rfl) (by kernel_rfl) (by kernel_rfl) (fun _ _ _ h => h) (by rfl) ?_ ?_
                      rotate_left
                      · (intro W hSw; have hcW := hSw.cells; try simp only [World.size_drew, World.cell?_drew] at hcW
                         go_simp; first | done | rfl)
                      try simp only [Act.put, List.setIfInBounds_toArray, List.set_cons_zero, List.set_cons_succ]
                      -- 15 Op.load 3 (Operand.tmp 202)
                      refine wpMono_take' 15 (v := ?_) rfl (by kernel_rfl) (by kernel_rfl) (by kernel_rfl) (fun _ _ _ h => h) (by rfl) ?_ ?_
                      rotate_left
                      · (intro W hSw; have hcW := hSw.cells; try simp only [World.size_drew, World.cell?_drew] at hcW
                         go_simp; first | done | rfl)
                      try simp only [Act.put, List.setIfInBounds_toArray, List.set_cons_zero, List.set_cons_succ]
                      -- 16 Op.fieldAddr 30 (Operand.tmp 9) 2
                      refine wpMono_take' 16 (v := ?_) rfl (by kernel_rfl) (by kernel_rfl) (by kernel_rfl) (fun _ _ _ h => h) (by rfl) ?_ ?_
                      rotate_left
                      · (intro W hSw; have hcW := hSw.cells; try simp only [World.size_drew, World.cell?_drew] at hcW
                         go_simp; first | done | rfl)
                      try simp only [Act.put, List.setIfInBounds_toArray, List.set_cons_zero, List.set_cons_succ]
                      -- 17 Op.load 3 (Operand.tmp 204)
                      refine wpMono_take' 17 (v := ?_) rfl (by kernel_rfl) (by kernel_rfl) (by kernel_rfl) (fun _ _ _ h => h) (by rfl) ?_ ?_
                      rotate_left
                      · (intro W hSw; have hcW := hSw.cells; try simp only [World.size_drew, World.cell?_drew] at hcW
                         go_simp; first | done | rfl)
                      try simp only [Act.put, List.setIfInBounds_toArray, List.set_cons_zero, List.set_cons_succ]
                      -- 19 Op.move (Operand.tmp 7)
                      refine wpMono_take' 19 (v := ?_) rfl (by kernel_rfl) (by kernel_rfl) (by kernel_rfl) (fun _ _ _ h => h) (by rfl) ?_ ?_
                      rotate_left
                      · (intro W hSw; have hcW := hSw.cells; try simp only [World.size_drew, World.cell?_drew] at hcW
                         go_simp; first | done | rfl)
                      try simp only [Act.put, List.setIfInBounds_toArray, List.set_cons_zero, List.set_cons_succ]
                      -- 20 Op.fieldAddr 30 (Operand.tmp 9) 1
                      refine wpMono_take' 20 (v := ?_) rfl (by kernel_rfl) (by kernel_rfl) (by kernel_rfl) (fun _ _ _ h => h) (by rfl) ?_ ?_
                      rotate_left
                      · (intro W hSw; have hcW := hSw.cells; try simp only [World.size_drew, World.cell?_drew] at hcW
                         go_simp; first | done | rfl)
                      try simp only [Act.put, List.setIfInBounds_toArray, List.set_cons_zero, List.set_cons_succ]
                      -- 21 Op.load 3 (Operand.tmp 208)
                      refine wpMono_take' 21 (v := ?_) rfl (by kernel_rfl) (by kernel_rfl) (by kernel_rfl) (fun _ _ _ h => h) (by rfl) ?_ ?_
                      rotate_left
                      · (intro W hSw; have hcW := hSw.cells; try simp only [World.size_drew, World.cell?_drew] at hcW
                         go_simp; first | done | rfl)
                      try simp only [Act.put, List.setIfInBounds_toArray, List.set_cons_zero, List.set_cons_succ]
                      -- 22 Op.fieldAddr 30 (Operand.tmp 9) 2
                      refine wpMono_take' 22 (v := ?_) rfl (by kernel_rfl) (by kernel_rfl) (by kernel_rfl) (fun _ _ _ h => h) (by rfl) ?_ ?_
                      rotate_left
                      · (intro W hSw; have hcW := hSw.cells; try simp only [World.size_drew, World.cell?_drew] at hcW
                         go_simp; first | done | rfl)
                      try simp only [Act.put, List.setIfInBounds_toArray, List.set_cons_zero, List.set_cons_succ]
                      -- 23 Op.load 3 (Operand.tmp 210)
                      refine wpMono_take' 23 (v := ?_) rfl (by kernel_rfl) (by kernel_rfl) (by kernel_rfl) (fun _ _ _ h => h) (by rfl) ?_ ?_
                      rotate_left
                      · (intro W hSw; have hcW := hSw.cells; try simp only [World.size_drew, World.cell?_drew] at hcW
                         go_simp; first | done | rfl)
                      try simp only [Act.put, List.setIfInBounds_toArray, List.set_cons_zero, List.set_cons_succ]
                      -- EFFECT 18 Op.call { callee := Callee.value (Operand.func 13), args := #[Operand.tmp 201, Operand.tmp 203, Operand.tmp 205], argTypes := #[24, 3, 3] }
                      refine wpMono_one' 18 (by kernel_rfl) rfl (by rfl) (fun K hK => ?_)
                      go_simp
                      refine (count_t B g bb cb (2 * (i + 1)) n a b Fx Cx Lx Wx _ (HSd.out.below hby).net HSd.out.rel Hok.out).mono ?_
                      rintro e wz ⟨rfl, rfl⟩
                      refine hK.out _ _ ?_ ?_
                      · exact .refl _ _
                      clear hK K
                      try simp only [Act.put, List.setIfInBounds_toArray, List.set_cons_zero, List.set_cons_succ]
                      -- EFFECT 24 Op.call { callee := Callee.value (Operand.func 25), args := #[Operand.tmp 207, Operand.tmp 209, Operand.tmp 211], argTypes := #[44, 3, 3] }
                      refine wpMono_one' 24 (by kernel_rfl) rfl (by rfl) (fun K hK => ?_)
                      go_simp
                      refine (count_x B rg n a b Lx Wx _ (HSd.out.below hby).ref (by omega)).mono ?_
                      rintro e wu ⟨rfl, rfl⟩
                      refine hK.out _ _ ?_ ?_
                      · exact .refl _ _
                      clear hK K
                      try simp only [Act.put, List.setIfInBounds_toArray, List.set_cons_zero, List.set_cons_succ]
                      -- 25 Op.binOp BinOp.neq 3 (Operand.tmp 206) (Operand.tmp 212) 3
                      refine wpMono_take' 25 (v := ?_) rfl (by kernel_rfl) (by kernel_rfl) (by kernel_rfl) (fun _ _ _ h => h) (by rfl) ?_ ?_
                      rotate_left
                      · (intro W hSw; have hcW := hSw.cells; try simp only [World.size_drew, World.cell?_drew] at hcW
                         go_simp; first | done | rfl)
                      try simp only [Act.put, List.setIfInBounds_toArray, List.set_cons_zero, List.set_cons_succ]
                      -- 26 Op.pick (Operand.tmp 200) (Operand.const (Value.bool true)) (Operand.tmp 213)
                      refine wpMono_take' 26 (v := ?_) rfl (by kernel_rfl) (by kernel_rfl) (by kernel_rfl) (fun _ _ _ h => h) (by rfl) ?_ ?_
                      rotate_left
                      · (intro W hSw; have hcW := hSw.cells; try simp only [World.size_drew, World.cell?_drew] at hcW
                         go_simp; first | done | rfl)
                      try simp only [Act.put, List.setIfInBounds_toArray, List.set_cons_zero, List.set_cons_succ]
                      refine wpMono_done (by kernel_rfl) ?_ _
                      have HSy := Lib.hid (HSd.out.below hby)
                      have Hby := Lib.hid ((below_drewN Hbx.out 1).trans (hby.mono (by have := (below_drewN Hbx.out 1).size; omega)))
                      clear hby HSd HSx
                      go_wp2
                      go_roundw
                      case rel => exact ⟨i + 1, Fx, Cx, Lx, Wx, by omega, by omega, by go_num, HSy.out, Hby.out⟩
                      case measure => simp [intOf]; omega
                  · by_cases hk4 : k = 4
                    · subst hk4
                      as_aux_lemma =>
                        go_wp2_with fail
                        generalize wr.alloc (.cells #[.int .i64 4, .int .i64 a, .int .i64 b, .int .i64 x, .string s] 30) = W at *
                        refine (cut_t B g bb cb (2 * i) n a b F C _ HS.out.net Hok.out (by omega)).mono ?_
                        rintro e w3 ⟨rfl, hN3, hB3, hk3⟩
                        have hO3 := hk3.blk HO.out (by simp [netP])
                        have q0 : w3.cell? ⟨wr.heap.size, 0, none⟩ = some (.int .i64 4) := hO3.cell 0
                        have q1 : w3.cell? ⟨wr.heap.size, 1, none⟩ = some (.int .i64 a) := hO3.cell 1
                        have q2 : w3.cell? ⟨wr.heap.size, 2, none⟩ = some (.int .i64 b) := hO3.cell 2
                        have q3 : w3.cell? ⟨wr.heap.size, 3, none⟩ = some (.int .i64 x) := hO3.cell 3
                        have q4 : w3.cell? ⟨wr.heap.size, 4, none⟩ = some (.string s) := hO3.cell 4
                        have q5 := hO3.lt
                        clear hO3
                        go_wp2_with fail
                        refine (cut_x B rg n a b L Ws _ (HS.out.ref.net hk3) (by omega)).mono ?_
                        rintro e w4 ⟨rfl, hR4⟩
                        have HSx := Lib.hid (Sta.both (NetT.more hN3 (by omega : _ ≤ 2 * (i + 1))) hR4 (rel_cut HS.out.rel a b) (by omega) (by have := cutW_le n Ws (a, b); omega))
                        have HOx := Lib.hid (hR4.2.2.blk (hk3.blk HO.out (by simp [netP])) (by simp [refP]))
                        have Hbx := Lib.hid ((Hbw.out.trans (hB3.mono hwB)).trans (hR4.2.1.mono hwB))
                        generalize F = Fx at HSx
                        generalize cutC n a b C = Cx at HSx
                        generalize L = Lx at HSx
                        generalize cutW n Ws (a, b) = Wx at HSx
                        clear hN3 hR4 hB3 hk3
                        clear q0 q1 q2 q3 q4 q5 HS HO Hbw
                        have hSd := HSx.out.below (below_drewN (Below.refl _ _) 1 : Below w4.heap.size w4 w4.drew)
                        have HSd := Lib.hid hSd
                        obtain ⟨A1, e1, A2, e2, hRf⟩ := HSx.out.ref
                        have hO := HOx.out
                        have q0 : w4.cell? ⟨wr.heap.size, 0, none⟩ = some (.int .i64 4) := hO.cell 0
                        have q1 : w4.cell? ⟨wr.heap.size, 1, none⟩ = some (.int .i64 a) := hO.cell 1
                        have q2 : w4.cell? ⟨wr.heap.size, 2, none⟩ = some (.int .i64 b) := hO.cell 2
                        have q3 : w4.cell? ⟨wr.heap.size, 3, none⟩ = some (.int .i64 x) := hO.cell 3
                        have q4 : w4.cell? ⟨wr.heap.size, 4, none⟩ = some (.string s) := hO.cell 4
                        have q5 := hO.lt
                        have r1 : w4.cell? ⟨rg, 1, none⟩ = some (.slice A1 Lx.length e1) := hRf.blk.cell 1
                        have r2 := hRf.blk.lt
                        have hLx := HSx.out.hL
                        have hWx := HSx.out.hW
                        clear hO hRf hSd
                        go_wp2_with fail
                        refine wp_region_mono nobody (by kernel_rfl) ?_
                        -- 0 Op.move (Operand.tmp 10)
                        refine wpMono_take' 0 (v := ?_) rfl (by kernel_rfl) (by kernel_rfl) (by kernel_rfl) (fun _ _ _ h => h) (by rfl) ?_ ?_
                        rotate_left
                        · (intro W hSw; have hcW := hSw.cells; try simp only [World.size_drew, World.cell?_drew] at hcW
                           go_simp; first | done | rfl)
                        try simp only [Act.put, List.setIfInBounds_toArray, List.set_cons_zero, List.set_cons_succ]
                        -- 1 Op.unOp UnOp.not 4 (Operand.tmp 188)
                        refine wpMono_take' 1 (v := ?_) rfl (by kernel_rfl) (by kernel_rfl) (by kernel_rfl) (fun _ _ _ h => h) (by rfl) ?_ ?_
                        rotate_left
                        · (intro W hSw; have hcW := hSw.cells; try simp only [World.size_drew, World.cell?_drew] at hcW
                           go_simp; first | done | rfl)
                        try simp only [Act.put, List.setIfInBounds_toArray, List.set_cons_zero, List.set_cons_succ]
                        -- 2 Op.move (Operand.tmp 189)
                        refine wpMono_take' 2 (v := ?_) rfl (by kernel_rfl) (by kernel_rfl) (by kernel_rfl) (fun _ _ _ h => h) (by rfl) ?_ ?_
                        rotate_left
                        · (intro W hSw; have hcW := hSw.cells; try simp only [World.size_drew, World.cell?_drew] at hcW
                           go_simp; first | done | rfl)
                        try simp only [Act.put, List.setIfInBounds_toArray, List.set_cons_zero, List.set_cons_succ]
                        -- 3 Op.move (Operand.tmp 5)
                        refine wpMono_take' 3 (v := ?_) rfl (by kernel_rfl) (by kernel_rfl) (by kernel_rfl) (fun _ _ _ h => h) (by rfl) ?_ ?_
                        rotate_left
                        · (intro W hSw; have hcW := hSw.cells; try simp only [World.size_drew, World.cell?_drew] at hcW
                           go_simp; first | done | rfl)
                        try simp only [Act.put, List.setIfInBounds_toArray, List.set_cons_zero, List.set_cons_succ]
                        -- 5 Op.move (Operand.tmp 7)
                        refine wpMono_take' 5 (v := ?_) rfl (by kernel_rfl) (by kernel_rfl) (by kernel_rfl) (fun _ _ _ h => h) (by rfl) ?_ ?_
                        rotate_left
                        · (intro W hSw; have hcW := hSw.cells; try simp only [World.size_drew, World.cell?_drew] at hcW
                           go_simp; first | done | rfl)
                        try simp only [Act.put, List.setIfInBounds_toArray, List.set_cons_zero, List.set_cons_succ]
                        -- 6 Op.nilCheck (Operand.tmp 193)
                        refine wpMono_take' 6 (v := ?_) rfl (by kernel_rfl) (by kernel_rfl) (by kernel_rfl) (fun _ _ _ h => h) (by rfl) ?_ ?_
                        rotate_left
                        · (intro W hSw; have hcW := hSw.cells; try simp only [World.size_drew, World.cell?_drew] at hcW
                           go_simp; first | done | rfl)
                        try simp only [Act.put, List.setIfInBounds_toArray, List.set_cons_zero, List.set_cons_succ]
                        -- 7 Op.fieldAddr 48 (Operand.tmp 194) 1
                        refine wpMono_take' 7 (v := ?_) rfl (by kernel_rfl) (by kernel_rfl) (by kernel_rfl) (fun _ _ _ h => h) (by rfl) ?_ ?_
                        rotate_left
                        · (intro W hSw; have hcW := hSw.cells; try simp only [World.size_drew, World.cell?_drew] at hcW
                           go_simp; first | done | rfl)
                        try simp only [Act.put, List.setIfInBounds_toArray, List.set_cons_zero, List.set_cons_succ]
                        -- 8 Op.load 45 (Operand.tmp 195)
                        refine wpMono_take' 8 (v := ?_) rfl (by kernel_rfl) (by kernel_rfl) (by kernel_rfl) (fun _ _ _ h => h) (by rfl) ?_ ?_
                        rotate_left
                        · (intro W hSw; have hcW := hSw.cells; try simp only [World.size_drew, World.cell?_drew] at hcW
                           go_simp; first | done | rfl)
                        try simp only [Act.put, List.setIfInBounds_toArray, List.set_cons_zero, List.set_cons_succ]
                        -- 9 Op.call { callee := Callee.builtin Builtin.len, args := #[Operand.tmp 196], argTypes := #[
                        refine wpMono_take' 9 (v := ?_) rfl (by kernel_rfl) (by kernel_rfl) (by kernel_rfl) (fun _ _ _ h => h) (by rfl) ?_ ?_
                        rotate_left
                        · (intro W hSw; have hcW := hSw.cells; try simp only [World.size_drew, World.cell?_drew] at hcW
                           go_simp; first | done | rfl)
                        try simp only [Act.put, List.setIfInBounds_toArray, List.set_cons_zero, List.set_cons_succ]
                        -- EFFECT 4 Op.call { callee := Callee.value (Operand.func 17), args := #[Operand.tmp 191], argTypes := #[24] }
                        refine wpMono_one' 4 (by kernel_rfl) rfl (by rfl) (fun K hK => ?_)
                        go_simp
                        refine (all_t B g bb cb (2 * (i + 1)) n Fx Cx Lx Wx _ HSd.out.net HSd.out.rel (by omega)).mono ?_
                        rintro e wy ⟨rfl, hby⟩
                        have hOy := HOx.out.drew.below hby HOx.out.drew.lt
                        have q0 : wy.cell? ⟨wr.heap.size, 0, none⟩ = some (.int .i64 4) := hOy.cell 0
                        have q1 : wy.cell? ⟨wr.heap.size, 1, none⟩ = some (.int .i64 a) := hOy.cell 1
                        have q2 : wy.cell? ⟨wr.heap.size, 2, none⟩ = some (.int .i64 b) := hOy.cell 2
                        have q3 : wy.cell? ⟨wr.heap.size, 3, none⟩ = some (.int .i64 x) := hOy.cell 3
                        have q4 : wy.cell? ⟨wr.heap.size, 4, none⟩ = some (.string s) := hOy.cell 4
                        have q5 := hOy.lt
                        clear hOy
                        refine hK.out _ _ ?_ ?_
                        · exact .of_below hby
                        clear hK K
                        try simp only [Act.put, List.setIfInBounds_toArray, List.set_cons_zero, List.set_cons_succ]
                        -- 10 Op.binOp BinOp.neq 3 (Operand.tmp 192) (Operand.tmp 197) 3
                        refine wpMono_take' 10 (v := ?_) rfl (by kernel_rfl) (by kernel_rfl) (by kernel_rfl) (fun _ _ _ h => h) (by rfl) ?_ ?_
                        rotate_left
                        · (intro W hSw; have hcW := hSw.cells; try simp only [World.size_drew, World.cell?_drew] at hcW
                           go_simp; first | done | rfl)
                        try simp only [Act.put, List.setIfInBounds_toArray, List.set_cons_zero, List.set_cons_succ]
                        -- 11 Op.pick (Operand.tmp 190) (Operand.const (Value.bool true)) (Operand.tmp 198)
                        refine wpMono_take' 11 (v := ?_) rfl (by kernel_rfl) (by kernel_rfl) (by kernel_rfl) (fun _ _ _ h => h) (by rfl) ?_ ?_
                        rotate_left
                        · (intro W hSw; have hcW := hSw.cells; try simp only [World.size_drew, World.cell?_drew] at hcW
                           go_simp; first | done | rfl)
                        try simp only [Act.put, List.setIfInBounds_toArray, List.set_cons_zero, List.set_cons_succ]
                        -- 12 Op.move (Operand.tmp 199)
                        refine wpMono_take' 12 (v := ?_) rfl (by kernel_rfl) (by kernel_rfl) (by kernel_rfl) (fun _ _ _ h => h) (by rfl) ?_ ?_
                        rotate_left
                        · (intro W hSw; have hcW := hSw.cells; try simp only [World.size_drew, World.cell?_drew] at hcW
                           go_simp; first | done | rfl)
                        try simp only [Act.put, List.setIfInBounds_toArray, List.set_cons_zero, List.set_cons_succ]
                        -- 13 Op.move (Operand.tmp 5)
                        refine wpMono_take' 13 (v := ?_) rfl (by kernel_rfl) (by kernel_rfl) (by kernel_rfl) (fun _ _ _ h => h) (by rfl) ?_ ?_
                        rotate_left
                        · (intro W hSw; have hcW := hSw.cells; try simp only [World.size_drew, World.cell?_drew] at hcW
                           go_simp; first | done | rfl)
                        try simp only [Act.put, List.setIfInBounds_toArray, List.set_cons_zero, List.set_cons_succ]
                        -- 14 Op.fieldAddr 30 (Operand.tmp 9) 1
                        refine wpMono_take' 14 (v := ?_) rfl (by kernel_rfl) (by kernel_rfl) (by kernel_rfl) (fun _ _ _ h => h) (by rfl) ?_ ?_
                        rotate_left
                        · (intro W hSw; have hcW := hSw.cells; try simp only [World.size_drew, World.cell?_drew] at hcW
                           go_simp; first | done | rfl)
                        try simp only [Act.put, List.setIfInBounds_toArray, List.set_cons_zero, List.set_cons_succ]
                        -- 15 Op.load 3 (Operand.tmp 202)
                        refine wpMono_take' 15 (v := ?_) rfl (by kernel_rfl) (by kernel_rfl) (by kernel_rfl) (fun _ _ _ h => h) (by rfl) ?_ ?_
                        rotate_left
                        · (intro W hSw; have hcW := hSw.cells; try simp only [World.size_drew, World.cell?_drew] at hcW
                           go_simp; first | done | rfl)
                        try simp only [Act.put, List.setIfInBounds_toArray, List.set_cons_zero, List.set_cons_succ]
                        -- 16 Op.fieldAddr 30 (Operand.tmp 9) 2
                        refine wpMono_take' 16 (v := ?_) rfl (by kernel_rfl) (by kernel_rfl) (by kernel_rfl) (fun _ _ _ h => h) (by rfl) ?_ ?_
                        rotate_left
                        · (intro W hSw; have hcW := hSw.cells; try simp only [World.size_drew, World.cell?_drew] at hcW
                           go_simp; first | done | rfl)
                        try simp only [Act.put, List.setIfInBounds_toArray, List.set_cons_zero, List.set_cons_succ]
                        -- 17 Op.load 3 (Operand.tmp 204)
                        refine wpMono_take' 17 (v := ?_) rfl (by kernel_rfl) (by kernel_rfl) (by kernel_rfl) (fun _ _ _ h => h) (by rfl) ?_ ?_
                        rotate_left
                        · (intro W hSw; have hcW := hSw.cells; try simp only [World.size_drew, World.cell?_drew] at hcW
                           go_simp; first | done | rfl)
                        try simp only [Act.put, List.setIfInBounds_toArray, List.set_cons_zero, List.set_cons_succ]
                        -- 19 Op.move (Operand.tmp 7)
                        refine wpMono_take' 19 (v := ?_) rfl (by kernel_rfl) (by kernel_rfl) (by kernel_rfl) (fun _ _ _ h => h) (by rfl) ?_ ?_
                        rotate_left
                        · (intro W hSw; have hcW := hSw.cells; try simp only [World.size_drew, World.cell?_drew] at hcW
                           go_simp; first | done | rfl)
                        try simp only [Act.put, List.setIfInBounds_toArray, List.set_cons_zero, List.set_cons_succ]
                        -- 20 Op.fieldAddr 30 (Operand.tmp 9) 1
                        refine wpMono_take' 20 (v := ?_) rfl (by kernel_rfl) (by kernel_rfl) (by kernel_rfl) (fun _ _ _ h => h) (by rfl) ?_ ?_
                        rotate_left
                        · (intro W hSw; have hcW := hSw.cells; try simp only [World.size_drew, World.cell?_drew] at hcW
                           go_simp; first | done | rfl)
                        try simp only [Act.put, List.setIfInBounds_toArray, List.set_cons_zero, List.set_cons_succ]
                        -- 21 Op.load 3 (Operand.tmp 208)
                        refine wpMono_take' 21 (v := ?_) rfl (by kernel_rfl) (by kernel_rfl) (by kernel_rfl) (fun _ _ _ h => h) (by rfl) ?_ ?_
                        rotate_left
                        · (intro W hSw; have hcW := hSw.cells; try simp only [World.size_drew, World.cell?_drew] at hcW
                           go_simp; first | done | rfl)
                        try simp only [Act.put, List.setIfInBounds_toArray, List.set_cons_zero, List.set_cons_succ]
                        -- 22 Op.fieldAddr 30 (Operand.tmp 9) 2
                        refine wpMono_take' 22 (v := ?_) rfl (by kernel_rfl) (by kernel_rfl) (by kernel_rfl) (fun _ _ _ h => h) (by rfl) ?_ ?_
                        rotate_left
                        · (intro W hSw; have hcW := hSw.cells; try simp only [World.size_drew, World.cell?_drew] at hcW
                           go_simp; first | done | rfl)
                        try simp only [Act.put, List.setIfInBounds_toArray, List.set_cons_zero, List.set_cons_succ]
                        -- 23 Op.load 3 (Operand.tmp 210)
                        refine wpMono_take' 23 (v := ?_) rfl (by kernel_rfl) (by kernel_rfl) (by kernel_rfl) (fun _ _ _ h => h) (by rfl) ?_ ?_
                        rotate_left
                        · (intro W hSw; have hcW := hSw.cells; try simp only [World.size_drew, World.cell?_drew] at hcW
                           go_simp; first | done | rfl)
                        try simp only [Act.put, List.setIfInBounds_toArray, List.set_cons_zero, List.set_cons_succ]
                        -- EFFECT 18 Op.call { callee := Callee.value (Operand.func 13), args := #[Operand.tmp 201, Operand.tmp 203, Operand.tmp 205], argTypes := #[24, 3, 3] }
                        refine wpMono_one' 18 (by kernel_rfl) rfl (by rfl) (fun K hK => ?_)
                        go_simp
                        refine (count_t B g bb cb (2 * (i + 1)) n a b Fx Cx Lx Wx _ (HSd.out.below hby).net HSd.out.rel Hok.out).mono ?_
                        rintro e wz ⟨rfl, rfl⟩
                        refine hK.out _ _ ?_ ?_
                        · exact .refl _ _
                        clear hK K
                        try simp only [Act.put, List.setIfInBounds_toArray, List.set_cons_zero, List.set_cons_succ]
                        -- EFFECT 24 Op.call { callee := Callee.value (Operand.func 25), args := #[Operand.tmp 207, Operand.tmp 209, Operand.tmp 211], argTypes := #[44, 3, 3] }
                        refine wpMono_one' 24 (by kernel_rfl) rfl (by rfl) (fun K hK => ?_)
                        go_simp
                        refine (count_x B rg n a b Lx Wx _ (HSd.out.below hby).ref (by omega)).mono ?_
                        rintro e wu ⟨rfl, rfl⟩
                        refine hK.out _ _ ?_ ?_
                        · exact .refl _ _
                        clear hK K
                        try simp only [Act.put, List.setIfInBounds_toArray, List.set_cons_zero, List.set_cons_succ]
                        -- 25 Op.binOp BinOp.neq 3 (Operand.tmp 206) (Operand.tmp 212) 3
                        refine wpMono_take' 25 (v := ?_) rfl (by kernel_rfl) (by kernel_rfl) (by kernel_rfl) (fun _ _ _ h => h) (by rfl) ?_ ?_
                        rotate_left
                        · (intro W hSw; have hcW := hSw.cells; try simp only [World.size_drew, World.cell?_drew] at hcW
                           go_simp; first | done | rfl)
                        try simp only [Act.put, List.setIfInBounds_toArray, List.set_cons_zero, List.set_cons_succ]
                        -- 26 Op.pick (Operand.tmp 200) (Operand.const (Value.bool true)) (Operand.tmp 213)
                        refine wpMono_take' 26 (v := ?_) rfl (by kernel_rfl) (by kernel_rfl) (by kernel_rfl) (fun _ _ _ h => h) (by rfl) ?_ ?_
                        rotate_left
                        · (intro W hSw; have hcW := hSw.cells; try simp only [World.size_drew, World.cell?_drew] at hcW
                           go_simp; first | done | rfl)
                        try simp only [Act.put, List.setIfInBounds_toArray, List.set_cons_zero, List.set_cons_succ]
                        refine wpMono_done (by kernel_rfl) ?_ _
                        have HSy := Lib.hid (HSd.out.below hby)
                        have Hby := Lib.hid ((below_drewN Hbx.out 1).trans (hby.mono (by have := (below_drewN Hbx.out 1).size; omega)))
                        clear hby HSd HSx
                        go_wp2
                        go_roundw
                        case rel => exact ⟨i + 1, Fx, Cx, Lx, Wx, by omega, by omega, by go_num, HSy.out, Hby.out⟩
                        case measure => simp [intOf]; omega
                    · by_cases hk5 : k = 5
                      · subst hk5
                        as_aux_lemma =>
                          go_wp2_with fail
                          generalize wr.alloc (.cells #[.int .i64 5, .int .i64 a, .int .i64 b, .int .i64 x, .string s] 30) = W at *
                          refine (join_t B g bb cb (2 * i) n a b F C _ HS.out.net Hok.out).mono ?_
                          rintro e w3 ⟨rfl, hN3, hB3, hk3⟩
                          have hO3 := hk3.blk HO.out (by simp [netP])
                          have q0 : w3.cell? ⟨wr.heap.size, 0, none⟩ = some (.int .i64 5) := hO3.cell 0
                          have q1 : w3.cell? ⟨wr.heap.size, 1, none⟩ = some (.int .i64 a) := hO3.cell 1
                          have q2 : w3.cell? ⟨wr.heap.size, 2, none⟩ = some (.int .i64 b) := hO3.cell 2
                          have q3 : w3.cell? ⟨wr.heap.size, 3, none⟩ = some (.int .i64 x) := hO3.cell 3
                          have q4 : w3.cell? ⟨wr.heap.size, 4, none⟩ = some (.string s) := hO3.cell 4
                          have q5 := hO3.lt
                          clear hO3
                          go_wp2_with fail
                          refine (join_x B rg n a b L Ws _ (HS.out.ref.net hk3) (by omega)).mono ?_
                          rintro e w4 ⟨rfl, hR4⟩
                          have HSx := Lib.hid (Sta.both (NetT.more hN3 (by omega : _ ≤ 2 * (i + 1))) hR4 (rel_join HS.out.rel a b) (by omega) (by have := joinW_le Ws (a, b); omega))
                          have HOx := Lib.hid (hR4.2.2.blk (hk3.blk HO.out (by simp [netP])) (by simp [refP]))
                          have Hbx := Lib.hid ((Hbw.out.trans (hB3.mono hwB)).trans (hR4.2.1.mono hwB))
                          generalize F = Fx at HSx
                          generalize joinC n a b C = Cx at HSx
                          generalize L = Lx at HSx
                          generalize joinW Ws (a, b) = Wx at HSx
                          clear hN3 hR4 hB3 hk3
                          clear q0 q1 q2 q3 q4 q5 HS HO Hbw
                          have hSd := HSx.out.below (below_drewN (Below.refl _ _) 1 : Below w4.heap.size w4 w4.drew)
                          have HSd := Lib.hid hSd
                          obtain ⟨A1, e1, A2, e2, hRf⟩ := HSx.out.ref
                          have hO := HOx.out
                          have q0 : w4.cell? ⟨wr.heap.size, 0, none⟩ = some (.int .i64 5) := hO.cell 0
                          have q1 : w4.cell? ⟨wr.heap.size, 1, none⟩ = some (.int .i64 a) := hO.cell 1
                          have q2 : w4.cell? ⟨wr.heap.size, 2, none⟩ = some (.int .i64 b) := hO.cell 2
                          have q3 : w4.cell? ⟨wr.heap.size, 3, none⟩ = some (.int .i64 x) := hO.cell 3
                          have q4 : w4.cell? ⟨wr.heap.size, 4, none⟩ = some (.string s) := hO.cell 4
                          have q5 := hO.lt
                          have r1 : w4.cell? ⟨rg, 1, none⟩ = some (.slice A1 Lx.length e1) := hRf.blk.cell 1
                          have r2 := hRf.blk.lt
                          have hLx := HSx.out.hL
                          have hWx := HSx.out.hW
                          clear hO hRf hSd
                          go_wp2_with fail
                          refine wp_region_mono nobody (by kernel_rfl) ?_
                          -- 0 Op.move (Operand.tmp 10)
                          refine wpMono_take' 0 (v := ?_) rfl (by kernel_rfl) (by kernel_rfl) (by kernel_rfl) (fun _ _ _ h => h) (by rfl) ?_ ?_
                          rotate_left
                          · (intro W hSw; have hcW := hSw.cells; try simp only [World.size_drew, World.cell?_drew] at hcW
                             go_simp; first | done | rfl)
                          try simp only [Act.put, List.setIfInBounds_toArray, List.set_cons_zero, List.set_cons_succ]
                          -- 1 Op.unOp UnOp.not 4 (Operand.tmp 188)
                          refine wpMono_take' 1 (v := ?_) rfl (by kernel_rfl) (by kernel_rfl) (by kernel_rfl) (fun _ _ _ h => h) (by rfl) ?_ ?_
                          rotate_left
                          · (intro W hSw; have hcW := hSw.cells; try simp only [World.size_drew, World.cell?_drew] at hcW
                             go_simp; first | done | rfl)
                          try simp only [Act.put, List.setIfInBounds_toArray, List.set_cons_zero, List.set_cons_succ]
                          -- 2 Op.move (Operand.tmp 189)
                          refine wpMono_take' 2 (v := ?_) rfl (by kernel_rfl) (by kernel_rfl) (by kernel_rfl) (fun _ _ _ h => h) (by rfl) ?_ ?_
                          rotate_left
                          · (intro W hSw; have hcW := hSw.cells; try simp only [World.size_drew, World.cell?_drew] at hcW
                             go_simp; first | done | rfl)
                          try simp only [Act.put, List.setIfInBounds_toArray, List.set_cons_zero, List.set_cons_succ]
                          -- 3 Op.move (Operand.tmp 5)
                          refine wpMono_take' 3 (v := ?_) rfl (by kernel_rfl) (by kernel_rfl) (by kernel_rfl) (fun _ _ _ h => h) (by rfl) ?_ ?_
                          rotate_left
                          · (intro W hSw; have hcW := hSw.cells; try simp only [World.size_drew, World.cell?_drew] at hcW
                             go_simp; first | done | rfl)
                          try simp only [Act.put, List.setIfInBounds_toArray, List.set_cons_zero, List.set_cons_succ]
                          -- 5 Op.move (Operand.tmp 7)
                          refine wpMono_take' 5 (v := ?_) rfl (by kernel_rfl) (by kernel_rfl) (by kernel_rfl) (fun _ _ _ h => h) (by rfl) ?_ ?_
                          rotate_left
                          · (intro W hSw; have hcW := hSw.cells; try simp only [World.size_drew, World.cell?_drew] at hcW
                             go_simp; first | done | rfl)
                          try simp only [Act.put, List.setIfInBounds_toArray, List.set_cons_zero, List.set_cons_succ]
                          -- 6 Op.nilCheck (Operand.tmp 193)
                          refine wpMono_take' 6 (v := ?_) rfl (by kernel_rfl) (by kernel_rfl) (by kernel_rfl) (fun _ _ _ h => h) (by rfl) ?_ ?_
                          rotate_left
                          · (intro W hSw; have hcW := hSw.cells; try simp only [World.size_drew, World.cell?_drew] at hcW
                             go_simp; first | done | rfl)
                          try simp only [Act.put, List.setIfInBounds_toArray, List.set_cons_zero, List.set_cons_succ]
                          -- 7 Op.fieldAddr 48 (Operand.tmp 194) 1
                          refine wpMono_take' 7 (v := ?_) rfl (by kernel_rfl) (by kernel_rfl) (by kernel_rfl) (fun _ _ _ h => h) (by rfl) ?_ ?_
                          rotate_left
                          · (intro W hSw; have hcW := hSw.cells; try simp only [World.size_drew, World.cell?_drew] at hcW
                             go_simp; first | done | rfl)
                          try simp only [Act.put, List.setIfInBounds_toArray, List.set_cons_zero, List.set_cons_succ]
                          -- 8 Op.load 45 (Operand.tmp 195)
                          refine wpMono_take' 8 (v := ?_) rfl (by kernel_rfl) (by kernel_rfl) (by kernel_rfl) (fun _ _ _ h => h) (by rfl) ?_ ?_
                          rotate_left
                          · (intro W hSw; have hcW := hSw.cells; try simp only [World.size_drew, World.cell?_drew] at hcW
                             go_simp; first | done | rfl)
                          try simp only [Act.put, List.setIfInBounds_toArray, List.set_cons_zero, List.set_cons_succ]
                          -- 9 Op.call { callee := Callee.builtin Builtin.len, args := #[Operand.tmp 196], argTypes := #[
                          refine wpMono_take' 9 (v := ?_) rfl (by kernel_rfl) (by kernel_rfl) (by kernel_rfl) (fun _ _ _ h => h) (by rfl) ?_ ?_
                          rotate_left
                          · (intro W hSw; have hcW := hSw.cells; try simp only [World.size_drew, World.cell?_drew] at hcW
                             go_simp; first | done | rfl)
                          try simp only [Act.put, List.setIfInBounds_toArray, List.set_cons_zero, List.set_cons_succ]
                          -- EFFECT 4 Op.call { callee := Callee.value (Operand.func 17), args := #[Operand.tmp 191], argTypes := #[24] }
                          refine wpMono_one' 4 (by kernel_rfl) rfl (by rfl) (fun K hK => ?_)
                          go_simp
                          refine (all_t B g bb cb (2 * (i + 1)) n Fx Cx Lx Wx _ HSd.out.net HSd.out.rel (by omega)).mono ?_
                          rintro e wy ⟨rfl, hby⟩
                          have hOy := HOx.out.drew.below hby HOx.out.drew.lt
                          have q0 : wy.cell? ⟨wr.heap.size, 0, none⟩ = some (.int .i64 5) := hOy.cell 0
                          have q1 : wy.cell? ⟨wr.heap.size, 1, none⟩ = some (.int .i64 a) := hOy.cell 1
                          have q2 : wy.cell? ⟨wr.heap.size, 2, none⟩ = some (.int .i64 b) := hOy.cell 2
                          have q3 : wy.cell? ⟨wr.heap.size, 3, none⟩ = some (.int .i64 x) := hOy.cell 3
                          have q4 : wy.cell? ⟨wr.heap.size, 4, none⟩ = some (.string s) := hOy.cell 4
                          have q5 := hOy.lt
                          clear hOy
                          refine hK.out _ _ ?_ ?_
                          · exact .of_below hby
                          clear hK K
                          try simp only [Act.put, List.setIfInBounds_toArray, List.set_cons_zero, List.set_cons_succ]
                          -- 10 Op.binOp BinOp.neq 3 (Operand.tmp 192) (Operand.tmp 197) 3
                          refine wpMono_take' 10 (v := ?_) rfl (by kernel_rfl) (by kernel_rfl) (by kernel_rfl) (fun _ _ _ h => h) (by rfl) ?_ ?_
                          rotate_left
                          · (intro W hSw; have hcW := hSw.cells; try simp only [World.size_drew, World.cell?_drew] at hcW
                             go_simp; first | done | rfl)
                          try simp only [Act.put, List.setIfInBounds_toArray, List.set_cons_zero, List.set_cons_succ]
                          -- 11 Op.pick (Operand.tmp 190) (Operand.const (Value.bool true)) (Operand.tmp 198)
                          refine wpMono_take' 11 (v := ?_) rfl (by kernel_rfl) (by kernel_rfl) (by kernel_rfl) (fun _ _ _ h => h) (by rfl) ?_ ?_
                          rotate_left
                          · (intro W hSw; have hcW := hSw.cells; try simp only [World.size_drew, World.cell?_drew] at hcW
                             go_simp; first | done | rfl)
                          try simp only [Act.put, List.setIfInBounds_toArray, List.set_cons_zero, List.set_cons_succ]
                          -- 12 Op.move (Operand.tmp 199)
                          refine wpMono_take' 12 (v := ?_) rfl (by kernel_rfl) (by kernel_rfl) (by kernel_rfl) (fun _ _ _ h => h) (by rfl) ?_ ?_
                          rotate_left
                          · (intro W hSw; have hcW := hSw.cells; try simp only [World.size_drew, World.cell?_drew] at hcW
                             go_simp; first | done | rfl)
                          try simp only [Act.put, List.setIfInBounds_toArray, List.set_cons_zero, List.set_cons_succ]
                          -- 13 Op.move (Operand.tmp 5)
                          refine wpMono_take' 13 (v := ?_) rfl (by kernel_rfl) (by kernel_rfl) (by kernel_rfl) (fun _ _ _ h => h) (by rfl) ?_ ?_
                          rotate_left
                          · (intro W hSw; have hcW := hSw.cells; try simp only [World.size_drew, World.cell?_drew] at hcW
                             go_simp; first | done | rfl)
                          try simp only [Act.put, List.setIfInBounds_toArray, List.set_cons_zero, List.set_cons_succ]
                          -- 14 Op.fieldAddr 30 (Operand.tmp 9) 1
                          refine wpMono_take' 14 (v := ?_) rfl (by kernel_rfl) (by kernel_rfl) (by kernel_rfl) (fun _ _ _ h => h) (by rfl) ?_ ?_
                          rotate_left
                          · (intro W hSw; have hcW := hSw.cells; try simp only [World.size_drew, World.cell?_drew] at hcW
                             go_simp; first | done | rfl)
                          try simp only [Act.put, List.setIfInBounds_toArray, List.set_cons_zero, List.set_cons_succ]
                          -- 15 Op.load 3 (Operand.tmp 202)
                          refine wpMono_take' 15 (v := ?_) rfl (by kernel_rfl) (by kernel_rfl) (by kernel_rfl) (fun _ _ _ h => h) (by rfl) ?_ ?_
                          rotate_left
                          · (intro W hSw; have hcW := hSw.cells; try simp only [World.size_drew, World.cell?_drew] at hcW
                             go_simp; first | done | rfl)
                          try simp only [Act.put, List.setIfInBounds_toArray, List.set_cons_zero, List.set_cons_succ]
                          -- 16 Op.fieldAddr 30 (Operand.tmp 9) 2
                          refine wpMono_take' 16 (v := ?_) rfl (by kernel_rfl) (by kernel_rfl) (by kernel_rfl) (fun _ _ _ h => h) (by rfl) ?_ ?_
                          rotate_left
                          · (intro W hSw; have hcW := hSw.cells; try simp only [World.size_drew, World.cell?_drew] at hcW
                             go_simp; first | done | rfl)
                          try simp only [Act.put, List.setIfInBounds_toArray, List.set_cons_zero, List.set_cons_succ]
                          -- 17 Op.load 3 (Operand.tmp 204)
                          refine wpMono_take' 17 (v := ?_) rfl (by kernel_rfl) (by kernel_rfl) (by kernel_rfl) (fun _ _ _ h => h) (by rfl) ?_ ?_
                          rotate_left
                          · (intro W hSw; have hcW := hSw.cells; try simp only [World.size_drew, World.cell?_drew] at hcW
                             go_simp; first | done | rfl)
                          try simp only [Act.put, List.setIfInBounds_toArray, List.set_cons_zero, List.set_cons_succ]
                          -- 19 Op.move (Operand.tmp 7)
                          refine wpMono_take' 19 (v := ?_) rfl (by kernel_rfl) (by kernel_rfl) (by kernel_rfl) (fun _ _ _ h => h) (by rfl) ?_ ?_
                          rotate_left
                          · (intro W hSw; have hcW := hSw.cells; try simp only [World.size_drew, World.cell?_drew] at hcW
                             go_simp; first | done | rfl)
                          try simp only [Act.put, List.setIfInBounds_toArray, List.set_cons_zero, List.set_cons_succ]
                          -- 20 Op.fieldAddr 30 (Operand.tmp 9) 1
                          refine wpMono_take' 20 (v := ?_) rfl (by kernel_rfl) (by kernel_rfl) (by kernel_rfl) (fun _ _ _ h => h) (by rfl) ?_ ?_
                          rotate_left
                          · (intro W hSw; have hcW := hSw.cells; try simp only [World.size_drew, World.cell?_drew] at hcW
                             go_simp; first | done | rfl)
                          try simp only [Act.put, List.setIfInBounds_toArray, List.set_cons_zero, List.set_cons_succ]
                          -- 21 Op.load 3 (Operand.tmp 208)
                          refine wpMono_take' 21 (v := ?_) rfl (by kernel_rfl) (by kernel_rfl) (by kernel_rfl) (fun _ _ _ h => h) (by rfl) ?_ ?_
                          rotate_left
                          · (intro W hSw; have hcW := hSw.cells; try simp only [World.size_drew, World.cell?_drew] at hcW
                             go_simp; first | done | rfl)
                          try simp only [Act.put, List.setIfInBounds_toArray, List.set_cons_zero, List.set_cons_succ]
                          -- 22 Op.fieldAddr 30 (Operand.tmp 9) 2
                          refine wpMono_take' 22 (v := ?_) rfl (by kernel_rfl) (by kernel_rfl) (by kernel_rfl) (fun _ _ _ h => h) (by rfl) ?_ ?_
                          rotate_left
                          · (intro W hSw; have hcW := hSw.cells; try simp only [World.size_drew, World.cell?_drew] at hcW
                             go_simp; first | done | rfl)
                          try simp only [Act.put, List.setIfInBounds_toArray, List.set_cons_zero, List.set_cons_succ]
                          -- 23 Op.load 3 (Operand.tmp 210)
                          refine wpMono_take' 23 (v := ?_) rfl (by kernel_rfl) (by kernel_rfl) (by kernel_rfl) (fun _ _ _ h => h) (by rfl) ?_ ?_
                          rotate_left
                          · (intro W hSw; have hcW := hSw.cells; try simp only [World.size_drew, World.cell?_drew] at hcW
                             go_simp; first | done | rfl)
                          try simp only [Act.put, List.setIfInBounds_toArray, List.set_cons_zero, List.set_cons_succ]
                          -- EFFECT 18 Op.call { callee := Callee.value (Operand.func 13), args := #[Operand.tmp 201, Operand.tmp 203, Operand.tmp 205], argTypes := #[24, 3, 3] }
                          refine wpMono_one' 18 (by kernel_rfl) rfl (by rfl) (fun K hK => ?_)
                          go_simp
                          refine (count_t B g bb cb (2 * (i + 1)) n a b Fx Cx Lx Wx _ (HSd.out.below hby).net HSd.out.rel Hok.out).mono ?_
                          rintro e wz ⟨rfl, rfl⟩
                          refine hK.out _ _ ?_ ?_
                          · exact .refl _ _
                          clear hK K
                          try simp only [Act.put, List.setIfInBounds_toArray, List.set_cons_zero, List.set_cons_succ]
                          -- EFFECT 24 Op.call { callee := Callee.value (Operand.func 25), args := #[Operand.tmp 207, Operand.tmp 209, Operand.tmp 211], argTypes := #[44, 3, 3] }
                          refine wpMono_one' 24 (by kernel_rfl) rfl (by rfl) (fun K hK => ?_)
                          go_simp
                          refine (count_x B rg n a b Lx Wx _ (HSd.out.below hby).ref (by omega)).mono ?_
                          rintro e wu ⟨rfl, rfl⟩
                          refine hK.out _ _ ?_ ?_
                          · exact .refl _ _
                          clear hK K
                          try simp only [Act.put, List.setIfInBounds_toArray, List.set_cons_zero, List.set_cons_succ]
                          -- 25 Op.binOp BinOp.neq 3 (Operand.tmp 206) (Operand.tmp 212) 3
                          refine wpMono_take' 25 (v := ?_) rfl (by kernel_rfl) (by kernel_rfl) (by kernel_rfl) (fun _ _ _ h => h) (by rfl) ?_ ?_
                          rotate_left
                          · (intro W hSw; have hcW := hSw.cells; try simp only [World.size_drew, World.cell?_drew] at hcW
                             go_simp; first | done | rfl)
                          try simp only [Act.put, List.setIfInBounds_toArray, List.set_cons_zero, List.set_cons_succ]
                          -- 26 Op.pick (Operand.tmp 200) (Operand.const (Value.bool true)) (Operand.tmp 213)
                          refine wpMono_take' 26 (v := ?_) rfl (by kernel_rfl) (by kernel_rfl) (by kernel_rfl) (fun _ _ _ h => h) (by rfl) ?_ ?_
                          rotate_left
                          · (intro W hSw; have hcW := hSw.cells; try simp only [World.size_drew, World.cell?_drew] at hcW
                             go_simp; first | done | rfl)
                          try simp only [Act.put, List.setIfInBounds_toArray, List.set_cons_zero, List.set_cons_succ]
                          refine wpMono_done (by kernel_rfl) ?_ _
                          have HSy := Lib.hid (HSd.out.below hby)
                          have Hby := Lib.hid ((below_drewN Hbx.out 1).trans (hby.mono (by have := (below_drewN Hbx.out 1).size; omega)))
                          clear hby HSd HSx
                          go_wp2
                          go_roundw
                          case rel => exact ⟨i + 1, Fx, Cx, Lx, Wx, by omega, by omega, by go_num, HSy.out, Hby.out⟩
                          case measure => simp [intOf]; omega
                      · by_cases hk6 : k = 6
                        · subst hk6
                          as_aux_lemma =>
                            go_wp2_with fail
                            generalize wr.alloc (.cells #[.int .i64 6, .int .i64 a, .int .i64 b, .int .i64 x, .string s] 30) = W at *
                            refine (heal_t B g bb cb (2 * i) n F C _ HS.out.net).mono ?_
                            rintro e w3 ⟨rfl, hN3, hB3, hk3⟩
                            obtain ⟨A1, e1, A2, e2, hR3⟩ := HS.out.ref.net hk3
                            have hR4 := RefT.set2 (Ws' := []) (A' := none) (c' := 0) hR3 (KeepO.refl _ _) (Below.refl _ _) hR3.blk hR3.own1 (World.ownsRow_nil _ _ _ _)
                            simp only [List.length_nil] at hR4
                            have q0 : w3.cell? ⟨rg, 2, none⟩ = some (.slice A2 Ws.length e2) := hR3.blk.cell 2
                            have q1 := hR3.blk.lt
                            have q2 := hR3.blk.frozen 2
                            clear hR3
                            go_wp2_with fail
                            generalize w3.setCell ⟨rg, 2, none⟩ (.slice none 0 0) = w4 at *
                            have HSx := Lib.hid (Sta.both (NetT.more hN3 (by omega : _ ≤ 2 * (i + 1))) hR4 (rel_heal HS.out.rel) (by omega) (by simp))
                            have HOx := Lib.hid (hR4.2.2.blk (hk3.blk HO.out (by simp [netP])) (by simp [refP]))
                            have Hbx := Lib.hid ((Hbw.out.trans (hB3.mono hwB)).trans (hR4.2.1.mono hwB))
                            generalize F = Fx at HSx
                            generalize (fun _ : W2 => false) = Cx at HSx
                            generalize L = Lx at HSx
                            generalize ([] : List W2) = Wx at HSx
                            clear hN3 hR4 hB3 hk3
                            clear HS HO Hbw q0 q1 q2
                            have hSd := HSx.out.below (below_drewN (Below.refl _ _) 1 : Below w4.heap.size w4 w4.drew)
                            have HSd := Lib.hid hSd
                            obtain ⟨A1, e1, A2, e2, hRf⟩ := HSx.out.ref
                            have hO := HOx.out
                            have q0 : w4.cell? ⟨wr.heap.size, 0, none⟩ = some (.int .i64 6) := hO.cell 0
                            have q1 : w4.cell? ⟨wr.heap.size, 1, none⟩ = some (.int .i64 a) := hO.cell 1
                            have q2 : w4.cell? ⟨wr.heap.size, 2, none⟩ = some (.int .i64 b) := hO.cell 2
                            have q3 : w4.cell? ⟨wr.heap.size, 3, none⟩ = some (.int .i64 x) := hO.cell 3
                            have q4 : w4.cell? ⟨wr.heap.size, 4, none⟩ = some (.string s) := hO.cell 4
                            have q5 := hO.lt
                            have r1 : w4.cell? ⟨rg, 1, none⟩ = some (.slice A1 Lx.length e1) := hRf.blk.cell 1
                            have r2 := hRf.blk.lt
                            have hLx := HSx.out.hL
                            have hWx := HSx.out.hW
                            clear hO hRf hSd
                            go_wp2_with fail
                            refine wp_region_mono nobody (by kernel_rfl) ?_
                            -- 0 Op.move (Operand.tmp 10)
                            refine wpMono_take' 0 (v := ?_) rfl (by kernel_rfl) (by kernel_rfl) (by kernel_rfl) (fun _ _ _ h => h) (by rfl) ?_ ?_
                            rotate_left
                            · (intro W hSw; have hcW := hSw.cells; try simp only [World.size_drew, World.cell?_drew] at hcW
                               go_simp; first | done | rfl)
                            try simp only [Act.put, List.setIfInBounds_toArray, List.set_cons_zero, List.set_cons_succ]
                            -- 1 Op.unOp UnOp.not 4 (Operand.tmp 188)
                            refine wpMono_take' 1 (v := ?_) rfl (by kernel_rfl) (by kernel_rfl) (by kernel_rfl) (fun _ _ _ h => h) (by rfl) ?_ ?_
                            rotate_left
                            · (intro W hSw; have hcW := hSw.cells; try simp only [World.size_drew, World.cell?_drew] at hcW
                               go_simp; first | done | rfl)
                            try simp only [Act.put, List.setIfInBounds_toArray, List.set_cons_zero, List.set_cons_succ]
                            -- 2 Op.move (Operand.tmp 189)
                            refine wpMono_take' 2 (v := ?_) rfl (by kernel_rfl) (by kernel_rfl) (by kernel_rfl) (fun _ _ _ h => h) (by rfl) ?_ ?_
                            rotate_left
                            · (intro W hSw; have hcW := hSw.cells; try simp only [World.size_drew, World.cell?_drew] at hcW
                               go_simp; first | done | rfl)
                            try simp only [Act.put, List.setIfInBounds_toArray, List.set_cons_zero, List.set_cons_succ]
                            -- 3 Op.move (Operand.tmp 5)
                            refine wpMono_take' 3 (v := ?_) rfl (by kernel_rfl) (by kernel_rfl) (by kernel_rfl) (fun _ _ _ h => h) (by rfl) ?_ ?_
                            rotate_left
                            · (intro W hSw; have hcW := hSw.cells; try simp only [World.size_drew, World.cell?_drew] at hcW
                               go_simp; first | done | rfl)
                            try simp only [Act.put, List.setIfInBounds_toArray, List.set_cons_zero, List.set_cons_succ]
                            -- 5 Op.move (Operand.tmp 7)
                            refine wpMono_take' 5 (v := ?_) rfl (by kernel_rfl) (by kernel_rfl) (by kernel_rfl) (fun _ _ _ h => h) (by rfl) ?_ ?_
                            rotate_left
                            · (intro W hSw; have hcW := hSw.cells; try simp only [World.size_drew, World.cell?_drew] at hcW
                               go_simp; first | done | rfl)
                            try simp only [Act.put, List.setIfInBounds_toArray, List.set_cons_zero, List.set_cons_succ]
                            -- 6 Op.nilCheck (Operand.tmp 193)
                            refine wpMono_take' 6 (v := ?_) rfl (by kernel_rfl) (by kernel_rfl) (by kernel_rfl) (fun _ _ _ h => h) (by rfl) ?_ ?_
                            rotate_left
                            · (intro W hSw; have hcW := hSw.cells; try simp only [World.size_drew, World.cell?_drew] at hcW
                               go_simp; first | done | rfl)
                            try simp only [Act.put, List.setIfInBounds_toArray, List.set_cons_zero, List.set_cons_succ]
                            -- 7 Op.fieldAddr 48 (Operand.tmp 194) 1
                            refine wpMono_take' 7 (v := ?_) rfl (by kernel_rfl) (by kernel_rfl) (by kernel_rfl) (fun _ _ _ h => h) (by rfl) ?_ ?_
                            rotate_left
                            · (intro W hSw; have hcW := hSw.cells; try simp only [World.size_drew, World.cell?_drew] at hcW
                               go_simp; first | done | rfl)
                            try simp only [Act.put, List.setIfInBounds_toArray, List.set_cons_zero, List.set_cons_succ]
                            -- 8 Op.load 45 (Operand.tmp 195)
                            refine wpMono_take' 8 (v := ?_) rfl (by kernel_rfl) (by kernel_rfl) (by kernel_rfl) (fun _ _ _ h => h) (by rfl) ?_ ?_
                            rotate_left
                            · (intro W hSw; have hcW := hSw.cells; try simp only [World.size_drew, World.cell?_drew] at hcW
                               go_simp; first | done | rfl)
                            try simp only [Act.put, List.setIfInBounds_toArray, List.set_cons_zero, List.set_cons_succ]
                            -- 9 Op.call { callee := Callee.builtin Builtin.len, args := #[Operand.tmp 196], argTypes := #[
                            refine wpMono_take' 9 (v := ?_) rfl (by kernel_rfl) (by kernel_rfl) (by kernel_rfl) (fun _ _ _ h => h) (by rfl) ?_ ?_
                            rotate_left
                            · (intro W hSw; have hcW := hSw.cells; try simp only [World.size_drew, World.cell?_drew] at hcW
                               go_simp; first | done | rfl)
                            try simp only [Act.put, List.setIfInBounds_toArray, List.set_cons_zero, List.set_cons_succ]
                            -- EFFECT 4 Op.call { callee := Callee.value (Operand.func 17), args := #[Operand.tmp 191], argTypes := #[24] }
                            refine wpMono_one' 4 (by kernel_rfl) rfl (by rfl) (fun K hK => ?_)
                            go_simp
                            refine (all_t B g bb cb (2 * (i + 1)) n Fx Cx Lx Wx _ HSd.out.net HSd.out.rel (by omega)).mono ?_
                            rintro e wy ⟨rfl, hby⟩
                            have hOy := HOx.out.drew.below hby HOx.out.drew.lt
                            have q0 : wy.cell? ⟨wr.heap.size, 0, none⟩ = some (.int .i64 6) := hOy.cell 0
                            have q1 : wy.cell? ⟨wr.heap.size, 1, none⟩ = some (.int .i64 a) := hOy.cell 1
                            have q2 : wy.cell? ⟨wr.heap.size, 2, none⟩ = some (.int .i64 b) := hOy.cell 2
                            have q3 : wy.cell? ⟨wr.heap.size, 3, none⟩ = some (.int .i64 x) := hOy.cell 3
                            have q4 : wy.cell? ⟨wr.heap.size, 4, none⟩ = some (.string s) := hOy.cell 4
                            have q5 := hOy.lt
                            clear hOy
                            refine hK.out _ _ ?_ ?_
                            · exact .of_below hby
                            clear hK K
                            try simp only [Act.put, List.setIfInBounds_toArray, List.set_cons_zero, List.set_cons_succ]
                            -- 10 Op.binOp BinOp.neq 3 (Operand.tmp 192) (Operand.tmp 197) 3
                            refine wpMono_take' 10 (v := ?_) rfl (by kernel_rfl) (by kernel_rfl) (by kernel_rfl) (fun _ _ _ h => h) (by rfl) ?_ ?_
                            rotate_left
                            · (intro W hSw; have hcW := hSw.cells; try simp only [World.size_drew, World.cell?_drew] at hcW
                               go_simp; first | done | rfl)
                            try simp only [Act.put, List.setIfInBounds_toArray, List.set_cons_zero, List.set_cons_succ]
                            -- 11 Op.pick (Operand.tmp 190) (Operand.const (Value.bool true)) (Operand.tmp 198)
                            refine wpMono_take' 11 (v := ?_) rfl (by kernel_rfl) (by kernel_rfl) (by kernel_rfl) (fun _ _ _ h => h) (by rfl) ?_ ?_
                            rotate_left
                            · (intro W hSw; have hcW := hSw.cells; try simp only [World.size_drew, World.cell?_drew] at hcW
                               go_simp; first | done | rfl)
                            try simp only [Act.put, List.setIfInBounds_toArray, List.set_cons_zero, List.set_cons_succ]
                            -- 12 Op.move (Operand.tmp 199)
                            refine wpMono_take' 12 (v := ?_) rfl (by kernel_rfl) (by kernel_rfl) (by kernel_rfl) (fun _ _ _ h => h) (by rfl) ?_ ?_
                            rotate_left
                            · (intro W hSw; have hcW := hSw.cells; try simp only [World.size_drew, World.cell?_drew] at hcW
                               go_simp; first | done | rfl)
                            try simp only [Act.put, List.setIfInBounds_toArray, List.set_cons_zero, List.set_cons_succ]
                            -- 13 Op.move (Operand.tmp 5)
                            refine wpMono_take' 13 (v := ?_) rfl (by kernel_rfl) (by kernel_rfl) (by kernel_rfl) (fun _ _ _ h => h) (by rfl) ?_ ?_
                            rotate_left
                            · (intro W hSw; have hcW := hSw.cells; try simp only [World.size_drew, World.cell?_drew] at hcW
                               go_simp; first | done | rfl)
                            try simp only [Act.put, List.setIfInBounds_toArray, List.set_cons_zero, List.set_cons_succ]
                            -- 14 Op.fieldAddr 30 (Operand.tmp 9) 1
                            refine wpMono_take' 14 (v := ?_) rfl (by kernel_rfl) (by kernel_rfl) (by kernel_rfl) (fun _ _ _ h => h) (by rfl) ?_ ?_
                            rotate_left
                            · (intro W hSw; have hcW := hSw.cells; try simp only [World.size_drew, World.cell?_drew] at hcW
                               go_simp; first | done | rfl)
                            try simp only [Act.put, List.setIfInBounds_toArray, List.set_cons_zero, List.set_cons_succ]
                            -- 15 Op.load 3 (Operand.tmp 202)
                            refine wpMono_take' 15 (v := ?_) rfl (by kernel_rfl) (by kernel_rfl) (by kernel_rfl) (fun _ _ _ h => h) (by rfl) ?_ ?_
                            rotate_left
                            · (intro W hSw; have hcW := hSw.cells; try simp only [World.size_drew, World.cell?_drew] at hcW
                               go_simp; first | done | rfl)
                            try simp only [Act.put, List.setIfInBounds_toArray, List.set_cons_zero, List.set_cons_succ]
                            -- 16 Op.fieldAddr 30 (Operand.tmp 9) 2
                            refine wpMono_take' 16 (v := ?_) rfl (by kernel_rfl) (by kernel_rfl) (by kernel_rfl) (fun _ _ _ h => h) (by rfl) ?_ ?_
                            rotate_left
                            · (intro W hSw; have hcW := hSw.cells; try simp only [World.size_drew, World.cell?_drew] at hcW
                               go_simp; first | done | rfl)
                            try simp only [Act.put, List.setIfInBounds_toArray, List.set_cons_zero, List.set_cons_succ]
                            -- 17 Op.load 3 (Operand.tmp 204)
                            refine wpMono_take' 17 (v := ?_) rfl (by kernel_rfl) (by kernel_rfl) (by kernel_rfl) (fun _ _ _ h => h) (by rfl) ?_ ?_
                            rotate_left
                            · (intro W hSw; have hcW := hSw.cells; try simp only [World.size_drew, World.cell?_drew] at hcW
                               go_simp; first | done | rfl)
                            try simp only [Act.put, List.setIfInBounds_toArray, List.set_cons_zero, List.set_cons_succ]
                            -- 19 Op.move (Operand.tmp 7)
                            refine wpMono_take' 19 (v := ?_) rfl (by kernel_rfl) (by kernel_rfl) (by kernel_rfl) (fun _ _ _ h => h) (by rfl) ?_ ?_
                            rotate_left
                            · (intro W hSw; have hcW := hSw.cells; try simp only [World.size_drew, World.cell?_drew] at hcW
                               go_simp; first | done | rfl)
                            try simp only [Act.put, List.setIfInBounds_toArray, List.set_cons_zero, List.set_cons_succ]
                            -- 20 Op.fieldAddr 30 (Operand.tmp 9) 1
                            refine wpMono_take' 20 (v := ?_) rfl (by kernel_rfl) (by kernel_rfl) (by kernel_rfl) (fun _ _ _ h => h) (by rfl) ?_ ?_
                            rotate_left
                            · (intro W hSw; have hcW := hSw.cells; try simp only [World.size_drew, World.cell?_drew] at hcW
                               go_simp; first | done | rfl)
                            try simp only [Act.put, List.setIfInBounds_toArray, List.set_cons_zero, List.set_cons_succ]
                            -- 21 Op.load 3 (Operand.tmp 208)
                            refine wpMono_take' 21 (v := ?_) rfl (by kernel_rfl) (by kernel_rfl) (by kernel_rfl) (fun _ _ _ h => h) (by rfl) ?_ ?_
                            rotate_left
                            · (intro W hSw; have hcW := hSw.cells; try simp only [World.size_drew, World.cell?_drew] at hcW
                               go_simp; first | done | rfl)
                            try simp only [Act.put, List.setIfInBounds_toArray, List.set_cons_zero, List.set_cons_succ]
                            -- 22 Op.fieldAddr 30 (Operand.tmp 9) 2
                            refine wpMono_take' 22 (v := ?_) rfl (by kernel_rfl) (by kernel_rfl) (by kernel_rfl) (fun _ _ _ h => h) (by rfl) ?_ ?_
                            rotate_left
                            · (intro W hSw; have hcW := hSw.cells; try simp only [World.size_drew, World.cell?_drew] at hcW
                               go_simp; first | done | rfl)
                            try simp only [Act.put, List.setIfInBounds_toArray, List.set_cons_zero, List.set_cons_succ]
                            -- 23 Op.load 3 (Operand.tmp 210)
                            refine wpMono_take' 23 (v := ?_) rfl (by kernel_rfl) (by kernel_rfl) (by kernel_rfl) (fun _ _ _ h => h) (by rfl) ?_ ?_
                            rotate_left
                            · (intro W hSw; have hcW := hSw.cells; try simp only [World.size_drew, World.cell?_drew] at hcW
                               go_simp; first | done | rfl)
                            try simp only [Act.put, List.setIfInBounds_toArray, List.set_cons_zero, List.set_cons_succ]
                            -- EFFECT 18 Op.call { callee := Callee.value (Operand.func 13), args := #[Operand.tmp 201, Operand.tmp 203, Operand.tmp 205], argTypes := #[24, 3, 3] }
                            refine wpMono_one' 18 (by kernel_rfl) rfl (by rfl) (fun K hK => ?_)
                            go_simp
                            refine (count_t B g bb cb (2 * (i + 1)) n a b Fx Cx Lx Wx _ (HSd.out.below hby).net HSd.out.rel Hok.out).mono ?_
                            rintro e wz ⟨rfl, rfl⟩
                            refine hK.out _ _ ?_ ?_
                            · exact .refl _ _
                            clear hK K
                            try simp only [Act.put, List.setIfInBounds_toArray, List.set_cons_zero, List.set_cons_succ]
                            -- EFFECT 24 Op.call { callee := Callee.value (Operand.func 25), args := #[Operand.tmp 207, Operand.tmp 209, Operand.tmp 211], argTypes := #[44, 3, 3] }
                            refine wpMono_one' 24 (by kernel_rfl) rfl (by rfl) (fun K hK => ?_)
                            go_simp
                            refine (count_x B rg n a b Lx Wx _ (HSd.out.below hby).ref (by omega)).mono ?_
                            rintro e wu ⟨rfl, rfl⟩
                            refine hK.out _ _ ?_ ?_
                            · exact .refl _ _
                            clear hK K
                            try simp only [Act.put, List.setIfInBounds_toArray, List.set_cons_zero, List.set_cons_succ]
                            -- 25 Op.binOp BinOp.neq 3 (Operand.tmp 206) (Operand.tmp 212) 3
                            refine wpMono_take' 25 (v := ?_) rfl (by kernel_rfl) (by kernel_rfl) (by kernel_rfl) (fun _ _ _ h => h) (by rfl) ?_ ?_
                            rotate_left
                            · (intro W hSw; have hcW := hSw.cells; try simp only [World.size_drew, World.cell?_drew] at hcW
                               go_simp; first | done | rfl)
                            try simp only [Act.put, List.setIfInBounds_toArray, List.set_cons_zero, List.set_cons_succ]
                            -- 26 Op.pick (Operand.tmp 200) (Operand.const (Value.bool true)) (Operand.tmp 213)
                            refine wpMono_take' 26 (v := ?_) rfl (by kernel_rfl) (by kernel_rfl) (by kernel_rfl) (fun _ _ _ h => h) (by rfl) ?_ ?_
                            rotate_left
                            · (intro W hSw; have hcW := hSw.cells; try simp only [World.size_drew, World.cell?_drew] at hcW
                               go_simp; first | done | rfl)
                            try simp only [Act.put, List.setIfInBounds_toArray, List.set_cons_zero, List.set_cons_succ]
                            refine wpMono_done (by kernel_rfl) ?_ _
                            have HSy := Lib.hid (HSd.out.below hby)
                            have Hby := Lib.hid ((below_drewN Hbx.out 1).trans (hby.mono (by have := (below_drewN Hbx.out 1).size; omega)))
                            clear hby HSd HSx
                            go_wp2
                            go_roundw
                            case rel => exact ⟨i + 1, Fx, Cx, Lx, Wx, by omega, by omega, by go_num, HSy.out, Hby.out⟩
                            case measure => simp [intOf]; omega
                        · skip
                          as_aux_lemma =>
                            go_wp2_with fail
                            generalize wr.alloc (.cells #[.int .i64 k, .int .i64 a, .int .i64 b, .int .i64 x, .string s] 30) = W at *
                            have HSx := Lib.hid (Sta.mk (NetT.more HS.out.net (by omega : 2 * i ≤ 2 * (i + 1))) HS.out.ref HS.out.rel (by omega) (by omega))
                            have HOx := HO
                            have Hbx := Hbw
                            obtain ⟨Fx, rfl⟩ : ∃ Fx, Fx = F := ⟨_, rfl⟩
                            obtain ⟨Cx, rfl⟩ : ∃ Cx, Cx = C := ⟨_, rfl⟩
                            obtain ⟨Lx, rfl⟩ : ∃ Lx, Lx = L := ⟨_, rfl⟩
                            obtain ⟨Wx, rfl⟩ : ∃ Wx, Wx = Ws := ⟨_, rfl⟩
                            clear HS HO Hbw
                            have hSd := HSx.out.below (below_drewN (Below.refl _ _) 1 : Below W.heap.size W W.drew)
                            have HSd := Lib.hid hSd
                            obtain ⟨A1, e1, A2, e2, hRf⟩ := HSx.out.ref
                            have hO := HOx.out
                            have q0 : W.cell? ⟨wr.heap.size, 0, none⟩ = some (.int .i64 k) := hO.cell 0
                            have q1 : W.cell? ⟨wr.heap.size, 1, none⟩ = some (.int .i64 a) := hO.cell 1
                            have q2 : W.cell? ⟨wr.heap.size, 2, none⟩ = some (.int .i64 b) := hO.cell 2
                            have q3 : W.cell? ⟨wr.heap.size, 3, none⟩ = some (.int .i64 x) := hO.cell 3
                            have q4 : W.cell? ⟨wr.heap.size, 4, none⟩ = some (.string s) := hO.cell 4
                            have q5 := hO.lt
                            have r1 : W.cell? ⟨rg, 1, none⟩ = some (.slice A1 Lx.length e1) := hRf.blk.cell 1
                            have r2 := hRf.blk.lt
                            have hLx := HSx.out.hL
                            have hWx := HSx.out.hW
                            clear hO hRf hSd
                            go_wp2_with fail
                            refine wp_region_mono nobody (by kernel_rfl) ?_
                            -- 0 Op.move (Operand.tmp 10)
                            refine wpMono_take' 0 (v := ?_) rfl (by kernel_rfl) (by kernel_rfl) (by kernel_rfl) (fun _ _ _ h => h) (by rfl) ?_ ?_
                            rotate_left
                            · (intro W hSw; have hcW := hSw.cells; try simp only [World.size_drew, World.cell?_drew] at hcW
                               go_simp; first | done | rfl)
                            try simp only [Act.put, List.setIfInBounds_toArray, List.set_cons_zero, List.set_cons_succ]
                            -- 1 Op.unOp UnOp.not 4 (Operand.tmp 188)
                            refine wpMono_take' 1 (v := ?_) rfl (by kernel_rfl) (by kernel_rfl) (by kernel_rfl) (fun _ _ _ h => h) (by rfl) ?_ ?_
                            rotate_left
                            · (intro W hSw; have hcW := hSw.cells; try simp only [World.size_drew, World.cell?_drew] at hcW
                               go_simp; first | done | rfl)
                            try simp only [Act.put, List.setIfInBounds_toArray, List.set_cons_zero, List.set_cons_succ]
                            -- 2 Op.move (Operand.tmp 189)
                            refine wpMono_take' 2 (v := ?_) rfl (by kernel_rfl) (by kernel_rfl) (by kernel_rfl) (fun _ _ _ h => h) (by rfl) ?_ ?_
                            rotate_left
                            · (intro W hSw; have hcW := hSw.cells; try simp only [World.size_drew, World.cell?_drew] at hcW
                               go_simp; first | done | rfl)
                            try simp only [Act.put, List.setIfInBounds_toArray, List.set_cons_zero, List.set_cons_succ]
                            -- 3 Op.move (Operand.tmp 5)
                            refine wpMono_take' 3 (v := ?_) rfl (by kernel_rfl) (by kernel_rfl) (by kernel_rfl) (fun _ _ _ h => h) (by rfl) ?_ ?_
                            rotate_left
                            · (intro W hSw; have hcW := hSw.cells; try simp only [World.size_drew, World.cell?_drew] at hcW
                               go_simp; first | done | rfl)
                            try simp only [Act.put, List.setIfInBounds_toArray, List.set_cons_zero, List.set_cons_succ]
                            -- 5 Op.move (Operand.tmp 7)
                            refine wpMono_take' 5 (v := ?_) rfl (by kernel_rfl) (by kernel_rfl) (by kernel_rfl) (fun _ _ _ h => h) (by rfl) ?_ ?_
                            rotate_left
                            · (intro W hSw; have hcW := hSw.cells; try simp only [World.size_drew, World.cell?_drew] at hcW
                               go_simp; first | done | rfl)
                            try simp only [Act.put, List.setIfInBounds_toArray, List.set_cons_zero, List.set_cons_succ]
                            -- 6 Op.nilCheck (Operand.tmp 193)
                            refine wpMono_take' 6 (v := ?_) rfl (by kernel_rfl) (by kernel_rfl) (by kernel_rfl) (fun _ _ _ h => h) (by rfl) ?_ ?_
                            rotate_left
                            · (intro W hSw; have hcW := hSw.cells; try simp only [World.size_drew, World.cell?_drew] at hcW
                               go_simp; first | done | rfl)
                            try simp only [Act.put, List.setIfInBounds_toArray, List.set_cons_zero, List.set_cons_succ]
                            -- 7 Op.fieldAddr 48 (Operand.tmp 194) 1
                            refine wpMono_take' 7 (v := ?_) rfl (by kernel_rfl) (by kernel_rfl) (by kernel_rfl) (fun _ _ _ h => h) (by rfl) ?_ ?_
                            rotate_left
                            · (intro W hSw; have hcW := hSw.cells; try simp only [World.size_drew, World.cell?_drew] at hcW
                               go_simp; first | done | rfl)
                            try simp only [Act.put, List.setIfInBounds_toArray, List.set_cons_zero, List.set_cons_succ]
                            -- 8 Op.load 45 (Operand.tmp 195)
                            refine wpMono_take' 8 (v := ?_) rfl (by kernel_rfl) (by kernel_rfl) (by kernel_rfl) (fun _ _ _ h => h) (by rfl) ?_ ?_
                            rotate_left
                            · (intro W hSw; have hcW := hSw.cells; try simp only [World.size_drew, World.cell?_drew] at hcW
                               go_simp; first | done | rfl)
                            try simp only [Act.put, List.setIfInBounds_toArray, List.set_cons_zero, List.set_cons_succ]
                            -- 9 Op.call { callee := Callee.builtin Builtin.len, args := #[Operand.tmp 196], argTypes := #[
                            refine wpMono_take' 9 (v := ?_) rfl (by kernel_rfl) (by kernel_rfl) (by kernel_rfl) (fun _ _ _ h => h) (by rfl) ?_ ?_
                            rotate_left
                            · (intro W hSw; have hcW := hSw.cells; try simp only [World.size_drew, World.cell?_drew] at hcW
                               go_simp; first | done | rfl)
                            try simp only [Act.put, List.setIfInBounds_toArray, List.set_cons_zero, List.set_cons_succ]
                            -- EFFECT 4 Op.call { callee := Callee.value (Operand.func 17), args := #[Operand.tmp 191], argTypes := #[24] }
                            refine wpMono_one' 4 (by kernel_rfl) rfl (by rfl) (fun K hK => ?_)
                            go_simp
                            refine (all_t B g bb cb (2 * (i + 1)) n Fx Cx Lx Wx _ HSd.out.net HSd.out.rel (by omega)).mono ?_
                            rintro e wy ⟨rfl, hby⟩
                            have hOy := HOx.out.drew.below hby HOx.out.drew.lt
                            have q0 : wy.cell? ⟨wr.heap.size, 0, none⟩ = some (.int .i64 k) := hOy.cell 0
                            have q1 : wy.cell? ⟨wr.heap.size, 1, none⟩ = some (.int .i64 a) := hOy.cell 1
                            have q2 : wy.cell? ⟨wr.heap.size, 2, none⟩ = some (.int .i64 b) := hOy.cell 2
                            have q3 : wy.cell? ⟨wr.heap.size, 3, none⟩ = some (.int .i64 x) := hOy.cell 3
                            have q4 : wy.cell? ⟨wr.heap.size, 4, none⟩ = some (.string s) := hOy.cell 4
                            have q5 := hOy.lt
                            clear hOy
                            refine hK.out _ _ ?_ ?_
                            · exact .of_below hby
                            clear hK K
                            try simp only [Act.put, List.setIfInBounds_toArray, List.set_cons_zero, List.set_cons_succ]
                            -- 10 Op.binOp BinOp.neq 3 (Operand.tmp 192) (Operand.tmp 197) 3
                            refine wpMono_take' 10 (v := ?_) rfl (by kernel_rfl) (by kernel_rfl) (by kernel_rfl) (fun _ _ _ h => h) (by rfl) ?_ ?_
                            rotate_left
                            · (intro W hSw; have hcW := hSw.cells; try simp only [World.size_drew, World.cell?_drew] at hcW
                               go_simp; first | done | rfl)
                            try simp only [Act.put, List.setIfInBounds_toArray, List.set_cons_zero, List.set_cons_succ]
                            -- 11 Op.pick (Operand.tmp 190) (Operand.const (Value.bool true)) (Operand.tmp 198)
                            refine wpMono_take' 11 (v := ?_) rfl (by kernel_rfl) (by kernel_rfl) (by kernel_rfl) (fun _ _ _ h => h) (by rfl) ?_ ?_
                            rotate_left
                            · (intro W hSw; have hcW := hSw.cells; try simp only [World.size_drew, World.cell?_drew] at hcW
                               go_simp; first | done | rfl)
                            try simp only [Act.put, List.setIfInBounds_toArray, List.set_cons_zero, List.set_cons_succ]
                            -- 12 Op.move (Operand.tmp 199)
                            refine wpMono_take' 12 (v := ?_) rfl (by kernel_rfl) (by kernel_rfl) (by kernel_rfl) (fun _ _ _ h => h) (by rfl) ?_ ?_
                            rotate_left
                            · (intro W hSw; have hcW := hSw.cells; try simp only [World.size_drew, World.cell?_drew] at hcW
                               go_simp; first | done | rfl)
                            try simp only [Act.put, List.setIfInBounds_toArray, List.set_cons_zero, List.set_cons_succ]
                            -- 13 Op.move (Operand.tmp 5)
                            refine wpMono_take' 13 (v := ?_) rfl (by kernel_rfl) (by kernel_rfl) (by kernel_rfl) (fun _ _ _ h => h) (by rfl) ?_ ?_
                            rotate_left
                            · (intro W hSw; have hcW := hSw.cells; try simp only [World.size_drew, World.cell?_drew] at hcW
                               go_simp; first | done | rfl)
                            try simp only [Act.put, List.setIfInBounds_toArray, List.set_cons_zero, List.set_cons_succ]
                            -- 14 Op.fieldAddr 30 (Operand.tmp 9) 1
                            refine wpMono_take' 14 (v := ?_) rfl (by kernel_rfl) (by kernel_rfl) (by kernel_rfl) (fun _ _ _ h => h) (by rfl) ?_ ?_
                            rotate_left
                            · (intro W hSw; have hcW := hSw.cells; try simp only [World.size_drew, World.cell?_drew] at hcW
                               go_simp; first | done | rfl)
                            try simp only [Act.put, List.setIfInBounds_toArray, List.set_cons_zero, List.set_cons_succ]
                            -- 15 Op.load 3 (Operand.tmp 202)
                            refine wpMono_take' 15 (v := ?_) rfl (by kernel_rfl) (by kernel_rfl) (by kernel_rfl) (fun _ _ _ h => h) (by rfl) ?_ ?_
                            rotate_left
                            · (intro W hSw; have hcW := hSw.cells; try simp only [World.size_drew, World.cell?_drew] at hcW
                               go_simp; first | done | rfl)
                            try simp only [Act.put, List.setIfInBounds_toArray, List.set_cons_zero, List.set_cons_succ]
                            -- 16 Op.fieldAddr 30 (Operand.tmp 9) 2
                            refine wpMono_take' 16 (v := ?_) rfl (by kernel_rfl) (by kernel_rfl) (by kernel_rfl) (fun _ _ _ h => h) (by rfl) ?_ ?_
                            rotate_left
                            · (intro W hSw; have hcW := hSw.cells; try simp only [World.size_drew, World.cell?_drew] at hcW
                               go_simp; first | done | rfl)
                            try simp only [Act.put, List.setIfInBounds_toArray, List.set_cons_zero, List.set_cons_succ]
                            -- 17 Op.load 3 (Operand.tmp 204)
                            refine wpMono_take' 17 (v := ?_) rfl (by kernel_rfl) (by kernel_rfl) (by kernel_rfl) (fun _ _ _ h => h) (by rfl) ?_ ?_
                            rotate_left
                            · (intro W hSw; have hcW := hSw.cells; try simp only [World.size_drew, World.cell?_drew] at hcW
                               go_simp; first | done | rfl)
                            try simp only [Act.put, List.setIfInBounds_toArray, List.set_cons_zero, List.set_cons_succ]
                            -- 19 Op.move (Operand.tmp 7)
                            refine wpMono_take' 19 (v := ?_) rfl (by kernel_rfl) (by kernel_rfl) (by kernel_rfl) (fun _ _ _ h => h) (by rfl) ?_ ?_
                            rotate_left
                            · (intro W hSw; have hcW := hSw.cells; try simp only [World.size_drew, World.cell?_drew] at hcW
                               go_simp; first | done | rfl)
                            try simp only [Act.put, List.setIfInBounds_toArray, List.set_cons_zero, List.set_cons_succ]
                            -- 20 Op.fieldAddr 30 (Operand.tmp 9) 1
                            refine wpMono_take' 20 (v := ?_) rfl (by kernel_rfl) (by kernel_rfl) (by kernel_rfl) (fun _ _ _ h => h) (by rfl) ?_ ?_
                            rotate_left
                            · (intro W hSw; have hcW := hSw.cells; try simp only [World.size_drew, World.cell?_drew] at hcW
                               go_simp; first | done | rfl)
                            try simp only [Act.put, List.setIfInBounds_toArray, List.set_cons_zero, List.set_cons_succ]
                            -- 21 Op.load 3 (Operand.tmp 208)
                            refine wpMono_take' 21 (v := ?_) rfl (by kernel_rfl) (by kernel_rfl) (by kernel_rfl) (fun _ _ _ h => h) (by rfl) ?_ ?_
                            rotate_left
                            · (intro W hSw; have hcW := hSw.cells; try simp only [World.size_drew, World.cell?_drew] at hcW
                               go_simp; first | done | rfl)
                            try simp only [Act.put, List.setIfInBounds_toArray, List.set_cons_zero, List.set_cons_succ]
                            -- 22 Op.fieldAddr 30 (Operand.tmp 9) 2
                            refine wpMono_take' 22 (v := ?_) rfl (by kernel_rfl) (by kernel_rfl) (by kernel_rfl) (fun _ _ _ h => h) (by rfl) ?_ ?_
                            rotate_left
                            · (intro W hSw; have hcW := hSw.cells; try simp only [World.size_drew, World.cell?_drew] at hcW
                               go_simp; first | done | rfl)
                            try simp only [Act.put, List.setIfInBounds_toArray, List.set_cons_zero, List.set_cons_succ]
                            -- 23 Op.load 3 (Operand.tmp 210)
                            refine wpMono_take' 23 (v := ?_) rfl (by kernel_rfl) (by kernel_rfl) (by kernel_rfl) (fun _ _ _ h => h) (by rfl) ?_ ?_
                            rotate_left
                            · (intro W hSw; have hcW := hSw.cells; try simp only [World.size_drew, World.cell?_drew] at hcW
                               go_simp; first | done | rfl)
                            try simp only [Act.put, List.setIfInBounds_toArray, List.set_cons_zero, List.set_cons_succ]
                            -- EFFECT 18 Op.call { callee := Callee.value (Operand.func 13), args := #[Operand.tmp 201, Operand.tmp 203, Operand.tmp 205], argTypes := #[24, 3, 3] }
                            refine wpMono_one' 18 (by kernel_rfl) rfl (by rfl) (fun K hK => ?_)
                            go_simp
                            refine (count_t B g bb cb (2 * (i + 1)) n a b Fx Cx Lx Wx _ (HSd.out.below hby).net HSd.out.rel Hok.out).mono ?_
                            rintro e wz ⟨rfl, rfl⟩
                            refine hK.out _ _ ?_ ?_
                            · exact .refl _ _
                            clear hK K
                            try simp only [Act.put, List.setIfInBounds_toArray, List.set_cons_zero, List.set_cons_succ]
                            -- EFFECT 24 Op.call { callee := Callee.value (Operand.func 25), args := #[Operand.tmp 207, Operand.tmp 209, Operand.tmp 211], argTypes := #[44, 3, 3] }
                            refine wpMono_one' 24 (by kernel_rfl) rfl (by rfl) (fun K hK => ?_)
                            go_simp
                            refine (count_x B rg n a b Lx Wx _ (HSd.out.below hby).ref (by omega)).mono ?_
                            rintro e wu ⟨rfl, rfl⟩
                            refine hK.out _ _ ?_ ?_
                            · exact .refl _ _
                            clear hK K
                            try simp only [Act.put, List.setIfInBounds_toArray, List.set_cons_zero, List.set_cons_succ]
                            -- 25 Op.binOp BinOp.neq 3 (Operand.tmp 206) (Operand.tmp 212) 3
                            refine wpMono_take' 25 (v := ?_) rfl (by kernel_rfl) (by kernel_rfl) (by kernel_rfl) (fun _ _ _ h => h) (by rfl) ?_ ?_
                            rotate_left
                            · (intro W hSw; have hcW := hSw.cells; try simp only [World.size_drew, World.cell?_drew] at hcW
                               go_simp; first | done | rfl)
                            try simp only [Act.put, List.setIfInBounds_toArray, List.set_cons_zero, List.set_cons_succ]
                            -- 26 Op.pick (Operand.tmp 200) (Operand.const (Value.bool true)) (Operand.tmp 213)
                            refine wpMono_take' 26 (v := ?_) rfl (by kernel_rfl) (by kernel_rfl) (by kernel_rfl) (fun _ _ _ h => h) (by rfl) ?_ ?_
                            rotate_left
                            · (intro W hSw; have hcW := hSw.cells; try simp only [World.size_drew, World.cell?_drew] at hcW
                               go_simp; first | done | rfl)
                            try simp only [Act.put, List.setIfInBounds_toArray, List.set_cons_zero, List.set_cons_succ]
                            refine wpMono_done (by kernel_rfl) ?_ _
                            have HSy := Lib.hid (HSd.out.below hby)
                            have Hby := Lib.hid ((below_drewN Hbx.out 1).trans (hby.mono (by have := (below_drewN Hbx.out 1).size; omega)))
                            clear hby HSd HSx
                            go_wp2
                            go_roundw
                            case rel => exact ⟨i + 1, Fx, Cx, Lx, Wx, by omega, by omega, by go_num, HSy.out, Hby.out⟩
                            case measure => simp [intOf]; omega
          · have hd : decide (1000 < (s.size : Int)) = true := by simp; omega
            go_wp2
            go_ret
            exact ⟨rfl, Hbw.out⟩
        · have Hbw := Lib.hid hbw
          clear hS hbw
          go_wp2
          go_ret
          exact ⟨rfl, Hbw.out⟩
      · have Hbw := Lib.hid hbw
        clear hS hbw
        go_wp2
        go_ret
        exact ⟨rfl, Hbw.out⟩
end Go.Proofs.Ytempojdgbgaanaa.wNetPlays
