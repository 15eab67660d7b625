/- The document's Parse. -/
import Derived.Test.YtfcgffemdcfiiaaGreatDoorParseQ
import Derived.Test.YtfcgffemdcfiiaaGreatDoorMonoJ
namespace Go.Proofs.YtfcgffemdcfiiaaGreatDoor.quota
open Go Go.RowKit Go.Proofs.YtfcgffemdcfiiaaGreatDoor.base Go.Proofs.YtfcgffemdcfiiaaGreatDoor.dec Go.Proofs.YtfcgffemdcfiiaaGreatDoor.err
open Go.Lib (decDigits)

theorem pre_list (s : ByteArray) (k : Nat) : (s.extract 0 k).toList = s.data.toList.take k := by
  rw [ByteArray.toList_eq, ByteArray.data_extract]
  simp
theorem app_list (a : List UInt8) : (str a ++ { data := #[45] } : ByteArray).toList = a ++ [45] := by
  rw [show ({ data := #[45] } : ByteArray) = str [45] from rfl, str_app, ByteArray.toList_eq]
  rfl
theorem nm_len (a b : Nat) : (nm a b).length = (decDigits a).length + 1 + (decDigits b).length := by rw [nm_eq]; simp; omega
theorem nm_take (a b : Nat) : (nm a b).take ((decDigits a).length + 1) = decDigits a ++ [45] := by
  unfold nm
  rw [List.take_left' (by simp)]
theorem nm_drop (a b : Nat) : (nm a b).drop ((decDigits a).length + 1) = decDigits b := by
  unfold nm
  rw [List.drop_left' (by simp)]
theorem val_lt : ∀ (n : Nat) (q : List UInt8), q.length = n → (∀ c ∈ q, digit c = true) → val q < 10 ^ n
  | 0, q, h, _ => by
    rw [List.length_eq_zero_iff.1 h]
    decide
  | n + 1, q, h, hd => by
    have hne : q ≠ [] := fun e => by rw [e] at h; simp at h
    obtain ⟨p, c, rfl⟩ : ∃ p c, q = p ++ [c] := ⟨q.dropLast, q.getLast hne, (List.dropLast_concat_getLast hne).symm⟩
    have ih := val_lt n p (by simpa using h) (fun d hd2 => hd d (by simp [hd2]))
    have hc := hd c (by simp)
    unfold digit at hc
    simp only [Bool.and_eq_true, decide_eq_true_eq] at hc
    rw [val_snoc, Nat.pow_succ]
    omega
/-- with the region's numeral ahead, another name is none -/
theorem only_r {l : List UInt8} {r a b : Nat} (ht : l.take ((decDigits r).length + 1) = decDigits r ++ [45]) (h : l = nm a b) : a = r ∧ l.drop ((decDigits r).length + 1) = decDigits b := by
  have h1 : l = decDigits r ++ 45 :: l.drop ((decDigits r).length + 1) := by
    have h2 := List.take_append_drop ((decDigits r).length + 1) l
    rw [ht] at h2
    simpa using h2.symm
  have h2 := h1
  rw [h, nm_eq] at h2
  obtain ⟨h3, h4⟩ := split_dash _ _ _ _ (no_dash a) (no_dash r) h2
  refine ⟨dec_inj h3, ?_⟩
  rw [h, nm_eq, ← h4]
def RefParseR (l : List UInt8) (e : Ending) : Prop :=
  (∃ a b : Nat, OkN a b ∧ l = nm a b ∧ e = .returned (.tuple #[.int .i64 a, .int .i64 b])) ∨
  ((∀ a b, OkN a b → l ≠ nm a b) ∧ e = .returned (.tuple #[.int .i64 0, .int .i64 0]))
set_option maxRecDepth 10000 in
set_option maxHeartbeats 3200000 in
theorem refParse_any (s : ByteArray) (w : World) (hs : s.size ≤ 1000000) : Calls Tryz.prog 23 #[.string s] w fun e w' => RefParseR s.data.toList e ∧ Below w.heap.size w w' := by
  have hsl : s.data.toList.length = s.size := Array.length_toList
  have HSL := Lib.hid hsl
  clear hsl
  go_enter Tryz.func23, Tryz.ntmps23
  go_wp2
  go_loopw [4, 5, 6, 7] (fun x _ _ _ wr => ∃ r : Nat, 1 ≤ r ∧ r ≤ 17 ∧ x = .int .i64 r ∧ (∀ r', r' < r → ∀ b, OkN r' b → s.data.toList ≠ nm r' b) ∧ Below w.heap.size w wr) (fun x _ _ _ _ => 17 - (RowKit.intOf x).toNat)
  case atStart => exact ⟨1, by omega, by omega, rfl, fun r' h b hok => by unfold OkN at hok; omega, Below.refl _ _⟩
  case round =>
    obtain ⟨r, hr1, hr2, rfl, hno, hb⟩ := hrel
    have HNO := Lib.hid hno
    have HB := Lib.hid hb
    clear hno hb
    by_cases hlt : r ≤ 16
    · have hld : (decDigits r).length ≤ 2 := dec_len_le 1 r (by omega)
      have hld0 : 1 ≤ (decDigits r).length := List.length_pos_iff.2 (dec_ne r)
      obtain ⟨D, hD⟩ : ∃ D, str (decDigits r) = D := ⟨_, rfl⟩
      have hsD : D.size = (decDigits r).length := by rw [← hD]; exact List.size_toArray
      have HSD := Lib.hid hsD
      have hD1 : 1 ≤ D.size := by omega
      have hD2 : D.size ≤ 2 := by omega
      have hw13 : IntKind.i64.wrap ((D.size : Int) + 1 + 13) = (D.size : Int) + 1 + 13 := by rw [IntKind.wrap_i64]; omega
      clear hsD hld hld0
      have HD := Lib.hid hD
      go_wp2_with fail
      refine (decimal_any r wr (by omega) (by omega)).mono ?_
      rintro e w1 ⟨rfl, hb1⟩
      rw [hD]
      have HB1 := Lib.hid (below_step HB.out hb1)
      clear hD hb1
      go_wp2_with fail
      by_cases hA : s.size ≤ D.size + 1
      · have d1 : decide ((s.size : Int) ≤ (D.size : Int) + 1) = true := by simp; omega
        refine wp_region_mono nobody (by kernel_rfl) ?_
        -- 0 Op.move (Operand.tmp 0)
        refine wpMono_take' 0 (v := ?_) rfl (by kernel_rfl) (by kernel_rfl) (by kernel_rfl) (fun _ _ _ h => h) (by rfl) ?_ ?_
        rotate_left
        · (intro W hSw; have hcW := hSw.cells; try simp only [World.size_drew, World.cell?_drew] at hcW
           go_simp; first | done | rfl)
        try simp only [Act.put, List.setIfInBounds_toArray, List.set_cons_zero, List.set_cons_succ]
        (try rw [d1]); (try rw [Bool.true_or])
        -- 1 Op.call { callee := Callee.builtin Builtin.len, args := #[Operand.tmp 16], argTypes := #[9
        refine wpMono_take' 1 (v := ?_) rfl (by kernel_rfl) (by kernel_rfl) (by kernel_rfl) (fun _ _ _ h => h) (by rfl) ?_ ?_
        rotate_left
        · (intro W hSw; have hcW := hSw.cells; try simp only [World.size_drew, World.cell?_drew] at hcW
           go_simp; first | done | rfl)
        try simp only [Act.put, List.setIfInBounds_toArray, List.set_cons_zero, List.set_cons_succ]
        (try rw [d1]); (try rw [Bool.true_or])
        -- 2 Op.move (Operand.tmp 5)
        refine wpMono_take' 2 (v := ?_) rfl (by kernel_rfl) (by kernel_rfl) (by kernel_rfl) (fun _ _ _ h => h) (by rfl) ?_ ?_
        rotate_left
        · (intro W hSw; have hcW := hSw.cells; try simp only [World.size_drew, World.cell?_drew] at hcW
           go_simp; first | done | rfl)
        try simp only [Act.put, List.setIfInBounds_toArray, List.set_cons_zero, List.set_cons_succ]
        (try rw [d1]); (try rw [Bool.true_or])
        -- 3 Op.binOp BinOp.leq 3 (Operand.tmp 17) (Operand.tmp 18) 3
        refine wpMono_take' 3 (v := ?_) rfl (by kernel_rfl) (by kernel_rfl) (by kernel_rfl) (fun _ _ _ h => h) (by rfl) ?_ ?_
        rotate_left
        · (intro W hSw; have hcW := hSw.cells; try simp only [World.size_drew, World.cell?_drew] at hcW
           go_simp; first | done | rfl)
        try simp only [Act.put, List.setIfInBounds_toArray, List.set_cons_zero, List.set_cons_succ]
        (try rw [d1]); (try rw [Bool.true_or])
        -- 4 Op.move (Operand.tmp 19)
        refine wpMono_take' 4 (v := ?_) rfl (by kernel_rfl) (by kernel_rfl) (by kernel_rfl) (fun _ _ _ h => h) (by rfl) ?_ ?_
        rotate_left
        · (intro W hSw; have hcW := hSw.cells; try simp only [World.size_drew, World.cell?_drew] at hcW
           go_simp; first | done | rfl)
        try simp only [Act.put, List.setIfInBounds_toArray, List.set_cons_zero, List.set_cons_succ]
        (try rw [d1]); (try rw [Bool.true_or])
        -- 5 Op.move (Operand.tmp 0)
        refine wpMono_skip' 5 rfl (by kernel_rfl) (by kernel_rfl) (by kernel_rfl) (fun _ _ _ h => h) (by rfl) ?_
        try simp only [Act.put, List.setIfInBounds_toArray, List.set_cons_zero, List.set_cons_succ]
        (try rw [d1]); (try rw [Bool.true_or])
        -- 6 Op.call { callee := Callee.builtin Builtin.len, args := #[Operand.tmp 21], argTypes := #[9
        refine wpMono_skip' 6 rfl (by kernel_rfl) (by kernel_rfl) (by kernel_rfl) (fun _ _ _ h => h) (by rfl) ?_
        try simp only [Act.put, List.setIfInBounds_toArray, List.set_cons_zero, List.set_cons_succ]
        (try rw [d1]); (try rw [Bool.true_or])
        -- 7 Op.move (Operand.tmp 5)
        refine wpMono_skip' 7 rfl (by kernel_rfl) (by kernel_rfl) (by kernel_rfl) (fun _ _ _ h => h) (by rfl) ?_
        try simp only [Act.put, List.setIfInBounds_toArray, List.set_cons_zero, List.set_cons_succ]
        (try rw [d1]); (try rw [Bool.true_or])
        -- 8 Op.binOp BinOp.add 3 (Operand.tmp 23) (Operand.const (Value.int IntKind.i64 13)) 3
        refine wpMono_skip' 8 rfl (by kernel_rfl) (by kernel_rfl) (by kernel_rfl) (fun _ _ _ h => h) (by rfl) ?_
        try simp only [Act.put, List.setIfInBounds_toArray, List.set_cons_zero, List.set_cons_succ]
        (try rw [d1]); (try rw [Bool.true_or])
        -- 9 Op.binOp BinOp.gtr 3 (Operand.tmp 22) (Operand.tmp 24) 3
        refine wpMono_skip' 9 rfl (by kernel_rfl) (by kernel_rfl) (by kernel_rfl) (fun _ _ _ h => h) (by rfl) ?_
        try simp only [Act.put, List.setIfInBounds_toArray, List.set_cons_zero, List.set_cons_succ]
        (try rw [d1]); (try rw [Bool.true_or])
        -- 10 Op.pick (Operand.tmp 20) (Operand.const (Value.bool true)) (Operand.tmp 25)
        refine wpMono_take' 10 (v := ?_) rfl (by kernel_rfl) (by kernel_rfl) (by kernel_rfl) (fun _ _ _ h => h) (by rfl) ?_ ?_
        rotate_left
        · (intro W hSw; have hcW := hSw.cells; try simp only [World.size_drew, World.cell?_drew] at hcW
           go_simp; first | done | rfl)
        try simp only [Act.put, List.setIfInBounds_toArray, List.set_cons_zero, List.set_cons_succ]
        (try rw [d1]); (try rw [Bool.true_or])
        -- 11 Op.move (Operand.tmp 26)
        refine wpMono_take' 11 (v := ?_) rfl (by kernel_rfl) (by kernel_rfl) (by kernel_rfl) (fun _ _ _ h => h) (by rfl) ?_ ?_
        rotate_left
        · (intro W hSw; have hcW := hSw.cells; try simp only [World.size_drew, World.cell?_drew] at hcW
           go_simp; first | done | rfl)
        try simp only [Act.put, List.setIfInBounds_toArray, List.set_cons_zero, List.set_cons_succ]
        (try rw [d1]); (try rw [Bool.true_or])
        -- 12 Op.move (Operand.tmp 0)
        refine wpMono_skip' 12 rfl (by kernel_rfl) (by kernel_rfl) (by kernel_rfl) (fun _ _ _ h => h) (by rfl) ?_
        try simp only [Act.put, List.setIfInBounds_toArray, List.set_cons_zero, List.set_cons_succ]
        (try rw [d1]); (try rw [Bool.true_or])
        -- 13 Op.move (Operand.tmp 5)
        refine wpMono_skip' 13 rfl (by kernel_rfl) (by kernel_rfl) (by kernel_rfl) (fun _ _ _ h => h) (by rfl) ?_
        try simp only [Act.put, List.setIfInBounds_toArray, List.set_cons_zero, List.set_cons_succ]
        (try rw [d1]); (try rw [Bool.true_or])
        -- 14 Op.slice 9 (Operand.tmp 28) none (some (Operand.tmp 29)) none
        refine wpMono_skip' 14 rfl (by kernel_rfl) (by kernel_rfl) (by kernel_rfl) (fun _ _ _ h => h) (by rfl) ?_
        try simp only [Act.put, List.setIfInBounds_toArray, List.set_cons_zero, List.set_cons_succ]
        (try rw [d1]); (try rw [Bool.true_or])
        -- 15 Op.move (Operand.tmp 4)
        refine wpMono_skip' 15 rfl (by kernel_rfl) (by kernel_rfl) (by kernel_rfl) (fun _ _ _ h => h) (by rfl) ?_
        try simp only [Act.put, List.setIfInBounds_toArray, List.set_cons_zero, List.set_cons_succ]
        (try rw [d1]); (try rw [Bool.true_or])
        -- 16 Op.call { callee := Callee.value (Operand.func 40), args := #[Operand.tmp 31], argTypes :=
        refine wpMono_skip' 16 rfl (by kernel_rfl) (by kernel_rfl) (by kernel_rfl) (fun _ _ _ h => h) (by rfl) ?_
        try simp only [Act.put, List.setIfInBounds_toArray, List.set_cons_zero, List.set_cons_succ]
        (try rw [d1]); (try rw [Bool.true_or])
        -- 17 Op.binOp BinOp.add 9 (Operand.tmp 32) (Operand.const (Value.string { data := #[45] })) 9
        refine wpMono_skip' 17 rfl (by kernel_rfl) (by kernel_rfl) (by kernel_rfl) (fun _ _ _ h => h) (by rfl) ?_
        try simp only [Act.put, List.setIfInBounds_toArray, List.set_cons_zero, List.set_cons_succ]
        (try rw [d1]); (try rw [Bool.true_or])
        -- 18 Op.binOp BinOp.neq 9 (Operand.tmp 30) (Operand.tmp 33) 9
        refine wpMono_skip' 18 rfl (by kernel_rfl) (by kernel_rfl) (by kernel_rfl) (fun _ _ _ h => h) (by rfl) ?_
        try simp only [Act.put, List.setIfInBounds_toArray, List.set_cons_zero, List.set_cons_succ]
        (try rw [d1]); (try rw [Bool.true_or])
        -- 19 Op.pick (Operand.tmp 27) (Operand.const (Value.bool true)) (Operand.tmp 34)
        refine wpMono_take' 19 (v := ?_) rfl (by kernel_rfl) (by kernel_rfl) (by kernel_rfl) (fun _ _ _ h => h) (by rfl) ?_ ?_
        rotate_left
        · (intro W hSw; have hcW := hSw.cells; try simp only [World.size_drew, World.cell?_drew] at hcW
           go_simp; first | done | rfl)
        try simp only [Act.put, List.setIfInBounds_toArray, List.set_cons_zero, List.set_cons_succ]
        (try rw [d1]); (try rw [Bool.true_or])
        refine wpMono_done (by kernel_rfl) ?_ _
        have HN := Lib.hid (show ∀ b, OkN r b → s.data.toList ≠ nm r b from fun b hok e => by
          have h1 := congrArg List.length e
          rw [HSL.out, nm_len, ← HSD.out] at h1
          have := List.length_pos_iff.2 (dec_ne b)
          omega)
        go_wp2_with fail
        go_roundw
        case rel => exact ⟨r + 1, by omega, by omega, by go_num, fun r' h b hok => (Nat.lt_succ_iff_lt_or_eq.1 h).elim (fun h => HNO.out r' h b hok) (fun e => by rw [e] at hok ⊢; exact HN.out b hok), HB1.out.trans ((Below.refl _ w1).drew.mono HB1.out.size)⟩
        case measure => (simp [RowKit.intOf]; try omega)
      · by_cases hBB : D.size + 1 + 13 < s.size
        · have d1 : decide ((s.size : Int) ≤ (D.size : Int) + 1) = false := by simp; omega
          have d2 : decide ((D.size : Int) + 1 + 13 < (s.size : Int)) = true := by simp; omega
          refine wp_region_mono nobody (by kernel_rfl) ?_
          -- 0 Op.move (Operand.tmp 0)
          refine wpMono_take' 0 (v := ?_) rfl (by kernel_rfl) (by kernel_rfl) (by kernel_rfl) (fun _ _ _ h => h) (by rfl) ?_ ?_
          rotate_left
          · (intro W hSw; have hcW := hSw.cells; try simp only [World.size_drew, World.cell?_drew] at hcW
             go_simp; first | done | rfl)
          try simp only [Act.put, List.setIfInBounds_toArray, List.set_cons_zero, List.set_cons_succ]
          (try rw [hw13]); (try rw [d1]); (try rw [d2]); (try rw [Bool.false_or])
          -- 1 Op.call { callee := Callee.builtin Builtin.len, args := #[Operand.tmp 16], argTypes := #[9
          refine wpMono_take' 1 (v := ?_) rfl (by kernel_rfl) (by kernel_rfl) (by kernel_rfl) (fun _ _ _ h => h) (by rfl) ?_ ?_
          rotate_left
          · (intro W hSw; have hcW := hSw.cells; try simp only [World.size_drew, World.cell?_drew] at hcW
             go_simp; first | done | rfl)
          try simp only [Act.put, List.setIfInBounds_toArray, List.set_cons_zero, List.set_cons_succ]
          (try rw [hw13]); (try rw [d1]); (try rw [d2]); (try rw [Bool.false_or])
          -- 2 Op.move (Operand.tmp 5)
          refine wpMono_take' 2 (v := ?_) rfl (by kernel_rfl) (by kernel_rfl) (by kernel_rfl) (fun _ _ _ h => h) (by rfl) ?_ ?_
          rotate_left
          · (intro W hSw; have hcW := hSw.cells; try simp only [World.size_drew, World.cell?_drew] at hcW
             go_simp; first | done | rfl)
          try simp only [Act.put, List.setIfInBounds_toArray, List.set_cons_zero, List.set_cons_succ]
          (try rw [hw13]); (try rw [d1]); (try rw [d2]); (try rw [Bool.false_or])
          -- 3 Op.binOp BinOp.leq 3 (Operand.tmp 17) (Operand.tmp 18) 3
          refine wpMono_take' 3 (v := ?_) rfl (by kernel_rfl) (by kernel_rfl) (by kernel_rfl) (fun _ _ _ h => h) (by rfl) ?_ ?_
          rotate_left
          · (intro W hSw; have hcW := hSw.cells; try simp only [World.size_drew, World.cell?_drew] at hcW
             go_simp; first | done | rfl)
          try simp only [Act.put, List.setIfInBounds_toArray, List.set_cons_zero, List.set_cons_succ]
          (try rw [hw13]); (try rw [d1]); (try rw [d2]); (try rw [Bool.false_or])
          -- 4 Op.move (Operand.tmp 19)
          refine wpMono_take' 4 (v := ?_) rfl (by kernel_rfl) (by kernel_rfl) (by kernel_rfl) (fun _ _ _ h => h) (by rfl) ?_ ?_
          rotate_left
          · (intro W hSw; have hcW := hSw.cells; try simp only [World.size_drew, World.cell?_drew] at hcW
             go_simp; first | done | rfl)
          try simp only [Act.put, List.setIfInBounds_toArray, List.set_cons_zero, List.set_cons_succ]
          (try rw [hw13]); (try rw [d1]); (try rw [d2]); (try rw [Bool.false_or])
          -- 5 Op.move (Operand.tmp 0)
          refine wpMono_take' 5 (v := ?_) rfl (by kernel_rfl) (by kernel_rfl) (by kernel_rfl) (fun _ _ _ h => h) (by rfl) ?_ ?_
          rotate_left
          · (intro W hSw; have hcW := hSw.cells; try simp only [World.size_drew, World.cell?_drew] at hcW
             go_simp; first | done | rfl)
          try simp only [Act.put, List.setIfInBounds_toArray, List.set_cons_zero, List.set_cons_succ]
          (try rw [hw13]); (try rw [d1]); (try rw [d2]); (try rw [Bool.false_or])
          -- 6 Op.call { callee := Callee.builtin Builtin.len, args := #[Operand.tmp 21], argTypes := #[9
          refine wpMono_take' 6 (v := ?_) rfl (by kernel_rfl) (by kernel_rfl) (by kernel_rfl) (fun _ _ _ h => h) (by rfl) ?_ ?_
          rotate_left
          · (intro W hSw; have hcW := hSw.cells; try simp only [World.size_drew, World.cell?_drew] at hcW
             go_simp; first | done | rfl)
          try simp only [Act.put, List.setIfInBounds_toArray, List.set_cons_zero, List.set_cons_succ]
          (try rw [hw13]); (try rw [d1]); (try rw [d2]); (try rw [Bool.false_or])
          -- 7 Op.move (Operand.tmp 5)
          refine wpMono_take' 7 (v := ?_) rfl (by kernel_rfl) (by kernel_rfl) (by kernel_rfl) (fun _ _ _ h => h) (by rfl) ?_ ?_
          rotate_left
          · (intro W hSw; have hcW := hSw.cells; try simp only [World.size_drew, World.cell?_drew] at hcW
             go_simp; first | done | rfl)
          try simp only [Act.put, List.setIfInBounds_toArray, List.set_cons_zero, List.set_cons_succ]
          (try rw [hw13]); (try rw [d1]); (try rw [d2]); (try rw [Bool.false_or])
          -- 8 Op.binOp BinOp.add 3 (Operand.tmp 23) (Operand.const (Value.int IntKind.i64 13)) 3
          refine wpMono_take' 8 (v := ?_) rfl (by kernel_rfl) (by kernel_rfl) (by kernel_rfl) (fun _ _ _ h => h) (by rfl) ?_ ?_
          rotate_left
          · (intro W hSw; have hcW := hSw.cells; try simp only [World.size_drew, World.cell?_drew] at hcW
             go_simp; first | done | rfl)
          try simp only [Act.put, List.setIfInBounds_toArray, List.set_cons_zero, List.set_cons_succ]
          (try rw [hw13]); (try rw [d1]); (try rw [d2]); (try rw [Bool.false_or])
          -- 9 Op.binOp BinOp.gtr 3 (Operand.tmp 22) (Operand.tmp 24) 3
          refine wpMono_take' 9 (v := ?_) rfl (by kernel_rfl) (by kernel_rfl) (by kernel_rfl) (fun _ _ _ h => h) (by rfl) ?_ ?_
          rotate_left
          · (intro W hSw; have hcW := hSw.cells; try simp only [World.size_drew, World.cell?_drew] at hcW
             go_simp; first | done | rfl)
          try simp only [Act.put, List.setIfInBounds_toArray, List.set_cons_zero, List.set_cons_succ]
          (try rw [hw13]); (try rw [d1]); (try rw [d2]); (try rw [Bool.false_or])
          -- 10 Op.pick (Operand.tmp 20) (Operand.const (Value.bool true)) (Operand.tmp 25)
          refine wpMono_take' 10 (v := ?_) rfl (by kernel_rfl) (by kernel_rfl) (by kernel_rfl) (fun _ _ _ h => h) (by rfl) ?_ ?_
          rotate_left
          · (intro W hSw; have hcW := hSw.cells; try simp only [World.size_drew, World.cell?_drew] at hcW
             go_simp; first | done | rfl)
          try simp only [Act.put, List.setIfInBounds_toArray, List.set_cons_zero, List.set_cons_succ]
          (try rw [hw13]); (try rw [d1]); (try rw [d2]); (try rw [Bool.false_or])
          -- 11 Op.move (Operand.tmp 26)
          refine wpMono_take' 11 (v := ?_) rfl (by kernel_rfl) (by kernel_rfl) (by kernel_rfl) (fun _ _ _ h => h) (by rfl) ?_ ?_
          rotate_left
          · (intro W hSw; have hcW := hSw.cells; try simp only [World.size_drew, World.cell?_drew] at hcW
             go_simp; first | done | rfl)
          try simp only [Act.put, List.setIfInBounds_toArray, List.set_cons_zero, List.set_cons_succ]
          (try rw [hw13]); (try rw [d1]); (try rw [d2]); (try rw [Bool.false_or])
          -- 12 Op.move (Operand.tmp 0)
          refine wpMono_skip' 12 rfl (by kernel_rfl) (by kernel_rfl) (by kernel_rfl) (fun _ _ _ h => h) (by rfl) ?_
          try simp only [Act.put, List.setIfInBounds_toArray, List.set_cons_zero, List.set_cons_succ]
          (try rw [hw13]); (try rw [d1]); (try rw [d2]); (try rw [Bool.false_or])
          -- 13 Op.move (Operand.tmp 5)
          refine wpMono_skip' 13 rfl (by kernel_rfl) (by kernel_rfl) (by kernel_rfl) (fun _ _ _ h => h) (by rfl) ?_
          try simp only [Act.put, List.setIfInBounds_toArray, List.set_cons_zero, List.set_cons_succ]
          (try rw [hw13]); (try rw [d1]); (try rw [d2]); (try rw [Bool.false_or])
          -- 14 Op.slice 9 (Operand.tmp 28) none (some (Operand.tmp 29)) none
          refine wpMono_skip' 14 rfl (by kernel_rfl) (by kernel_rfl) (by kernel_rfl) (fun _ _ _ h => h) (by rfl) ?_
          try simp only [Act.put, List.setIfInBounds_toArray, List.set_cons_zero, List.set_cons_succ]
          (try rw [hw13]); (try rw [d1]); (try rw [d2]); (try rw [Bool.false_or])
          -- 15 Op.move (Operand.tmp 4)
          refine wpMono_skip' 15 rfl (by kernel_rfl) (by kernel_rfl) (by kernel_rfl) (fun _ _ _ h => h) (by rfl) ?_
          try simp only [Act.put, List.setIfInBounds_toArray, List.set_cons_zero, List.set_cons_succ]
          (try rw [hw13]); (try rw [d1]); (try rw [d2]); (try rw [Bool.false_or])
          -- 16 Op.call { callee := Callee.value (Operand.func 40), args := #[Operand.tmp 31], argTypes :=
          refine wpMono_skip' 16 rfl (by kernel_rfl) (by kernel_rfl) (by kernel_rfl) (fun _ _ _ h => h) (by rfl) ?_
          try simp only [Act.put, List.setIfInBounds_toArray, List.set_cons_zero, List.set_cons_succ]
          (try rw [hw13]); (try rw [d1]); (try rw [d2]); (try rw [Bool.false_or])
          -- 17 Op.binOp BinOp.add 9 (Operand.tmp 32) (Operand.const (Value.string { data := #[45] })) 9
          refine wpMono_skip' 17 rfl (by kernel_rfl) (by kernel_rfl) (by kernel_rfl) (fun _ _ _ h => h) (by rfl) ?_
          try simp only [Act.put, List.setIfInBounds_toArray, List.set_cons_zero, List.set_cons_succ]
          (try rw [hw13]); (try rw [d1]); (try rw [d2]); (try rw [Bool.false_or])
          -- 18 Op.binOp BinOp.neq 9 (Operand.tmp 30) (Operand.tmp 33) 9
          refine wpMono_skip' 18 rfl (by kernel_rfl) (by kernel_rfl) (by kernel_rfl) (fun _ _ _ h => h) (by rfl) ?_
          try simp only [Act.put, List.setIfInBounds_toArray, List.set_cons_zero, List.set_cons_succ]
          (try rw [hw13]); (try rw [d1]); (try rw [d2]); (try rw [Bool.false_or])
          -- 19 Op.pick (Operand.tmp 27) (Operand.const (Value.bool true)) (Operand.tmp 34)
          refine wpMono_take' 19 (v := ?_) rfl (by kernel_rfl) (by kernel_rfl) (by kernel_rfl) (fun _ _ _ h => h) (by rfl) ?_ ?_
          rotate_left
          · (intro W hSw; have hcW := hSw.cells; try simp only [World.size_drew, World.cell?_drew] at hcW
             go_simp; first | done | rfl)
          try simp only [Act.put, List.setIfInBounds_toArray, List.set_cons_zero, List.set_cons_succ]
          (try rw [hw13]); (try rw [d1]); (try rw [d2]); (try rw [Bool.false_or])
          refine wpMono_done (by kernel_rfl) ?_ _
          have HN := Lib.hid (show ∀ b, OkN r b → s.data.toList ≠ nm r b from fun b hok e => by
            have h1 := congrArg List.length e
            rw [HSL.out, nm_len, ← HSD.out] at h1
            have := dec_len_le 12 b (by unfold OkN at hok; omega)
            omega)
          go_wp2_with fail
          go_roundw
          case rel => exact ⟨r + 1, by omega, by omega, by go_num, fun r' h b hok => (Nat.lt_succ_iff_lt_or_eq.1 h).elim (fun h => HNO.out r' h b hok) (fun e => by rw [e] at hok ⊢; exact HN.out b hok), HB1.out.trans ((Below.refl _ w1).drew.mono HB1.out.size)⟩
          case measure => (simp [RowKit.intOf]; try omega)
        · have d1 : decide ((s.size : Int) ≤ (D.size : Int) + 1) = false := by simp; omega
          have d2 : decide ((D.size : Int) + 1 + 13 < (s.size : Int)) = false := by simp; omega
          have hsD1 : (D ++ { data := #[45] } : ByteArray).size = D.size + 1 := by rw [ByteArray.size_append]; rfl
          have c1 : 0 ≤ (D.size : Int) + 1 ∧ (D.size : Int) + 1 ≤ (s.size : Int) := by omega
          have c2 : ¬ 9223372036854775807 < D.size + 1 := by omega
          refine wp_region_mono nobody (by kernel_rfl) ?_
          -- 0 Op.move (Operand.tmp 0)
          refine wpMono_take' 0 (v := ?_) rfl (by kernel_rfl) (by kernel_rfl) (by kernel_rfl) (fun _ _ _ h => h) (by rfl) ?_ ?_
          rotate_left
          · (intro W hSw; have hcW := hSw.cells; try simp only [World.size_drew, World.cell?_drew] at hcW
             go_simp; first | done | rfl | (rw [if_pos c1]; rfl) | (rw [if_neg c2]; rfl))
          try simp only [Act.put, List.setIfInBounds_toArray, List.set_cons_zero, List.set_cons_succ]
          (try rw [hw13]); (try rw [d1]); (try rw [d2]); (try rw [Bool.false_or])
          -- 1 Op.call { callee := Callee.builtin Builtin.len, args := #[Operand.tmp 16], argTypes := #[9
          refine wpMono_take' 1 (v := ?_) rfl (by kernel_rfl) (by kernel_rfl) (by kernel_rfl) (fun _ _ _ h => h) (by rfl) ?_ ?_
          rotate_left
          · (intro W hSw; have hcW := hSw.cells; try simp only [World.size_drew, World.cell?_drew] at hcW
             go_simp; first | done | rfl | (rw [if_pos c1]; rfl) | (rw [if_neg c2]; rfl))
          try simp only [Act.put, List.setIfInBounds_toArray, List.set_cons_zero, List.set_cons_succ]
          (try rw [hw13]); (try rw [d1]); (try rw [d2]); (try rw [Bool.false_or])
          -- 2 Op.move (Operand.tmp 5)
          refine wpMono_take' 2 (v := ?_) rfl (by kernel_rfl) (by kernel_rfl) (by kernel_rfl) (fun _ _ _ h => h) (by rfl) ?_ ?_
          rotate_left
          · (intro W hSw; have hcW := hSw.cells; try simp only [World.size_drew, World.cell?_drew] at hcW
             go_simp; first | done | rfl | (rw [if_pos c1]; rfl) | (rw [if_neg c2]; rfl))
          try simp only [Act.put, List.setIfInBounds_toArray, List.set_cons_zero, List.set_cons_succ]
          (try rw [hw13]); (try rw [d1]); (try rw [d2]); (try rw [Bool.false_or])
          -- 3 Op.binOp BinOp.leq 3 (Operand.tmp 17) (Operand.tmp 18) 3
          refine wpMono_take' 3 (v := ?_) rfl (by kernel_rfl) (by kernel_rfl) (by kernel_rfl) (fun _ _ _ h => h) (by rfl) ?_ ?_
          rotate_left
          · (intro W hSw; have hcW := hSw.cells; try simp only [World.size_drew, World.cell?_drew] at hcW
             go_simp; first | done | rfl | (rw [if_pos c1]; rfl) | (rw [if_neg c2]; rfl))
          try simp only [Act.put, List.setIfInBounds_toArray, List.set_cons_zero, List.set_cons_succ]
          (try rw [hw13]); (try rw [d1]); (try rw [d2]); (try rw [Bool.false_or])
          -- 4 Op.move (Operand.tmp 19)
          refine wpMono_take' 4 (v := ?_) rfl (by kernel_rfl) (by kernel_rfl) (by kernel_rfl) (fun _ _ _ h => h) (by rfl) ?_ ?_
          rotate_left
          · (intro W hSw; have hcW := hSw.cells; try simp only [World.size_drew, World.cell?_drew] at hcW
             go_simp; first | done | rfl | (rw [if_pos c1]; rfl) | (rw [if_neg c2]; rfl))
          try simp only [Act.put, List.setIfInBounds_toArray, List.set_cons_zero, List.set_cons_succ]
          (try rw [hw13]); (try rw [d1]); (try rw [d2]); (try rw [Bool.false_or])
          -- 5 Op.move (Operand.tmp 0)
          refine wpMono_take' 5 (v := ?_) rfl (by kernel_rfl) (by kernel_rfl) (by kernel_rfl) (fun _ _ _ h => h) (by rfl) ?_ ?_
          rotate_left
          · (intro W hSw; have hcW := hSw.cells; try simp only [World.size_drew, World.cell?_drew] at hcW
             go_simp; first | done | rfl | (rw [if_pos c1]; rfl) | (rw [if_neg c2]; rfl))
          try simp only [Act.put, List.setIfInBounds_toArray, List.set_cons_zero, List.set_cons_succ]
          (try rw [hw13]); (try rw [d1]); (try rw [d2]); (try rw [Bool.false_or])
          -- 6 Op.call { callee := Callee.builtin Builtin.len, args := #[Operand.tmp 21], argTypes := #[9
          refine wpMono_take' 6 (v := ?_) rfl (by kernel_rfl) (by kernel_rfl) (by kernel_rfl) (fun _ _ _ h => h) (by rfl) ?_ ?_
          rotate_left
          · (intro W hSw; have hcW := hSw.cells; try simp only [World.size_drew, World.cell?_drew] at hcW
             go_simp; first | done | rfl | (rw [if_pos c1]; rfl) | (rw [if_neg c2]; rfl))
          try simp only [Act.put, List.setIfInBounds_toArray, List.set_cons_zero, List.set_cons_succ]
          (try rw [hw13]); (try rw [d1]); (try rw [d2]); (try rw [Bool.false_or])
          -- 7 Op.move (Operand.tmp 5)
          refine wpMono_take' 7 (v := ?_) rfl (by kernel_rfl) (by kernel_rfl) (by kernel_rfl) (fun _ _ _ h => h) (by rfl) ?_ ?_
          rotate_left
          · (intro W hSw; have hcW := hSw.cells; try simp only [World.size_drew, World.cell?_drew] at hcW
             go_simp; first | done | rfl | (rw [if_pos c1]; rfl) | (rw [if_neg c2]; rfl))
          try simp only [Act.put, List.setIfInBounds_toArray, List.set_cons_zero, List.set_cons_succ]
          (try rw [hw13]); (try rw [d1]); (try rw [d2]); (try rw [Bool.false_or])
          -- 8 Op.binOp BinOp.add 3 (Operand.tmp 23) (Operand.const (Value.int IntKind.i64 13)) 3
          refine wpMono_take' 8 (v := ?_) rfl (by kernel_rfl) (by kernel_rfl) (by kernel_rfl) (fun _ _ _ h => h) (by rfl) ?_ ?_
          rotate_left
          · (intro W hSw; have hcW := hSw.cells; try simp only [World.size_drew, World.cell?_drew] at hcW
             go_simp; first | done | rfl | (rw [if_pos c1]; rfl) | (rw [if_neg c2]; rfl))
          try simp only [Act.put, List.setIfInBounds_toArray, List.set_cons_zero, List.set_cons_succ]
          (try rw [hw13]); (try rw [d1]); (try rw [d2]); (try rw [Bool.false_or])
          -- 9 Op.binOp BinOp.gtr 3 (Operand.tmp 22) (Operand.tmp 24) 3
          refine wpMono_take' 9 (v := ?_) rfl (by kernel_rfl) (by kernel_rfl) (by kernel_rfl) (fun _ _ _ h => h) (by rfl) ?_ ?_
          rotate_left
          · (intro W hSw; have hcW := hSw.cells; try simp only [World.size_drew, World.cell?_drew] at hcW
             go_simp; first | done | rfl | (rw [if_pos c1]; rfl) | (rw [if_neg c2]; rfl))
          try simp only [Act.put, List.setIfInBounds_toArray, List.set_cons_zero, List.set_cons_succ]
          (try rw [hw13]); (try rw [d1]); (try rw [d2]); (try rw [Bool.false_or])
          -- 10 Op.pick (Operand.tmp 20) (Operand.const (Value.bool true)) (Operand.tmp 25)
          refine wpMono_take' 10 (v := ?_) rfl (by kernel_rfl) (by kernel_rfl) (by kernel_rfl) (fun _ _ _ h => h) (by rfl) ?_ ?_
          rotate_left
          · (intro W hSw; have hcW := hSw.cells; try simp only [World.size_drew, World.cell?_drew] at hcW
             go_simp; first | done | rfl | (rw [if_pos c1]; rfl) | (rw [if_neg c2]; rfl))
          try simp only [Act.put, List.setIfInBounds_toArray, List.set_cons_zero, List.set_cons_succ]
          (try rw [hw13]); (try rw [d1]); (try rw [d2]); (try rw [Bool.false_or])
          -- 11 Op.move (Operand.tmp 26)
          refine wpMono_take' 11 (v := ?_) rfl (by kernel_rfl) (by kernel_rfl) (by kernel_rfl) (fun _ _ _ h => h) (by rfl) ?_ ?_
          rotate_left
          · (intro W hSw; have hcW := hSw.cells; try simp only [World.size_drew, World.cell?_drew] at hcW
             go_simp; first | done | rfl | (rw [if_pos c1]; rfl) | (rw [if_neg c2]; rfl))
          try simp only [Act.put, List.setIfInBounds_toArray, List.set_cons_zero, List.set_cons_succ]
          (try rw [hw13]); (try rw [d1]); (try rw [d2]); (try rw [Bool.false_or])
          -- 12 Op.move (Operand.tmp 0)
          refine wpMono_take' 12 (v := ?_) rfl (by kernel_rfl) (by kernel_rfl) (by kernel_rfl) (fun _ _ _ h => h) (by rfl) ?_ ?_
          rotate_left
          · (intro W hSw; have hcW := hSw.cells; try simp only [World.size_drew, World.cell?_drew] at hcW
             go_simp; first | done | rfl | (rw [if_pos c1]; rfl) | (rw [if_neg c2]; rfl))
          try simp only [Act.put, List.setIfInBounds_toArray, List.set_cons_zero, List.set_cons_succ]
          (try rw [hw13]); (try rw [d1]); (try rw [d2]); (try rw [Bool.false_or])
          -- 13 Op.move (Operand.tmp 5)
          refine wpMono_take' 13 (v := ?_) rfl (by kernel_rfl) (by kernel_rfl) (by kernel_rfl) (fun _ _ _ h => h) (by rfl) ?_ ?_
          rotate_left
          · (intro W hSw; have hcW := hSw.cells; try simp only [World.size_drew, World.cell?_drew] at hcW
             go_simp; first | done | rfl | (rw [if_pos c1]; rfl) | (rw [if_neg c2]; rfl))
          try simp only [Act.put, List.setIfInBounds_toArray, List.set_cons_zero, List.set_cons_succ]
          (try rw [hw13]); (try rw [d1]); (try rw [d2]); (try rw [Bool.false_or])
          -- 14 Op.slice 9 (Operand.tmp 28) none (some (Operand.tmp 29)) none
          refine wpMono_take' 14 (v := ?_) rfl (by kernel_rfl) (by kernel_rfl) (by kernel_rfl) (fun _ _ _ h => h) (by rfl) ?_ ?_
          rotate_left
          · (intro W hSw; have hcW := hSw.cells; try simp only [World.size_drew, World.cell?_drew] at hcW
             go_simp; first | done | rfl | (rw [if_pos c1]; rfl) | (rw [if_neg c2]; rfl))
          try simp only [Act.put, List.setIfInBounds_toArray, List.set_cons_zero, List.set_cons_succ]
          (try rw [hw13]); (try rw [d1]); (try rw [d2]); (try rw [Bool.false_or])
          -- 15 Op.move (Operand.tmp 4)
          refine wpMono_take' 15 (v := ?_) rfl (by kernel_rfl) (by kernel_rfl) (by kernel_rfl) (fun _ _ _ h => h) (by rfl) ?_ ?_
          rotate_left
          · (intro W hSw; have hcW := hSw.cells; try simp only [World.size_drew, World.cell?_drew] at hcW
             go_simp; first | done | rfl | (rw [if_pos c1]; rfl) | (rw [if_neg c2]; rfl))
          try simp only [Act.put, List.setIfInBounds_toArray, List.set_cons_zero, List.set_cons_succ]
          (try rw [hw13]); (try rw [d1]); (try rw [d2]); (try rw [Bool.false_or])
          -- EFFECT 16 Op.call { callee := Callee.value (Operand.func 40), args := #[Operand.tmp 31], argTypes := #[3] }
          refine wpMono_one' 16 (by kernel_rfl) rfl (by rfl) (fun K hK => ?_)
          go_simp
          refine (decimal_any r _ (by omega) (by omega)).mono ?_
          rintro e w2 ⟨rfl, hb2⟩
          rw [HD.out]
          refine hK.out _ _ ?_ ?_
          · exact .of_below hb2
          clear hK K
          try simp only [Act.put, List.setIfInBounds_toArray, List.set_cons_zero, List.set_cons_succ]
          (try rw [hw13]); (try rw [d1]); (try rw [d2]); (try rw [Bool.false_or])
          -- 17 Op.binOp BinOp.add 9 (Operand.tmp 32) (Operand.const (Value.string { data := #[45] })) 9
          refine wpMono_take' 17 (v := ?_) rfl (by kernel_rfl) (by kernel_rfl) (by kernel_rfl) (fun _ _ _ h => h) (by rfl) ?_ ?_
          rotate_left
          · (intro W hSw; have hcW := hSw.cells; try simp only [World.size_drew, World.cell?_drew] at hcW
             go_simp; first | done | rfl | (rw [if_pos c1]; rfl) | (rw [if_neg c2]; rfl))
          try simp only [Act.put, List.setIfInBounds_toArray, List.set_cons_zero, List.set_cons_succ]
          (try rw [hw13]); (try rw [d1]); (try rw [d2]); (try rw [Bool.false_or])
          -- 18 Op.binOp BinOp.neq 9 (Operand.tmp 30) (Operand.tmp 33) 9
          refine wpMono_take' 18 (v := ?_) rfl (by kernel_rfl) (by kernel_rfl) (by kernel_rfl) (fun _ _ _ h => h) (by rfl) ?_ ?_
          rotate_left
          · (intro W hSw; have hcW := hSw.cells; try simp only [World.size_drew, World.cell?_drew] at hcW
             go_simp; first | done | rfl | (rw [if_pos c1]; rfl) | (rw [if_neg c2]; rfl))
          try simp only [Act.put, List.setIfInBounds_toArray, List.set_cons_zero, List.set_cons_succ]
          (try rw [hw13]); (try rw [d1]); (try rw [d2]); (try rw [Bool.false_or])
          -- 19 Op.pick (Operand.tmp 27) (Operand.const (Value.bool true)) (Operand.tmp 34)
          refine wpMono_take' 19 (v := ?_) rfl (by kernel_rfl) (by kernel_rfl) (by kernel_rfl) (fun _ _ _ h => h) (by rfl) ?_ ?_
          rotate_left
          · (intro W hSw; have hcW := hSw.cells; try simp only [World.size_drew, World.cell?_drew] at hcW
             go_simp; first | done | rfl | (rw [if_pos c1]; rfl) | (rw [if_neg c2]; rfl))
          try simp only [Act.put, List.setIfInBounds_toArray, List.set_cons_zero, List.set_cons_succ]
          (try rw [hw13]); (try rw [d1]); (try rw [d2]); (try rw [Bool.false_or])
          refine wpMono_done (by kernel_rfl) ?_ _
          have HB2 := Lib.hid (HB1.out.trans (((Below.refl _ w1).drew.trans (hb2.mono (by simp))).mono HB1.out.size))
          have hq : ((s.extract 0 (D.size + 1)).toList == (D ++ { data := #[45] }).toList) = decide (s.data.toList.take (D.size + 1) = decDigits r ++ [45]) := by
            rw [pre_list, ← HD.out, app_list]
            exact Bool.eq_iff_iff.2 (by simp)
          rw [hq]
          clear hq hb2 d1 d2
          by_cases hp : s.data.toList.take (D.size + 1) = decDigits r ++ [45]
          · have hpd : decide (s.data.toList.take (D.size + 1) = decDigits r ++ [45]) = true := by simpa using hp
            rw [hpd]
            have HP := Lib.hid (show s.data.toList.take ((decDigits r).length + 1) = decDigits r ++ [45] by rw [← HSD.out]; exact hp)
            clear hp hpd
            obtain ⟨R, hR⟩ : ∃ R, s.data.toList.drop (D.size + 1) = R := ⟨_, rfl⟩
            have hRl : R.length = s.size - (D.size + 1) := by rw [← hR, List.length_drop, HSL.out]
            have HRD := Lib.hid (show s.data.toList.drop ((decDigits r).length + 1) = R by rw [← HSD.out]; exact hR)
            have HR := Lib.hid hR
            clear hR
            go_wp2_with fail
            go_loopw [6, 7] (fun x k wr2 => ∃ i m : Nat, D.size + 1 ≤ i ∧ i ≤ s.size ∧ k = .int .i64 i ∧ x = .int .i64 m ∧ val (R.take (i - (D.size + 1))) = m ∧ (∀ c ∈ R.take (i - (D.size + 1)), digit c = true) ∧ wr2 = w2) (fun _ k _ => s.size - (RowKit.intOf k).toNat)
            case atStart => exact ⟨D.size + 1, 0, by omega, by omega, by congr 1, rfl, by rw [Nat.sub_self]; rfl, by rw [Nat.sub_self]; simp, rfl⟩
            case round =>
              obtain ⟨i, m, hi1, hi2, rfl, rfl, hv, hdg, rfl⟩ := hrel
              have hw2s : D.size + 1 ≤ s.size := by omega
              have hmb : m < 10 ^ 13 := by
                rw [← hv]
                have h1 := val_lt _ (R.take (i - (D.size + 1))) rfl hdg
                rw [List.length_take, Nat.min_eq_left (by omega)] at h1
                exact Nat.lt_of_lt_of_le h1 (Nat.pow_le_pow_right (by decide) (by omega))
              have hmb' : m < 10000000000000 := hmb
              clear hmb
              by_cases hil : i < s.size
              · have hl : i - (D.size + 1) < R.length := by omega
                have hls : i < s.data.toList.length := by rw [HSL.out]; exact hil
                have hRx : R[i - (D.size + 1)] = s[i] := by
                  have h1 : R[i - (D.size + 1)]? = s.data.toList[i]? := by
                    rw [← HR.out, List.getElem?_drop]
                    congr 1
                    omega
                  rw [List.getElem?_eq_getElem hl, List.getElem?_eq_getElem hls] at h1
                  have h2 : s.data.toList[i] = s[i] := by simp [ByteArray.getElem_eq_getElem_data]
                  rw [← h2]
                  exact Option.some.inj h1
                have hsub : i + 1 - (D.size + 1) = i - (D.size + 1) + 1 := by omega
                have hvn : val (R.take (i + 1 - (D.size + 1))) = m * 10 + (s[i].toNat - 48) := by rw [hsub, take_next _ _ hl, val_snoc, hv, hRx]
                have h255 : s[i].toNat < 256 := s[i].toNat_lt
                have hxd : digit R[i - (D.size + 1)] = (decide (48 ≤ s[i].toNat) && decide (s[i].toNat ≤ 57)) := by rw [hRx]; rfl
                have HXD := Lib.hid hxd
                have HVN := Lib.hid hvn
                have HDG := Lib.hid hdg
                have HNOT := Lib.hid (show digit R[i - (D.size + 1)] = false → ∀ a b, OkN a b → s.data.toList ≠ nm a b from fun hd a b _ e => by
                  have h1 := (only_r HP.out e).2
                  rw [HRD.out] at h1
                  have h2 := dec_dig b R[i - (D.size + 1)] (by rw [← h1]; exact List.getElem_mem hl)
                  rw [hd] at h2
                  cases h2)
                clear hxd hvn hdg hv hRx
                by_cases h1 : (s[i].toNat : Int) < 48
                · go_wp2_with fail
                  go_ret2
                  exact ⟨.inr ⟨HNOT.out (by rw [HXD.out]; simp; omega), rfl⟩, HB2.out⟩
                · by_cases h2 : (57 : Int) < (s[i].toNat : Int)
                  · go_wp2_with fail
                    go_ret2
                    exact ⟨.inr ⟨HNOT.out (by rw [HXD.out]; simp; omega), rfl⟩, HB2.out⟩
                  · have hd : digit R[i - (D.size + 1)] = true := by rw [HXD.out]; simp; omega
                    have hw1 := IntWalk.i64_in (10 * (m : Int)) (by omega)
                    have hw2 := IntWalk.i64_in (10 * (m : Int) + (s[i].toNat : Int)) (by omega)
                    have hw3 := IntWalk.i64_in (10 * (m : Int) + (s[i].toNat : Int) - 48) (by omega)
                    go_wp2_with fail
                    go_roundw
                    case rel => exact ⟨i + 1, m * 10 + (s[i].toNat - 48), by omega, by omega, by go_num, by congr 1; omega, HVN.out, by
                      rw [hsub, take_next _ _ hl]
                      intro c hc
                      rcases List.mem_append.1 hc with hc | hc
                      · exact HDG.out c hc
                      · rw [List.mem_singleton.1 hc]; exact hd, trivial⟩
                    case measure => (simp [RowKit.intOf]; try omega)
              · obtain rfl : i = s.size := by omega
                rw [List.take_of_length_le (by omega)] at hv hdg
                have HV := Lib.hid hv
                clear hv hdg
                go_wp2_with fail
                refine (refName_any r m _).mono ?_
                rintro e w3 ⟨hrn, hb3⟩
                obtain ⟨N, rfl, hN⟩ : ∃ N, e = .returned (.string N) ∧ ((OkN r m ∧ N.data.toList = nm r m) ∨ (BadN r m ∧ N.data.toList = [])) := by
                  rcases hrn with ⟨a, b, ha, hb, hok, h⟩ | ⟨hbad, h⟩
                  · obtain rfl : r = a := by omega
                    obtain rfl : m = b := by omega
                    exact ⟨_, h, .inl ⟨hok, rfl⟩⟩
                  · exact ⟨_, h, .inr ⟨hbad, rfl⟩⟩
                have HNN := Lib.hid hN
                have HB3 := Lib.hid (below_step HB2.out hb3)
                clear hrn hN hb3
                have hbe : (N.toList == s.toList) = decide (N.data.toList = s.data.toList) := by
                  rw [ByteArray.toList_eq, ByteArray.toList_eq]
                  exact Bool.eq_iff_iff.2 (by simp)
                by_cases hq : N.data.toList = s.data.toList
                · have hqb : (N.toList == s.toList) = true := by rw [hbe]; simpa using hq
                  have HY := Lib.hid (show OkN r m ∧ s.data.toList = nm r m from by
                    rcases HNN.out with ⟨h1, h2⟩ | ⟨_, h2⟩
                    · exact ⟨h1, hq.symm.trans h2⟩
                    · have h3 := HSL.out
                      rw [← hq, h2] at h3
                      simp at h3
                      omega)
                  clear hbe hq
                  go_wp2_with fail
                  go_ret2
                  exact ⟨.inl ⟨r, m, HY.out.1, HY.out.2, rfl⟩, HB3.out⟩
                · have hqb : (N.toList == s.toList) = false := by rw [hbe]; simpa using hq
                  have HN := Lib.hid (show ∀ b, OkN r b → s.data.toList ≠ nm r b from fun b hok e => by
                    have h1 := (only_r HP.out e).2
                    rw [HRD.out] at h1
                    have h2 : m = b := by rw [← HV.out, h1, dec_val]
                    subst h2
                    rcases HNN.out with ⟨_, h2⟩ | ⟨h2, _⟩
                    · exact hq (h2.trans e.symm)
                    · unfold BadN at h2; unfold OkN at hok; omega)
                  clear hbe hq
                  go_wp2_with fail
                  go_roundw
                  case rel => exact ⟨r + 1, by omega, by omega, by go_num, fun r' h b hok => (Nat.lt_succ_iff_lt_or_eq.1 h).elim (fun h => HNO.out r' h b hok) (fun e => by rw [e] at hok ⊢; exact HN.out b hok), HB3.out⟩
                  case measure => (simp [RowKit.intOf]; try omega)
          · have hpd : decide (s.data.toList.take (D.size + 1) = decDigits r ++ [45]) = false := by simpa using hp
            rw [hpd]
            have HN := Lib.hid (show ∀ b, OkN r b → s.data.toList ≠ nm r b from fun b hok e => hp (by rw [HSD.out, e]; exact nm_take r b))
            clear hp hpd
            go_wp2_with fail
            go_roundw
            case rel => exact ⟨r + 1, by omega, by omega, by go_num, fun r' h b hok => (Nat.lt_succ_iff_lt_or_eq.1 h).elim (fun h => HNO.out r' h b hok) (fun e => by rw [e] at hok ⊢; exact HN.out b hok), HB2.out⟩
            case measure => (simp [RowKit.intOf]; try omega)
    · obtain rfl : r = 17 := by omega
      go_wp2_with fail
      go_ret2
      exact ⟨.inr ⟨fun a b hok => HNO.out a (by unfold OkN at hok; omega) b hok, rfl⟩, HB.out⟩
end Go.Proofs.YtfcgffemdcfiiaaGreatDoor.quota
