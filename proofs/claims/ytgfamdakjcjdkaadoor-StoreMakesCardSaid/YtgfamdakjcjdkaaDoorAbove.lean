/- The walks of reg.Above and of the reference's Above, of Visible: what each returns; nothing that was there is written. -/
import Derived.Test.YtgfamdakjcjdkaaDoorCmp
namespace Go.Proofs.YtgfamdakjcjdkaaDoor.above
open Go.RowKit Go.Proofs.YtgfamdakjcjdkaaDoor.base Go.Proofs.YtgfamdakjcjdkaaDoor.cmp

/-- A cell. -/
structure C where
  t : Int
  r : Int
  v : ByteArray
  g : Bool
  l : Int
def C.cells (c : C) : List Value := [.int .i64 c.t, .int .i64 c.r, .string c.v, .bool c.g, .int .i64 c.l]
def above (a b : C) : Bool :=
  if a.t = b.t ∧ a.r = b.r then (if a.g = b.g then decide (0 < or2 (cmpS a.v b.v) (cmpI a.l b.l)) else a.g) else lessS b.t b.r a.t a.r

set_option maxHeartbeats 1000000 in
theorem above_any (t1 r1 : Int) (v1 : ByteArray) (g1 : Bool) (l1 t2 r2 : Int) (v2 : ByteArray) (g2 : Bool) (l2 : Int) (w : World) :
    Calls Tryd.prog 52 #[.agg #[.int .i64 t1, .int .i64 r1, .string v1, .bool g1, .int .i64 l1], .agg #[.int .i64 t2, .int .i64 r2, .string v2, .bool g2, .int .i64 l2]] w
      fun e w' => e = .returned (.bool (above ⟨t1, r1, v1, g1, l1⟩ ⟨t2, r2, v2, g2, l2⟩)) ∧ Below w.heap.size w w' := by
  by_cases ht : t1 = t2 ∧ r1 = r2
  · obtain ⟨rfl, rfl⟩ := ht
    unfold above
    by_cases hg : g1 = g2
    · subst hg
      go_enter Tryd.func52, Tryd.ntmps52
      go_wp2_with fail
      refine wp_region_mono nobody (by kernel_rfl) ?_
      -- 0 Op.fieldAddr 28 (Operand.tmp 2) 1
      refine wpMono_take' 0 (v := ?_) rfl (by kernel_rfl) (by kernel_rfl) (by kernel_rfl) (fun _ _ _ h => h) (by rfl) ?_ ?_
      rotate_left
      · (intro W hSw; have hcW := hSw.cells; go_simp; first | done | rfl)
      try simp only [Act.put, List.setIfInBounds_toArray, List.set_cons_zero, List.set_cons_succ]
      -- 1 Op.load 9 (Operand.tmp 24)
      refine wpMono_take' 1 (v := ?_) rfl (by kernel_rfl) (by kernel_rfl) (by kernel_rfl) (fun _ _ _ h => h) (by rfl) ?_ ?_
      rotate_left
      · (intro W hSw; have hcW := hSw.cells; go_simp; first | done | rfl)
      try simp only [Act.put, List.setIfInBounds_toArray, List.set_cons_zero, List.set_cons_succ]
      -- 2 Op.fieldAddr 28 (Operand.tmp 3) 1
      refine wpMono_take' 2 (v := ?_) rfl (by kernel_rfl) (by kernel_rfl) (by kernel_rfl) (fun _ _ _ h => h) (by rfl) ?_ ?_
      rotate_left
      · (intro W hSw; have hcW := hSw.cells; go_simp; first | done | rfl)
      try simp only [Act.put, List.setIfInBounds_toArray, List.set_cons_zero, List.set_cons_succ]
      -- 3 Op.load 9 (Operand.tmp 26)
      refine wpMono_take' 3 (v := ?_) rfl (by kernel_rfl) (by kernel_rfl) (by kernel_rfl) (fun _ _ _ h => h) (by rfl) ?_ ?_
      rotate_left
      · (intro W hSw; have hcW := hSw.cells; go_simp; first | done | rfl)
      try simp only [Act.put, List.setIfInBounds_toArray, List.set_cons_zero, List.set_cons_succ]
      -- 5 Op.fieldAddr 28 (Operand.tmp 2) 3
      refine wpMono_take' 5 (v := ?_) rfl (by kernel_rfl) (by kernel_rfl) (by kernel_rfl) (fun _ _ _ h => h) (by rfl) ?_ ?_
      rotate_left
      · (intro W hSw; have hcW := hSw.cells; go_simp; first | done | rfl)
      try simp only [Act.put, List.setIfInBounds_toArray, List.set_cons_zero, List.set_cons_succ]
      -- 6 Op.load 3 (Operand.tmp 29)
      refine wpMono_take' 6 (v := ?_) rfl (by kernel_rfl) (by kernel_rfl) (by kernel_rfl) (fun _ _ _ h => h) (by rfl) ?_ ?_
      rotate_left
      · (intro W hSw; have hcW := hSw.cells; go_simp; first | done | rfl)
      try simp only [Act.put, List.setIfInBounds_toArray, List.set_cons_zero, List.set_cons_succ]
      -- 7 Op.fieldAddr 28 (Operand.tmp 3) 3
      refine wpMono_take' 7 (v := ?_) rfl (by kernel_rfl) (by kernel_rfl) (by kernel_rfl) (fun _ _ _ h => h) (by rfl) ?_ ?_
      rotate_left
      · (intro W hSw; have hcW := hSw.cells; go_simp; first | done | rfl)
      try simp only [Act.put, List.setIfInBounds_toArray, List.set_cons_zero, List.set_cons_succ]
      -- 8 Op.load 3 (Operand.tmp 31)
      refine wpMono_take' 8 (v := ?_) rfl (by kernel_rfl) (by kernel_rfl) (by kernel_rfl) (fun _ _ _ h => h) (by rfl) ?_ ?_
      rotate_left
      · (intro W hSw; have hcW := hSw.cells; go_simp; first | done | rfl)
      try simp only [Act.put, List.setIfInBounds_toArray, List.set_cons_zero, List.set_cons_succ]
      -- EFFECT 4 Op.call { callee := Callee.value (Operand.func 18), args := #[Operand.tmp 25, Operand.tmp 27], argTypes := #[9, 9] }
      refine wpMono_one' 4 (by kernel_rfl) rfl (by rfl) (fun K hK => ?_)
      go_simp
      refine (compare_string _ _ _).mono ?_
      rintro e w1 ⟨rfl, rfl⟩
      refine hK.out _ _ ?_ ?_
      · exact Keeps.refl _ _
      clear hK K
      try simp only [Act.put, List.setIfInBounds_toArray, List.set_cons_zero, List.set_cons_succ]
      -- EFFECT 9 Op.call { callee := Callee.value (Operand.func 19), args := #[Operand.tmp 30, Operand.tmp 32], argTypes := #[3, 3] }
      refine wpMono_one' 9 (by kernel_rfl) rfl (by rfl) (fun K hK => ?_)
      go_simp
      refine (compare_int _ _ _).mono ?_
      rintro e w1 ⟨rfl, rfl⟩
      refine hK.out _ _ ?_ ?_
      · exact Keeps.refl _ _
      clear hK K
      try simp only [Act.put, List.setIfInBounds_toArray, List.set_cons_zero, List.set_cons_succ]
      -- EFFECT 10 Op.buildSlice 38 2 #[(0, Operand.tmp 28), (1, Operand.tmp 33)]
      refine wpMono_one' 10 (by kernel_rfl) rfl (by rfl) (fun K hK => ?_)
      go_simp
      refine hK.out _ _ ?_ ?_
      · exact Keeps.alloc _
      clear hK K
      try simp only [Act.put, List.setIfInBounds_toArray, List.set_cons_zero, List.set_cons_succ]
      -- EFFECT 11 Op.call { callee := Callee.value (Operand.func 17), args := #[Operand.tmp 34], argTypes := #[38] }
      refine wpMono_one' 11 (by kernel_rfl) rfl (by rfl) (fun K hK => ?_)
      go_simp
      refine (or_any _ 2 2 [cmpS v1 v2, cmpI l1 l2] _ rfl (by omega) (by exact Reads.newAtD _ _ _ _ (by simp) rfl)).mono ?_
      rintro e w1 ⟨rfl, rfl⟩
      refine hK.out _ _ ?_ ?_
      · exact Keeps.refl _ _
      clear hK K
      try simp only [Act.put, List.setIfInBounds_toArray, List.set_cons_zero, List.set_cons_succ]
      -- 12 Op.binOp BinOp.gtr 3 (Operand.tmp 35) (Operand.const (Value.int IntKind.i64 0)) 3
      refine wpMono_take' 12 (v := ?_) rfl (by kernel_rfl) (by kernel_rfl) (by kernel_rfl) (fun _ _ _ h => h) (by rfl) ?_ ?_
      rotate_left
      · (intro W hSw; have hcW := hSw.cells; go_simp; first | done | rfl)
      try simp only [Act.put, List.setIfInBounds_toArray, List.set_cons_zero, List.set_cons_succ]
      -- 13 Op.assign (Operand.tmp 36)
      refine wpMono_take' 13 (v := ?_) rfl (by kernel_rfl) (by kernel_rfl) (by kernel_rfl) (fun _ _ _ h => h) (by rfl) ?_ ?_
      rotate_left
      · (intro W hSw; have hcW := hSw.cells; go_simp; first | done | rfl)
      try simp only [Act.put, List.setIfInBounds_toArray, List.set_cons_zero, List.set_cons_succ]
      refine wpMono_done (by kernel_rfl) ?_ _
      go_wp2
      go_ret
      refine ⟨ret_bool ?_, (((((Below.refl _ _).alloc (Nat.le_refl _) _).alloc (by simp) _)).alloc (by simp; omega) _).drew⟩
      show decide (0 < firstNZ _) = _
      rw [firstNZ_two]
    · cases g1 <;> cases g2
      · exact absurd rfl hg
      · go_enter Tryd.func52, Tryd.ntmps52
        go_wp2
        go_ret
        exact ⟨ret_bool (by simp), below_one w _ _⟩
      · go_enter Tryd.func52, Tryd.ntmps52
        go_wp2
        go_ret
        exact ⟨ret_bool (by simp), below_one w _ _⟩
      · exact absurd rfl hg
  · have hv : above ⟨t1, r1, v1, g1, l1⟩ ⟨t2, r2, v2, g2, l2⟩ = lessS t2 r2 t1 r1 := by unfold above; rw [if_neg ht]
    have Hv := Lib.hid hv; clear hv
    by_cases h1 : t1 = t2
    · subst h1
      have h2 : (r1 == r2) = false := by simpa using ht
      clear ht
      go_enter Tryd.func52, Tryd.ntmps52
      go_wp2_with (first | (go_at_call 60; refine (less_stamp _ _ _ _ _).mono ?_; rintro e w1 ⟨rfl, hb1⟩))
      go_ret
      exact ⟨ret_bool (by rw [Hv.out]; exact lessS_eq _ _ _ _), (below_one w _ _).trans (hb1.mono (by simp; omega))⟩
    · have h2 : (t1 == t2) = false := by simpa using h1
      clear ht h1
      go_enter Tryd.func52, Tryd.ntmps52
      go_wp2_with (first | (go_at_call 60; refine (less_stamp _ _ _ _ _).mono ?_; rintro e w1 ⟨rfl, hb1⟩))
      go_ret
      exact ⟨ret_bool (by rw [Hv.out]; exact lessS_eq _ _ _ _), (below_one w _ _).trans (hb1.mono (by simp; omega))⟩

theorem bytesLess_irrefl : ∀ l : List UInt8, Op.bytesLess l l = false
  | [] => rfl
  | a :: l => by simp [Op.bytesLess, bytesLess_irrefl l]
theorem cmpS_cases (a b : ByteArray) : (Op.bytesLess a.toList b.toList = true ∧ cmpS a b = -1) ∨ (Op.bytesLess a.toList b.toList = false ∧ (a.toList == b.toList) = true ∧ cmpS a b = 0) ∨ (Op.bytesLess a.toList b.toList = false ∧ (a.toList == b.toList) = false ∧ cmpS a b = 1) := by
  unfold cmpS
  cases h : Op.bytesLess a.toList b.toList
  · cases h2 : a.toList == b.toList <;> simp
  · simp
set_option maxHeartbeats 2000000 in
theorem above_ref (t1 r1 : Int) (v1 : ByteArray) (g1 : Bool) (l1 t2 r2 : Int) (v2 : ByteArray) (g2 : Bool) (l2 : Int) (w : World) :
    Calls Tryd.prog 53 #[.agg #[.int .i64 t1, .int .i64 r1, .string v1, .bool g1, .int .i64 l1], .agg #[.int .i64 t2, .int .i64 r2, .string v2, .bool g2, .int .i64 l2]] w
      fun e w' => e = .returned (.bool (above ⟨t1, r1, v1, g1, l1⟩ ⟨t2, r2, v2, g2, l2⟩)) ∧ Below w.heap.size w w' := by
  by_cases ht : t1 = t2 ∧ r1 = r2
  · obtain ⟨rfl, rfl⟩ := ht
    by_cases hg : g1 = g2
    · subst hg
      have hv : above ⟨t1, r1, v1, g1, l1⟩ ⟨t1, r1, v2, g1, l2⟩ = if (v1.toList == v2.toList) = true then decide (l2 < l1) else !(Op.bytesLess v1.toList v2.toList) := by
        unfold above
        simp only [and_self, if_true]
        rcases cmpS_cases v1 v2 with ⟨h1, h2⟩ | ⟨h1, h2, h3⟩ | ⟨h1, h2, h3⟩
        · have h4 : (v1.toList == v2.toList) = false := by
            rw [Bool.eq_false_iff]; intro h; have h := by simpa using h
            rw [h, bytesLess_irrefl] at h1; cases h1
          rw [h2, h4, h1]; rfl
        · rw [h3, h2]; simp [or2, cmpI]; split <;> omega
        · rw [h3, h2, h1]; rfl
      have Hv := Lib.hid hv; clear hv
      cases h : v1.toList == v2.toList <;> cases g1
      all_goals
        rw [h] at Hv
        go_enter Tryd.func53, Tryd.ntmps53
        go_wp2
        go_ret
        exact ⟨ret_bool (by rw [Hv.out]; simp), below_one w _ _⟩
    · unfold above
      cases g1 <;> cases g2
      · exact absurd rfl hg
      · go_enter Tryd.func53, Tryd.ntmps53
        go_wp2
        go_ret
        exact ⟨ret_bool (by simp), below_one w _ _⟩
      · go_enter Tryd.func53, Tryd.ntmps53
        go_wp2
        go_ret
        exact ⟨ret_bool (by simp), below_one w _ _⟩
      · exact absurd rfl hg
  · have hv : above ⟨t1, r1, v1, g1, l1⟩ ⟨t2, r2, v2, g2, l2⟩ = lessS t2 r2 t1 r1 := by unfold above; rw [if_neg ht]
    have Hv := Lib.hid hv; clear hv
    by_cases h1 : t1 = t2
    · subst h1
      have h2 : (r1 == r2) = false := by simpa using ht
      clear ht
      go_enter Tryd.func53, Tryd.ntmps53
      go_wp2_with (first | (go_at_call 62; refine (less_ref _ _ _ _ _).mono ?_; rintro e w1 ⟨rfl, hb1⟩))
      go_ret
      exact ⟨ret_bool (by rw [Hv.out]), (below_one w _ _).trans (hb1.mono (by simp; omega))⟩
    · have h2 : (t1 == t2) = false := by simpa using h1
      clear ht h1
      go_enter Tryd.func53, Tryd.ntmps53
      go_wp2_with (first | (go_at_call 62; refine (less_ref _ _ _ _ _).mono ?_; rintro e w1 ⟨rfl, hb1⟩))
      go_ret
      exact ⟨ret_bool (by rw [Hv.out]), (below_one w _ _).trans (hb1.mono (by simp; omega))⟩
theorem visible_any (t r : Int) (v : ByteArray) (g : Bool) (l : Int) (w : World) : Calls Tryd.prog 40 #[.agg #[.int .i64 t, .int .i64 r, .string v, .bool g, .int .i64 l]] w
      fun e w' => e = .returned (.bool (decide (0 < t) && !g)) ∧ Below w.heap.size w w' := by
  have hd : decide (0 < t) = true ∨ decide (0 < t) = false := by cases decide (0 < t) <;> simp
  rcases hd with hd | hd <;> cases g
  all_goals
    go_enter Tryd.func40, Tryd.ntmps40
    go_wp2
    go_ret
    exact ⟨ret_bool (by rw [hd]; rfl), (Below.refl _ _).alloc (Nat.le_refl _) _⟩
theorem visible_ref (t r : Int) (v : ByteArray) (g : Bool) (l : Int) (w : World) : Calls Tryd.prog 48 #[.agg #[.int .i64 t, .int .i64 r, .string v, .bool g, .int .i64 l]] w
      fun e w' => e = .returned (.bool (decide (0 < t) && !g)) ∧ Below w.heap.size w w' := by
  by_cases ht : 1 ≤ t
  · cases g
    · go_enter Tryd.func48, Tryd.ntmps48
      go_wp2
      go_ret
      exact ⟨ret_bool (by simp; omega), (Below.refl _ _).alloc (Nat.le_refl _) _⟩
    · go_enter Tryd.func48, Tryd.ntmps48
      go_wp2
      go_ret
      exact ⟨ret_bool (by simp), (Below.refl _ _).alloc (Nat.le_refl _) _⟩
  · cases g
    · go_enter Tryd.func48, Tryd.ntmps48
      go_wp2
      go_ret
      exact ⟨ret_bool (by simp; omega), (Below.refl _ _).alloc (Nat.le_refl _) _⟩
    · go_enter Tryd.func48, Tryd.ntmps48
      go_wp2
      go_ret
      exact ⟨ret_bool (by simp), (Below.refl _ _).alloc (Nat.le_refl _) _⟩
end Go.Proofs.YtgfamdakjcjdkaaDoor.above
