/- store's compare of rows: what it answers, and just which world it leaves (slices.SortFunc asks it). -/
import Derived.Test.YtgfamdakjcjdkaaDoorAwakeS
import Derived.Shelf.SlSortCmp.NoneTotal
namespace Go.Proofs.YtgfamdakjcjdkaaDoor.store
open Go Go.RowKit Go.Proofs.YtgfamdakjcjdkaaDoor.base Go.Proofs.YtgfamdakjcjdkaaDoor.map_ Go.Proofs.YtgfamdakjcjdkaaDoor.err Go.Proofs.YtgfamdakjcjdkaaDoor.cmp Go.Proofs.YtgfamdakjcjdkaaDoor.above Go.Proofs.YtgfamdakjcjdkaaDoor.law Go.Proofs.YtgfamdakjcjdkaaDoor.merge Go.Proofs.YtgfamdakjcjdkaaDoor.rows Go.Proofs.YtgfamdakjcjdkaaDoor.rowe Go.Maps Go.Proofs.YtgfamdakjcjdkaaDoor.monoj

/-- a row's cells -/
def rcells (x : R) : List Value := [.string x.1.1, .string x.1.2, .int .i64 x.2.t, .int .i64 x.2.r, .string x.2.v, .bool x.2.g, .int .i64 x.2.l]
theorem rlen (x : R) : (rcells x).length = 7 := rfl
theorem rone (x : R) : (rcells x).all (·.oneCell') = true := rfl
def Grown (W w' : World) : Prop := ∃ q os, w' = Go.Sort.grow (W.drewN q) os
theorem Grown.refl (W : World) : Grown W W := ⟨0, #[], by simp [World.drewN]⟩
theorem Grown.alloc {W w' : World} (h : Grown W w') (o : Obj) : Grown W (w'.alloc o) := by
  obtain ⟨q, os, rfl⟩ := h
  exact ⟨q, os ++ #[o], by rw [Go.Sort.alloc_eq_grow, Go.Sort.grow_grow]⟩
theorem Grown.drew {W w' : World} (h : Grown W w') : Grown W w'.drew := by
  obtain ⟨q, os, rfl⟩ := h
  exact ⟨q + 1, os, rfl⟩
set_option maxRecDepth 100000 in
set_option maxHeartbeats 1000000 in
theorem compare_any (x y : R) (w : World) : Calls Tryd.prog 17 #[.agg ⟨rcells x⟩, .agg ⟨rcells y⟩] w fun e w' => e = .returned (.int .i64 (cmpN x.1 y.1)) ∧ Grown w w' := by
  obtain ⟨⟨x1, x2⟩, xc⟩ := x
  obtain ⟨⟨y1, y2⟩, yc⟩ := y
  unfold cmpN rcells
  rw [← firstNZ_two]
  dsimp only
  generalize ha : cmpS x1 y1 = a
  generalize hb : cmpS x2 y2 = b
  generalize hf : firstNZ [a, b] = f
  have Ha := Lib.hid ha
  have Hb := Lib.hid hb
  have Hf := Lib.hid hf
  clear ha hb hf
  go_enter Tryd.func17, Tryd.ntmps17
  go_wp2_with fail
  refine wp_region_mono nobody (by kernel_rfl) ?_
  -- 0 Op.fieldAddr 60 (Operand.tmp 2) 0
  refine wpMono_take' 0 (v := ?_) rfl (by kernel_rfl) (by kernel_rfl) (by kernel_rfl) (fun _ _ _ h => h) (by rfl) ?_ ?_
  rotate_left
  · (intro W hSw; have hcW := hSw.cells; try simp only [World.size_drew, World.cell?_drew] at hcW
     go_simp; first | done | rfl)
  try simp only [Act.put, List.setIfInBounds_toArray, List.set_cons_zero, List.set_cons_succ]
  -- 1 Op.load 9 (Operand.tmp 5)
  refine wpMono_take' 1 (v := ?_) rfl (by kernel_rfl) (by kernel_rfl) (by kernel_rfl) (fun _ _ _ h => h) (by rfl) ?_ ?_
  rotate_left
  · (intro W hSw; have hcW := hSw.cells; try simp only [World.size_drew, World.cell?_drew] at hcW
     go_simp; first | done | rfl)
  try simp only [Act.put, List.setIfInBounds_toArray, List.set_cons_zero, List.set_cons_succ]
  -- 2 Op.fieldAddr 60 (Operand.tmp 3) 0
  refine wpMono_take' 2 (v := ?_) rfl (by kernel_rfl) (by kernel_rfl) (by kernel_rfl) (fun _ _ _ h => h) (by rfl) ?_ ?_
  rotate_left
  · (intro W hSw; have hcW := hSw.cells; try simp only [World.size_drew, World.cell?_drew] at hcW
     go_simp; first | done | rfl)
  try simp only [Act.put, List.setIfInBounds_toArray, List.set_cons_zero, List.set_cons_succ]
  -- 3 Op.load 9 (Operand.tmp 7)
  refine wpMono_take' 3 (v := ?_) rfl (by kernel_rfl) (by kernel_rfl) (by kernel_rfl) (fun _ _ _ h => h) (by rfl) ?_ ?_
  rotate_left
  · (intro W hSw; have hcW := hSw.cells; try simp only [World.size_drew, World.cell?_drew] at hcW
     go_simp; first | done | rfl)
  try simp only [Act.put, List.setIfInBounds_toArray, List.set_cons_zero, List.set_cons_succ]
  -- 5 Op.fieldAddr 60 (Operand.tmp 2) 1
  refine wpMono_take' 5 (v := ?_) rfl (by kernel_rfl) (by kernel_rfl) (by kernel_rfl) (fun _ _ _ h => h) (by rfl) ?_ ?_
  rotate_left
  · (intro W hSw; have hcW := hSw.cells; try simp only [World.size_drew, World.cell?_drew] at hcW
     go_simp; first | done | rfl)
  try simp only [Act.put, List.setIfInBounds_toArray, List.set_cons_zero, List.set_cons_succ]
  -- 6 Op.load 9 (Operand.tmp 10)
  refine wpMono_take' 6 (v := ?_) rfl (by kernel_rfl) (by kernel_rfl) (by kernel_rfl) (fun _ _ _ h => h) (by rfl) ?_ ?_
  rotate_left
  · (intro W hSw; have hcW := hSw.cells; try simp only [World.size_drew, World.cell?_drew] at hcW
     go_simp; first | done | rfl)
  try simp only [Act.put, List.setIfInBounds_toArray, List.set_cons_zero, List.set_cons_succ]
  -- 7 Op.fieldAddr 60 (Operand.tmp 3) 1
  refine wpMono_take' 7 (v := ?_) rfl (by kernel_rfl) (by kernel_rfl) (by kernel_rfl) (fun _ _ _ h => h) (by rfl) ?_ ?_
  rotate_left
  · (intro W hSw; have hcW := hSw.cells; try simp only [World.size_drew, World.cell?_drew] at hcW
     go_simp; first | done | rfl)
  try simp only [Act.put, List.setIfInBounds_toArray, List.set_cons_zero, List.set_cons_succ]
  -- 8 Op.load 9 (Operand.tmp 12)
  refine wpMono_take' 8 (v := ?_) rfl (by kernel_rfl) (by kernel_rfl) (by kernel_rfl) (fun _ _ _ h => h) (by rfl) ?_ ?_
  rotate_left
  · (intro W hSw; have hcW := hSw.cells; try simp only [World.size_drew, World.cell?_drew] at hcW
     go_simp; first | done | rfl)
  try simp only [Act.put, List.setIfInBounds_toArray, List.set_cons_zero, List.set_cons_succ]
  -- EFFECT 4 Op.call { callee := Callee.value (Operand.func 42), args := #[Operand.tmp 6, Operand.tmp 8], argTypes := #[9, 9] }
  refine wpMono_one' 4 (by kernel_rfl) rfl (by rfl) (fun K hK => ?_)
  go_simp
  refine (compare_string x1 y1 _).mono ?_
  rintro e w1 ⟨rfl, rfl⟩
  rw [Ha.out]
  refine hK.out _ _ ?_ ?_
  · exact .refl _ _
  clear hK K
  try simp only [Act.put, List.setIfInBounds_toArray, List.set_cons_zero, List.set_cons_succ]
  -- EFFECT 9 Op.call { callee := Callee.value (Operand.func 42), args := #[Operand.tmp 11, Operand.tmp 13], argTypes := #[9, 9] }
  refine wpMono_one' 9 (by kernel_rfl) rfl (by rfl) (fun K hK => ?_)
  go_simp
  refine (compare_string x2 y2 _).mono ?_
  rintro e w1 ⟨rfl, rfl⟩
  rw [Hb.out]
  refine hK.out _ _ ?_ ?_
  · exact .refl _ _
  clear hK K
  try simp only [Act.put, List.setIfInBounds_toArray, List.set_cons_zero, List.set_cons_succ]
  -- EFFECT 10 Op.buildSlice 25 2 #[(0, Operand.tmp 9), (1, Operand.tmp 14)]
  refine wpMono_one' 10 (by kernel_rfl) rfl (by rfl) (fun K hK => ?_)
  go_simp
  refine hK.out _ _ ?_ ?_
  · exact .alloc _
  clear hK K
  try simp only [Act.put, List.setIfInBounds_toArray, List.set_cons_zero, List.set_cons_succ]
  -- EFFECT 11 Op.call { callee := Callee.value (Operand.func 41), args := #[Operand.tmp 15], argTypes := #[25] }
  refine wpMono_one' 11 (by kernel_rfl) rfl (by rfl) (fun K hK => ?_)
  go_simp
  refine (or_any _ 2 2 [a, b] _ rfl (by decide) (by exact Reads.newAtD _ _ _ _ (by simp) rfl)).mono ?_
  rintro e w1 ⟨rfl, rfl⟩
  rw [Hf.out]
  refine hK.out _ _ ?_ ?_
  · exact .refl _ _
  clear hK K
  try simp only [Act.put, List.setIfInBounds_toArray, List.set_cons_zero, List.set_cons_succ]
  -- 12 Op.assign (Operand.tmp 16)
  refine wpMono_take' 12 (v := ?_) rfl (by kernel_rfl) (by kernel_rfl) (by kernel_rfl) (fun _ _ _ h => h) (by rfl) ?_ ?_
  rotate_left
  · (intro W hSw; have hcW := hSw.cells; try simp only [World.size_drew, World.cell?_drew] at hcW
     go_simp; first | done | rfl)
  try simp only [Act.put, List.setIfInBounds_toArray, List.set_cons_zero, List.set_cons_succ]
  refine wpMono_done (by kernel_rfl) ?_ _
  go_wp2
  go_ret
  exact ⟨rfl, by exact (((Grown.refl w).alloc _).alloc _).alloc _ |>.drew⟩
end Go.Proofs.YtgfamdakjcjdkaaDoor.store
