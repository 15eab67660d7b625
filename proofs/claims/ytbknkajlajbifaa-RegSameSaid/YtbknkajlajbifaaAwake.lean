/- The walks of the law's own awake and of reg.Of: what each returns; nothing that was there is written. -/
import Derived.Test.YtbknkajlajbifaaMerge
namespace Go.Proofs.Ytbknkajlajbifaa.awake
open Go.RowKit Go.Proofs.Ytbknkajlajbifaa.base Go.Proofs.Ytbknkajlajbifaa.cmp Go.Proofs.Ytbknkajlajbifaa.above Go.Proofs.Ytbknkajlajbifaa.merge

set_option maxRecDepth 10000 in
set_option maxHeartbeats 4000000 in
theorem awake_any (w : World) : Calls Try.prog 7 #[] w fun e w' => e = .returned (.bool true) ∧ Below w.heap.size w w' := by
  have hm1 : cval (mg [⟨3, 1, ⟨#[120]⟩, false, 0⟩, ⟨3, 2, ⟨#[]⟩, true, 0⟩] 2) = .agg #[.int .i64 3, .int .i64 2, .string ⟨#[]⟩, .bool true, .int .i64 0] := by kernel_rfl
  have hm2 : cval (mg [⟨3, 1, ⟨#[120]⟩, false, 0⟩, ⟨2, 2, ⟨#[]⟩, true, 0⟩] 2) = .agg #[.int .i64 3, .int .i64 1, .string ⟨#[120]⟩, .bool false, .int .i64 0] := by kernel_rfl
  have Hm1 := Lib.hid hm1; clear hm1
  have Hm2 := Lib.hid hm2; clear hm2
  go_enter Try.func7, Try.ntmps7
  go_wp2_with fail
  refine wp_region_mono nobody (by kernel_rfl) ?_
  -- 0 Op.load 28 (Operand.tmp 1)
  refine wpMono_take' 0 (v := ?_) rfl (by kernel_rfl) (by kernel_rfl) (by kernel_rfl) (fun _ _ _ h => h) (by rfl) ?_ ?_
  rotate_left
  · (intro W hSw; have hcW := hSw.cells; go_simp; first | done | rfl)
  try simp only [Act.put, List.setIfInBounds_toArray, List.set_cons_zero, List.set_cons_succ]
  -- 1 Op.load 28 (Operand.tmp 2)
  refine wpMono_take' 1 (v := ?_) rfl (by kernel_rfl) (by kernel_rfl) (by kernel_rfl) (fun _ _ _ h => h) (by rfl) ?_ ?_
  rotate_left
  · (intro W hSw; have hcW := hSw.cells; go_simp; first | done | rfl)
  try simp only [Act.put, List.setIfInBounds_toArray, List.set_cons_zero, List.set_cons_succ]
  -- 4 Op.load 28 (Operand.tmp 2)
  refine wpMono_take' 4 (v := ?_) rfl (by kernel_rfl) (by kernel_rfl) (by kernel_rfl) (fun _ _ _ h => h) (by rfl) ?_ ?_
  rotate_left
  · (intro W hSw; have hcW := hSw.cells; go_simp; first | done | rfl)
  try simp only [Act.put, List.setIfInBounds_toArray, List.set_cons_zero, List.set_cons_succ]
  -- EFFECT 2 Op.buildSlice 22 2 #[(0, Operand.tmp 10), (1, Operand.tmp 11)]
  refine wpMono_one' 2 (by kernel_rfl) rfl (by rfl) (fun K hK => ?_)
  go_simp
  refine hK.out _ _ ?_ ?_
  · exact Keeps.alloc _
  clear hK K
  try simp only [Act.put, List.setIfInBounds_toArray, List.set_cons_zero, List.set_cons_succ]
  -- EFFECT 3 Op.call { callee := Callee.value (Operand.func 13), args := #[Operand.tmp 12], argTypes := #[22] }
  refine wpMono_one' 3 (by kernel_rfl) rfl (by rfl) (fun K hK => ?_)
  go_simp
  refine (merge_any _ 2 2 [⟨3, 1, ⟨#[120]⟩, false, 0⟩, ⟨3, 2, ⟨#[]⟩, true, 0⟩] _ rfl (by decide) (by exact Reads.newAtD _ _ _ _ (by simp) rfl)).mono ?_
  rintro e w1 ⟨rfl, hb1⟩
  rw [Hm1.out]
  have e1 := fun o => hb1.cell (p := ⟨w.heap.size, o, none⟩) (by simp <;> omega)
  have e2 := fun o => hb1.cell (p := ⟨w.heap.size + 1, o, none⟩) (by simp <;> omega)
  have e3 := fun o => hb1.cell (p := ⟨w.heap.size + 1 + 1, o, none⟩) (by simp <;> omega)
  have hz1 := hb1.size; simp at hz1
  have z1 : w.heap.size < w1.heap.size := by omega
  have z2 : w.heap.size + 1 < w1.heap.size := by omega
  have z3 : w.heap.size + 1 + 1 < w1.heap.size := by omega
  have Hb1 := Lib.hid (((((((Below.refl _ w).alloc (Nat.le_refl _) _).alloc (by simp) _).alloc (by simp <;> omega) _).alloc (by simp <;> omega) _).drew).trans (hb1.mono (by simp <;> omega)))
  refine hK.out _ _ ?_ ?_
  · exact Keeps.of_below hb1
  clear hK K
  try simp only [Act.put, List.setIfInBounds_toArray, List.set_cons_zero, List.set_cons_succ]
  -- 5 Op.binOp BinOp.eql 28 (Operand.tmp 13) (Operand.tmp 14) 28
  refine wpMono_take' 5 (v := ?_) rfl (by kernel_rfl) (by kernel_rfl) (by kernel_rfl) (fun _ _ _ h => h) (by rfl) ?_ ?_
  rotate_left
  · (intro W hSw; have hcW := hSw.cells; go_simp; first | done | rfl)
  try simp only [Act.put, List.setIfInBounds_toArray, List.set_cons_zero, List.set_cons_succ]
  -- 6 Op.move (Operand.tmp 15)
  refine wpMono_take' 6 (v := ?_) rfl (by kernel_rfl) (by kernel_rfl) (by kernel_rfl) (fun _ _ _ h => h) (by rfl) ?_ ?_
  rotate_left
  · (intro W hSw; have hcW := hSw.cells; go_simp; first | done | rfl)
  try simp only [Act.put, List.setIfInBounds_toArray, List.set_cons_zero, List.set_cons_succ]
  -- 7 Op.load 28 (Operand.tmp 1)
  refine wpMono_take' 7 (v := ?_) rfl (by kernel_rfl) (by kernel_rfl) (by kernel_rfl) (fun _ _ _ h => h) (by rfl) ?_ ?_
  rotate_left
  · (intro W hSw; have hcW := hSw.cells; go_simp; first | done | rfl)
  try simp only [Act.put, List.setIfInBounds_toArray, List.set_cons_zero, List.set_cons_succ]
  -- 8 Op.load 28 (Operand.tmp 3)
  refine wpMono_take' 8 (v := ?_) rfl (by kernel_rfl) (by kernel_rfl) (by kernel_rfl) (fun _ _ _ h => h) (by rfl) ?_ ?_
  rotate_left
  · (intro W hSw; have hcW := hSw.cells; go_simp; first | done | rfl)
  try simp only [Act.put, List.setIfInBounds_toArray, List.set_cons_zero, List.set_cons_succ]
  -- 11 Op.load 28 (Operand.tmp 1)
  refine wpMono_take' 11 (v := ?_) rfl (by kernel_rfl) (by kernel_rfl) (by kernel_rfl) (fun _ _ _ h => h) (by rfl) ?_ ?_
  rotate_left
  · (intro W hSw; have hcW := hSw.cells; go_simp; first | done | rfl)
  try simp only [Act.put, List.setIfInBounds_toArray, List.set_cons_zero, List.set_cons_succ]
  -- EFFECT 9 Op.buildSlice 22 2 #[(0, Operand.tmp 17), (1, Operand.tmp 18)]
  refine wpMono_one' 9 (by kernel_rfl) rfl (by rfl) (fun K hK => ?_)
  go_simp
  refine hK.out _ _ ?_ ?_
  · exact Keeps.alloc _
  clear hK K
  try simp only [Act.put, List.setIfInBounds_toArray, List.set_cons_zero, List.set_cons_succ]
  -- EFFECT 10 Op.call { callee := Callee.value (Operand.func 13), args := #[Operand.tmp 19], argTypes := #[22] }
  refine wpMono_one' 10 (by kernel_rfl) rfl (by rfl) (fun K hK => ?_)
  go_simp
  refine (merge_any _ 2 2 [⟨3, 1, ⟨#[120]⟩, false, 0⟩, ⟨2, 2, ⟨#[]⟩, true, 0⟩] _ rfl (by decide) (by exact Reads.newAt _ _ _ _ rfl rfl)).mono ?_
  rintro e w2 ⟨rfl, hb2⟩
  rw [Hm2.out]
  have g1 := fun o => hb2.cell (p := ⟨w.heap.size, o, none⟩) (by simp <;> omega)
  have g2 := fun o => hb2.cell (p := ⟨w.heap.size + 1, o, none⟩) (by simp <;> omega)
  have hz2 := hb2.size; simp at hz2
  have y1 : w.heap.size < w2.heap.size := by omega
  have y2 : w.heap.size + 1 < w2.heap.size := by omega
  have Hb2 := Lib.hid ((Hb1.out.alloc (by omega) _).trans (hb2.mono (by simp <;> omega)))
  refine hK.out _ _ ?_ ?_
  · exact Keeps.of_below hb2
  clear hK K
  try simp only [Act.put, List.setIfInBounds_toArray, List.set_cons_zero, List.set_cons_succ]
  -- 12 Op.binOp BinOp.eql 28 (Operand.tmp 20) (Operand.tmp 21) 28
  refine wpMono_take' 12 (v := ?_) rfl (by kernel_rfl) (by kernel_rfl) (by kernel_rfl) (fun _ _ _ h => h) (by rfl) ?_ ?_
  rotate_left
  · (intro W hSw; have hcW := hSw.cells; go_simp; first | done | rfl)
  try simp only [Act.put, List.setIfInBounds_toArray, List.set_cons_zero, List.set_cons_succ]
  -- 13 Op.pick (Operand.tmp 16) (Operand.tmp 22) (Operand.const (Value.bool false))
  refine wpMono_take' 13 (v := ?_) rfl (by kernel_rfl) (by kernel_rfl) (by kernel_rfl) (fun _ _ _ h => h) (by rfl) ?_ ?_
  rotate_left
  · (intro W hSw; have hcW := hSw.cells; go_simp; first | done | rfl)
  try simp only [Act.put, List.setIfInBounds_toArray, List.set_cons_zero, List.set_cons_succ]
  -- 14 Op.move (Operand.tmp 23)
  refine wpMono_take' 14 (v := ?_) rfl (by kernel_rfl) (by kernel_rfl) (by kernel_rfl) (fun _ _ _ h => h) (by rfl) ?_ ?_
  rotate_left
  · (intro W hSw; have hcW := hSw.cells; go_simp; first | done | rfl)
  try simp only [Act.put, List.setIfInBounds_toArray, List.set_cons_zero, List.set_cons_succ]
  -- 15 Op.load 28 (Operand.tmp 1)
  refine wpMono_take' 15 (v := ?_) rfl (by kernel_rfl) (by kernel_rfl) (by kernel_rfl) (fun _ _ _ h => h) (by rfl) ?_ ?_
  rotate_left
  · (intro W hSw; have hcW := hSw.cells; go_simp; first | done | rfl)
  try simp only [Act.put, List.setIfInBounds_toArray, List.set_cons_zero, List.set_cons_succ]
  -- EFFECT 16 Op.call { callee := Callee.value (Operand.func 9), args := #[Operand.tmp 25], argTypes := #[28] }
  refine wpMono_one' 16 (by kernel_rfl) rfl (by rfl) (fun K hK => ?_)
  go_simp
  refine (visible_any 3 1 ⟨#[120]⟩ false 0 _).mono ?_
  rintro e w3 ⟨rfl, hb3⟩
  have i2 := fun o => hb3.cell (p := ⟨w.heap.size + 1, o, none⟩) (by simp <;> omega)
  have hz3 := hb3.size
  have x2 : w.heap.size + 1 < w3.heap.size := by omega
  have Hb3 := Lib.hid (Hb2.out.trans (hb3.mono (by omega)))
  refine hK.out _ _ ?_ ?_
  · exact Keeps.of_below hb3
  clear hK K
  try simp only [Act.put, List.setIfInBounds_toArray, List.set_cons_zero, List.set_cons_succ]
  -- 17 Op.pick (Operand.tmp 24) (Operand.tmp 26) (Operand.const (Value.bool false))
  refine wpMono_take' 17 (v := ?_) rfl (by kernel_rfl) (by kernel_rfl) (by kernel_rfl) (fun _ _ _ h => h) (by rfl) ?_ ?_
  rotate_left
  · (intro W hSw; have hcW := hSw.cells; go_simp; first | done | rfl)
  try simp only [Act.put, List.setIfInBounds_toArray, List.set_cons_zero, List.set_cons_succ]
  -- 18 Op.move (Operand.tmp 27)
  refine wpMono_take' 18 (v := ?_) rfl (by kernel_rfl) (by kernel_rfl) (by kernel_rfl) (fun _ _ _ h => h) (by rfl) ?_ ?_
  rotate_left
  · (intro W hSw; have hcW := hSw.cells; go_simp; first | done | rfl)
  try simp only [Act.put, List.setIfInBounds_toArray, List.set_cons_zero, List.set_cons_succ]
  -- 19 Op.load 28 (Operand.tmp 2)
  refine wpMono_take' 19 (v := ?_) rfl (by kernel_rfl) (by kernel_rfl) (by kernel_rfl) (fun _ _ _ h => h) (by rfl) ?_ ?_
  rotate_left
  · (intro W hSw; have hcW := hSw.cells; go_simp; first | done | rfl)
  try simp only [Act.put, List.setIfInBounds_toArray, List.set_cons_zero, List.set_cons_succ]
  -- EFFECT 20 Op.call { callee := Callee.value (Operand.func 9), args := #[Operand.tmp 29], argTypes := #[28] }
  refine wpMono_one' 20 (by kernel_rfl) rfl (by rfl) (fun K hK => ?_)
  go_simp
  refine (visible_any 3 2 ⟨#[]⟩ true 0 _).mono ?_
  rintro e w4 ⟨rfl, hb4⟩
  have Hb4 := Lib.hid (Hb3.out.trans (hb4.mono (by omega)))
  refine hK.out _ _ ?_ ?_
  · exact Keeps.of_below hb4
  clear hK K
  try simp only [Act.put, List.setIfInBounds_toArray, List.set_cons_zero, List.set_cons_succ]
  -- 21 Op.unOp UnOp.not 4 (Operand.tmp 30)
  refine wpMono_take' 21 (v := ?_) rfl (by kernel_rfl) (by kernel_rfl) (by kernel_rfl) (fun _ _ _ h => h) (by rfl) ?_ ?_
  rotate_left
  · (intro W hSw; have hcW := hSw.cells; go_simp; first | done | rfl)
  try simp only [Act.put, List.setIfInBounds_toArray, List.set_cons_zero, List.set_cons_succ]
  -- 22 Op.pick (Operand.tmp 28) (Operand.tmp 31) (Operand.const (Value.bool false))
  refine wpMono_take' 22 (v := ?_) rfl (by kernel_rfl) (by kernel_rfl) (by kernel_rfl) (fun _ _ _ h => h) (by rfl) ?_ ?_
  rotate_left
  · (intro W hSw; have hcW := hSw.cells; go_simp; first | done | rfl)
  try simp only [Act.put, List.setIfInBounds_toArray, List.set_cons_zero, List.set_cons_succ]
  -- 23 Op.assign (Operand.tmp 32)
  refine wpMono_take' 23 (v := ?_) rfl (by kernel_rfl) (by kernel_rfl) (by kernel_rfl) (fun _ _ _ h => h) (by rfl) ?_ ?_
  rotate_left
  · (intro W hSw; have hcW := hSw.cells; go_simp; first | done | rfl)
  try simp only [Act.put, List.setIfInBounds_toArray, List.set_cons_zero]
  refine wpMono_done (by kernel_rfl) ?_ _
  go_wp2
  go_ret
  exact ⟨rfl, Hb4.out⟩

/-- a write's cells -/
abbrev wcells (rg nm t r : Int) (A : Option Addr) (n c : Nat) (ss ky v : ByteArray) (g : Bool) (l : Int) : Array Value :=
  #[.int .i64 rg, .int .i64 nm, .int .i64 t, .int .i64 r, .slice A n c, .string ss, .string ky, .string v, .bool g, .int .i64 l]
set_option maxHeartbeats 1000000 in
theorem of_any (rg nm t r : Int) (A : Option Addr) (n c : Nat) (ss ky v : ByteArray) (g : Bool) (l : Int) (w : World) :
    Calls Try.prog 15 #[.agg (wcells rg nm t r A n c ss ky v g l)] w fun e w' => e = .returned (.agg #[.int .i64 t, .int .i64 r, .string v, .bool g, .int .i64 l]) ∧ Below w.heap.size w w' := by
  go_enter Try.func15, Try.ntmps15
  go_wp2
  exact bodyPost_ret (v := .agg #[.int .i64 t, .int .i64 r, .string v, .bool g, .int .i64 l]) (by simp [results, Try.results15, go_sem]) rfl ⟨rfl, below_one w _ _⟩
end Go.Proofs.Ytbknkajlajbifaa.awake
