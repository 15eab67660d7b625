/- The walk of the law RegOf: it returns true; nothing that was there is written. -/
import Derived.Test.YtbknkajlajbifaaAwake
namespace Go.Proofs.Ytbknkajlajbifaa.wRegOf
open Go.RowKit Go.Proofs.Ytbknkajlajbifaa.base Go.Proofs.Ytbknkajlajbifaa.cmp Go.Proofs.Ytbknkajlajbifaa.above Go.Proofs.Ytbknkajlajbifaa.merge Go.Proofs.Ytbknkajlajbifaa.awake

theorem open_write {w : World} {v : Value} (h : Arg Try.prog w 41 v) : ∃ rg nm t r A n c ss ky val g l, v = .agg (wcells rg nm t r A n c ss ky val g l) := by
  obtain ⟨l, rfl, hl, hs⟩ := h.agg (.inl ⟨_, Try.underlying41⟩)
  obtain ⟨_, hf⟩ := hs.struct Try.underlying41
  have e41 : Try.prog.cellsOf 41 = 10 := by kernel_rfl
  have e3 : Try.prog.cellsOf 3 = 1 := by kernel_rfl
  have e4 : Try.prog.cellsOf 4 = 1 := by kernel_rfl
  have e9 : Try.prog.cellsOf 9 = 1 := by kernel_rfl
  have e39 : Try.prog.cellsOf 39 = 1 := by kernel_rfl
  have e26 : Try.prog.cellsOf 26 = 2 := by kernel_rfl
  rw [e41] at hl
  match l, hl with
  | [x0, x1, x2, x3, x4, x5, x6, x7, x8, x9], _ =>
    simp [e3, e4, e9, e39, e26] at hf
    obtain ⟨h0, h1, h2, h3, h4, h5, h6, h7, h8⟩ := hf
    obtain ⟨_, hg⟩ := h2.struct Try.underlying26
    simp [e3] at hg
    obtain ⟨n0, e0, _⟩ := h0.int Try.underlying3
    obtain ⟨n1, e1, _⟩ := h1.int Try.underlying3
    obtain ⟨n2, e2, _⟩ := hg.1.int Try.underlying3
    obtain ⟨n3, e3', _⟩ := hg.2.int Try.underlying3
    obtain ⟨s5, e5, _⟩ := h4.string Try.underlying9
    obtain ⟨s6, e6, _⟩ := h5.string Try.underlying9
    obtain ⟨s7, e7, _⟩ := h6.string Try.underlying9
    obtain ⟨b8, e8⟩ := h7.bool Try.underlying4
    obtain ⟨n9, e9', _⟩ := h8.int Try.underlying3
    have h4' : ∃ A n c, x4 = .slice A n c := by
      rcases h3.slice Try.underlying39 with h | ⟨a, len, cap, h, _⟩
      · exact ⟨none, 0, 0, by simpa using h⟩
      · exact ⟨some a, len, cap, by simpa using h⟩
    obtain ⟨A, n, c, rfl⟩ := h4'
    simp at e0 e1 e2 e3' e5 e6 e7 e8 e9'
    subst e0 e1 e2 e3' e5 e6 e7 e8 e9'
    exact ⟨n0, n1, n2, n3, A, n, c, s5, s6, s7, b8, n9, rfl⟩
set_option maxRecDepth 10000 in
set_option maxHeartbeats 4000000 in
theorem walk (v0 : Value) (w : World) (a0 : Arg Try.prog w 41 v0) :
    Calls Try.prog 6 #[v0] w fun e w' => e = .returned (.bool true) ∧ Below w.heap.size w w' := by
  obtain ⟨rg, nm, t, r, A, n, c, ss, ky, v, g, l, rfl⟩ := open_write a0
  clear a0
  have hm : cval (mg [] 0) = .agg #[.int .i64 0, .int .i64 0, .string ⟨#[]⟩, .bool false, .int .i64 0] := rfl
  have Hm := Lib.hid hm; clear hm
  go_enter Try.func6, Try.ntmps6
  go_wp2_with fail
  refine (awake_any _).mono ?_
  rintro e w1 ⟨rfl, hb1⟩
  have e1 := fun o => hb1.cell (p := ⟨w.heap.size, o, none⟩) (by simp)
  have hz1 := hb1.size; simp at hz1
  have y1 : w.heap.size < w1.heap.size := by omega
  have Hb1 := Lib.hid (((Below.refl _ w).alloc (Nat.le_refl _) _).trans (hb1.mono (by simp)))
  go_wp2_with fail
  refine wp_region_mono nobody (by kernel_rfl) ?_
  -- 0 Op.load 41 (Operand.tmp 1)
  refine wpMono_take' 0 (v := ?_) rfl (by kernel_rfl) (by kernel_rfl) (by kernel_rfl) (fun _ _ _ h => h) (by rfl) ?_ ?_
  rotate_left
  · (intro W hSw; have hcW := hSw.cells; try simp only [World.size_drew, World.cell?_drew] at hcW
     go_simp; first | done | rfl)
  try simp only [Act.put, List.setIfInBounds_toArray, List.set_cons_zero, List.set_cons_succ]
  -- 2 Op.fieldAddr 41 (Operand.tmp 1) 2
  refine wpMono_take' 2 (v := ?_) rfl (by kernel_rfl) (by kernel_rfl) (by kernel_rfl) (fun _ _ _ h => h) (by rfl) ?_ ?_
  rotate_left
  · (intro W hSw; have hcW := hSw.cells; try simp only [World.size_drew, World.cell?_drew] at hcW
     go_simp; first | done | rfl)
  try simp only [Act.put, List.setIfInBounds_toArray, List.set_cons_zero, List.set_cons_succ]
  -- 3 Op.load 26 (Operand.tmp 7)
  refine wpMono_take' 3 (v := ?_) rfl (by kernel_rfl) (by kernel_rfl) (by kernel_rfl) (fun _ _ _ h => h) (by rfl) ?_ ?_
  rotate_left
  · (intro W hSw; have hcW := hSw.cells; try simp only [World.size_drew, World.cell?_drew] at hcW
     go_simp; first | done | rfl)
  try simp only [Act.put, List.setIfInBounds_toArray, List.set_cons_zero, List.set_cons_succ]
  -- 4 Op.fieldAddr 41 (Operand.tmp 1) 6
  refine wpMono_take' 4 (v := ?_) rfl (by kernel_rfl) (by kernel_rfl) (by kernel_rfl) (fun _ _ _ h => h) (by rfl) ?_ ?_
  rotate_left
  · (intro W hSw; have hcW := hSw.cells; try simp only [World.size_drew, World.cell?_drew] at hcW
     go_simp; first | done | rfl)
  try simp only [Act.put, List.setIfInBounds_toArray, List.set_cons_zero, List.set_cons_succ]
  -- 5 Op.load 9 (Operand.tmp 9)
  refine wpMono_take' 5 (v := ?_) rfl (by kernel_rfl) (by kernel_rfl) (by kernel_rfl) (fun _ _ _ h => h) (by rfl) ?_ ?_
  rotate_left
  · (intro W hSw; have hcW := hSw.cells; try simp only [World.size_drew, World.cell?_drew] at hcW
     go_simp; first | done | rfl)
  try simp only [Act.put, List.setIfInBounds_toArray, List.set_cons_zero, List.set_cons_succ]
  -- 6 Op.fieldAddr 41 (Operand.tmp 1) 7
  refine wpMono_take' 6 (v := ?_) rfl (by kernel_rfl) (by kernel_rfl) (by kernel_rfl) (fun _ _ _ h => h) (by rfl) ?_ ?_
  rotate_left
  · (intro W hSw; have hcW := hSw.cells; try simp only [World.size_drew, World.cell?_drew] at hcW
     go_simp; first | done | rfl)
  try simp only [Act.put, List.setIfInBounds_toArray, List.set_cons_zero, List.set_cons_succ]
  -- 7 Op.load 4 (Operand.tmp 11)
  refine wpMono_take' 7 (v := ?_) rfl (by kernel_rfl) (by kernel_rfl) (by kernel_rfl) (fun _ _ _ h => h) (by rfl) ?_ ?_
  rotate_left
  · (intro W hSw; have hcW := hSw.cells; try simp only [World.size_drew, World.cell?_drew] at hcW
     go_simp; first | done | rfl)
  try simp only [Act.put, List.setIfInBounds_toArray, List.set_cons_zero, List.set_cons_succ]
  -- 8 Op.fieldAddr 41 (Operand.tmp 1) 8
  refine wpMono_take' 8 (v := ?_) rfl (by kernel_rfl) (by kernel_rfl) (by kernel_rfl) (fun _ _ _ h => h) (by rfl) ?_ ?_
  rotate_left
  · (intro W hSw; have hcW := hSw.cells; try simp only [World.size_drew, World.cell?_drew] at hcW
     go_simp; first | done | rfl)
  try simp only [Act.put, List.setIfInBounds_toArray, List.set_cons_zero, List.set_cons_succ]
  -- 9 Op.load 3 (Operand.tmp 13)
  refine wpMono_take' 9 (v := ?_) rfl (by kernel_rfl) (by kernel_rfl) (by kernel_rfl) (fun _ _ _ h => h) (by rfl) ?_ ?_
  rotate_left
  · (intro W hSw; have hcW := hSw.cells; try simp only [World.size_drew, World.cell?_drew] at hcW
     go_simp; first | done | rfl)
  try simp only [Act.put, List.setIfInBounds_toArray, List.set_cons_zero, List.set_cons_succ]
  -- 10 Op.build 28 #[(0, Operand.tmp 8), (1, Operand.tmp 10), (2, Operand.tmp 12), (3, Operand.tm
  refine wpMono_take' 10 (v := ?_) rfl (by kernel_rfl) (by kernel_rfl) (by kernel_rfl) (fun _ _ _ h => h) (by rfl) ?_ ?_
  rotate_left
  · (intro W hSw; have hcW := hSw.cells; try simp only [World.size_drew, World.cell?_drew] at hcW
     go_simp; first | done | rfl)
  try simp only [Act.put, List.setIfInBounds_toArray, List.set_cons_zero, List.set_cons_succ]
  -- EFFECT 1 Op.call { callee := Callee.value (Operand.func 15), args := #[Operand.tmp 5], argTypes := #[41] }
  refine wpMono_one' 1 (by kernel_rfl) rfl (by rfl) (fun K hK => ?_)
  go_simp
  refine (of_any rg nm t r A n c ss ky v g l _).mono ?_
  rintro e w2 ⟨rfl, hb2⟩
  have e2 := fun o => hb2.cell (p := ⟨w.heap.size, o, none⟩) (by simp <;> omega)
  have hz2 := hb2.size; simp at hz2
  have y2 : w.heap.size < w2.heap.size := by omega
  have Hb2 := Lib.hid (Hb1.out.drew.trans (hb2.mono (by simp <;> omega)))
  refine hK.out _ _ ?_ ?_
  · exact Keeps.of_below hb2
  clear hK K
  try simp only [Act.put, List.setIfInBounds_toArray, List.set_cons_zero, List.set_cons_succ]
  -- 11 Op.binOp BinOp.eql 28 (Operand.tmp 6) (Operand.tmp 15) 28
  refine wpMono_take' 11 (v := ?_) rfl (by kernel_rfl) (by kernel_rfl) (by kernel_rfl) (fun _ _ _ h => h) (by rfl) ?_ ?_
  rotate_left
  · (intro W hSw; have hcW := hSw.cells; try simp only [World.size_drew, World.cell?_drew] at hcW
     go_simp; first | done | rfl)
  try simp only [Act.put, List.setIfInBounds_toArray, List.set_cons_zero, List.set_cons_succ]
  -- 12 Op.move (Operand.tmp 16)
  refine wpMono_take' 12 (v := ?_) rfl (by kernel_rfl) (by kernel_rfl) (by kernel_rfl) (fun _ _ _ h => h) (by rfl) ?_ ?_
  rotate_left
  · (intro W hSw; have hcW := hSw.cells; try simp only [World.size_drew, World.cell?_drew] at hcW
     go_simp; first | done | rfl)
  try simp only [Act.put, List.setIfInBounds_toArray, List.set_cons_zero, List.set_cons_succ]
  -- 14 Op.build 28 #[]
  refine wpMono_take' 14 (v := ?_) rfl (by kernel_rfl) (by kernel_rfl) (by kernel_rfl) (fun _ _ _ h => h) (by rfl) ?_ ?_
  rotate_left
  · (intro W hSw; have hcW := hSw.cells; try simp only [World.size_drew, World.cell?_drew] at hcW
     go_simp; first | done | rfl)
  try simp only [Act.put, List.setIfInBounds_toArray, List.set_cons_zero, List.set_cons_succ]
  -- EFFECT 13 Op.call { callee := Callee.value (Operand.func 13), args := #[Operand.const (Value.slice none 0 0)], argTypes := #[22] }
  refine wpMono_one' 13 (by kernel_rfl) rfl (by rfl) (fun K hK => ?_)
  go_simp
  refine (merge_any none 0 0 [] _ rfl (by decide) (by exact Reads.none_)).mono ?_
  rintro e w3 ⟨rfl, hb3⟩
  rw [Hm.out]
  have Hb3 := Lib.hid (Hb2.out.trans (hb3.mono (by omega)))
  refine hK.out _ _ ?_ ?_
  · exact Keeps.of_below hb3
  clear hK K
  try simp only [Act.put, List.setIfInBounds_toArray, List.set_cons_zero, List.set_cons_succ]
  -- 15 Op.binOp BinOp.eql 28 (Operand.tmp 18) (Operand.tmp 19) 28
  refine wpMono_take' 15 (v := ?_) rfl (by kernel_rfl) (by kernel_rfl) (by kernel_rfl) (fun _ _ _ h => h) (by rfl) ?_ ?_
  rotate_left
  · (intro W hSw; have hcW := hSw.cells; try simp only [World.size_drew, World.cell?_drew] at hcW
     go_simp; first | done | rfl)
  try simp only [Act.put, List.setIfInBounds_toArray, List.set_cons_zero, List.set_cons_succ]
  -- 16 Op.pick (Operand.tmp 17) (Operand.tmp 20) (Operand.const (Value.bool false))
  refine wpMono_take' 16 (v := ?_) rfl (by kernel_rfl) (by kernel_rfl) (by kernel_rfl) (fun _ _ _ h => h) (by rfl) ?_ ?_
  rotate_left
  · (intro W hSw; have hcW := hSw.cells; try simp only [World.size_drew, World.cell?_drew] at hcW
     go_simp; first | done | rfl)
  try simp only [Act.put, List.setIfInBounds_toArray, List.set_cons_zero, List.set_cons_succ]
  -- 17 Op.assign (Operand.tmp 21)
  refine wpMono_take' 17 (v := ?_) rfl (by kernel_rfl) (by kernel_rfl) (by kernel_rfl) (fun _ _ _ h => h) (by rfl) ?_ ?_
  rotate_left
  · (intro W hSw; have hcW := hSw.cells; try simp only [World.size_drew, World.cell?_drew] at hcW
     go_simp; first | done | rfl)
  try simp only [Act.put, List.setIfInBounds_toArray, List.set_cons_zero, List.set_cons_succ]
  refine wpMono_done (by kernel_rfl) ?_ _
  go_wp2
  go_ret
  exact ⟨rfl, Hb3.out⟩
end Go.Proofs.Ytbknkajlajbifaa.wRegOf
