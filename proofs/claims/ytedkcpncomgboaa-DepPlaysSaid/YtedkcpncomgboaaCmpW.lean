/- The walks of package cmp's Compare, Or over ints, and of dep's compare: how two writes stand, by region, then number. -/
import Derived.Test.YtedkcpncomgboaaWrs
import Derived.WalkLawsBesides
namespace Go.Proofs.Ytedkcpncomgboaa.cmp
open Go.RowKit Go.Proofs.Ytedkcpncomgboaa.base Go.Proofs.Ytedkcpncomgboaa.wire

def cmpI (a b : Int) : Int := if a < b then -1 else if b < a then 1 else 0
def or2 (a b : Int) : Int := if a = 0 then b else a
theorem isNaN_int (a : Int) (w : World) : Calls Try.prog 71 #[.int .i64 a] w fun e w' => e = .returned (.bool false) ∧ w = w' := by
  go_enter Try.func71, Try.ntmps71
  go_wp2
  go_ret
  exact ⟨ret_bool (by simp), rfl⟩
theorem compare_int (a b : Int) (w : World) : Calls Try.prog 60 #[.int .i64 a, .int .i64 b] w fun e w' => e = .returned (.int .i64 (cmpI a b)) ∧ w = w' := by
  unfold cmpI
  rcases (by omega : a < b ∨ b < a ∨ a = b) with h | h | h
  · go_enter Try.func60, Try.ntmps60
    go_wp2_with (first | (go_at_call 71; refine (isNaN_int _ _).mono ?_; rintro e w' ⟨rfl, rfl⟩))
    go_ret
    exact ⟨ret_int (by simp), rfl⟩
  · have h' : ¬ a < b := by omega
    go_enter Try.func60, Try.ntmps60
    go_wp2_with (first | (go_at_call 71; refine (isNaN_int _ _).mono ?_; rintro e w' ⟨rfl, rfl⟩))
    go_ret
    exact ⟨ret_int (by simp), rfl⟩
  · subst h
    go_enter Try.func60, Try.ntmps60
    go_wp2_with (first | (go_at_call 71; refine (isNaN_int _ _).mono ?_; rintro e w' ⟨rfl, rfl⟩))
    go_ret
    exact ⟨ret_int (by simp), rfl⟩
def firstNZ : List Int → Int
  | [] => 0
  | z :: r => if z = 0 then firstNZ r else z
theorem firstNZ_two (a b : Int) : firstNZ [a, b] = or2 a b := by
  unfold or2 firstNZ; by_cases h : a = 0
  · simp only [h, if_true]; unfold firstNZ; by_cases h2 : b = 0
    · simp [h2, firstNZ]
    · simp [h2]
  · simp [h]
theorem firstNZ_drop (zs : List Int) (n : Nat) (h : n < zs.length) : firstNZ (zs.drop n) = if zs.getD n 0 = 0 then firstNZ (zs.drop (n + 1)) else zs.getD n 0 := by
  rw [List.drop_eq_getElem_cons h, List.getD_eq_getElem?_getD, List.getElem?_eq_getElem h]; rfl
set_option maxHeartbeats 400000 in
theorem or_any (A : Option Addr) (len cap : Nat) (zs : List Int) (w : World) (hl : zs.length = len) (hm : len ≤ 1000000) (hr : Reads w w.heap.size 1 A len (zs.map (Value.int .i64))) :
    Calls Try.prog 59 #[.slice A len cap] w fun e w' => e = .returned (.int .i64 (firstNZ zs)) ∧ w = w' := by
  have Hl := Lib.hid hl; clear hl
  have Hr := Lib.hid hr; clear hr
  go_enter Try.func59, Try.ntmps59
  go_wp2
  go_loop [5, 8] (fun _ k => ∃ n : Nat, n ≤ len ∧ k = .int .i64 n ∧ firstNZ zs = firstNZ (zs.drop n)) (fun _ k => len - (intOf k).toNat)
  case atStart => exact ⟨0, by omega, rfl, rfl⟩
  case round =>
    obtain ⟨n, hn, rfl, hf⟩ := hrel
    by_cases hlt : n < len
    · obtain ⟨b, off, rfl, hb, hc⟩ := Hr.out.2 (by omega)
      have hnl : n < zs.length := by rw [Hl.out]; exact hlt
      have hcell : w.cell? ⟨b, off + n, none⟩ = some (.int .i64 (zs.getD n 0)) := Reads.int_at hc hnl
      have hd := firstNZ_drop zs n hnl
      rw [hd] at hf
      clear hc hd
      generalize zs.getD n 0 = z at hcell hf
      by_cases hz : z = 0
      · subst hz
        rw [if_pos rfl] at hf
        have Hf := Lib.hid hf; clear hf
        go_wp2
        go_round
        case rel => exact ⟨n + 1, by omega, by go_num, Hf.out⟩
        case measure => simp [intOf]; omega
      · rw [if_neg hz] at hf
        have Hf := Lib.hid hf; clear hf
        have hz' : (z != 0) = true := by simpa using hz
        go_wp2
        go_ret
        exact ⟨ret_int Hf.out.symm, rfl⟩
    · have hnl : n = len := by omega
      rw [List.drop_eq_nil_of_le (by rw [Hl.out]; omega)] at hf
      have Hf := Lib.hid hf; clear hf hnl
      go_wp2
      go_ret
      exact ⟨ret_int Hf.out.symm, rfl⟩

def cmpW (x y : Wr) : Int := or2 (cmpI x.r y.r) (cmpI x.n y.n)
set_option maxRecDepth 100000 in
set_option maxHeartbeats 1600000 in
theorem compare_w (x y : Wr) (w : World) : Calls Try.prog 35 #[.agg ⟨x.cells⟩, .agg ⟨y.cells⟩] w fun e w' => e = .returned (.int .i64 (cmpW x y)) ∧ Below w.heap.size w w' := by
  obtain ⟨r, n, t, s, d, zs, se, k, v, g, l⟩ := x
  obtain ⟨r2, n2, t2, s2, d2, zs2, se2, k2, v2, g2, l2⟩ := y
  unfold cmpW Wr.cells
  dsimp only
  go_enter Try.func35, Try.ntmps35
  go_wp2_with fail
  refine wp_region_mono nobody (by kernel_rfl) ?_
  -- 0 Op.fieldAddr 35 (Operand.tmp 2) 0
  refine wpMono_take' 0 (v := ?_) rfl (by kernel_rfl) (by kernel_rfl) (by kernel_rfl) (fun _ _ _ h => h) (by rfl) ?_ ?_
  rotate_left
  · (intro W hSw; have hcW := hSw.cells; try simp only [World.size_drew, World.cell?_drew] at hcW
     go_simp; first | done | rfl)
  try simp only [Act.put, List.setIfInBounds_toArray, List.set_cons_zero, List.set_cons_succ]
  -- 1 Op.load 3 (Operand.tmp 5)
  refine wpMono_take' 1 (v := ?_) rfl (by kernel_rfl) (by kernel_rfl) (by kernel_rfl) (fun _ _ _ h => h) (by rfl) ?_ ?_
  rotate_left
  · (intro W hSw; have hcW := hSw.cells; try simp only [World.size_drew, World.cell?_drew] at hcW
     go_simp; first | done | rfl)
  try simp only [Act.put, List.setIfInBounds_toArray, List.set_cons_zero, List.set_cons_succ]
  -- 2 Op.fieldAddr 35 (Operand.tmp 3) 0
  refine wpMono_take' 2 (v := ?_) rfl (by kernel_rfl) (by kernel_rfl) (by kernel_rfl) (fun _ _ _ h => h) (by rfl) ?_ ?_
  rotate_left
  · (intro W hSw; have hcW := hSw.cells; try simp only [World.size_drew, World.cell?_drew] at hcW
     go_simp; first | done | rfl)
  try simp only [Act.put, List.setIfInBounds_toArray, List.set_cons_zero, List.set_cons_succ]
  -- 3 Op.load 3 (Operand.tmp 7)
  refine wpMono_take' 3 (v := ?_) rfl (by kernel_rfl) (by kernel_rfl) (by kernel_rfl) (fun _ _ _ h => h) (by rfl) ?_ ?_
  rotate_left
  · (intro W hSw; have hcW := hSw.cells; try simp only [World.size_drew, World.cell?_drew] at hcW
     go_simp; first | done | rfl)
  try simp only [Act.put, List.setIfInBounds_toArray, List.set_cons_zero, List.set_cons_succ]
  -- 5 Op.fieldAddr 35 (Operand.tmp 2) 1
  refine wpMono_take' 5 (v := ?_) rfl (by kernel_rfl) (by kernel_rfl) (by kernel_rfl) (fun _ _ _ h => h) (by rfl) ?_ ?_
  rotate_left
  · (intro W hSw; have hcW := hSw.cells; try simp only [World.size_drew, World.cell?_drew] at hcW
     go_simp; first | done | rfl)
  try simp only [Act.put, List.setIfInBounds_toArray, List.set_cons_zero, List.set_cons_succ]
  -- 6 Op.load 3 (Operand.tmp 10)
  refine wpMono_take' 6 (v := ?_) rfl (by kernel_rfl) (by kernel_rfl) (by kernel_rfl) (fun _ _ _ h => h) (by rfl) ?_ ?_
  rotate_left
  · (intro W hSw; have hcW := hSw.cells; try simp only [World.size_drew, World.cell?_drew] at hcW
     go_simp; first | done | rfl)
  try simp only [Act.put, List.setIfInBounds_toArray, List.set_cons_zero, List.set_cons_succ]
  -- 7 Op.fieldAddr 35 (Operand.tmp 3) 1
  refine wpMono_take' 7 (v := ?_) rfl (by kernel_rfl) (by kernel_rfl) (by kernel_rfl) (fun _ _ _ h => h) (by rfl) ?_ ?_
  rotate_left
  · (intro W hSw; have hcW := hSw.cells; try simp only [World.size_drew, World.cell?_drew] at hcW
     go_simp; first | done | rfl)
  try simp only [Act.put, List.setIfInBounds_toArray, List.set_cons_zero, List.set_cons_succ]
  -- 8 Op.load 3 (Operand.tmp 12)
  refine wpMono_take' 8 (v := ?_) rfl (by kernel_rfl) (by kernel_rfl) (by kernel_rfl) (fun _ _ _ h => h) (by rfl) ?_ ?_
  rotate_left
  · (intro W hSw; have hcW := hSw.cells; try simp only [World.size_drew, World.cell?_drew] at hcW
     go_simp; first | done | rfl)
  try simp only [Act.put, List.setIfInBounds_toArray, List.set_cons_zero, List.set_cons_succ]
  -- EFFECT 4 Op.call { callee := Callee.value (Operand.func 60), args := #[Operand.tmp 6, Operand.tmp 8], argTypes := #[3, 3] }
  refine wpMono_one' 4 (by kernel_rfl) rfl (by rfl) (fun K hK => ?_)
  go_simp
  refine (compare_int _ _ _).mono ?_
  rintro e w1 ⟨rfl, rfl⟩
  refine hK.out _ _ ?_ ?_
  · exact Keeps.refl _ _
  clear hK K
  try simp only [Act.put, List.setIfInBounds_toArray, List.set_cons_zero, List.set_cons_succ]
  -- EFFECT 9 Op.call { callee := Callee.value (Operand.func 60), args := #[Operand.tmp 11, Operand.tmp 13], argTypes := #[3, 3] }
  refine wpMono_one' 9 (by kernel_rfl) rfl (by rfl) (fun K hK => ?_)
  go_simp
  refine (compare_int _ _ _).mono ?_
  rintro e w1 ⟨rfl, rfl⟩
  refine hK.out _ _ ?_ ?_
  · exact Keeps.refl _ _
  clear hK K
  try simp only [Act.put, List.setIfInBounds_toArray, List.set_cons_zero, List.set_cons_succ]
  -- EFFECT 10 Op.buildSlice 26 2 #[(0, Operand.tmp 9), (1, Operand.tmp 14)]
  refine wpMono_one' 10 (by kernel_rfl) rfl (by rfl) (fun K hK => ?_)
  go_simp
  refine hK.out _ _ ?_ ?_
  · exact Keeps.alloc _
  clear hK K
  try simp only [Act.put, List.setIfInBounds_toArray, List.set_cons_zero, List.set_cons_succ]
  -- EFFECT 11 Op.call { callee := Callee.value (Operand.func 59), args := #[Operand.tmp 15], argTypes := #[26] }
  refine wpMono_one' 11 (by kernel_rfl) rfl (by rfl) (fun K hK => ?_)
  go_simp
  refine (or_any _ 2 2 [cmpI r r2, cmpI n n2] _ rfl (by omega) (by exact Reads.newAtD _ _ _ _ (by simp) rfl)).mono ?_
  rintro e w1 ⟨rfl, rfl⟩
  refine hK.out _ _ ?_ ?_
  · exact Keeps.refl _ _
  clear hK K
  try simp only [Act.put, List.setIfInBounds_toArray, List.set_cons_zero, List.set_cons_succ]
  -- 12 Op.assign (Operand.tmp 16)
  refine wpMono_take' 12 (v := ?_) rfl (by kernel_rfl) (by kernel_rfl) (by kernel_rfl) (fun _ _ _ h => h) (by rfl) ?_ ?_
  rotate_left
  · (intro W hSw; have hcW := hSw.cells; try simp only [World.size_drew, World.cell?_drew] at hcW
     go_simp; first | done | rfl)
  try simp only [Act.put, List.setIfInBounds_toArray, List.set_cons_zero, List.set_cons_succ]
  refine wpMono_done (by kernel_rfl) ?_ _
  go_wp2
  go_ret
  refine ⟨ret_int (firstNZ_two _ _), ?_⟩
  exact (((((Below.refl _ _).alloc (Nat.le_refl _) _).alloc (by simp) _)).alloc (by simp; omega) _).drew
end Go.Proofs.Ytedkcpncomgboaa.cmp
