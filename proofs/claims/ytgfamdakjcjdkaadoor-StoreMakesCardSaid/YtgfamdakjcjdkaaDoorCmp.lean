/- The walks of package cmp's Compare, Or and of the comparisons of stamps: what each returns; nothing that was there is written. -/
import Derived.Test.YtgfamdakjcjdkaaDoorRows
import Derived.Test.YtgfamdakjcjdkaaDoorBase
import Derived.WalkLawsBesides
namespace Go.Proofs.YtgfamdakjcjdkaaDoor.cmp
open Go.RowKit Go.Proofs.YtgfamdakjcjdkaaDoor.base

def cmpI (a b : Int) : Int := if a < b then -1 else if b < a then 1 else 0
def cmpS (a b : ByteArray) : Int := if Op.bytesLess a.toList b.toList then -1 else if a.toList == b.toList then 0 else 1
def or2 (a b : Int) : Int := if a = 0 then b else a

theorem isNaN_int (a : Int) (w : World) : Calls Tryd.prog 74 #[.int .i64 a] w fun e w' => e = .returned (.bool false) ∧ w = w' := by
  go_enter Tryd.func74, Tryd.ntmps74
  go_wp2
  go_ret
  exact ⟨ret_bool (by simp), rfl⟩
theorem isNaN_string (a : ByteArray) (w : World) : Calls Tryd.prog 54 #[.string a] w fun e w' => e = .returned (.bool false) ∧ w = w' := by
  go_enter Tryd.func54, Tryd.ntmps54
  go_wp2
  go_ret
  exact ⟨ret_bool (by simp), rfl⟩
theorem compare_int (a b : Int) (w : World) : Calls Tryd.prog 61 #[.int .i64 a, .int .i64 b] w fun e w' => e = .returned (.int .i64 (cmpI a b)) ∧ w = w' := by
  unfold cmpI
  rcases (by omega : a < b ∨ b < a ∨ a = b) with h | h | h
  · go_enter Tryd.func61, Tryd.ntmps61
    go_wp2_with (first | (go_at_call 74; refine (isNaN_int _ _).mono ?_; rintro e w' ⟨rfl, rfl⟩))
    go_ret
    exact ⟨ret_int (by simp), rfl⟩
  · have h' : ¬ a < b := by omega
    go_enter Tryd.func61, Tryd.ntmps61
    go_wp2_with (first | (go_at_call 74; refine (isNaN_int _ _).mono ?_; rintro e w' ⟨rfl, rfl⟩))
    go_ret
    exact ⟨ret_int (by simp), rfl⟩
  · subst h
    go_enter Tryd.func61, Tryd.ntmps61
    go_wp2_with (first | (go_at_call 74; refine (isNaN_int _ _).mono ?_; rintro e w' ⟨rfl, rfl⟩))
    go_ret
    exact ⟨ret_int (by simp), rfl⟩
theorem compare_string (a b : ByteArray) (w : World) : Calls Tryd.prog 42 #[.string a, .string b] w fun e w' => e = .returned (.int .i64 (cmpS a b)) ∧ w = w' := by
  unfold cmpS
  cases h : Op.bytesLess a.toList b.toList with
  | true =>
    go_enter Tryd.func42, Tryd.ntmps42
    go_wp2_with (first | (go_at_call 54; refine (isNaN_string _ _).mono ?_; rintro e w' ⟨rfl, rfl⟩))
    go_ret
    exact ⟨ret_int (by simp), rfl⟩
  | false =>
    cases h2 : a.toList == b.toList with
    | true =>
      go_enter Tryd.func42, Tryd.ntmps42
      go_wp2_with (first | (go_at_call 54; refine (isNaN_string _ _).mono ?_; rintro e w' ⟨rfl, rfl⟩))
      go_ret
      exact ⟨ret_int (by simp), rfl⟩
    | false =>
      go_enter Tryd.func42, Tryd.ntmps42
      go_wp2_with (first | (go_at_call 54; refine (isNaN_string _ _).mono ?_; rintro e w' ⟨rfl, rfl⟩))
      go_ret
      exact ⟨ret_int (by simp), rfl⟩

def firstNZ : List Int → Int
  | [] => 0
  | z :: r => if z = 0 then firstNZ r else z
theorem firstNZ_two (a b : Int) : firstNZ [a, b] = or2 a b := by
  unfold or2 firstNZ; by_cases h : a = 0
  · simp only [h, if_true]; unfold firstNZ; by_cases h2 : b = 0
    · simp [h2, firstNZ]
    · simp [h2]
  · simp [h]
theorem firstNZ_drop (zs : List Int) (n : Nat) (h : n < zs.length) : firstNZ (zs.drop n) = if zs.getD n 0 = 0 then firstNZ (zs.drop (n + 1)) else zs.getD n 0 := by
  rw [List.drop_eq_getElem_cons h, List.getD_eq_getElem?_getD, List.getElem?_eq_getElem h]; rfl
set_option maxHeartbeats 400000 in
theorem or_any (A : Option Addr) (len cap : Nat) (zs : List Int) (w : World) (hl : zs.length = len) (hm : len ≤ 1000000) (hr : Reads w w.heap.size 1 A len (zs.map (Value.int .i64))) :
    Calls Tryd.prog 41 #[.slice A len cap] w fun e w' => e = .returned (.int .i64 (firstNZ zs)) ∧ w = w' := by
  have Hl := Lib.hid hl; clear hl
  have Hr := Lib.hid hr; clear hr
  go_enter Tryd.func41, Tryd.ntmps41
  go_wp2
  go_loop [5, 8] (fun _ k => ∃ n : Nat, n ≤ len ∧ k = .int .i64 n ∧ firstNZ zs = firstNZ (zs.drop n)) (fun _ k => len - (intOf k).toNat)
  case atStart => exact ⟨0, by omega, rfl, rfl⟩
  case round =>
    obtain ⟨n, hn, rfl, hf⟩ := hrel
    by_cases hlt : n < len
    · obtain ⟨b, off, rfl, hb, hc⟩ := Hr.out.2 (by omega)
      have hnl : n < zs.length := by rw [Hl.out]; exact hlt
      have hcell : w.cell? ⟨b, off + n, none⟩ = some (.int .i64 (zs.getD n 0)) := Reads.int_at hc hnl
      have hd := firstNZ_drop zs n hnl
      rw [hd] at hf
      clear hc hd
      generalize zs.getD n 0 = z at hcell hf
      by_cases hz : z = 0
      · subst hz
        rw [if_pos rfl] at hf
        have Hf := Lib.hid hf; clear hf
        go_wp2
        go_round
        case rel => exact ⟨n + 1, by omega, by go_num, Hf.out⟩
        case measure => simp [intOf]; omega
      · rw [if_neg hz] at hf
        have Hf := Lib.hid hf; clear hf
        have hz' : (z != 0) = true := by simpa using hz
        go_wp2
        go_ret
        exact ⟨ret_int Hf.out.symm, rfl⟩
    · have hnl : n = len := by omega
      rw [List.drop_eq_nil_of_le (by rw [Hl.out]; omega)] at hf
      have Hf := Lib.hid hf; clear hf hnl
      go_wp2
      go_ret
      exact ⟨ret_int Hf.out.symm, rfl⟩

/-- How two stamps stand. -/
def cmpT (t1 r1 t2 r2 : Int) : Int := or2 (cmpI t1 t2) (cmpI r1 r2)
theorem below_one (w : World) (o o' : Obj) : Below w.heap.size w ((w.alloc o).alloc o') := ((Below.refl _ _).alloc (Nat.le_refl _) _).alloc (by simp) _
set_option maxHeartbeats 400000 in
theorem compare_stamp (t1 r1 t2 r2 : Int) (w : World) : Calls Tryd.prog 73 #[.agg #[.int .i64 t1, .int .i64 r1], .agg #[.int .i64 t2, .int .i64 r2]] w fun e w' => e = .returned (.int .i64 (cmpT t1 r1 t2 r2)) ∧ Below w.heap.size w w' := by
  go_enter Tryd.func73, Tryd.ntmps73
  go_wp2_with fail
  refine wp_region_mono nobody (by kernel_rfl) ?_
  -- 0 Op.fieldAddr 26 (Operand.tmp 2) 0
  refine wpMono_take' 0 (v := ?_) rfl (by kernel_rfl) (by kernel_rfl) (by kernel_rfl) (fun _ _ _ h => h) (by rfl) ?_ ?_
  rotate_left
  · (intro W hSw; have hcW := hSw.cells; go_simp; first | done | rfl)
  try simp only [Act.put, List.setIfInBounds_toArray, List.set_cons_zero, List.set_cons_succ]
  -- 1 Op.load 3 (Operand.tmp 5)
  refine wpMono_take' 1 (v := ?_) rfl (by kernel_rfl) (by kernel_rfl) (by kernel_rfl) (fun _ _ _ h => h) (by rfl) ?_ ?_
  rotate_left
  · (intro W hSw; have hcW := hSw.cells; go_simp; first | done | rfl)
  try simp only [Act.put, List.setIfInBounds_toArray, List.set_cons_zero, List.set_cons_succ]
  -- 2 Op.fieldAddr 26 (Operand.tmp 3) 0
  refine wpMono_take' 2 (v := ?_) rfl (by kernel_rfl) (by kernel_rfl) (by kernel_rfl) (fun _ _ _ h => h) (by rfl) ?_ ?_
  rotate_left
  · (intro W hSw; have hcW := hSw.cells; go_simp; first | done | rfl)
  try simp only [Act.put, List.setIfInBounds_toArray, List.set_cons_zero, List.set_cons_succ]
  -- 3 Op.load 3 (Operand.tmp 7)
  refine wpMono_take' 3 (v := ?_) rfl (by kernel_rfl) (by kernel_rfl) (by kernel_rfl) (fun _ _ _ h => h) (by rfl) ?_ ?_
  rotate_left
  · (intro W hSw; have hcW := hSw.cells; go_simp; first | done | rfl)
  try simp only [Act.put, List.setIfInBounds_toArray, List.set_cons_zero, List.set_cons_succ]
  -- 5 Op.fieldAddr 26 (Operand.tmp 2) 1
  refine wpMono_take' 5 (v := ?_) rfl (by kernel_rfl) (by kernel_rfl) (by kernel_rfl) (fun _ _ _ h => h) (by rfl) ?_ ?_
  rotate_left
  · (intro W hSw; have hcW := hSw.cells; go_simp; first | done | rfl)
  try simp only [Act.put, List.setIfInBounds_toArray, List.set_cons_zero, List.set_cons_succ]
  -- 6 Op.load 3 (Operand.tmp 10)
  refine wpMono_take' 6 (v := ?_) rfl (by kernel_rfl) (by kernel_rfl) (by kernel_rfl) (fun _ _ _ h => h) (by rfl) ?_ ?_
  rotate_left
  · (intro W hSw; have hcW := hSw.cells; go_simp; first | done | rfl)
  try simp only [Act.put, List.setIfInBounds_toArray, List.set_cons_zero, List.set_cons_succ]
  -- 7 Op.fieldAddr 26 (Operand.tmp 3) 1
  refine wpMono_take' 7 (v := ?_) rfl (by kernel_rfl) (by kernel_rfl) (by kernel_rfl) (fun _ _ _ h => h) (by rfl) ?_ ?_
  rotate_left
  · (intro W hSw; have hcW := hSw.cells; go_simp; first | done | rfl)
  try simp only [Act.put, List.setIfInBounds_toArray, List.set_cons_zero, List.set_cons_succ]
  -- 8 Op.load 3 (Operand.tmp 12)
  refine wpMono_take' 8 (v := ?_) rfl (by kernel_rfl) (by kernel_rfl) (by kernel_rfl) (fun _ _ _ h => h) (by rfl) ?_ ?_
  rotate_left
  · (intro W hSw; have hcW := hSw.cells; go_simp; first | done | rfl)
  try simp only [Act.put, List.setIfInBounds_toArray, List.set_cons_zero, List.set_cons_succ]
  -- EFFECT 4 Op.call { callee := Callee.value (Operand.func 19), args := #[Operand.tmp 6, Operand.tmp 8], argTypes := #[3, 3] }
  refine wpMono_one' 4 (by kernel_rfl) rfl (by rfl) (fun K hK => ?_)
  go_simp
  refine (compare_int _ _ _).mono ?_
  rintro e w1 ⟨rfl, rfl⟩
  refine hK.out _ _ ?_ ?_
  · exact Keeps.refl _ _
  clear hK K
  try simp only [Act.put, List.setIfInBounds_toArray, List.set_cons_zero, List.set_cons_succ]
  -- EFFECT 9 Op.call { callee := Callee.value (Operand.func 19), args := #[Operand.tmp 11, Operand.tmp 13], argTypes := #[3, 3] }
  refine wpMono_one' 9 (by kernel_rfl) rfl (by rfl) (fun K hK => ?_)
  go_simp
  refine (compare_int _ _ _).mono ?_
  rintro e w1 ⟨rfl, rfl⟩
  refine hK.out _ _ ?_ ?_
  · exact Keeps.refl _ _
  clear hK K
  try simp only [Act.put, List.setIfInBounds_toArray, List.set_cons_zero, List.set_cons_succ]
  -- EFFECT 10 Op.buildSlice 38 2 #[(0, Operand.tmp 9), (1, Operand.tmp 14)]
  refine wpMono_one' 10 (by kernel_rfl) rfl (by rfl) (fun K hK => ?_)
  go_simp
  refine hK.out _ _ ?_ ?_
  · exact Keeps.alloc _
  clear hK K
  try simp only [Act.put, List.setIfInBounds_toArray, List.set_cons_zero, List.set_cons_succ]
  -- EFFECT 11 Op.call { callee := Callee.value (Operand.func 17), args := #[Operand.tmp 15], argTypes := #[38] }
  refine wpMono_one' 11 (by kernel_rfl) rfl (by rfl) (fun K hK => ?_)
  go_simp
  refine (or_any _ 2 2 [cmpI t1 t2, cmpI r1 r2] _ rfl (by omega) (by exact Reads.newAtD _ _ _ _ (by simp) rfl)).mono ?_
  rintro e w1 ⟨rfl, rfl⟩
  refine hK.out _ _ ?_ ?_
  · exact Keeps.refl _ _
  clear hK K
  try simp only [Act.put, List.setIfInBounds_toArray, List.set_cons_zero, List.set_cons_succ]
  -- 12 Op.assign (Operand.tmp 16)
  refine wpMono_take' 12 (v := ?_) rfl (by kernel_rfl) (by kernel_rfl) (by kernel_rfl) (fun _ _ _ h => h) (by rfl) ?_ ?_
  rotate_left
  · (intro W hSw; have hcW := hSw.cells; go_simp; first | done | rfl)
  try simp only [Act.put, List.setIfInBounds_toArray, List.set_cons_zero, List.set_cons_succ]
  refine wpMono_done (by kernel_rfl) ?_ _
  go_wp2
  go_ret
  refine ⟨ret_int (firstNZ_two _ _), ?_⟩
  exact (((((Below.refl _ _).alloc (Nat.le_refl _) _).alloc (by simp) _)).alloc (by simp; omega) _).drew
set_option maxHeartbeats 400000 in
theorem less_stamp (t1 r1 t2 r2 : Int) (w : World) : Calls Tryd.prog 60 #[.agg #[.int .i64 t1, .int .i64 r1], .agg #[.int .i64 t2, .int .i64 r2]] w fun e w' => e = .returned (.bool (decide (cmpT t1 r1 t2 r2 < 0))) ∧ Below w.heap.size w w' := by
  go_enter Tryd.func60, Tryd.ntmps60
  go_wp2_with (first | (go_at_call 73; refine (compare_stamp _ _ _ _ _).mono ?_; rintro e w1 ⟨rfl, hb1⟩))
  go_ret
  exact ⟨rfl, (below_one w _ _).trans (hb1.mono (by simp; omega))⟩
def lessS (t1 r1 t2 r2 : Int) : Bool := if t1 = t2 then decide (r1 < r2) else decide (t1 < t2)
set_option maxHeartbeats 400000 in
theorem less_ref (t1 r1 t2 r2 : Int) (w : World) : Calls Tryd.prog 62 #[.agg #[.int .i64 t1, .int .i64 r1], .agg #[.int .i64 t2, .int .i64 r2]] w fun e w' => e = .returned (.bool (lessS t1 r1 t2 r2)) ∧ Below w.heap.size w w' := by
  unfold lessS
  by_cases h : t1 = t2
  · subst h
    go_enter Tryd.func62, Tryd.ntmps62
    go_wp2
    go_ret
    exact ⟨ret_bool (by simp), below_one w _ _⟩
  · have h' : (t1 != t2) = true := by simpa using h
    go_enter Tryd.func62, Tryd.ntmps62
    go_wp2
    go_ret
    exact ⟨ret_bool (by simp), below_one w _ _⟩
theorem lessS_eq (t1 r1 t2 r2 : Int) : decide (cmpT t1 r1 t2 r2 < 0) = lessS t1 r1 t2 r2 := by
  unfold cmpT or2 cmpI lessS
  rcases (by omega : t1 < t2 ∨ t2 < t1 ∨ t1 = t2) with h | h | h
  · have h1 : ¬ t1 = t2 := by omega
    simp [h, h1]
  · have h1 : ¬ t1 = t2 := by omega
    have h2 : ¬ t1 < t2 := by omega
    simp [h, h1, h2]
  · subst h
    rcases (by omega : r1 < r2 ∨ r2 < r1 ∨ r1 = r2) with h | h | h
    · simp [h]
    · have h2 : ¬ r1 < r2 := by omega
      simp [h, h2]
    · subst h; simp
end Go.Proofs.YtgfamdakjcjdkaaDoor.cmp
