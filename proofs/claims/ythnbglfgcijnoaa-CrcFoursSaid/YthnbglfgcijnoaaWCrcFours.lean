/- The walk of the law CrcFours: it returns true; nothing that was there is written. -/
import Derived.Test.YthnbglfgcijnoaaCrc
import Derived.Deep.QuietTactic
import Derived.BigQuiet
namespace Go.Proofs.Ythnbglfgcijnoaa.wCrcFours
open Go.RowKit Go.Proofs.Ythnbglfgcijnoaa.base Go.Proofs.Ythnbglfgcijnoaa.num Go.Proofs.Ythnbglfgcijnoaa.crc

theorem u8_info : (Try.prog.info? 5).map (fun i => (i.zero, i.size, i.bytes)) = some (some (.int .u8 0), 1, 1) := by kernel_rfl
set_option maxHeartbeats 1000000 in
theorem four_any (s : Nat) (w : World) (hs : s < 4294967296) :
    Calls Try.prog 11 #[.int .u32 s] w fun e w' => e = .returned (.agg #[.int .u8 (s % 256 : Nat), .int .u8 (s / 256 % 256 : Nat), .int .u8 (s / 65536 % 256 : Nat), .int .u8 (s / 16777216 : Nat)]) ∧ Below w.heap.size w w' := by
  go_enter Try.func11, Try.ntmps11
  go_wp2
  go_loopw [3, 4] (fun _ i wr => ∃ k : Nat, k ≤ 4 ∧ i = .int .i64 k ∧ wr = w.alloc (.cells #[.int .u8 (if 0 < k then (s % 256 : Nat) else 0), .int .u8 (if 1 < k then (s / 256 % 256 : Nat) else 0), .int .u8 (if 2 < k then (s / 65536 % 256 : Nat) else 0), .int .u8 (if 3 < k then (s / 16777216 : Nat) else 0)] 31)) (fun _ i _ => 4 - (intOf i).toNat)
  case atStart => exact ⟨0, by omega, rfl, rfl⟩
  case round =>
    obtain ⟨k, hk, rfl, rfl⟩ := hrel
    rcases (by omega : k = 0 ∨ k = 1 ∨ k = 2 ∨ k = 3 ∨ k = 4) with rfl | rfl | rfl | rfl | rfl
    · go_wp2
      go_roundw
      case rel => exact ⟨1, by omega, rfl, by simp⟩
      case measure => simp [intOf]
    · go_wp2
      go_roundw
      case rel => exact ⟨2, by omega, rfl, by simp⟩
      case measure => simp [intOf]
    · go_wp2
      go_roundw
      case rel => exact ⟨3, by omega, rfl, by simp⟩
      case measure => simp [intOf]
    · go_wp2
      go_roundw
      case rel => exact ⟨4, by omega, rfl, by simp⟩
      case measure => simp [intOf]
    · go_wp2
      refine bodyPost_ret (v := .agg #[.int .u8 (s % 256 : Nat), .int .u8 (s / 256 % 256 : Nat), .int .u8 (s / 65536 % 256 : Nat), .int .u8 (s / 16777216 : Nat)]) (by simp [results, Try.results11, go_sem]) rfl ⟨rfl, ?_⟩
      exact (Below.refl _ _).alloc (Nat.le_refl _) _

theorem or_add (x c k : Nat) (hx : x < 2 ^ k) (hc : c * 2 ^ k < 4294967296) (hx2 : x < 4294967296) : bits .or .u32 (x : Int) ((c * 2 ^ k : Nat) : Int) = ((x + c * 2 ^ k : Nat) : Int) := by
  rw [u32_or_nat _ _ hx2 hc, Nat.mul_comm, Nat.or_comm, ← Nat.two_pow_add_eq_or_of_lt hx]
  congr 1
  omega
def ofN (a b c d k : Nat) : Nat := (if 0 < k then a else 0) + (if 1 < k then b * 256 else 0) + (if 2 < k then c * 65536 else 0) + (if 3 < k then d * 16777216 else 0)
set_option maxHeartbeats 1000000 in
theorem of_any (a b c d : Nat) (w : World) (ha : a < 256) (hb : b < 256) (hc : c < 256) (hd : d < 256) :
    Calls Try.prog 13 #[.agg #[.int .u8 a, .int .u8 b, .int .u8 c, .int .u8 d]] w fun e w' => e = .returned (.int .u32 (a + b * 256 + c * 65536 + d * 16777216 : Nat)) ∧ Below w.heap.size w w' := by
  have h0 : Hid (bits .or .u32 (ofN a b c d 0 : Nat) (a : Int) = (ofN a b c d 1 : Nat)) := by have := or_add 0 a 0 (by decide) (by omega) (by decide); simpa [ofN, Hid] using this
  have h1 : Hid (bits .or .u32 (ofN a b c d 1 : Nat) ((b : Int) * 256) = (ofN a b c d 2 : Nat)) := by have := or_add a b 8 (by omega) (by omega) (by omega); simpa [ofN, Hid] using this
  have h2 : Hid (bits .or .u32 (ofN a b c d 2 : Nat) ((c : Int) * 65536) = (ofN a b c d 3 : Nat)) := by have := or_add (a + b * 256) c 16 (by omega) (by omega) (by omega); simpa [ofN, Hid] using this
  have h3 : Hid (bits .or .u32 (ofN a b c d 3 : Nat) ((d : Int) * 16777216) = (ofN a b c d 4 : Nat)) := by have := or_add (a + b * 256 + c * 65536) d 24 (by omega) (by omega) (by omega); simpa [ofN, Hid] using this
  have i0 : ∀ (x0 x1 x2 x3 : Value) w, (Instr.index 31 (.agg #[x0, x1, x2, x3]) (.int .i64 0)).run Try.prog w = .ok x0 w := fun _ _ _ _ _ => by kernel_rfl
  have i1 : ∀ (x0 x1 x2 x3 : Value) w, (Instr.index 31 (.agg #[x0, x1, x2, x3]) (.int .i64 1)).run Try.prog w = .ok x1 w := fun _ _ _ _ _ => by kernel_rfl
  have i2 : ∀ (x0 x1 x2 x3 : Value) w, (Instr.index 31 (.agg #[x0, x1, x2, x3]) (.int .i64 2)).run Try.prog w = .ok x2 w := fun _ _ _ _ _ => by kernel_rfl
  have i3 : ∀ (x0 x1 x2 x3 : Value) w, (Instr.index 31 (.agg #[x0, x1, x2, x3]) (.int .i64 3)).run Try.prog w = .ok x3 w := fun _ _ _ _ _ => by kernel_rfl
  go_enter Try.func13, Try.ntmps13
  go_wp2
  go_loop [3, 4, 5, 7] (fun x _ _ i => ∃ k : Nat, k ≤ 4 ∧ i = .int .i64 k ∧ x = .int .u32 (ofN a b c d k : Nat)) (fun _ _ _ i => 4 - (intOf i).toNat)
  case atStart => exact ⟨0, by omega, rfl, rfl⟩
  case round =>
    obtain ⟨k, hk, rfl, rfl⟩ := hrel
    rcases (by omega : k = 0 ∨ k = 1 ∨ k = 2 ∨ k = 3 ∨ k = 4) with rfl | rfl | rfl | rfl | rfl
    · go_wp2
      go_round
      case rel => exact ⟨1, by omega, rfl, val_int h0.out⟩
      case measure => simp [intOf]
    · go_wp2
      go_round
      case rel => exact ⟨2, by omega, rfl, val_int h1.out⟩
      case measure => simp [intOf]
    · go_wp2
      go_round
      case rel => exact ⟨3, by omega, rfl, val_int h2.out⟩
      case measure => simp [intOf]
    · go_wp2
      go_round
      case rel => exact ⟨4, by omega, rfl, val_int h3.out⟩
      case measure => simp [intOf]
    · go_wp2
      go_ret
      exact ⟨ret_int (by simp [ofN]), (Below.refl _ _).alloc (Nat.le_refl _) _⟩

set_option maxHeartbeats 1000000 in
theorem ref_any (s : Nat) (w : World) (hs : s < 4294967296) :
    Calls Try.prog 12 #[.int .u32 s] w fun e w' => e = .returned (.slice (some ⟨w.heap.size, 0, none⟩) 4 4) ∧
      w' = w.alloc (.cells #[.int .u8 (s % 256 : Nat), .int .u8 (s / 256 % 256 : Nat), .int .u8 (s / 65536 % 256 : Nat), .int .u8 (s / 16777216 : Nat)] 5) := by
  go_enter Try.func12, Try.ntmps12
  go_wp2
  go_ret
  exact ⟨rfl, rfl⟩
theorem of_back (s : Nat) (w : World) (hs : s < 4294967296) :
    Calls Try.prog 13 #[.agg #[.int .u8 (s % 256 : Nat), .int .u8 (s / 256 % 256 : Nat), .int .u8 (s / 65536 % 256 : Nat), .int .u8 (s / 16777216 : Nat)]] w fun e w' => e = .returned (.int .u32 s) ∧ Below w.heap.size w w' := by
  have := of_any (s % 256) (s / 256 % 256) (s / 65536 % 256) (s / 16777216) w (by omega) (by omega) (by omega) (by omega)
  rwa [show s % 256 + s / 256 % 256 * 256 + s / 65536 % 256 * 65536 + s / 16777216 * 16777216 = s by omega] at this
theorem four_back (a b c d : Nat) (w : World) (ha : a < 256) (hb : b < 256) (hc : c < 256) (hd : d < 256) :
    Calls Try.prog 11 #[.int .u32 (a + b * 256 + c * 65536 + d * 16777216 : Nat)] w fun e w' => e = .returned (.agg #[.int .u8 a, .int .u8 b, .int .u8 c, .int .u8 d]) ∧ Below w.heap.size w w' := by
  have := four_any (a + b * 256 + c * 65536 + d * 16777216) w (by omega)
  rwa [show (a + b * 256 + c * 65536 + d * 16777216) % 256 = a by omega, show (a + b * 256 + c * 65536 + d * 16777216) / 256 % 256 = b by omega,
    show (a + b * 256 + c * 65536 + d * 16777216) / 65536 % 256 = c by omega, show (a + b * 256 + c * 65536 + d * 16777216) / 16777216 = d by omega] at this

set_option maxHeartbeats 1000000 in
theorem walk (v0 : Value) (v1 : Value) (w : World) (a0 : Arg Try.prog w 24 v0) (a1 : Arg Try.prog w 31 v1) :
    Calls Try.prog 6 #[v0, v1] w fun e w' => e = .returned (.bool true) ∧ Below w.heap.size w w' := by
  obtain ⟨s, rfl, hs⟩ := a0.int Try.underlying24
  obtain ⟨l, rfl, hll, hla⟩ := a1.agg (.inr ⟨_, _, Try.underlying31⟩)
  have hC : Try.prog.cellsOf 31 = 4 := by kernel_rfl
  have hC5 : Try.prog.cellsOf 5 = 1 := by kernel_rfl
  obtain ⟨a, b, c, d, rfl, ha, hb, hc, hd⟩ : ∃ a b c d : Nat, l = [.int .u8 a, .int .u8 b, .int .u8 c, .int .u8 d] ∧ a < 256 ∧ b < 256 ∧ c < 256 ∧ d < 256 := by
    rw [hC] at hll
    obtain ⟨_, hg⟩ := hla.array Try.underlying31
    rw [hC5] at hg
    match l, hll with
    | [c0, c1, c2, c3], _ =>
      obtain ⟨a, e0, w0⟩ := (hg 0 (by decide)).int Try.underlying5
      obtain ⟨b, e1, w1⟩ := (hg 1 (by decide)).int Try.underlying5
      obtain ⟨c, e2, w2⟩ := (hg 2 (by decide)).int Try.underlying5
      obtain ⟨d, e3, w3⟩ := (hg 3 (by decide)).int Try.underlying5
      have w0 := bounds_u8 w0
      have w1 := bounds_u8 w1
      have w2 := bounds_u8 w2
      have w3 := bounds_u8 w3
      simp at e0 e1 e2 e3
      subst e0 e1 e2 e3
      obtain ⟨a, rfl⟩ := Int.eq_ofNat_of_zero_le w0.1
      obtain ⟨b, rfl⟩ := Int.eq_ofNat_of_zero_le w1.1
      obtain ⟨c, rfl⟩ := Int.eq_ofNat_of_zero_le w2.1
      obtain ⟨d, rfl⟩ := Int.eq_ofNat_of_zero_le w3.1
      exact ⟨a, b, c, d, rfl, by omega, by omega, by omega, by omega⟩
  have hs := bounds_u32 hs
  obtain ⟨s, rfl⟩ := Int.eq_ofNat_of_zero_le hs.1
  have hs : s < 4294967296 := by omega
  clear hC hC5 hll hla a0 a1
  go_enter Try.func6, Try.ntmps6
  go_wp2_with fail
  refine (awake_any _).mono ?_
  rintro e w1 ⟨rfl, hb1⟩
  go_wp2_with fail
  refine (four_any s _ hs).mono ?_
  rintro e w2 ⟨rfl, hb2⟩
  have hx0 : w2.cell? ⟨w.heap.size, 0, none⟩ = some (.int .u8 a) := by
    rw [hb2.cell (p := ⟨w.heap.size, 0, none⟩) (by have := hb1.size; simp at this; exact this), hb1.cell (p := ⟨w.heap.size, 0, none⟩) (by simp), cell_new]; rfl
  have hx1 : w2.cell? ⟨w.heap.size, 1, none⟩ = some (.int .u8 b) := by
    rw [hb2.cell (p := ⟨w.heap.size, 1, none⟩) (by have := hb1.size; simp at this; exact this), hb1.cell (p := ⟨w.heap.size, 1, none⟩) (by simp), cell_new]; rfl
  have hx2 : w2.cell? ⟨w.heap.size, 2, none⟩ = some (.int .u8 c) := by
    rw [hb2.cell (p := ⟨w.heap.size, 2, none⟩) (by have := hb1.size; simp at this; exact this), hb1.cell (p := ⟨w.heap.size, 2, none⟩) (by simp), cell_new]; rfl
  have hx3 : w2.cell? ⟨w.heap.size, 3, none⟩ = some (.int .u8 d) := by
    rw [hb2.cell (p := ⟨w.heap.size, 3, none⟩) (by have := hb1.size; simp at this; exact this), hb1.cell (p := ⟨w.heap.size, 3, none⟩) (by simp), cell_new]; rfl
  have hz1 : w.heap.size < w2.heap.size := Nat.lt_of_lt_of_le (by have := hb1.size; simp at this; exact this) hb2.size
  have hbw2 : Below w.heap.size w w2 := (((Below.refl _ _).alloc (Nat.le_refl _) _).trans (hb1.mono (by simp))).trans (hb2.mono (by have := hb1.size; simp at this; omega))
  have Hbw2 := Lib.hid hbw2
  clear hbw2 hb1 hb2
  have hcv : ∀ (W : World) (g : Nat) (y0 y1 y2 y3 : Int), W.cell? ⟨g, 0, none⟩ = some (.int .u8 y0) → W.cell? ⟨g, 1, none⟩ = some (.int .u8 y1) → W.cell? ⟨g, 2, none⟩ = some (.int .u8 y2) → W.cell? ⟨g, 3, none⟩ = some (.int .u8 y3) →
      (convert 22 9 (.slice (some ⟨g, 0, none⟩) 4 4)).run Try.prog W = .ok (.string (strOfNums [y0, y1, y2, y3])) W := by
    intro W g y0 y1 y2 y3 c0 c1 c2 c3
    refine run_convert_bytes_arg W 22 5 Try.underlying22 Try.underlying5 g 0 4 4 [y0, y1, y2, y3] rfl ?_ 9 Try.underlying9
    intro i hi
    rcases (by omega : i = 0 ∨ i = 1 ∨ i = 2 ∨ i = 3) with rfl | rfl | rfl | rfl <;> assumption
  have heq : ∀ (W : World), (Op.equalIn 10000 31 (.agg #[.int .u8 a, .int .u8 b, .int .u8 c, .int .u8 d]) (.agg #[.int .u8 a, .int .u8 b, .int .u8 c, .int .u8 d])).run Try.prog W = .ok true W := by
    intro W
    obtain ⟨i5, hi5, _, hz1, _⟩ := info_parts u8_info
    have hC : Try.prog.cellsOf 5 = 1 := by kernel_rfl
    rw [run_equalIn_array W 9999 _ _ Try.underlying31 hi5, hC]
    have hp := @run_equalIn_int Try.prog W 9998 5 .u8 .u8
    simp [Op.eqItems, List.range_succ, go_sem, Try.underlying5]
  go_wp2_with fail
  refine wp_region_mono nobody (by kernel_rfl) ?_
  -- 0 Op.slice 31 (Operand.tmp 5) none none none
  refine wpMono_take' 0 (v := ?_) rfl (by kernel_rfl) (by kernel_rfl) (by kernel_rfl) (fun _ _ _ h => h) (by rfl) ?_ ?_
  rotate_left
  · (intro W hSw; have hcW := hSw.cells; go_simp; first | done | rfl)
  try simp only [Act.put, List.setIfInBounds_toArray, List.set_cons_zero, List.set_cons_succ]
  -- 1 Op.convert 22 9 (Operand.tmp 10)
  refine wpMono_take' 1 (v := ?_) rfl (by kernel_rfl) (by kernel_rfl) (by kernel_rfl) (fun _ _ _ h => h) (by rfl) ?_ ?_
  rotate_left
  · (intro W hSw; have hcW := hSw.cells; go_simp; first | done | rfl)
  try simp only [Act.put, List.setIfInBounds_toArray, List.set_cons_zero, List.set_cons_succ]
  -- 2 Op.move (Operand.tmp 0)
  refine wpMono_take' 2 (v := ?_) rfl (by kernel_rfl) (by kernel_rfl) (by kernel_rfl) (fun _ _ _ h => h) (by rfl) ?_ ?_
  rotate_left
  · (intro W hSw; have hcW := hSw.cells; go_simp; first | done | rfl)
  try simp only [Act.put, List.setIfInBounds_toArray, List.set_cons_zero, List.set_cons_succ]
  -- EFFECT 3 Op.call { callee := Callee.value (Operand.func 12), args := #[Operand.tmp 12], argTypes := #[24] }
  refine wpMono_one' 3 (by kernel_rfl) rfl (by rfl) (fun K hK => ?_)
  go_simp
  refine (ref_any s _ hs).mono ?_
  rintro e w3 ⟨rfl, rfl⟩
  refine hK.out _ _ ?_ ?_
  · exact Keeps.alloc _
  clear hK K
  try simp only [Act.put, List.setIfInBounds_toArray, List.set_cons_zero, List.set_cons_succ]
  -- 4 Op.convert 22 9 (Operand.tmp 13)
  refine wpMono_take' 4 (v := ?_) rfl (by kernel_rfl) (by kernel_rfl) (by kernel_rfl) (fun _ _ _ h => h) (by rfl) ?_ ?_
  rotate_left
  · (intro W hSw; have hcW := hSw.cells; go_simp; first | done | rfl)
  try simp only [Act.put, List.setIfInBounds_toArray, List.set_cons_zero, List.set_cons_succ]
  -- 5 Op.binOp BinOp.eql 9 (Operand.tmp 11) (Operand.tmp 14) 9
  refine wpMono_take' 5 (v := ?_) rfl (by kernel_rfl) (by kernel_rfl) (by kernel_rfl) (fun _ _ _ h => h) (by rfl) ?_ ?_
  rotate_left
  · (intro W hSw; have hcW := hSw.cells; go_simp; first | done | rfl)
  try simp only [Act.put, List.setIfInBounds_toArray, List.set_cons_zero, List.set_cons_succ]
  -- 6 Op.move (Operand.tmp 15)
  refine wpMono_take' 6 (v := ?_) rfl (by kernel_rfl) (by kernel_rfl) (by kernel_rfl) (fun _ _ _ h => h) (by rfl) ?_ ?_
  rotate_left
  · (intro W hSw; have hcW := hSw.cells; go_simp; first | done | rfl)
  try simp only [Act.put, List.setIfInBounds_toArray, List.set_cons_zero, List.set_cons_succ]
  -- 7 Op.load 31 (Operand.tmp 5)
  refine wpMono_take' 7 (v := ?_) rfl (by kernel_rfl) (by kernel_rfl) (by kernel_rfl) (fun _ _ _ h => h) (by rfl) ?_ ?_
  rotate_left
  · (intro W hSw; have hcW := hSw.cells; go_simp; first | done | rfl)
  try simp only [Act.put, List.setIfInBounds_toArray, List.set_cons_zero, List.set_cons_succ]
  -- 9 Op.move (Operand.tmp 0)
  refine wpMono_take' 9 (v := ?_) rfl (by kernel_rfl) (by kernel_rfl) (by kernel_rfl) (fun _ _ _ h => h) (by rfl) ?_ ?_
  rotate_left
  · (intro W hSw; have hcW := hSw.cells; go_simp; first | done | rfl)
  try simp only [Act.put, List.setIfInBounds_toArray, List.set_cons_zero, List.set_cons_succ]
  -- EFFECT 8 Op.call { callee := Callee.value (Operand.func 13), args := #[Operand.tmp 17], argTypes := #[31] }
  refine wpMono_one' 8 (by kernel_rfl) rfl (by rfl) (fun K hK => ?_)
  go_simp
  refine (of_back s _ hs).mono ?_
  rintro e w4 ⟨rfl, hb4⟩
  have hz4 := hb4.size; simp at hz4
  have Hbw4 := Lib.hid ((((Hbw2.out.alloc (by omega) _).drew).alloc (by simp; omega) _).trans (hb4.mono (by simp; omega)))
  have hl4 : w.heap.size < w4.heap.size := by omega
  have hl4' : w2.heap.size < w4.heap.size := by omega
  have hc4 : ∀ o, w4.cell? ⟨w.heap.size, o, none⟩ = w2.cell? ⟨w.heap.size, o, none⟩ := fun o => by rw [hb4.cell (p := ⟨w.heap.size, o, none⟩) (by simp; omega)]; go_simp
  refine hK.out _ _ ?_ ?_
  · exact Keeps.of_below hb4
  clear hK K
  try simp only [Act.put, List.setIfInBounds_toArray, List.set_cons_zero, List.set_cons_succ]
  -- 10 Op.binOp BinOp.eql 24 (Operand.tmp 18) (Operand.tmp 19) 24
  refine wpMono_take' 10 (v := ?_) rfl (by kernel_rfl) (by kernel_rfl) (by kernel_rfl) (fun _ _ _ h => h) (by rfl) ?_ ?_
  rotate_left
  · (intro W hSw; have hcW := hSw.cells; go_simp; first | done | rfl)
  try simp only [Act.put, List.setIfInBounds_toArray, List.set_cons_zero, List.set_cons_succ]
  -- 11 Op.pick (Operand.tmp 16) (Operand.tmp 20) (Operand.const (Value.bool false))
  refine wpMono_take' 11 (v := ?_) rfl (by kernel_rfl) (by kernel_rfl) (by kernel_rfl) (fun _ _ _ h => h) (by rfl) ?_ ?_
  rotate_left
  · (intro W hSw; have hcW := hSw.cells; go_simp; first | done | rfl)
  try simp only [Act.put, List.setIfInBounds_toArray, List.set_cons_zero, List.set_cons_succ]
  -- 12 Op.move (Operand.tmp 21)
  refine wpMono_take' 12 (v := ?_) rfl (by kernel_rfl) (by kernel_rfl) (by kernel_rfl) (fun _ _ _ h => h) (by rfl) ?_ ?_
  rotate_left
  · (intro W hSw; have hcW := hSw.cells; go_simp; first | done | rfl)
  try simp only [Act.put, List.setIfInBounds_toArray, List.set_cons_zero, List.set_cons_succ]
  -- 13 Op.load 31 (Operand.tmp 3)
  refine wpMono_take' 13 (v := ?_) rfl (by kernel_rfl) (by kernel_rfl) (by kernel_rfl) (fun _ _ _ h => h) (by rfl) ?_ ?_
  rotate_left
  · (intro W hSw; have hcW := hSw.cells; go_simp; first | done | rfl)
  try simp only [Act.put, List.setIfInBounds_toArray, List.set_cons_zero, List.set_cons_succ]
  -- 16 Op.load 31 (Operand.tmp 3)
  refine wpMono_take' 16 (v := ?_) rfl (by kernel_rfl) (by kernel_rfl) (by kernel_rfl) (fun _ _ _ h => h) (by rfl) ?_ ?_
  rotate_left
  · (intro W hSw; have hcW := hSw.cells; go_simp; first | done | rfl)
  try simp only [Act.put, List.setIfInBounds_toArray, List.set_cons_zero, List.set_cons_succ]
  -- EFFECT 14 Op.call { callee := Callee.value (Operand.func 13), args := #[Operand.tmp 23], argTypes := #[31] }
  refine wpMono_one' 14 (by kernel_rfl) rfl (by rfl) (fun K hK => ?_)
  go_simp
  refine (of_any a b c d _ ha hb hc hd).mono ?_
  rintro e w5 ⟨rfl, hb5⟩
  have hz5 := hb5.size
  have Hbw5 := Lib.hid (Hbw4.out.trans (hb5.mono (by omega)))
  refine hK.out _ _ ?_ ?_
  · exact Keeps.of_below hb5
  clear hK K
  try simp only [Act.put, List.setIfInBounds_toArray, List.set_cons_zero, List.set_cons_succ]
  -- EFFECT 15 Op.call { callee := Callee.value (Operand.func 11), args := #[Operand.tmp 24], argTypes := #[24] }
  refine wpMono_one' 15 (by kernel_rfl) rfl (by rfl) (fun K hK => ?_)
  go_simp
  refine (four_back a b c d _ ha hb hc hd).mono ?_
  rintro e w6 ⟨rfl, hb6⟩
  have Hbw6 := Lib.hid (Hbw5.out.trans (hb6.mono (by omega)))
  refine hK.out _ _ ?_ ?_
  · exact Keeps.of_below hb6
  clear hK K
  try simp only [Act.put, List.setIfInBounds_toArray, List.set_cons_zero, List.set_cons_succ]
  -- 17 Op.binOp BinOp.eql 31 (Operand.tmp 25) (Operand.tmp 26) 31
  refine wpMono_take' 17 (v := ?_) rfl (by kernel_rfl) (by kernel_rfl) (by kernel_rfl) (fun _ _ _ h => h) (by rfl) ?_ ?_
  rotate_left
  · (intro W hSw; have hcW := hSw.cells; go_simp; first | done | rfl)
  try simp only [Act.put, List.setIfInBounds_toArray, List.set_cons_zero, List.set_cons_succ]
  -- 18 Op.pick (Operand.tmp 22) (Operand.tmp 27) (Operand.const (Value.bool false))
  refine wpMono_take' 18 (v := ?_) rfl (by kernel_rfl) (by kernel_rfl) (by kernel_rfl) (fun _ _ _ h => h) (by rfl) ?_ ?_
  rotate_left
  · (intro W hSw; have hcW := hSw.cells; go_simp; first | done | rfl)
  try simp only [Act.put, List.setIfInBounds_toArray, List.set_cons_zero, List.set_cons_succ]
  -- 19 Op.assign (Operand.tmp 28)
  refine wpMono_take' 19 (v := ?_) rfl (by kernel_rfl) (by kernel_rfl) (by kernel_rfl) (fun _ _ _ h => h) (by rfl) ?_ ?_
  rotate_left
  · (intro W hSw; have hcW := hSw.cells; go_simp; first | done | rfl)
  try simp only [Act.put, List.setIfInBounds_toArray, List.set_cons_zero, List.set_cons_succ]
  refine wpMono_done (by kernel_rfl) ?_ _
  go_wp2
  go_ret
  exact ⟨rfl, Hbw6.out⟩
end Go.Proofs.Ythnbglfgcijnoaa.wCrcFours
