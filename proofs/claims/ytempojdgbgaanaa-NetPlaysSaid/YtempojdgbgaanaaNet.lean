/- The walks of package net: what they find of a net. -/
import Derived.Test.YtempojdgbgaanaaMap
import Derived.Test.YtempojdgbgaanaaErr
import Derived.Test.YtempojdgbgaanaaRows
import Derived.Deep.QuietTactic
import Derived.BigQuiet
import Derived.DeepKeys4
namespace Go.Proofs.Ytempojdgbgaanaa.net
open Go.RowKit Go.Proofs.Ytempojdgbgaanaa.base Go.Proofs.Ytempojdgbgaanaa.map_ Go.Proofs.Ytempojdgbgaanaa.err Go.Maps

def way (x : Int × Int) : Value := .agg #[.int .i64 x.1, .int .i64 x.2]
theorem wayCells : Try.prog.cellsOf 56 = 2 := by kernel_rfl
theorem laidOut : laidOutB Try.prog = true := by kernel_rfl
theorem way_law : WideMaps.KeyLaw Try.prog 56 := deep_law_laid laidOut (m := 2) (by omega) (by decide +kernel) (by kernel_rfl) (by kernel_rfl)
theorem way_key (x : Int × Int) (h : (Lit.int .i64 x.1).wf = true ∧ (Lit.int .i64 x.2).wf = true) : ∃ l, keyOf Try.prog 56 (way x) = some l := by
  obtain ⟨a, b⟩ := x
  obtain ⟨h1, h2⟩ := h
  simp only at h1 h2
  have hk : Try.prog.keyType 56 = true := by kernel_rfl
  have e3 : Try.prog.cellsOf 3 = 1 := by kernel_rfl
  have hl : ∀ d, Try.prog.keyLits (d + 2) 56 [.int .i64 a, .int .i64 b] = some [.int .i64 a, .int .i64 b] := fun d => by
    simp [Program.keyLits, Try.underlying56, Try.underlying3, wayCells, e3, h1, h2]
  have hpos : 0 < Try.prog.types.size := by decide +kernel
  have hsz : ∃ d, Try.prog.types.size + 1 = d + 2 := ⟨Try.prog.types.size - 1, by omega⟩
  obtain ⟨d, hd⟩ := hsz
  unfold way keyOf
  simp only [Try.underlying56]
  rw [hk, hd]
  simp [Value.formed, Try.underlying56, wayCells, Value.cells, hl]
/-- The keys of a net's maps. -/
def wayE : Emb Try.prog 56 (Int × Int) where
  en := way
  inj := fun {x y} h => by
    obtain ⟨a, b⟩ := x
    obtain ⟨c, d⟩ := y
    simp [way] at h
    simp [h]
  ok := fun x => (Lit.int .i64 x.1).wf = true ∧ (Lit.int .i64 x.2).wf = true
  key := way_key
theorem keyed : Keyed Try.prog 56 := Keyed.of_law way_law
theorem zero_slice (w : World) : (zeroValue 37).run Try.prog w = .ok (.slice none 0 0) w := by kernel_rfl
theorem zero_bool (w : World) : (zeroValue 4).run Try.prog w = .ok (.bool false) w := by kernel_rfl
/-- Is there such a way? -/
def isW (n a b : Int) : Bool := decide (a ≠ b ∧ 1 ≤ a ∧ 1 ≤ b ∧ a ≤ n ∧ b ≤ n)
theorem is_nil (a b : Int) (w : World) : Calls Try.prog 27 #[.pointer none, .agg #[.int .i64 a, .int .i64 b]] w fun e w' => e = .returned (.bool false) ∧ Below w.heap.size w w' := by
  go_enter Try.func27, Try.ntmps27
  go_wp2_with fail
  go_quiet (fail)
  go_wp2
  go_ret
  exact ⟨rfl, below_drewN (below_new _ _) _⟩
/-- A net at block g, its maps at bb and cb. -/
def NetB (w : World) (g bb cb : Nat) (n : Int) : Prop := Blk w g 54 #[.int .i64 n, .map (some bb), .map (some cb)]
theorem is_any (g bb cb : Nat) (n a b : Int) (w : World) (h : NetB w g bb cb n) : Calls Try.prog 27 #[.pointer (some ⟨g, 0, none⟩), .agg #[.int .i64 a, .int .i64 b]] w fun e w' => e = .returned (.bool (isW n a b)) ∧ Below w.heap.size w w' := by
  have h0 : w.cell? ⟨g, 0, none⟩ = some (.int .i64 n) := h.cell 0
  have hlt := h.lt
  clear h
  have hc : (a = b) ∨ (a < b ∧ a < 1) ∨ (a < b ∧ 1 ≤ a ∧ n < b) ∨ (a < b ∧ 1 ≤ a ∧ b ≤ n) ∨ (b < a ∧ b < 1) ∨ (b < a ∧ 1 ≤ b ∧ n < a) ∨ (b < a ∧ 1 ≤ b ∧ a ≤ n) := by omega
  rcases hc with rfl | ⟨h1, h2⟩ | ⟨h1, h2, h3⟩ | ⟨h1, h2, h3⟩ | ⟨h1, h2⟩ | ⟨h1, h2, h3⟩ | ⟨h1, h2, h3⟩
  · have hw : isW n a a = false := by simp [isW]
    rw [hw]; clear hw
    go_enter Try.func27, Try.ntmps27
    go_wp2_with fail
    go_quiet (fail)
    go_wp2
    go_ret
    exact ⟨ret_bool (by simp), below_drewN (below_new _ _) _⟩
  · have hw : isW n a b = false := by simp [isW]; omega
    rw [hw]; clear hw
    have d1 : (a != b) = true := by simp; omega
    have d2 : decide (b < a) = false := by simp; omega
    have d3 : decide (1 ≤ a) = false := by simp; omega
    go_enter Try.func27, Try.ntmps27
    go_wp2_with fail
    go_quiet (fail)
    go_wp2
    go_ret
    exact ⟨ret_bool (by simp), below_drewN (below_new _ _) _⟩
  · have hw : isW n a b = false := by simp [isW]; omega
    rw [hw]; clear hw
    have d1 : (a != b) = true := by simp; omega
    have d2 : decide (b < a) = false := by simp; omega
    have d3 : decide (1 ≤ a) = true := by simp; omega
    have d4 : decide (b ≤ n) = false := by simp; omega
    go_enter Try.func27, Try.ntmps27
    go_wp2_with fail
    go_quiet (fail)
    go_wp2
    go_ret
    exact ⟨ret_bool (by simp), below_drewN (below_new _ _) _⟩
  · have hw : isW n a b = true := by simp [isW]; omega
    rw [hw]; clear hw
    have d1 : (a != b) = true := by simp; omega
    have d2 : decide (b < a) = false := by simp; omega
    have d3 : decide (1 ≤ a) = true := by simp; omega
    have d4 : decide (b ≤ n) = true := by simp; omega
    go_enter Try.func27, Try.ntmps27
    go_wp2_with fail
    go_quiet (fail)
    go_wp2
    go_ret
    exact ⟨ret_bool (by simp), below_drewN (below_new _ _) _⟩
  · have hw : isW n a b = false := by simp [isW]; omega
    rw [hw]; clear hw
    have d1 : (a != b) = true := by simp; omega
    have d2 : decide (b < a) = true := by simp; omega
    have d3 : decide (1 ≤ b) = false := by simp; omega
    go_enter Try.func27, Try.ntmps27
    go_wp2_with fail
    go_quiet (fail)
    go_wp2
    go_ret
    exact ⟨ret_bool (by simp), below_drewN (below_new _ _) _⟩
  · have hw : isW n a b = false := by simp [isW]; omega
    rw [hw]; clear hw
    have d1 : (a != b) = true := by simp; omega
    have d2 : decide (b < a) = true := by simp; omega
    have d3 : decide (1 ≤ b) = true := by simp; omega
    have d4 : decide (a ≤ n) = false := by simp; omega
    go_enter Try.func27, Try.ntmps27
    go_wp2_with fail
    go_quiet (fail)
    go_wp2
    go_ret
    exact ⟨ret_bool (by simp), below_drewN (below_new _ _) _⟩
  · have hw : isW n a b = true := by simp [isW]; omega
    rw [hw]; clear hw
    have d1 : (a != b) = true := by simp; omega
    have d2 : decide (b < a) = true := by simp; omega
    have d3 : decide (1 ≤ b) = true := by simp; omega
    have d4 : decide (a ≤ n) = true := by simp; omega
    go_enter Try.func27, Try.ntmps27
    go_wp2_with fail
    go_quiet (fail)
    go_wp2
    go_ret
    exact ⟨ret_bool (by simp), below_drewN (below_new _ _) _⟩
end Go.Proofs.Ytempojdgbgaanaa.net
