/- An inbox that isn't there; and how an inbox refuses. -/
import Derived.Test.YtedkcpncomgboaaDrain
namespace Go.Proofs.Ytedkcpncomgboaa.dep
open Go Go.RowKit Go.Proofs.Ytedkcpncomgboaa.base Go.Proofs.Ytedkcpncomgboaa.rowe Go.Proofs.Ytedkcpncomgboaa.wire Go.Proofs.Ytedkcpncomgboaa.vec Go.Proofs.Ytedkcpncomgboaa.err

/-- nothing, and an error that wraps c -/
def BadR (c : Int) (w : World) (e : Ending) (w' : World) : Prop := ∃ ge, e = .returned (.tuple #[.slice none 0 0, .iface 96 (.pointer (some ⟨ge, 0, none⟩))]) ∧ Err w' (.iface 96 (.pointer (some ⟨ge, 0, none⟩))) c ∧ Below w.heap.size w w' ∧ w.heap.size ≤ ge
theorem BadR.of {c : Int} {w w1 w' : World} {e : Ending} (h : BadR c w1 e w') (hb : Below w.heap.size w w1) : BadR c w e w' := by
  obtain ⟨ge, h1, h2, h3, h4⟩ := h
  exact ⟨ge, h1, h2, below_step hb h3, Nat.le_trans hb.size h4⟩
set_option maxRecDepth 100000 in
theorem bad_offer (vb : Nat) (x : Wr) (c : Int) (w : World) (hx : Blk w vb 35 x.cells.toArray) : Calls Try.prog 32 #[.int .i64 c, .pointer (some ⟨vb, 0, none⟩)] w (BadR c w) := by
  have c1 : w.cell? ⟨vb, 1, none⟩ = some (.int .i64 x.n) := hx.cell 1
  have hl := hx.lt
  go_enter Try.func32, Try.ntmps32
  go_wp2_with fail
  refine (err.at_any _ _ _ _).mono ?_
  rintro e w1 ⟨v, rfl, h1, h2, h3, h4⟩
  obtain ⟨ge, rfl⟩ := h1.form
  have HR := Lib.hid (show BadR c w (.returned (.tuple #[.slice none 0 0, .iface 96 (.pointer (some ⟨ge, 0, none⟩))])) w1 from ⟨ge, rfl, h1, h3, h4 ge rfl⟩)
  clear h1 h2 h3 h4
  go_wp2
  exact bodyPost_ret (v := .tuple #[.slice none 0 0, .iface 96 (.pointer (some ⟨ge, 0, none⟩))]) (by simp [results, Try.results32, go_sem]) rfl HR.out
set_option maxRecDepth 100000 in
theorem bad_own (c : Int) (w : World) : Calls Try.prog 42 #[.int .i64 c] w (BadR c w) := by
  go_enter Try.func42, Try.ntmps42
  go_wp2_with fail
  refine (err.at_any _ _ _ _).mono ?_
  rintro e w1 ⟨v, rfl, h1, h2, h3, h4⟩
  obtain ⟨ge, rfl⟩ := h1.form
  have HR := Lib.hid (show BadR c w (.returned (.tuple #[.slice none 0 0, .iface 96 (.pointer (some ⟨ge, 0, none⟩))])) w1 from ⟨ge, rfl, h1, h3, h4 ge rfl⟩)
  clear h1 h2 h3 h4
  go_wp2
  exact bodyPost_ret (v := .tuple #[.slice none 0 0, .iface 96 (.pointer (some ⟨ge, 0, none⟩))]) (by simp [results, Try.results42, go_sem]) rfl HR.out
set_option maxRecDepth 100000 in
set_option maxHeartbeats 1000000 in
theorem offer_nil (x : Wr) (w : World) : Calls Try.prog 14 #[.pointer none, .agg ⟨x.cells⟩] w (BadR 1 w) := by
  have hb0 := below_new w (.cells x.cells.toArray 35)
  have HX := Lib.hid (Blk.new w 35 x.cells.toArray)
  have HB := Lib.hid hb0
  clear hb0
  go_enter Try.func14, Try.ntmps14
  go_wp2_with fail
  refine (bad_offer w.heap.size x 1 _ HX.out).mono ?_
  rintro e w1 h
  have HR := Lib.hid (h.of HB.out)
  obtain ⟨ge, rfl, _⟩ := h
  go_wp2
  exact bodyPost_ret (v := .tuple #[.slice none 0 0, .iface 96 (.pointer (some ⟨ge, 0, none⟩))]) (by simp [results, Try.results14, go_sem]) rfl HR.out
set_option maxRecDepth 100000 in
theorem own_nil (v : Value) (w : World) : Calls Try.prog 17 #[.pointer none, v] w (BadR 1 w) := by
  go_enter Try.func17, Try.ntmps17
  go_wp2_with fail
  refine (bad_own 1 w).mono ?_
  rintro e w1 h
  have HR := Lib.hid h
  obtain ⟨ge, rfl, _⟩ := h
  go_wp2
  exact bodyPost_ret (v := .tuple #[.slice none 0 0, .iface 96 (.pointer (some ⟨ge, 0, none⟩))]) (by simp [results, Try.results17, go_sem]) rfl HR.out
theorem applied_nil (w : World) : Calls Try.prog 20 #[.pointer none] w fun e w' => e = .returned (.slice none 0 0) ∧ w' = w := by
  go_enter Try.func20, Try.ntmps20
  go_wp2
  go_ret
  exact ⟨rfl, rfl⟩
theorem waits_nil (w : World) : Calls Try.prog 15 #[.pointer none] w fun e w' => e = .returned (.slice none 0 0) ∧ w' = w := by
  go_enter Try.func15, Try.ntmps15
  go_wp2
  go_ret
  exact ⟨rfl, rfl⟩
theorem copy_nil (w : World) : Calls Try.prog 24 #[.pointer none] w fun e w' => e = .returned (.pointer none) ∧ w' = w := by
  go_enter Try.func24, Try.ntmps24
  go_wp2
  go_ret
  exact ⟨rfl, rfl⟩
end Go.Proofs.Ytedkcpncomgboaa.dep
