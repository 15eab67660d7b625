/- What the feed laws' arguments read as. -/
import Derived.Test.YtmclmefgddomfaaAwakeF
import Derived.Test.YtmclmefgddomfaaRows
namespace Go.Proofs.Ytmclmefgddomfaa.feed
open Go.RowKit Go.Proofs.Ytmclmefgddomfaa.base Go.Proofs.Ytmclmefgddomfaa.rowe Go.Proofs.Ytmclmefgddomfaa.err Go.Proofs.Ytmclmefgddomfaa.wire Go.Proofs.Ytmclmefgddomfaa.monoj

theorem write_cells : Try.prog.cellsOf 35 = 10 := by kernel_rfl
set_option maxRecDepth 100000 in
theorem write_sees {w : World} (cs : List Value) (hl : cs.length = Try.prog.cellsOf 35) (h : Sees Try.prog w 35 cs) : ∃ x : Wr, cs = x.cells ∧ Nums w w.heap.size x.d x.z := by
  rw [write_cells] at hl
  obtain ⟨_, hf⟩ := h.struct Try.underlying35
  have e3 : Try.prog.cellsOf 3 = 1 := by kernel_rfl
  have e4 : Try.prog.cellsOf 4 = 1 := by kernel_rfl
  have e9 : Try.prog.cellsOf 9 = 1 := by kernel_rfl
  have e31 : Try.prog.cellsOf 31 = 2 := by kernel_rfl
  have e33 : Try.prog.cellsOf 33 = 1 := by kernel_rfl
  match cs, hl with
  | [x0, x1, x2, x3, x4, x5, x6, x7, x8, x9], _ =>
    simp [e3, e4, e9, e31, e33] at hf
    obtain ⟨h0, h1, h2, h4, h5, h6, h7, h8, h9⟩ := hf
    obtain ⟨_, hg⟩ := h2.struct Try.underlying31
    simp [e3] at hg
    obtain ⟨n0, q0, _⟩ := h0.int Try.underlying3
    obtain ⟨n1, q1, _⟩ := h1.int Try.underlying3
    obtain ⟨n2, q2, _⟩ := hg.1.int Try.underlying3
    obtain ⟨n3, q3, _⟩ := hg.2.int Try.underlying3
    obtain ⟨s5, q5, _⟩ := h5.string Try.underlying9
    obtain ⟨s6, q6, _⟩ := h6.string Try.underlying9
    obtain ⟨s7, q7, _⟩ := h7.string Try.underlying9
    obtain ⟨b8, q8⟩ := h8.bool Try.underlying4
    obtain ⟨n9, q9, _⟩ := h9.int Try.underlying3
    have h4' : x4 = .slice none 0 0 ∨ ∃ (a : Addr) (len cap : Nat), x4 = .slice (some a) len cap ∧ len ≤ cap ∧ cap ≤ maxLen ∧ ∀ i, i < cap → ∃ es, w.cells? 0 (a.add (i * Try.prog.cellsOf 3)) (Try.prog.cellsOf 3) = some es ∧ Sees Try.prog w 3 es := by
      rcases h4.slice Try.underlying33 with h | ⟨a, len, cap, h, r⟩
      · injection h with h; exact .inl h
      · injection h with h; exact .inr ⟨a, len, cap, h, r⟩
    obtain ⟨A, len, cap, zs, q4, h10, h11, h12, _, h13, _⟩ := ints_of Try.underlying3 e3 h4'
    simp at q0 q1 q2 q3 q5 q6 q7 q8 q9
    subst q0 q1 q2 q3 q5 q6 q7 q8 q9
    exact ⟨⟨n0, n1, n2, n3, x4, zs, s5, s6, s7, b8, n9⟩, rfl, A, len, cap, q4, h12, by omega, h13⟩
/-- an operation of a script -/
structure Opx where
  k : Int
  a : Int
  b : Int
  x : Wr
def Opx.cells (o : Opx) : List Value := [.int .i64 o.k, .int .i64 o.a, .int .i64 o.b] ++ o.x.cells
theorem Opx.len (o : Opx) : o.cells.length = 13 := rfl
theorem op_cells : Try.prog.cellsOf 56 = 13 := by kernel_rfl
set_option maxRecDepth 100000 in
theorem op_sees {w : World} (cs : List Value) (hl : cs.length = Try.prog.cellsOf 56) (h : Sees Try.prog w 56 cs) : ∃ o : Opx, cs = o.cells ∧ Nums w w.heap.size o.x.d o.x.z := by
  rw [op_cells] at hl
  obtain ⟨_, hf⟩ := h.struct Try.underlying56
  have e3 : Try.prog.cellsOf 3 = 1 := by kernel_rfl
  match cs, hl with
  | [x0, x1, x2, y0, y1, y2, y3, y4, y5, y6, y7, y8, y9], _ =>
    simp [e3, write_cells] at hf
    obtain ⟨h0, h1, h2, h3⟩ := hf
    obtain ⟨n0, q0, _⟩ := h0.int Try.underlying3
    obtain ⟨n1, q1, _⟩ := h1.int Try.underlying3
    obtain ⟨n2, q2, _⟩ := h2.int Try.underlying3
    obtain ⟨x, hx, hn⟩ := write_sees _ (by rw [write_cells]; rfl) h3
    simp at q0 q1 q2
    subst q0 q1 q2
    exact ⟨⟨n0, n1, n2, x⟩, by show _ = [_, _, _] ++ x.cells; rw [← hx]; rfl, hn⟩
end Go.Proofs.Ytmclmefgddomfaa.feed
