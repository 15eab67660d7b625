/- The arguments of the laws of package net: texts, events. -/
import Derived.Test.YtempojdgbgaanaaWNetNone
namespace Go.Proofs.Ytempojdgbgaanaa.args
open Go.RowKit Go.Proofs.Ytempojdgbgaanaa.base Go.Proofs.Ytempojdgbgaanaa.wNetNone

def tc (s : ByteArray) : List Value := [.string s]
theorem tc_len (s : ByteArray) : (tc s).length = 1 := rfl
theorem str_cells : Try.prog.cellsOf 9 = 1 := by kernel_rfl
def Txs (w : World) (B : Nat) (A : Option Addr) (len cap : Nat) (l : List ByteArray) : Prop := l.length = len ∧ len ≤ cap ∧ cap ≤ maxLen ∧ Reads w B 1 A len (l.flatMap tc)
theorem txs_arg {w : World} {v : Value} (h : Arg Try.prog w 37 v) : ∃ A len cap l, v = .slice A len cap ∧ Txs w w.heap.size A len cap l := by
  obtain ⟨A, len, cap, l, rfl, h1, h2, h3, h4, _, _⟩ := h.things tc Try.underlying37 (by rw [str_cells]; omega) (fun cs hl hs => by
    rw [str_cells] at hl
    match cs, hl with
    | [a], _ =>
      obtain ⟨s, e, _⟩ := hs.string Try.underlying9
      simp at e
      exact ⟨s, by rw [e]; rfl⟩)
  rw [str_cells] at h4
  exact ⟨A, len, cap, l, rfl, h3, h1, h2, h4⟩
section
variable {w w' : World} {B B' len cap : Nat} {A : Option Addr} {l : List ByteArray}
theorem Txs.below (h : Txs w B A len cap l) (hb : Below B w w') : Txs w' B A len cap l := ⟨h.1, h.2.1, h.2.2.1, h.2.2.2.below hb⟩
theorem Txs.more (h : Txs w B A len cap l) (hb : B ≤ B') : Txs w B' A len cap l := ⟨h.1, h.2.1, h.2.2.1, h.2.2.2.more hb⟩
theorem Txs.at_some (h : Txs w B A len cap l) (hl : 0 < len) : ∃ b off, A = some ⟨b, off, none⟩ ∧ b < B := h.2.2.2.at_some hl
theorem Txs.get (h : Txs w B A len cap l) {k : Nat} (hk : k < len) : ∃ s, l[k]? = some s := ⟨l[k]'(by rw [h.1]; exact hk), List.getElem?_eq_getElem _⟩
theorem Txs.cell {b off : Nat} (h : Txs w B (some ⟨b, off, none⟩) len cap l) {k : Nat} {s : ByteArray} (hk : k < len) (hs : l[k]? = some s) :
    w.cell? ⟨b, off + k, none⟩ = some (.string s) := by
  have := h.2.2.2.thing tc tc_len hk hs 0 (by omega)
  simpa [tc] using this
end
/-! ### events -/
theorem oc_len (o : O) : (oc o).length = 5 := rfl
def Ops (w : World) (B : Nat) (A : Option Addr) (len cap : Nat) (l : List O) : Prop := l.length = len ∧ len ≤ cap ∧ cap ≤ maxLen ∧ Reads w B 5 A len (l.flatMap oc) ∧ ∀ o ∈ l, (Lit.int .i64 o.a).wf = true ∧ (Lit.int .i64 o.b).wf = true ∧ o.s.size ≤ maxLen
theorem ops_arg {w : World} {v : Value} (h : Arg Try.prog w 22 v) : ∃ A len cap l, v = .slice A len cap ∧ Ops w w.heap.size A len cap l := by
  obtain ⟨A, len, cap, l, rfl, h1, h2, h3, h4, h5, h6⟩ := h.things oc Try.underlying22 (by rw [op_cells]; omega) (fun cs hl hs => by
    obtain ⟨o, e, _⟩ := op_sees cs hl hs
    exact ⟨o, e⟩)
  rw [op_cells] at h4
  refine ⟨A, len, cap, l, rfl, ⟨h3, h1, h2, h4, fun o ho => ?_⟩⟩
  obtain ⟨⟨k, a, b, i, s⟩, e, p1, p2, p3⟩ := op_sees (oc o) (by rw [op_cells]; rfl) (h6 o ho)
  simp [oc] at e
  obtain ⟨e1, e2, e3, e4, e5⟩ := e
  simp only at p1 p2 p3
  rw [e2, e3, e5]
  exact ⟨p1, p2, p3⟩
section
variable {w w' : World} {B B' len cap : Nat} {A : Option Addr} {l : List O}
theorem Ops.below (h : Ops w B A len cap l) (hb : Below B w w') : Ops w' B A len cap l := ⟨h.1, h.2.1, h.2.2.1, h.2.2.2.1.below hb, h.2.2.2.2⟩
theorem Ops.more (h : Ops w B A len cap l) (hb : B ≤ B') : Ops w B' A len cap l := ⟨h.1, h.2.1, h.2.2.1, h.2.2.2.1.more hb, h.2.2.2.2⟩
theorem Ops.at_some (h : Ops w B A len cap l) (hl : 0 < len) : ∃ b off, A = some ⟨b, off, none⟩ ∧ b < B := h.2.2.2.1.at_some hl
theorem Ops.get (h : Ops w B A len cap l) {k : Nat} (hk : k < len) : ∃ s, l[k]? = some s := ⟨l[k]'(by rw [h.1]; exact hk), List.getElem?_eq_getElem _⟩
theorem Ops.cell {b off : Nat} (h : Ops w B (some ⟨b, off, none⟩) len cap l) {k : Nat} {s : O} (hk : k < len) (hs : l[k]? = some s) :
    w.cell? ⟨b, off + k * 5, none⟩ = some (.int .i64 s.k) ∧ w.cell? ⟨b, off + k * 5 + 1, none⟩ = some (.int .i64 s.a) ∧ w.cell? ⟨b, off + k * 5 + 2, none⟩ = some (.int .i64 s.b) ∧ w.cell? ⟨b, off + k * 5 + 3, none⟩ = some (.int .i64 s.i) ∧ w.cell? ⟨b, off + k * 5 + 4, none⟩ = some (.string s.s) :=
  ⟨h.2.2.2.1.thing oc oc_len hk hs 0 (by omega), h.2.2.2.1.thing oc oc_len hk hs 1 (by omega), h.2.2.2.1.thing oc oc_len hk hs 2 (by omega), h.2.2.2.1.thing oc oc_len hk hs 3 (by omega), h.2.2.2.1.thing oc oc_len hk hs 4 (by omega)⟩
end
end Go.Proofs.Ytempojdgbgaanaa.args
