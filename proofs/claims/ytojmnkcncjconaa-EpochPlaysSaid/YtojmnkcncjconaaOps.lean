/- The events of the laws of package epoch. -/
import Derived.Test.YtojmnkcncjconaaAwake
namespace Go.Proofs.Ytojmnkcncjconaa.ops
open Go.RowKit Go.Proofs.Ytojmnkcncjconaa.base Go.Proofs.Ytojmnkcncjconaa.list Go.Proofs.Ytojmnkcncjconaa.err Go.Proofs.Ytojmnkcncjconaa.tab Go.Proofs.Ytojmnkcncjconaa.new

structure O where
  k : Int
  u : ByteArray
  n : Int
def oc (o : O) : List Value := [.int .i64 o.k, .string o.u, .int .i64 o.n]
theorem oc_len (o : O) : (oc o).length = 3 := rfl
theorem op_cells : Try.prog.cellsOf 32 = 3 := by kernel_rfl
theorem op_sees {w : World} (cs : List Value) (hl : cs.length = Try.prog.cellsOf 32) (h : Sees Try.prog w 32 cs) : ∃ x, cs = oc x := by
  rw [op_cells] at hl
  obtain ⟨_, hf⟩ := h.struct Try.underlying32
  have e3 : Try.prog.cellsOf 3 = 1 := by kernel_rfl
  have e9 : Try.prog.cellsOf 9 = 1 := by kernel_rfl
  obtain ⟨x0, l1, rfl, hl2⟩ := len_split hl
  obtain ⟨x1, x2, rfl⟩ := len_two hl2
  simp [e3, e9] at hf
  obtain ⟨h0, h1, h2⟩ := hf
  obtain ⟨n0, e0, _⟩ := h0.int Try.underlying3
  obtain ⟨n1, e1, _⟩ := h1.string Try.underlying9
  obtain ⟨n2, e2, _⟩ := h2.int Try.underlying3
  simp at e0 e1 e2
  subst e0 e1 e2
  exact ⟨⟨n0, n1, n2⟩, rfl⟩
theorem op_arg {w : World} {v : Value} (h : Arg Try.prog w 32 v) : ∃ o : O, v = .agg #[.int .i64 o.k, .string o.u, .int .i64 o.n] := by
  obtain ⟨l, rfl, hl, hs⟩ := h.agg (.inl ⟨_, Try.underlying32⟩)
  obtain ⟨o, rfl⟩ := op_sees l hl hs
  exact ⟨o, rfl⟩
/-- A slice of events. -/
def Ops (w : World) (B : Nat) (A : Option Addr) (len cap : Nat) (l : List O) : Prop := l.length = len ∧ len ≤ cap ∧ cap ≤ maxLen ∧ Reads w B 3 A len (l.flatMap oc) ∧ ∀ o ∈ l, (Lit.int .i64 o.n).wf = true ∧ o.u.size ≤ maxLen
theorem ops_arg {w : World} {v : Value} (h : Arg Try.prog w 25 v) : ∃ A len cap l, v = .slice A len cap ∧ Ops w w.heap.size A len cap l := by
  obtain ⟨A, len, cap, l, rfl, h1, h2, h3, h4, h5, h6⟩ := h.things oc Try.underlying25 (by rw [op_cells]; omega) op_sees
  rw [op_cells] at h4
  refine ⟨A, len, cap, l, rfl, ⟨h3, h1, h2, h4, fun o ho => ?_⟩⟩
  obtain ⟨_, hf⟩ := (h6 o ho).struct Try.underlying32
  have e3 : Try.prog.cellsOf 3 = 1 := by kernel_rfl
  have e9 : Try.prog.cellsOf 9 = 1 := by kernel_rfl
  simp [e3, e9, oc] at hf
  obtain ⟨n, e, hw⟩ := hf.2.2.int Try.underlying3
  obtain ⟨u, e2, hu⟩ := hf.2.1.string Try.underlying9
  simp at e e2
  rw [e, e2]; exact ⟨hw, hu⟩
section
variable {w w' : World} {B B' len cap : Nat} {A : Option Addr} {l : List O}
theorem Ops.below (h : Ops w B A len cap l) (hb : Below B w w') : Ops w' B A len cap l := ⟨h.1, h.2.1, h.2.2.1, h.2.2.2.1.below hb, h.2.2.2.2⟩
theorem Ops.more (h : Ops w B A len cap l) (hb : B ≤ B') : Ops w B' A len cap l := ⟨h.1, h.2.1, h.2.2.1, h.2.2.2.1.more hb, h.2.2.2.2⟩
theorem Ops.at_some (h : Ops w B A len cap l) (hl : 0 < len) : ∃ b off, A = some ⟨b, off, none⟩ ∧ b < B := h.2.2.2.1.at_some hl
theorem Ops.get (h : Ops w B A len cap l) {k : Nat} (hk : k < len) : ∃ s, l[k]? = some s := ⟨l[k]'(by rw [h.1]; exact hk), List.getElem?_eq_getElem _⟩
theorem Ops.cell {b off : Nat} (h : Ops w B (some ⟨b, off, none⟩) len cap l) {k : Nat} {s : O} (hk : k < len) (hs : l[k]? = some s) :
    w.cell? ⟨b, off + k * 3, none⟩ = some (.int .i64 s.k) ∧ w.cell? ⟨b, off + k * 3 + 1, none⟩ = some (.string s.u) ∧ w.cell? ⟨b, off + k * 3 + 2, none⟩ = some (.int .i64 s.n) :=
  ⟨h.2.2.2.1.thing oc oc_len hk hs 0 (by omega), h.2.2.2.1.thing oc oc_len hk hs 1 (by omega), h.2.2.2.1.thing oc oc_len hk hs 2 (by omega)⟩
end
end Go.Proofs.Ytojmnkcncjconaa.ops
