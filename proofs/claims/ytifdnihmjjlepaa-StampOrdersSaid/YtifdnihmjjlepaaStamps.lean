/- Slices of stamps. -/
import Derived.Test.YtifdnihmjjlepaaBase
import Derived.Test.YtifdnihmjjlepaaRows
namespace Go.Proofs.Ytifdnihmjjlepaa.stamps
open Go.RowKit Go.Proofs.Ytifdnihmjjlepaa.base

structure St where
  t : Int
  r : Int
def st (s : St) : List Value := [.int .i64 s.t, .int .i64 s.r]
theorem st_len (s : St) : (st s).length = 2 := rfl
theorem st_info : (Try.prog.info? 31).map (fun i => (i.zero, i.size, i.bytes)) = some (some (.agg #[.int .i64 0, .int .i64 0]), 2, 16) := by kernel_rfl
theorem st_cells : Try.prog.cellsOf 31 = 2 := by kernel_rfl
theorem st_sees {w : World} (cs : List Value) (hl : cs.length = Try.prog.cellsOf 31) (h : Sees Try.prog w 31 cs) : ∃ x, cs = st x := by
  rw [st_cells] at hl
  obtain ⟨_, hf⟩ := h.struct Try.underlying31
  have e3 : Try.prog.cellsOf 3 = 1 := by kernel_rfl
  match cs, hl with
  | [x0, x1], _ =>
    simp [e3] at hf
    obtain ⟨h0, h1⟩ := hf
    obtain ⟨n0, e0, _⟩ := h0.int Try.underlying3
    obtain ⟨n1, e1, _⟩ := h1.int Try.underlying3
    simp at e0 e1
    subst e0 e1
    exact ⟨⟨n0, n1⟩, rfl⟩
def Sts (w : World) (B : Nat) (A : Option Addr) (len cap : Nat) (l : List St) : Prop := l.length = len ∧ len ≤ cap ∧ cap ≤ maxLen ∧ Reads w B 2 A len (l.flatMap st)
theorem sts_arg {w : World} {v : Value} (h : Arg Try.prog w 22 v) : ∃ A len cap l, v = .slice A len cap ∧ Sts w w.heap.size A len cap l ∧ (A = none → len = 0 ∧ cap = 0) := by
  obtain ⟨A, len, cap, l, rfl, h1, h2, h3, h4, h5, _⟩ := h.things st Try.underlying22 (by rw [st_cells]; omega) st_sees
  rw [st_cells] at h4
  exact ⟨A, len, cap, l, rfl, ⟨h3, h1, h2, h4⟩, h5⟩
section
variable {w w' : World} {B B' len cap : Nat} {A : Option Addr} {l : List St}
theorem Sts.below (h : Sts w B A len cap l) (hb : Below B w w') : Sts w' B A len cap l := ⟨h.1, h.2.1, h.2.2.1, h.2.2.2.below hb⟩
theorem Sts.more (h : Sts w B A len cap l) (hb : B ≤ B') : Sts w B' A len cap l := ⟨h.1, h.2.1, h.2.2.1, h.2.2.2.more hb⟩
theorem Sts.at_some (h : Sts w B A len cap l) (hl : 0 < len) : ∃ b off, A = some ⟨b, off, none⟩ ∧ b < B := h.2.2.2.at_some hl
theorem Sts.get (h : Sts w B A len cap l) {k : Nat} (hk : k < len) : ∃ s, l[k]? = some s := ⟨l[k]'(by rw [h.1]; exact hk), List.getElem?_eq_getElem _⟩
theorem Sts.cell {b off : Nat} (h : Sts w B (some ⟨b, off, none⟩) len cap l) {k : Nat} {s : St} (hk : k < len) (hs : l[k]? = some s) :
    w.cell? ⟨b, off + k * 2, none⟩ = some (.int .i64 s.t) ∧ w.cell? ⟨b, off + k * 2 + 1, none⟩ = some (.int .i64 s.r) :=
  ⟨h.2.2.2.thing st st_len hk hs 0 (by omega), h.2.2.2.thing st st_len hk hs 1 (by omega)⟩
theorem Sts.of_own {base n : Nat} {v : Value} (h : w.ownsRow base 31 2 v n (l.flatMap st)) : ∃ A c, v = .slice A n c ∧ Sts w w.heap.size A n c l := by
  have hl : l.length = n := by have := h.1; rw [len_flat st st_len] at this; omega
  rcases h.2 with ⟨rfl, rfl⟩ | ⟨g, cap, cur, rfl, _, _, h1, h2, _⟩
  · exact ⟨none, 0, rfl, hl, Nat.le_refl _, Nat.zero_le _, Reads.of_own h⟩
  · exact ⟨_, cap, rfl, hl, h1, h2, Reads.of_own h⟩
end
end Go.Proofs.Ytifdnihmjjlepaa.stamps
