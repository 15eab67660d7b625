/- What the store laws' walks share: an argument list, opened; loops that apply it. -/
import Derived.Test.YtgfamdakjcjdkaaDoorOfS
namespace Go.Proofs.YtgfamdakjcjdkaaDoor.store
open Go Go.RowKit Go.Proofs.YtgfamdakjcjdkaaDoor.base Go.Proofs.YtgfamdakjcjdkaaDoor.err Go.Proofs.YtgfamdakjcjdkaaDoor.above Go.Proofs.YtgfamdakjcjdkaaDoor.law Go.Proofs.YtgfamdakjcjdkaaDoor.merge Go.Proofs.YtgfamdakjcjdkaaDoor.rows

/-- a list of at most 80 writes, whatever its address -/
structure Lst (w : World) (A : Option Addr) (m c : Nat) (l : List Wt) : Prop where
  len : l.length = m
  reads : Reads w w.heap.size 10 A m (l.flatMap Wt.cells)
  ok : ∀ x ∈ l, x.ss.size ≤ maxLen ∧ x.ky.size ≤ maxLen
theorem lst_of {w : World} {v : Value} (h : Arg Tryd.prog w 31 v) : ∃ A m c l, v = .slice A m c ∧ Lst w A m c l ∧ m ≤ maxLen ∧ WtsR w v l := by
  obtain ⟨l, hl⟩ := wts_of h
  obtain ⟨A, c, rfl, hm, hr, hn⟩ := id hl
  exact ⟨A, l.length, c, l, rfl, ⟨rfl, hr, hn⟩, hm, hl⟩
theorem great_few {l : List Wt} (h : greatW l = false) : l.length ≤ 80 := by
  unfold greatW at h
  simp only [Bool.or_eq_false_iff, decide_eq_false_iff_not] at h
  omega
theorem Lst.cells {w w' : World} {A : Option Addr} {m c : Nat} {l : List Wt} (h : Lst w A m c l) (hb : Below w.heap.size w w') {k : Nat} (hk : k < m) :
    ∃ b off, A = some ⟨b, off, none⟩ ∧ b < w'.heap.size ∧ (∀ q v, (l.getD k wtZ).cells[q]? = some v → w'.cell? ⟨b, off + k * 10 + q, none⟩ = some v) ∧ (l.getD k wtZ).ss.size ≤ maxLen ∧ (l.getD k wtZ).ky.size ≤ maxLen := by
  obtain ⟨b, off, e, h1, h2⟩ := wt_at (h.reads.below hb) h.len hk
  exact ⟨b, off, e, Nat.lt_of_lt_of_le h1 hb.size, h2, wt_mem h.ok (by rw [h.len]; exact hk)⟩
end Go.Proofs.YtgfamdakjcjdkaaDoor.store
