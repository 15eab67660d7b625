/- Two stores side by side; rows of a store told as the document has them. -/
import Derived.Test.YtgfamdakjcjdkaaDoorAppS
namespace Go.Proofs.YtgfamdakjcjdkaaDoor.store
open Go Go.RowKit Go.Proofs.YtgfamdakjcjdkaaDoor.base Go.Proofs.YtgfamdakjcjdkaaDoor.above Go.Proofs.YtgfamdakjcjdkaaDoor.law Go.Proofs.YtgfamdakjcjdkaaDoor.merge Go.Proofs.YtgfamdakjcjdkaaDoor.rows

/-- two stores, apart, all of whose blocks are newer than w0, which is as it was -/
structure Two (w0 : World) (g b g' b' : Nat) (L L' : List R) (w : World) : Prop where
  one : StI w g b L
  two : StI w g' b' L'
  ap1 : b ≠ b'
  ap2 : b ≠ g'
  ap3 : b' ≠ g
  lo1 : w0.heap.size ≤ b
  lo2 : w0.heap.size ≤ b'
  bel : Below w0.heap.size w0 w
section
variable {w0 w w' : World} {g b g' b' : Nat} {L L' M : List R}
theorem Two.below (h : Two w0 g b g' b' L L' w) (hb : Below w.heap.size w w') : Two w0 g b g' b' L L' w' :=
  ⟨h.one.below hb, h.two.below hb, h.ap1, h.ap2, h.ap3, h.lo1, h.lo2, below_step h.bel hb⟩
theorem Two.step1 (h : Two w0 g b g' b' L L' w) (hs : StI w' g b M) (hk : Keeps (· = b) w w') : Two w0 g b g' b' M L' w' :=
  ⟨hs, h.two.keeps hk (Ne.symm h.ap2) (Ne.symm h.ap1), h.ap1, h.ap2, h.ap3, h.lo1, h.lo2, below_keeps h.bel (Nat.le_refl _) hk (fun i hi e => by have := h.lo1; omega)⟩
theorem Two.step2 (h : Two w0 g b g' b' L L' w) (hs : StI w' g' b' M) (hk : Keeps (· = b') w w') : Two w0 g b g' b' L M w' :=
  ⟨h.one.keeps hk (Ne.symm h.ap3) h.ap1, hs, h.ap1, h.ap2, h.ap3, h.lo1, h.lo2, below_keeps h.bel (Nat.le_refl _) hk (fun i hi e => by have := h.lo2; omega)⟩
end
theorem two_new {w0 w w1 w2 : World} (hb : Below w0.heap.size w0 w) (h1 : StI w1 (w.heap.size + 1) w.heap.size []) (hb1 : Below w.heap.size w w1) (h2 : StI w2 (w1.heap.size + 1) w1.heap.size []) (hb2 : Below w1.heap.size w1 w2) :
    Two w0 (w.heap.size + 1) w.heap.size (w1.heap.size + 1) w1.heap.size [] [] w2 := by
  have := h1.lt
  have := hb.size
  exact ⟨h1.below hb2, h2, by omega, by omega, by omega, by omega, by omega, below_step (below_step hb hb1) hb2⟩
theorem wt_apply (g bm : Nat) (L : List R) (x : Wt) (w : World) (h : StI w g bm L) (hx : x.ss.size ≤ maxLen ∧ x.ky.size ≤ maxLen) :
    Calls Tryd.prog 12 #[.pointer (some ⟨g, 0, none⟩), .agg ⟨x.cells⟩] w (ApplyR g bm L x.name x.cell w) :=
  apply_any g bm L x.rg x.nm x.t x.r x.A x.n x.c x.ss x.ky x.v x.gn x.l w h hx.1 hx.2
/-- a row of one's own, read -/
theorem own_reads {w : World} {base : Nat} {e : TypeId} {v : Value} {n : Nat} {L : List R} (h : w.ownsRow base e 7 v n (L.flatMap rcells)) : ∃ A c, v = .slice A n c ∧ Reads w w.heap.size 7 A n (L.flatMap rcells) := by
  obtain ⟨A, c, rfl⟩ := ownsRow_slice h
  exact ⟨A, c, rfl, Reads.of_own h⟩
theorem wt_at' {w : World} {m B b off : Nat} {L : List Wt} (h : Reads w B 10 (some ⟨b, off, none⟩) m (L.flatMap Wt.cells)) (hl : L.length = m) {k : Nat} (hk : k < m) : ∀ q v, (L.getD k wtZ).cells[q]? = some v → w.cell? ⟨b, off + k * 10 + q, none⟩ = some v := by
  obtain ⟨b', off', e, _, hc⟩ := wt_at h hl hk
  injection e with e; injection e with e1 e2 _
  subst e1 e2
  exact hc
theorem wt_mem {L : List Wt} {P : Wt → Prop} (h : ∀ x ∈ L, P x) {k : Nat} (hk : k < L.length) : P (L.getD k wtZ) := by
  rw [List.getD_eq_getElem?_getD, List.getElem?_eq_getElem hk]
  exact h _ (List.getElem_mem hk)
end Go.Proofs.YtgfamdakjcjdkaaDoor.store
