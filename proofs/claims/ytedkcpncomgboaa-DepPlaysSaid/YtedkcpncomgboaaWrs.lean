/- Lists of writes in memory: to read, and of one's own. -/
import Derived.Test.YtedkcpncomgboaaClone
namespace Go.Proofs.Ytedkcpncomgboaa.wire
open Go.RowKit Go.Proofs.Ytedkcpncomgboaa.base Go.Proofs.Ytedkcpncomgboaa.rowe Go.Proofs.Ytedkcpncomgboaa.err

theorem write_info : (Try.prog.info? 35).map (fun i => (i.zero, i.size, i.bytes)) = some (some (.agg #[.int .i64 0, .int .i64 0, .int .i64 0, .int .i64 0, .slice none 0 0, .string ⟨#[]⟩, .string ⟨#[]⟩, .string ⟨#[]⟩, .bool false, .int .i64 0]), 10, 120) := by kernel_rfl
/-- a write but for where its numbers lie -/
def Wr.abs (x : Wr) : Wr := { x with d := .slice none 0 0 }
theorem abs_d (x : Wr) (d : Value) : ({ x with d := d } : Wr).abs = x.abs := rfl
/-- a list of writes to read -/
def RW (w : World) (v : Value) (L : List Wr) : Prop := ∃ A c, v = .slice A L.length c ∧ L.length ≤ 1000000 ∧ L.length ≤ c ∧ Reads w w.heap.size 10 A L.length (L.flatMap Wr.cells) ∧ ∀ x ∈ L, Nums w w.heap.size x.d x.z ∧ x.z.length ≤ 1000000
theorem RW.below {w w' : World} {v : Value} {L : List Wr} (h : RW w v L) (hb : Below w.heap.size w w') : RW w' v L := by
  obtain ⟨A, c, h1, h2, h2', h3, h4⟩ := h
  exact ⟨A, c, h1, h2, h2', (h3.below hb).more hb.size, fun x hx => ⟨((h4 x hx).1.below hb).more hb.size, (h4 x hx).2⟩⟩
/-- a list of writes of one's own -/
structure OW (w : World) (S : Nat → Prop) (lo : Nat) (v : Value) (L : List Wr) : Prop where
  row : w.ownsRow lo 35 10 v L.length (L.flatMap Wr.cells)
  few : L.length ≤ 1000000
  nums : ∀ x ∈ L, NumsO w lo x.d x.z
  inS : ∀ i, v.ownBlock = some i → S i
  numS : ∀ x ∈ L, ∀ i, x.d.ownBlock = some i → S i
theorem oneW (x : Wr) (h : x.d.oneCell' = true) : ∀ u ∈ x.cells, u.oneCell' = true := by
  intro u hu
  simp [Wr.cells] at hu
  rcases hu with rfl | rfl | rfl | rfl | rfl | rfl | rfl | rfl | rfl | rfl <;> first | exact h | rfl
theorem oneAll (x : Wr) (h : x.d.oneCell' = true) : x.cells.all (·.oneCell') = true := List.all_eq_true.2 (fun u hu => oneW x h u hu)
theorem nums_one {w : World} {B : Nat} {d : Value} {zs : List Int} (h : Nums w B d zs) : d.oneCell' = true := by obtain ⟨A, m, c, rfl, _⟩ := h; rfl
theorem OW.rw {w : World} {S : Nat → Prop} {lo : Nat} {v : Value} {L : List Wr} (h : OW w S lo v L) : RW w v L := by
  obtain ⟨A, c, rfl⟩ := ownsRow_slice h.row
  refine ⟨A, c, rfl, h.few, ?_, Reads.of_own h.row, fun x hx => ⟨(h.nums x hx).nums, (h.nums x hx).2⟩⟩
  rcases h.row.2 with ⟨e, h0⟩ | ⟨g, cap, cur, e, h1, h2, h3, _⟩
  · rw [h0]; exact Nat.zero_le _
  · injection e with _ _ e; omega
theorem OW.keeps {X S : Nat → Prop} {w w' : World} {lo : Nat} {v : Value} {L : List Wr} (h : OW w S lo v L) (hk : Keeps X w w') (hx : ∀ i, S i → ¬ X i) : OW w' S lo v L := by
  refine ⟨⟨h.row.1, h.row.2.imp id ?_⟩, h.few, fun x hx' => (h.nums x hx').keeps hk (fun g hg => hx g (h.numS x hx' g hg)), h.inS, h.numS⟩
  rintro ⟨g, cap, cur, rfl, h1, h2, h3⟩
  exact ⟨g, cap, cur, rfl, h1, (hk.block g (heap_lt h2) (hx g (h.inS g rfl))).trans h2, h3⟩
theorem OW.more {S S' : Nat → Prop} {w : World} {lo : Nat} {v : Value} {L : List Wr} (h : OW w S lo v L) (hs : ∀ i, S i → S' i) : OW w S' lo v L :=
  ⟨h.row, h.few, h.nums, fun i hi => hs i (h.inS i hi), fun x hx i hi => hs i (h.numS x hx i hi)⟩
theorem OW.none (w : World) (S : Nat → Prop) (lo : Nat) : OW w S lo (.slice none 0 0) [] := ⟨⟨rfl, .inl ⟨rfl, rfl⟩⟩, by simp, by simp, (fun i hi => by cases hi), by simp⟩
/-- one more behind -/
theorem OW.push {S : Nat → Prop} {w w5 : World} {lo : Nat} {v v5 : Value} {L : List Wr} {x : Wr} (h : OW w S lo v L) (hd : NumsO w lo x.d x.z) (hds : ∀ i, x.d.ownBlock = some i → S i) (hrow : w5.ownsRow lo 35 10 v5 (L.length + 1) (L.flatMap Wr.cells ++ x.cells)) (hg : w.grownBy w5 v.ownBlock)
    (hv : v5.ownBlock = v.ownBlock ∨ ∃ g, v5.ownBlock = some g ∧ S g) (hl : L.length < 1000000) : OW w5 S lo v5 (L ++ [x]) := by
  have hk : Keeps (fun i => v.ownBlock = some i) w w5 := .grown hg fun g hg => .inl hg
  have hne : ∀ y : Wr, NumsO w lo y.d y.z → NumsO w5 lo y.d y.z := fun y hy => by
    refine hy.keeps hk fun g hg1 hg2 => ?_
    rcases hy.1.2 with ⟨e, _⟩ | ⟨g1, _, _, e, _, e2, _⟩
    · rw [e] at hg1; cases hg1
    · rcases h.row.2 with ⟨e', _⟩ | ⟨g3, _, _, e', _, e4, _⟩
      · rw [e'] at hg2; cases hg2
      · rw [e] at hg1
        rw [e'] at hg2
        simp [Value.ownBlock] at hg1 hg2
        subst hg1 hg2
        rw [e2] at e4
        injection e4 with e4
        injection e4 with _ e4 _
        exact absurd e4 (by decide)
  refine ⟨?_, by simp; omega, ?_, ?_, ?_⟩
  · simpa [List.flatMap_append] using hrow
  · intro y hy
    rcases List.mem_append.1 hy with hy | hy
    · exact hne y (h.nums y hy)
    · rw [List.mem_singleton.1 hy]; exact hne x hd
  · intro i hi
    rcases hv with hv | ⟨g, hv, hs⟩
    · exact h.inS i (hv ▸ hi)
    · rw [hv] at hi; injection hi with hi; rw [← hi]; exact hs
  · intro y hy i hi
    rcases List.mem_append.1 hy with hy | hy
    · exact h.numS y hy i hi
    · rw [List.mem_singleton.1 hy] at hi; exact hds i hi
end Go.Proofs.Ytedkcpncomgboaa.wire
