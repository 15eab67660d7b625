/- store.Of: a store of rising rows; the first row that can't be, told by its number. -/
import Derived.Test.YtfcgffemdcfiiaaDoorTwoS
namespace Go.Proofs.YtfcgffemdcfiiaaDoor.store
open Go Go.RowKit Go.Proofs.YtfcgffemdcfiiaaDoor.base Go.Proofs.YtfcgffemdcfiiaaDoor.err Go.Proofs.YtfcgffemdcfiiaaDoor.cmp Go.Proofs.YtfcgffemdcfiiaaDoor.above Go.Proofs.YtfcgffemdcfiiaaDoor.law Go.Proofs.YtfcgffemdcfiiaaDoor.merge Go.Proofs.YtfcgffemdcfiiaaDoor.rows Go.Proofs.YtfcgffemdcfiiaaDoor.rowe Go.Proofs.YtfcgffemdcfiiaaDoor.monoj

/-- an error of package fail, whole: where, at which number, which code -/
def ErrAt (w : World) (v : Value) (s : ByteArray) (n c : Int) : Prop := ∃ g, v = .iface 99 (.pointer (some ⟨g, 0, none⟩)) ∧ Blk w g 101 #[.string s, .int .i64 n, .iface 29 (.int .i64 c)]
theorem ErrAt.err {w : World} {v : Value} {s : ByteArray} {n c : Int} (h : ErrAt w v s n c) : Err w v c := by
  obtain ⟨g, rfl, h⟩ := h
  exact ⟨g, rfl, h.lt, h.cell 2⟩
theorem ErrAt.below {w w' : World} {v : Value} {s : ByteArray} {n c : Int} (h : ErrAt w v s n c) (hb : Below w.heap.size w w') : ErrAt w' v s n c := by
  obtain ⟨g, rfl, h⟩ := h
  exact ⟨g, rfl, h.below hb h.lt⟩
def AtNew (s : ByteArray) (n c : Int) (w : World) (e : Ending) (w' : World) : Prop := ∃ v, e = .returned v ∧ ErrAt w' v s n c ∧ Below w.heap.size w w'
theorem at_whole (s : ByteArray) (n c : Int) (w : World) : Calls Tryd.prog 35 #[.string s, .int .i64 n, .iface 29 (.int .i64 c)] w (AtNew s n c w) := by
  go_enter Tryd.func35, Tryd.ntmps35
  go_wp2
  go_ret
  exact ⟨_, rfl, ⟨_, rfl, by exact Blk.new _ _ _⟩, below_new _ _⟩
theorem Grown.below {w w' : World} (h : Grown w w') : Below w.heap.size w w' := by
  obtain ⟨q, os, rfl⟩ := h
  refine ⟨rfl, rfl, rfl, by simp [World.drewN], fun k hk => ?_⟩
  unfold Go.Sort.grow
  rw [Array.getElem?_append_left (by exact hk)]
  rfl
theorem put_end {T : List R} {x : Nm} {c : C} (h : ∀ p ∈ T, ltN p.1 x = true) : putL T x c = T ++ [(x, c)] := by
  induction T with
  | nil => rfl
  | cons p T ih =>
    have h1 := h p (by simp)
    unfold putL
    rw [if_neg (ltN_ne h1), if_neg (by rw [ltN_asymm h1]; decide), ih (fun q hq => h q (by simp [hq]))]
    rfl
theorem rising_snoc {T : List R} {x : R} (h : Rising T) (hl : ∀ p ∈ T, ltN p.1 x.1 = true) : Rising (T ++ [x]) :=
  List.pairwise_append.2 ⟨h, List.pairwise_singleton _ _, fun a ha b hb => by rw [List.mem_singleton.1 hb]; exact hl a ha⟩
theorem rising_last {T : List R} {x : R} (h : Rising T) (hk : 0 < T.length) (hl : ltN (T.getD (T.length - 1) rZ).1 x.1 = true) : ∀ p ∈ T, ltN p.1 x.1 = true := by
  intro p hp
  obtain ⟨i, hi, rfl⟩ := List.getElem_of_mem hp
  rw [List.getD_eq_getElem?_getD, List.getElem?_eq_getElem (show T.length - 1 < T.length by omega)] at hl
  by_cases e : i = T.length - 1
  · subst e; exact hl
  · have := List.pairwise_iff_getElem.1 h i (T.length - 1) hi (by omega) (by omega)
    exact ltN_trans this hl
/-- row i can't stand behind the one ahead of it -/
def wrongAt (L : List R) (i : Nat) : Prop := 0 < i ∧ i < L.length ∧ ltN (L.getD (i - 1) rZ).1 (L.getD i rZ).1 = false
def OfYes (L : List R) (w : World) (e : Ending) (w' : World) : Prop :=
  Rising L ∧ ∃ g bm, e = .returned (.tuple #[.pointer (some ⟨g, 0, none⟩), .nilIface]) ∧ StI w' g bm L ∧ w.heap.size ≤ g ∧ w.heap.size ≤ bm ∧ Below w.heap.size w w'
def OfNo (L : List R) (w : World) (e : Ending) (w' : World) : Prop :=
  ∃ i v, wrongAt L i ∧ Rising (L.take i) ∧ e = .returned (.tuple #[.pointer none, v]) ∧ ErrAt w' v ⟨#[115, 116, 111, 114, 101]⟩ i 1 ∧ Below w.heap.size w w'
def OfR (L : List R) (w : World) (e : Ending) (w' : World) : Prop := OfYes L w e w' ∨ OfNo L w e w'
theorem cells7 {w : World} {g : Nat} {T : TypeId} {a0 a1 a2 a3 a4 a5 a6 : Value} (h : Blk w g T #[a0, a1, a2, a3, a4, a5, a6]) :
    w.cell? ⟨g, 0, none⟩ = some a0 ∧ w.cell? ⟨g, 1, none⟩ = some a1 ∧ w.cell? ⟨g, 2, none⟩ = some a2 ∧ w.cell? ⟨g, 3, none⟩ = some a3 ∧ w.cell? ⟨g, 4, none⟩ = some a4 ∧ w.cell? ⟨g, 5, none⟩ = some a5 ∧ w.cell? ⟨g, 6, none⟩ = some a6 :=
  ⟨h.cell 0, h.cell 1, h.cell 2, h.cell 3, h.cell 4, h.cell 5, h.cell 6⟩
theorem row_at' {w : World} {m B b off : Nat} {L : List R} (h : Reads w B 7 (some ⟨b, off, none⟩) m (L.flatMap rcells)) (hl : L.length = m) {k : Nat} (hk : k < m) : ∀ q v, (rcells (L.getD k rZ))[q]? = some v → w.cell? ⟨b, off + k * 7 + q, none⟩ = some v := by
  obtain ⟨b', off', e, _, hc⟩ := row_at h hl hk
  injection e with e; injection e with e1 e2 _
  subst e1 e2
  exact hc
end Go.Proofs.YtfcgffemdcfiiaaDoor.store
