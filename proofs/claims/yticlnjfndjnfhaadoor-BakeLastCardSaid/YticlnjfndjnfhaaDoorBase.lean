/- Small laws on memory that all texts of this seat use: what a reading of an argument says of its cells; a slice that reads as a list; frames. Over any program; nothing of the program is named. -/
import Derived.WalkKit
import Derived.ProofKit
import Derived.OpenShut
import Derived.Below
import Derived.Laws.OwnMore
import Derived.Deep.Draws
import Derived.Deep.Slices
import Derived.Deep.AppendLies
import Derived.Maps.AppendAt
import Derived.RegionTactic
import Derived.OwnWalk
import Derived.Deep.RegionHeld3
import Derived.Lib.Hide
namespace Go.Proofs.YticlnjfndjnfhaaDoor.base
open Go.RowKit Go.ChangeShapes Go.WideShapes

/-! ### what an argument reads as -/
/-- The cells 'cs' read as a value of type 't'. -/
def Sees (P : Program) (w : World) (t : TypeId) (cs : List Value) : Prop :=
  ∃ (H : Type) (enc : TypeId × Value → H) (fuel : Nat) (x : DataW H × List MemPlace), DataW.trod enc P w 0 (fun _ => true) true fuel t cs = some x
/-- An argument: its shape, and that it reads. -/
def Arg (P : Program) (w : World) (t : TypeId) (v : Value) : Prop := (∃ r b0, Value.okWide P w r b0 t v) ∧ Sees P w t v.cells.toList

section
variable {P : Program} {w : World} {t e : TypeId} {cs : List Value} {v : Value}
theorem Arg.of {H : Type} {enc : TypeId × Value → H} {r : Reach} {b0 : Nat} {d : DataW H} {ps : List MemPlace} (hv : Value.okWide P w r b0 t v) (h : DataW.Trod enc P w 0 (fun _ => true) true t v d ps) : Arg P w t v :=
  ⟨⟨r, b0, hv⟩, H, enc, h.choose, (d, ps), h.choose_spec⟩
theorem Sees.int {k : IntKind} (ht : P.underlying t = some (.int k)) (h : Sees P w t cs) : ∃ n, cs = [.int k n] ∧ (Lit.int k n).wf = true := by
  obtain ⟨H, enc, fuel, x, h⟩ := h
  cases fuel with
  | zero => simp [DataW.trod] at h
  | succ m =>
    unfold DataW.trod at h
    rw [ht] at h
    split at h <;> simp_all
theorem Sees.bool (ht : P.underlying t = some .bool) (h : Sees P w t cs) : ∃ b, cs = [.bool b] := by
  obtain ⟨H, enc, fuel, x, h⟩ := h
  cases fuel with
  | zero => simp [DataW.trod] at h
  | succ m =>
    unfold DataW.trod at h
    rw [ht] at h
    split at h <;> simp_all
theorem Sees.string (ht : P.underlying t = some .string) (h : Sees P w t cs) : ∃ s : ByteArray, cs = [.string s] ∧ s.size ≤ maxLen := by
  obtain ⟨H, enc, fuel, x, h⟩ := h
  cases fuel with
  | zero => simp [DataW.trod] at h
  | succ m =>
    unfold DataW.trod at h
    rw [ht] at h
    split at h <;> simp_all
theorem Sees.struct {fs : Array Field} (ht : P.underlying t = some (.struct fs)) (h : Sees P w t cs) :
    cs.length = P.cellsOf t ∧ ∀ f ∈ fs.toList, Sees P w f.type ((cs.drop f.offset).take (P.cellsOf f.type)) := by
  obtain ⟨H, enc, fuel, x, h⟩ := h
  obtain ⟨xs, n, _, _, hl, hlen, hf⟩ := DataW.trod_struct ht h
  refine ⟨hl, fun f hm => ?_⟩
  obtain ⟨i, hi, rfl⟩ := List.getElem_of_mem hm
  have hi' : i < fs.size := by simpa using hi
  have := hf i _ (Array.getElem?_eq_getElem hi')
  refine ⟨H, enc, n, xs[i]'(by omega), ?_⟩
  simp only [Array.getElem_toList]
  rw [this]
  exact List.getElem?_eq_getElem (by omega)
theorem Sees.array {n : Nat} (ht : P.underlying t = some (.array n e)) (h : Sees P w t cs) :
    cs.length = P.cellsOf t ∧ ∀ i, i < n → Sees P w e ((cs.drop (i * P.cellsOf e)).take (P.cellsOf e)) := by
  obtain ⟨H, enc, fuel, x, h⟩ := h
  obtain ⟨xs, m, _, _, hl, hlen, hf⟩ := DataW.trod_array ht h
  refine ⟨hl, fun i hi => ?_⟩
  have := hf i hi
  exact ⟨H, enc, m, xs[i]'(by omega), this.trans (List.getElem?_eq_getElem (by omega))⟩
theorem Sees.slice (ht : P.underlying t = some (.slice e)) (h : Sees P w t cs) :
    cs = [.slice none 0 0] ∨ ∃ (a : Addr) (len cap : Nat), cs = [.slice (some a) len cap] ∧ len ≤ cap ∧ cap ≤ maxLen ∧
      ∀ i, i < cap → ∃ es, w.cells? 0 (a.add (i * P.cellsOf e)) (P.cellsOf e) = some es ∧ Sees P w e es := by
  obtain ⟨H, enc, fuel, x, h⟩ := h
  rcases Go.Deep.open_slice ht h with ⟨h0, _⟩ | ⟨a, len, cap, m, n, D, Pl, h1, _, h2, h3, h4, _, h6⟩
  · exact .inl h0
  · right
    simp only [if_true] at h4
    subst h4
    refine ⟨a, len, m, h1, h2, h3, fun i hi => ?_⟩
    obtain ⟨es, e1, e2⟩ := h6 i hi
    exact ⟨es, e1, H, enc, n, _, e2⟩
theorem Arg.int {k : IntKind} (ht : P.underlying t = some (.int k)) (h : Arg P w t v) : ∃ n, v = .int k n ∧ (Lit.int k n).wf = true := by
  obtain ⟨⟨r, b0, hv⟩, hs⟩ := h
  obtain ⟨n, rfl⟩ := okWide_int ht hv
  obtain ⟨m, hm, hw⟩ := hs.int ht
  simp [Value.cells] at hm
  exact ⟨n, rfl, hm ▸ hw⟩
theorem Arg.bool (ht : P.underlying t = some .bool) (h : Arg P w t v) : ∃ b, v = .bool b := okWide_bool ht h.1.choose_spec.choose_spec
theorem Arg.string (ht : P.underlying t = some .string) (h : Arg P w t v) : ∃ s : ByteArray, v = .string s ∧ s.size ≤ maxLen := by
  obtain ⟨⟨r, b0, hv⟩, hs⟩ := h
  obtain ⟨s, rfl⟩ := okWide_string ht hv
  obtain ⟨m, hm, hw⟩ := hs.string ht
  simp [Value.cells] at hm
  exact ⟨s, rfl, hm ▸ hw⟩
theorem Arg.agg (ht : (∃ fs, P.underlying t = some (.struct fs)) ∨ ∃ n e, P.underlying t = some (.array n e)) (h : Arg P w t v) : ∃ l : List Value, v = .agg ⟨l⟩ ∧ l.length = P.cellsOf t ∧ Sees P w t l := by
  obtain ⟨⟨r, b0, hv⟩, hs⟩ := h
  have hv' := hv
  rcases ht with ⟨fs, ht⟩ | ⟨n, e, ht⟩
  · simp only [Value.okWide, ht] at hv
    obtain ⟨cs, rfl, h2, _⟩ := hv
    exact ⟨cs.toList, rfl, by simpa using h2, by simpa [Value.cells] using hs⟩
  · simp only [Value.okWide, ht] at hv
    obtain ⟨cs, rfl, h2, _⟩ := hv
    exact ⟨cs.toList, rfl, by simpa using h2, by simpa [Value.cells] using hs⟩
theorem Arg.slice (ht : P.underlying t = some (.slice e)) (h : Arg P w t v) :
    v = .slice none 0 0 ∨ ∃ (a : Addr) (len cap : Nat), v = .slice (some a) len cap ∧ len ≤ cap ∧ cap ≤ maxLen ∧
      ∀ i, i < cap → ∃ es, w.cells? 0 (a.add (i * P.cellsOf e)) (P.cellsOf e) = some es ∧ Sees P w e es := by
  obtain ⟨⟨r, b0, hv⟩, hs⟩ := h
  obtain ⟨a, len, cap, rfl⟩ := okWide_slice ht hv
  rcases hs.slice ht with h1 | ⟨a', len', cap', h1, h2⟩
  · left; simpa [Value.cells] using h1
  · right
    simp [Value.cells] at h1
    obtain ⟨rfl, rfl, rfl⟩ := h1
    exact ⟨a', len, cap, rfl, h2⟩
end

/-! ### a slice that reads as a list of cells -/
/-- The slice with address 'A' and 'n' elements of 'size' cells holds the cells 'xs', below block 'B'. -/
def Reads (w : World) (B size : Nat) (A : Option Addr) (n : Nat) (xs : List Value) : Prop :=
  xs.length = n * size ∧ (0 < n → ∃ b off, A = some ⟨b, off, none⟩ ∧ b < B ∧ ∀ j, j < xs.length → w.cell? ⟨b, off + j, none⟩ = xs[j]?)

theorem cell_lt {w : World} {b off : Nat} {s : Option Nat} {v : Value} (h : w.cell? ⟨b, off, s⟩ = some v) : b < w.heap.size := by
  rcases Nat.lt_or_ge b w.heap.size with h' | h'
  · exact h'
  · simp [World.cell?, Array.getElem?_eq_none h'] at h
section
variable {w w' : World} {B B' size n : Nat} {A : Option Addr} {xs : List Value}
theorem Reads.none_ : Reads w B size A 0 [] := ⟨by simp, fun h => absurd h (by omega)⟩
theorem Reads.keep (h : Reads w B size A n xs) (hk : ∀ b o, b < B → w'.cell? ⟨b, o, none⟩ = w.cell? ⟨b, o, none⟩) : Reads w' B size A n xs :=
  ⟨h.1, fun hn => by
    obtain ⟨b, off, e, hb, hc⟩ := h.2 hn
    exact ⟨b, off, e, hb, fun j hj => (hk _ _ hb).trans (hc j hj)⟩⟩
theorem Reads.more (h : Reads w B size A n xs) (hB : B ≤ B') : Reads w B' size A n xs :=
  ⟨h.1, fun hn => by
    obtain ⟨b, off, e, hb, hc⟩ := h.2 hn
    exact ⟨b, off, e, by omega, hc⟩⟩
theorem Reads.below (h : Reads w B size A n xs) (hb : Below B w w') : Reads w' B size A n xs := h.keep fun b o hp => hb.cell (p := ⟨b, o, none⟩) hp
theorem Reads.drewN (h : Reads w B size A n xs) (k : Nat) : Reads (w.drewN k) B size A n xs := h
theorem Reads.alloc (h : Reads w B size A n xs) (hB : B ≤ w.heap.size) (o : Obj) : Reads (w.alloc o) B size A n xs := h.keep fun b o' hp => World.cell?_alloc_lt w o ⟨b, o', none⟩ (by simpa using Nat.lt_of_lt_of_le hp hB)
theorem Reads.setCell (h : Reads w B size A n xs) {p : Addr} (hB : B ≤ p.block) (u : Value) : Reads (w.setCell p u) B size A n xs :=
  h.keep fun b o hq => World.cell?_setCell_other w p ⟨b, o, none⟩ u (fun e => by subst e; simp at hB; omega)
theorem Reads.grown (h : Reads w B size A n xs) {row : Option Nat} (hg : w.grownBy w' row) (hB : B ≤ w.heap.size) (hr : ∀ g, row = some g → B ≤ g) : Reads w' B size A n xs :=
  h.keep fun b o hp => World.cell?_of_block (hg.block b (by omega) (fun e => by have := hr _ e.symm; omega))
theorem Reads.new (w : World) (cs : Array Value) (t : TypeId) (fr : Nat × Nat) {n size : Nat} (h : cs.size = n * size) : Reads (w.alloc (.cells cs t fr)) (w.alloc (.cells cs t fr)).heap.size size (some ⟨w.heap.size, 0, none⟩) n cs.toList :=
  ⟨by simpa using h, fun _ => ⟨w.heap.size, 0, rfl, by simp, fun j hj => by
    rw [cell_of_row _ w.heap.size (0 + j) cs t fr (heap_alloc_new w _)]
    simp⟩⟩
theorem Reads.newD (w : World) (cs : Array Value) (t : TypeId) (fr : Nat × Nat) {n size : Nat} (h : cs.size = n * size) : Reads (w.alloc (.cells cs t fr)).drew (w.alloc (.cells cs t fr)).drew.heap.size size (some ⟨w.heap.size, 0, none⟩) n cs.toList := Reads.new w cs t fr h
theorem Reads.newAt (w : World) (cs : Array Value) (t : TypeId) (fr : Nat × Nat) {g n size : Nat} (hg : g = w.heap.size) (h : cs.size = n * size) : Reads (w.alloc (.cells cs t fr)) (w.alloc (.cells cs t fr)).heap.size size (some ⟨g, 0, none⟩) n cs.toList := by subst hg; exact Reads.new w cs t fr h
theorem Reads.newAtD (w : World) (cs : Array Value) (t : TypeId) (fr : Nat × Nat) {g n size : Nat} (hg : g = w.heap.size) (h : cs.size = n * size) : Reads (w.alloc (.cells cs t fr)).drew (w.alloc (.cells cs t fr)).drew.heap.size size (some ⟨g, 0, none⟩) n cs.toList := by subst hg; exact Reads.new w cs t fr h
theorem Reads.of_own {base : Nat} {e : TypeId} {c : Nat} (h : w.ownsRow base e size (.slice A n c) n xs) : Reads w w.heap.size size A n xs := by
  refine ⟨h.1, fun hn => ?_⟩
  obtain ⟨g, cap, hv, _, hlt⟩ := h.form hn
  have hA : A = some ⟨g, 0, none⟩ := by injection hv
  subst hA
  refine ⟨g, 0, rfl, hlt, fun j hj => ?_⟩
  have := h.cells (g := g) rfl j _ (List.getElem?_eq_getElem hj)
  rw [List.getElem?_eq_getElem hj, ← this]
  simp only [Addr.add]
  split <;> simp_all
end

/-! ### an argument that is a slice of one-cell things -/
theorem add_plain' (b off i : Nat) : (⟨b, off, none⟩ : Addr).add i = ⟨b, off + i, none⟩ := by
  unfold Addr.add; split <;> simp_all
theorem spot_of {w : World} {a : Addr} {i : Nat} {v : Value} (h : w.cell? (a.add i) = some v) : i = 0 → a.spot = none := by
  rintro rfl
  have := World.cell?_spot h
  simpa [Addr.add] using this
/-- Every slice argument, by its elements' cells: nil and empty ones let in. 'cells i' are those of element i, for all i up to the capacity. -/
theorem rows_of {P : Program} {w : World} {e : TypeId} {v : Value} (hpos : 0 < P.cellsOf e) (h : v = .slice none 0 0 ∨ ∃ (a : Addr) (len cap : Nat), v = .slice (some a) len cap ∧ len ≤ cap ∧ cap ≤ maxLen ∧ ∀ i, i < cap → ∃ es, w.cells? 0 (a.add (i * P.cellsOf e)) (P.cellsOf e) = some es ∧ Sees P w e es) :
    ∃ (A : Option Addr) (len cap : Nat) (rows : List (List Value)), v = .slice A len cap ∧ len ≤ cap ∧ cap ≤ maxLen ∧ rows.length = cap ∧ (∀ r ∈ rows, r.length = P.cellsOf e ∧ Sees P w e r) ∧
      Reads w w.heap.size (P.cellsOf e) A cap rows.flatten ∧ (A = none → len = 0 ∧ cap = 0) := by
  rcases h with rfl | ⟨a, len, cap, rfl, hl, hm, hc⟩
  · exact ⟨none, 0, 0, [], rfl, Nat.le_refl _, Nat.zero_le _, rfl, by simp, Reads.none_, by simp⟩
  · rcases Nat.eq_zero_or_pos cap with h0 | h0
    · subst h0
      exact ⟨some a, len, 0, [], rfl, hl, hm, rfl, by simp, Reads.none_, by simp⟩
    · obtain ⟨es0, he0, _⟩ := hc 0 h0
      obtain ⟨_, hl0, hat0⟩ := World.cells?_some he0
      have hspot : a.spot = none := by
        have h1 := hat0 0 hpos
        rw [List.getElem?_eq_getElem (by omega)] at h1
        have := World.cell?_spot h1
        simpa [Addr.add] using this
      obtain ⟨b, off, s⟩ := a
      simp at hspot
      subst hspot
      have hb : b < w.heap.size := by
        have h1 := hat0 0 hpos
        rw [List.getElem?_eq_getElem (by omega)] at h1
        simp only [add_plain'] at h1
        exact cell_lt h1
      have hex : ∀ i : Nat, ∃ es : List Value, i < cap → es.length = P.cellsOf e ∧ Sees P w e es ∧ ∀ j, j < P.cellsOf e → w.cell? ⟨b, off + i * P.cellsOf e + j, none⟩ = es[j]? := by
        intro i
        by_cases hi : i < cap
        · obtain ⟨es, h1, h2⟩ := hc i hi
          obtain ⟨_, h3, h4⟩ := World.cells?_some h1
          exact ⟨es, fun _ => ⟨h3, h2, fun j hj => by have := h4 j hj; simpa only [add_plain'] using this⟩⟩
        · exact ⟨[], fun h => absurd h hi⟩
      refine ⟨some ⟨b, off, none⟩, len, cap, (List.range cap).map (fun i => (hex i).choose), rfl, hl, hm, by simp, ?_, ?_, by simp⟩
      · intro r hr
        simp only [List.mem_map, List.mem_range] at hr
        obtain ⟨i, hi, rfl⟩ := hr
        have := (hex i).choose_spec hi
        exact ⟨this.1, this.2.1⟩
      · have key : ∀ n, n ≤ cap → (((List.range n).map (fun i => (hex i).choose)).flatten).length = n * P.cellsOf e ∧ ∀ j, j < n * P.cellsOf e → w.cell? ⟨b, off + j, none⟩ = (((List.range n).map (fun i => (hex i).choose)).flatten)[j]? := by
          intro n
          induction n with
          | zero => intro _; simp
          | succ n ih =>
            intro hn
            obtain ⟨ih1, ih2⟩ := ih (by omega)
            obtain ⟨c1, _, c3⟩ := (hex n).choose_spec (by omega)
            rw [List.range_succ, List.map_append, List.flatten_append]
            simp only [List.map_cons, List.map_nil, List.flatten_cons, List.flatten_nil, List.append_nil]
            refine ⟨by rw [List.length_append, ih1, c1]; simp [Nat.add_mul], fun j hj => ?_⟩
            by_cases hjn : j < n * P.cellsOf e
            · rw [List.getElem?_append_left (by omega)]; exact ih2 j hjn
            · rw [List.getElem?_append_right (by omega), ih1]
              have hsz : (n + 1) * P.cellsOf e = n * P.cellsOf e + P.cellsOf e := by simp [Nat.add_mul]
              have := c3 (j - n * P.cellsOf e) (by omega)
              rw [← this]
              congr 2
              omega
        obtain ⟨k1, k2⟩ := key cap (Nat.le_refl _)
        exact ⟨k1, fun _ => ⟨b, off, rfl, hb, fun j hj => k2 j (by omega)⟩⟩
theorem Arg.rows {P : Program} {w : World} {t e : TypeId} {v : Value} (ht : P.underlying t = some (.slice e)) (hpos : 0 < P.cellsOf e) (h : Arg P w t v) :
    ∃ (A : Option Addr) (len cap : Nat) (rows : List (List Value)), v = .slice A len cap ∧ len ≤ cap ∧ cap ≤ maxLen ∧ rows.length = cap ∧ (∀ r ∈ rows, r.length = P.cellsOf e ∧ Sees P w e r) ∧
      Reads w w.heap.size (P.cellsOf e) A cap rows.flatten ∧ (A = none → len = 0 ∧ cap = 0) := rows_of hpos (h.slice ht)
/-- The first elements alone. -/
theorem Reads.take {w : World} {B size n m : Nat} {A : Option Addr} {rows : List (List Value)} (h : Reads w B size A n rows.flatten) (hr : ∀ r ∈ rows, r.length = size) (hl : rows.length = n) (hm : m ≤ n) : Reads w B size A m (rows.take m).flatten := by
  have hlen : ∀ l : List (List Value), (∀ r ∈ l, r.length = size) → l.flatten.length = l.length * size := by
    intro l
    induction l with
    | nil => simp
    | cons a l ih => intro hh; simp [hh a (by simp), ih (fun r hr => hh r (by simp [hr])), Nat.add_mul]; omega
  have h1 := hlen (rows.take m) (fun r hr' => hr r (List.mem_of_mem_take hr'))
  have hle : m * size ≤ n * size := Nat.mul_le_mul_right _ hm
  refine ⟨by rw [h1]; simp [hl, Nat.min_eq_left hm], fun hp => ?_⟩
  obtain ⟨b, off, e1, e2, e3⟩ := h.2 (by omega)
  refine ⟨b, off, e1, e2, fun j hj => ?_⟩
  have hsplit : rows.flatten = (rows.take m).flatten ++ (rows.drop m).flatten := by rw [← List.flatten_append, List.take_append_drop]
  have := e3 j (by rw [h1] at hj; rw [h.1]; simp [hl, Nat.min_eq_left hm] at hj; omega)
  rw [this, hsplit, List.getElem?_append_left hj]
/-- A slice of integers of one kind. -/
theorem ints_of {P : Program} {w : World} {e : TypeId} {k : IntKind} {v : Value} (he : P.underlying e = some (.int k)) (hC : P.cellsOf e = 1) (h : v = .slice none 0 0 ∨ ∃ (a : Addr) (len cap : Nat), v = .slice (some a) len cap ∧ len ≤ cap ∧ cap ≤ maxLen ∧ ∀ i, i < cap → ∃ es, w.cells? 0 (a.add (i * P.cellsOf e)) (P.cellsOf e) = some es ∧ Sees P w e es) :
    ∃ (A : Option Addr) (len cap : Nat) (zs : List Int), v = .slice A len cap ∧ len ≤ cap ∧ cap ≤ maxLen ∧ zs.length = len ∧ (∀ n ∈ zs, (Lit.int k n).wf = true) ∧
      Reads w w.heap.size 1 A len (zs.map (Value.int k)) ∧ (A = none → len = 0 ∧ cap = 0) := by
  obtain ⟨A, len, cap, rows, rfl, hl, hm, hlen, hr, hreads, hnil⟩ := rows_of (by omega) h
  rw [hC] at hreads
  have hreads := hreads.take (fun r h => by rw [(hr r h).1, hC]) hlen hl
  have : ∀ l : List (List Value), (∀ r ∈ l, r.length = P.cellsOf e ∧ Sees P w e r) → ∃ zs : List Int, zs.length = l.length ∧ l.flatten = zs.map (Value.int k) ∧ ∀ n ∈ zs, (Lit.int k n).wf = true := by
    intro l
    induction l with
    | nil => intro _; exact ⟨[], rfl, rfl, by simp⟩
    | cons a l ih =>
      intro hh
      obtain ⟨zs, h1, h2, h3⟩ := ih (fun r hr => hh r (by simp [hr]))
      obtain ⟨n, rfl, hw⟩ := (hh a (by simp)).2.int he
      exact ⟨n :: zs, by simp [h1], by simp [h2], by simpa [hw] using h3⟩
  obtain ⟨zs, h1, h2, h3⟩ := this (rows.take len) (fun r h => hr r (List.mem_of_mem_take h))
  rw [h2] at hreads
  exact ⟨A, len, cap, zs, rfl, hl, hm, by rw [h1]; simp; omega, h3, hreads, hnil⟩
theorem Arg.ints {P : Program} {w : World} {t e : TypeId} {k : IntKind} {v : Value} (ht : P.underlying t = some (.slice e)) (he : P.underlying e = some (.int k)) (hC : P.cellsOf e = 1) (h : Arg P w t v) :
    ∃ (A : Option Addr) (len cap : Nat) (zs : List Int), v = .slice A len cap ∧ len ≤ cap ∧ cap ≤ maxLen ∧ zs.length = len ∧ (∀ n ∈ zs, (Lit.int k n).wf = true) ∧
      Reads w w.heap.size 1 A len (zs.map (Value.int k)) ∧ (A = none → len = 0 ∧ cap = 0) := ints_of he hC (h.slice ht)
theorem Reads.int_at {w : World} {n : Nat} {b off : Nat} {k : IntKind} {zs : List Int} (hc : ∀ j, j < (zs.map (Value.int k)).length → w.cell? ⟨b, off + j, none⟩ = (zs.map (Value.int k))[j]?) (hn : n < zs.length) :
    w.cell? ⟨b, off + n, none⟩ = some (.int k (zs.getD n 0)) := by
  rw [hc n (by simpa using hn)]
  simp [List.getD_eq_getElem?_getD, List.getElem?_eq_getElem hn]

/-! ### frames -/
theorem bcell {W w1 : World} (hb : Below W.heap.size W w1) : (∀ b o, b < W.heap.size → w1.cell? ⟨b, o, none⟩ = W.cell? ⟨b, o, none⟩) ∧ (∀ b o, b < W.heap.size → w1.frozen? ⟨b, o, none⟩ = W.frozen? ⟨b, o, none⟩) :=
  ⟨fun b o h => hb.cell (p := ⟨b, o, none⟩) h, fun b o h => hb.frozen (p := ⟨b, o, none⟩) h⟩
theorem ret_int {k : IntKind} {a b : Int} (h : a = b) : Ending.returned (.int k a) = .returned (.int k b) := by rw [h]
theorem ret_bool {a b : Bool} (h : a = b) : Ending.returned (.bool a) = .returned (.bool b) := by rw [h]
theorem val_int {k : IntKind} {a b : Int} (h : a = b) : Value.int k a = .int k b := by rw [h]
theorem below_drewN {B : Nat} {a w : World} (h : Below B a w) (n : Nat) : Below B a (w.drewN n) := ⟨h.os, h.tape, h.output, h.size, h.block⟩
theorem quiet_left {P : Program} {f : FuncId} {args : Array Value} {w : World} {n : Nat} {v : Value}
    (h : Calls P f args (w.drewN n) fun e w' => e = .returned v ∧ w.drewN n = w') : Calls P f args (w.drewN n) fun e w'' => e = .returned v ∧ ∃ m, w'' = w.drewN m :=
  h.mono fun _ _ ⟨he, hm⟩ => ⟨he, n, hm.symm⟩
theorem cell_new (w : World) (cs : Array Value) (t : TypeId) (fr : Nat × Nat) (i : Nat) : (w.alloc (.cells cs t fr)).cell? ⟨w.heap.size, i, none⟩ = cs[i]? := cell_of_row _ _ _ _ t fr (heap_alloc_new w _)
/-! ### append onto a row of the call's own, the source nil, empty or not (after the guide's page of words) -/
section
variable {P : Program} (w : World)

theorem run_append_of_nil (base : Nat) (t ty e : TypeId) (i : TypeInfo) (size : Nat) (ht : P.underlying t = some (.slice e)) (hi : P.info? e = some i)
    (v : Value) (n : Nat) (xs : List Value) (hown : w.ownsRow base e size v n xs) (c : Nat) : (Builtin.append_ #[t, t] ty #[v, .slice none 0 c]).run P w = .ok v w := by
  rcases hown.2 with ⟨rfl, rfl⟩ | ⟨g, cap, cur, rfl, _, _, hnc, _⟩
  · simp [Builtin.append_, run_underlying ht, sizeOf, typeInfo, hi, Builtin.lenOf, Builtin.firstCells]
  · simp [Builtin.append_, run_underlying ht, sizeOf, typeInfo, hi, Builtin.lenOf, Builtin.firstCells, hnc, storeCells]

theorem run_append_any (base : Nat) (t ty e : TypeId) (i : TypeInfo) (z : Value) (size bytes : Nat) (ht : P.underlying t = some (.slice e)) (hi : P.info? e = some i) (hz : i.zero = some z)
    (hsize : i.size = size) (hby : i.bytes = bytes) (hzs : z.cells.size = size) (hsz : 0 < size)
    (v : Value) (n : Nat) (xs : List Value) (hown : w.ownsRow base e size v n xs)
    (B : Nat) (A : Option Addr) (m c : Nat) (news : List Value) (hr : Reads w B size A m news) (h1 : ∀ u ∈ news, u.oneCell' = true)
    (h63 : n + m ≤ maxLen) (hbytes : (n + m) * bytes ≤ 140737488355328) (hbase : base ≤ w.heap.size) :
    ∃ v' w', (Builtin.append_ #[t, t] ty #[v, .slice A m c]).run P w = .ok v' w' ∧ w'.ownsRow base e size v' (n + m) (xs ++ news) ∧ w.grownBy w' v.ownBlock ∧
      (v'.ownBlock = v.ownBlock ∨ v'.ownBlock = some w.heap.size) := by
  rcases A with _ | ad
  · have hm : m = 0 := by
      rcases Nat.eq_zero_or_pos m with h0 | h0
      · exact h0
      · obtain ⟨_, _, h, _⟩ := hr.2 h0
        cases h
    subst hm
    have hn : news = [] := List.eq_nil_of_length_eq_zero (by simpa using hr.1)
    subst hn
    exact ⟨v, w, run_append_of_nil w base t ty e i size ht hi v n xs hown c, by simpa using hown, World.grownBy.refl w _, .inl rfl⟩
  · have hcells : ∀ j u, news[j]? = some u → w.cell? (ad.add j) = some u := by
      intro j u hu
      rcases Nat.eq_zero_or_pos m with h0 | h0
      · subst h0
        have hn : news = [] := List.eq_nil_of_length_eq_zero (by simpa using hr.1)
        subst hn
        simp at hu
      · obtain ⟨b, off, h, _, hc⟩ := hr.2 h0
        injection h with h
        subst h
        rw [add_plain', hc j (List.getElem?_eq_some_iff.1 hu).1]
        exact hu
    obtain ⟨v', w', hrun, h2, h3, _, h5⟩ := run_append_own_at (P := P) w base t ty e i z size bytes ht hi hz hsize hby hzs hsz v n xs hown ad m c news hr.1 hcells h1 h63 hbytes hbase
    exact ⟨v', w', hrun, h2, h3, h5⟩

theorem wp_append_any {o : Oper} {a : Act} {K : Act → World → Prop} {Q : Exit → Act → World → Prop} (s x : Operand) (t : TypeId)
    (ho : o.op = .call { callee := .builtin .append, args := #[s, x], argTypes := #[t, t] })
    (base : Nat) (e : TypeId) (i : TypeInfo) (z : Value) (size bytes : Nat) (ht : P.underlying t = some (.slice e)) (hi : P.info? e = some i) (hz : i.zero = some z)
    (hsize : i.size = size) (hby : i.bytes = bytes) (hzs : z.cells.size = size) (hsz : 0 < size)
    (v : Value) (n : Nat) (xs : List Value) (hs : a.eval s = v) (hown : w.ownsRow base e size v n xs)
    (B : Nat) (A : Option Addr) (m c : Nat) (news : List Value) (hx : a.eval x = .slice A m c) (hr : Reads w B size A m news) (h1 : ∀ u ∈ news, u.oneCell' = true)
    (h63 : n + m ≤ maxLen) (hbytes : (n + m) * bytes ≤ 140737488355328) (hbase : base ≤ w.heap.size)
    (h : ∀ v' w', w'.ownsRow base e size v' (n + m) (xs ++ news) → w.grownBy w' v.ownBlock → (v'.ownBlock = v.ownBlock ∨ v'.ownBlock = some w.heap.size) → K (a.put o.dst v') w') : o.wp P a w K Q := by
  obtain ⟨v', w', hrun, h2, h3, h4⟩ := run_append_any (P := P) w base t o.type e i z size bytes ht hi hz hsize hby hzs hsz v n xs hown B A m c news hr h1 h63 hbytes hbase
  unfold Oper.wp execOp
  simp only [ho, resolve, invoke, builtin, Sem.run_bind, Sem.run_pure, Result.andThen_ok, List.map_toArray, List.map_cons, List.map_nil, hs, hx, hrun]
  exact h v' w' h2 h3 h4

theorem wpList_append_any {ops : Array Oper} {rest : List Oper} {o : Oper} {a : Act} {Q : Exit → Act → World → Prop} (hgd : o.guard = none) (s x : Operand) (t : TypeId)
    (ho : o.op = .call { callee := .builtin .append, args := #[s, x], argTypes := #[t, t] })
    (base : Nat) (e : TypeId) (i : TypeInfo) (z : Value) (size bytes : Nat) (ht : P.underlying t = some (.slice e)) (hi : P.info? e = some i) (hz : i.zero = some z)
    (hsize : i.size = size) (hby : i.bytes = bytes) (hzs : z.cells.size = size) (hsz : 0 < size)
    (v : Value) (n : Nat) (xs : List Value) (hs : a.eval s = v) (hown : w.ownsRow base e size v n xs)
    (B : Nat) (A : Option Addr) (m c : Nat) (news : List Value) (hx : a.eval x = .slice A m c) (hr : Reads w B size A m news) (h1 : ∀ u ∈ news, u.oneCell' = true)
    (h63 : n + m ≤ maxLen) (hbytes : (n + m) * bytes ≤ 140737488355328) (hbase : base ≤ w.heap.size)
    (h : ∀ v' w', w'.ownsRow base e size v' (n + m) (xs ++ news) → w.grownBy w' v.ownBlock → (v'.ownBlock = v.ownBlock ∨ v'.ownBlock = some w.heap.size) → wpList P ops Q rest (a.put o.dst v') w') : wpList P ops Q (o :: rest) a w :=
  wpList_plain hgd fun _ hK => wp_append_any w s x t ho base e i z size bytes ht hi hz hsize hby hzs hsz v n xs hs hown B A m c news hx hr h1 h63 hbytes hbase fun v' w' h2 h3 h4 => hK _ _ (h v' w' h2 h3 h4)

theorem step_append_any {ops : Array Oper} {o : Oper} {a : Act} {K : Act → World → Prop} {Q : Exit → Act → World → Prop} {E : Prop} (hgd : o.guard = none) (s x : Operand) (t : TypeId)
    (ho : o.op = .call { callee := .builtin .append, args := #[s, x], argTypes := #[t, t] })
    (base : Nat) (e : TypeId) (i : TypeInfo) (z : Value) (size bytes : Nat) (ht : P.underlying t = some (.slice e)) (hi : P.info? e = some i) (hz : i.zero = some z)
    (hsize : i.size = size) (hby : i.bytes = bytes) (hzs : z.cells.size = size) (hsz : 0 < size)
    (v : Value) (n : Nat) (xs : List Value) (hs : a.eval s = v) (hown : w.ownsRow base e size v n xs)
    (B : Nat) (A : Option Addr) (m c : Nat) (news : List Value) (hx : a.eval x = .slice A m c) (hr : Reads w B size A m news) (h1 : ∀ u ∈ news, u.oneCell' = true)
    (h63 : n + m ≤ maxLen) (hbytes : (n + m) * bytes ≤ 140737488355328) (hbase : base ≤ w.heap.size)
    (h : ∀ v' w', w'.ownsRow base e size v' (n + m) (xs ++ news) → w.grownBy w' v.ownBlock → (v'.ownBlock = v.ownBlock ∨ v'.ownBlock = some w.heap.size) → K (a.put o.dst v') w') :
    if Region.wanted o (yielded ops a.tmps) = true then Oper.wp P o a w K Q else E := by
  have hw : Region.wanted o (yielded ops a.tmps) = true := by simp [Region.wanted, hgd]
  rw [if_pos hw]
  exact wp_append_any w s x t ho base e i z size bytes ht hi hz hsize hby hzs hsz v n xs hs hown B A m c news hx hr h1 h63 hbytes hbase h
end
theorem ownsRow_new0 (w : World) (e : TypeId) (size : Nat) (cs : Array Value) {n : Nat} (h : cs.size = n * size := by simp) (hn : n ≤ maxLen := by decide) : (w.alloc (.cells cs e)).ownsRow w.heap.size e size (.slice (some ⟨w.heap.size, 0, none⟩) n n) n cs.toList :=
  ⟨by simpa using h, .inr ⟨w.heap.size, n, cs, rfl, Nat.le_refl _, heap_alloc_new w _, Nat.le_refl _, hn, h, by rw [List.take_of_length_le (by simp [h])]⟩⟩
/-! ### all but the blocks X is as it was -/
structure Keeps (X : Nat → Prop) (w w' : World) : Prop where
  os : w'.os = w.os
  tape : w'.tape = w.tape
  output : w'.output = w.output
  size : w.heap.size ≤ w'.heap.size
  block : ∀ i, i < w.heap.size → ¬ X i → w'.heap[i]? = w.heap[i]?
def nobody : Nat → Prop := fun _ => False
section
variable {X Y : Nat → Prop} {w w' w'' : World}
theorem Keeps.refl (X : Nat → Prop) (w : World) : Keeps X w w := ⟨rfl, rfl, rfl, Nat.le_refl _, fun _ _ _ => rfl⟩
theorem Keeps.trans (h : Keeps X w w') (h' : Keeps X w' w'') : Keeps X w w'' :=
  ⟨h'.os.trans h.os, h'.tape.trans h.tape, h'.output.trans h.output, Nat.le_trans h.size h'.size, fun i hi hx => (h'.block i (Nat.lt_of_lt_of_le hi h.size) hx).trans (h.block i hi hx)⟩
theorem Keeps.more (h : Keeps X w w') (hxy : ∀ i, i < w.heap.size → X i → Y i) : Keeps Y w w' := ⟨h.os, h.tape, h.output, h.size, fun i hi hy => h.block i hi (fun hx => hy (hxy i hi hx))⟩
theorem Keeps.of_below (h : Below w.heap.size w w') : Keeps X w w' := ⟨h.os, h.tape, h.output, h.size, fun i hi _ => h.block i hi⟩
theorem Keeps.below {B : Nat} (h : Keeps X w w') (hx : ∀ i, i < B → ¬ X i) (hB : B ≤ w.heap.size) : Below B w w' := ⟨h.os, h.tape, h.output, h.size, fun i hi => h.block i (Nat.lt_of_lt_of_le hi hB) (hx i hi)⟩
theorem Keeps.below' (h : Keeps nobody w w') : Below w.heap.size w w' := h.below (fun _ _ h => h) (Nat.le_refl _)
theorem Keeps.cell (h : Keeps X w w') {b : Nat} (o : Nat) (hb : b < w.heap.size) (hx : ¬ X b) : w'.cell? ⟨b, o, none⟩ = w.cell? ⟨b, o, none⟩ := World.cell?_of_block (a := ⟨b, o, none⟩) (h.block b hb hx)
theorem Keeps.drewN (n : Nat) : Keeps X w (w.drewN n) := ⟨rfl, rfl, rfl, Nat.le_refl _, fun _ _ _ => rfl⟩
theorem Keeps.drew : Keeps X w w.drew := ⟨rfl, rfl, rfl, Nat.le_refl _, fun _ _ _ => rfl⟩
theorem Keeps.alloc (o : Obj) : Keeps X w (w.alloc o) := ⟨rfl, rfl, rfl, by simp, fun i hi _ => Below.heap_alloc w o i hi⟩
theorem Keeps.setCell {p : Addr} (hp : X p.block ∨ w.heap.size ≤ p.block) (u : Value) : Keeps X w (w.setCell p u) :=
  ⟨rfl, rfl, rfl, by simp [World.setCell], fun i hi hx => Below.heap_setCell w p u i (by
    rintro rfl
    rcases hp with hp | hp
    · exact hx hp
    · omega)⟩
theorem Keeps.grown {row : Option Nat} (h : w.grownBy w' row) (hr : ∀ g, row = some g → X g ∨ w.heap.size ≤ g) : Keeps X w w' :=
  ⟨h.os, h.tape, h.output, h.size, fun i hi hx => h.block i hi (fun e => by
    rcases hr i e.symm with h1 | h1
    · exact hx h1
    · omega)⟩
theorem Keeps.grownBy {g : Nat} (h : Keeps (· = g) w w') : w.grownBy w' (some g) := ⟨h.os, h.tape, h.output, h.size, fun i hi hne => h.block i hi (fun e => hne (by rw [e]))⟩
theorem Keeps.cells (h : Keeps nobody w w') : ∀ b o, b < w.heap.size → w'.cell? ⟨b, o, none⟩ = w.cell? ⟨b, o, none⟩ := fun _ o hb => h.cell o hb (fun h => h)
end

/-! ### a region that draws its order, each of whose operations keeps all but the blocks X: what reads alone may be taken first -/
section
variable {P : Program} {ops : Array Oper} {Q : Exit → Act → World → Prop} {md : Region.Mode} {X : Nat → Prop}
def wpMono (P : Program) (md : Region.Mode) (ops : Array Oper) (Q : Exit → Act → World → Prop) (X : Nat → Prop) : Nat → Array Bool → Act → World → Prop
  | 0, listed, a, w => Region.ready md ops listed = [] ∧ Q .normal a w
  | fuel + 1, listed, a, w =>
    (Region.ready md ops listed = [] → Q .normal a w) ∧
    ∀ i ∈ Region.ready md ops listed, wpOp P ops Q i (fun a' w' => Keeps X w w' ∧ wpMono P md ops Q X fuel (listed.setIfInBounds i true) a' w') a w
theorem wpAny_of_mono : ∀ (fuel : Nat) (listed : Array Bool) (a : Act) (w : World), wpMono P md ops Q X fuel listed a w → wpAny P md ops Q fuel listed a w
  | 0, _, _, _, h => h
  | fuel + 1, _, _, _, h => ⟨h.1, fun i hi => wpOp_mono (fun a' w' h' => wpAny_of_mono fuel _ a' w' h'.2) (h.2 i hi)⟩
theorem YieldsIf.weaken {S S' : World → Prop} {o : Oper} {v : Value} {a : Act} (h : YieldsIf P ops S o v a) (hs : ∀ w, S' w → S w) : YieldsIf P ops S' o v a :=
  h.imp (fun ⟨h1, h2⟩ => ⟨h1, fun w hw => h2 w (hs w hw)⟩) id
theorem wpMono_first {i : Nat} {oi : Oper} {v : Value} (hi : ops[i]? = some oi) (hsel : ∀ (j : Nat) (o : Oper) cs b, ops[j]? = some o → o.op ≠ .select cs b)
    (hQ : ∀ c a w, Q (.panic c) (a.put oi.dst v) w → Q (.panic c) a w) :
    ∀ (fuel : Nat) (listed : Array Bool) (a : Act) (w : World),
      (∀ j oj, ops[j]? = some oj → j ≠ i → listed.getD j true = false → (∀ e ∈ oj.after, Region.binds md e = true → e.on ≠ i) → oi.apart ops oj = true) →
      i ∈ Region.ready md ops listed → YieldsIf P ops (Keeps X w) oi v a →
      wpMono P md ops Q X fuel (listed.setIfInBounds i true) (a.put oi.dst v) w → wpMono P md ops Q X (fuel + 1) listed a w := by
  intro fuel
  induction fuel with
  | zero =>
    intro listed a w _ hr hy H
    refine ⟨fun h => (by rw [h] at hr; cases hr), fun j hj => ?_⟩
    by_cases hji : j = i
    · subst hji; exact hy.wpOp hi (Keeps.refl _ _) ⟨Keeps.refl _ _, H⟩
    · have := ready_mono hj hji
      rw [H.1] at this
      cases this
  | succ fuel ih =>
    intro listed a w hfree hr hy H
    refine ⟨fun h => (by rw [h] at hr; cases hr), fun j hj => ?_⟩
    by_cases hji : j = i
    · subst hji; exact hy.wpOp hi (Keeps.refl _ _) ⟨Keeps.refl _ _, H⟩
    · have h1 := H.2 j (ready_mono hj hji)
      obtain ⟨hjun, oj, hoj, hall⟩ := mem_ready.1 hj
      have hnot : ∀ e ∈ oj.after, Region.binds md e = true → e.on ≠ i := fun e he hb heq => by
        have h1 := hall e he hb
        have h0 := (mem_ready.1 hr).1
        rw [heq] at h1
        rcases Nat.lt_or_ge i listed.size with h' | h'
        · simp [h'] at h0 h1; rw [h0] at h1; cases h1
        · simp [Array.getElem?_eq_none h'] at h1
      have h2 := wpOp_putIf hoj (hfree j oj hoj hji hjun hnot) (fun cs b => hsel i oi cs b hi) (fun cs b => hsel j oj cs b hoj) hQ hy h1
      have hfree' : ∀ k ok, ops[k]? = some ok → k ≠ i → (listed.setIfInBounds j true).getD k true = false →
          (∀ e ∈ ok.after, Region.binds md e = true → e.on ≠ i) → oi.apart ops ok = true := fun k ok hk hki hun hno => by
        refine hfree k ok hk hki ?_ hno
        by_cases hjk : j = k
        · subst hjk; exact hjun
        · rw [getD_set_ne true hjk] at hun; exact hun
      refine wpOp_mono (fun a' w' h3 => ⟨h3.2.1, ih (listed.setIfInBounds j true) a' w' hfree' (ready_mono hr (Ne.symm hji)) (YieldsIf.weaken h3.1 (fun u hu => h3.2.1.trans hu)) ?_⟩) h2
      rw [Array.setIfInBounds_comm _ _ hji]
      exact h3.2.2
theorem wpMono_take {i : Nat} {oi : Oper} {v : Value} {fuel : Nat} {listed : Array Bool} {a : Act} {w : World} (hi : ops[i]? = some oi)
    (hs : Region.noSelect ops = true) (hf : Region.free md ops listed i = true) (hr : (Region.ready md ops listed).contains i = true)
    (hQ : ∀ c a w, Q (.panic c) (a.put oi.dst v) w → Q (.panic c) a w) (hy : YieldsIf P ops (Keeps X w) oi v a)
    (h : wpMono P md ops Q X fuel (listed.setIfInBounds i true) (a.put oi.dst v) w) : wpMono P md ops Q X (fuel + 1) listed a w :=
  wpMono_first hi (Region.noSelect_spec hs) hQ fuel listed a w (Region.free_spec hi hf) (by simpa using hr) hy h
/-- One operation alone may come up. -/
theorem wpMono_one {i : Nat} {o : Oper} {fuel : Nat} {listed : Array Bool} {a : Act} {w : World} (hr : Region.ready md ops listed = [i]) (ho : ops[i]? = some o)
    (h : ∀ K' : Act → World → Prop, Shut (∀ a w', Keeps X w w' → wpMono P md ops Q X fuel (listed.setIfInBounds i true) a w' → K' a w') → if Region.wanted o (yielded ops a.tmps) = true then Oper.wp P o a w K' Q else K' (a.put o.dst undef) w) : wpMono P md ops Q X (fuel + 1) listed a w :=
  ⟨fun h0 => (by rw [hr] at h0; cases h0), fun j hj => (by
    rw [hr, List.mem_singleton] at hj
    subst hj
    exact wpOp_step ho (fun K' hK => h K' (fun a w' h1 h2 => hK a w' ⟨h1, h2⟩)))⟩
theorem wpMono_done {listed : Array Bool} {a : Act} {w : World} (hr : Region.ready md ops listed = []) (h : Q .normal a w) : ∀ fuel, wpMono P md ops Q X fuel listed a w
  | 0 => ⟨hr, h⟩
  | _ + 1 => ⟨fun _ => h, by rw [hr]; simp⟩
/-- The same three, the operation fetched from the list: Lean finds it by itself. -/
theorem wpMono_take' (i : Nat) {oi : Oper} {v : Value} {fuel : Nat} {listed : Array Bool} {a : Act} {w : World} (hi : ops.toList[i]? = some oi)
    (hs : Region.noSelect ops = true) (hf : Region.free md ops listed i = true) (hr : (Region.ready md ops listed).contains i = true)
    (hQ : ∀ c a w, Q (.panic c) (a.put oi.dst v) w → Q (.panic c) a w) (hg : Region.wanted oi (yielded ops a.tmps) = true) (hy : ∀ w', Keeps X w w' → (execOp a.eval oi).run P w' = .ok (.value v) w')
    (h : wpMono P md ops Q X fuel (listed.setIfInBounds i true) (a.put oi.dst v) w) : wpMono P md ops Q X (fuel + 1) listed a w :=
  wpMono_take (by simpa using hi) hs hf hr hQ (.inl ⟨hg, hy⟩) h
theorem wpMono_skip' (i : Nat) {oi : Oper} {fuel : Nat} {listed : Array Bool} {a : Act} {w : World} (hi : ops.toList[i]? = some oi)
    (hs : Region.noSelect ops = true) (hf : Region.free md ops listed i = true) (hr : (Region.ready md ops listed).contains i = true)
    (hQ : ∀ c a w, Q (.panic c) (a.put oi.dst undef) w → Q (.panic c) a w) (hg : Region.wanted oi (yielded ops a.tmps) = false)
    (h : wpMono P md ops Q X fuel (listed.setIfInBounds i true) (a.put oi.dst undef) w) : wpMono P md ops Q X (fuel + 1) listed a w :=
  wpMono_take (by simpa using hi) hs hf hr hQ (.inr ⟨hg, rfl⟩) h
theorem wpMono_one' (i : Nat) {o : Oper} {fuel : Nat} {listed : Array Bool} {a : Act} {w : World} (hr : Region.ready md ops listed = [i]) (ho : ops.toList[i]? = some o) (hg : Region.wanted o (yielded ops a.tmps) = true)
    (h : ∀ K' : Act → World → Prop, Shut (∀ a w', Keeps X w w' → wpMono P md ops Q X fuel (listed.setIfInBounds i true) a w' → K' a w') → Oper.wp P o a w K' Q) : wpMono P md ops Q X (fuel + 1) listed a w :=
  wpMono_one hr (by simpa using ho) (fun K hK => by rw [if_pos hg]; exact h K hK)
theorem wp_region_mono (X : Nat → Prop) {id : Nat} {a : Act} {w : World} (hm : P.follows .mixedOrders = true)
    (h : wpMono P .any ops Q X ops.size (Array.replicate ops.size false) a w.drew) : (Code.region id ops true).wp P Q a w := wp_region_any hm (wpAny_of_mono _ _ _ _ h)
end
/-! ### append of values written out: 'append(out, x)': the row that holds them has just been made -/
section
variable {P : Program} {Q : Exit → Act → World → Prop}
theorem wpList_append_new {w : World} {ops : Array Oper} {rest : List Oper} {o : Oper} {a : Act} (hgd : o.guard = none) (s x : Operand) (t : TypeId)
    (ho : o.op = .call { callee := .builtin .append, args := #[s, x], argTypes := #[t, t] })
    (base : Nat) (e : TypeId) (i : TypeInfo) (z : Value) (size bytes : Nat) (ht : P.underlying t = some (.slice e)) (hi : P.info? e = some i) (hz : i.zero = some z)
    (hsize : i.size = size) (hby : i.bytes = bytes) (hzs : z.cells.size = size) (hsz : 0 < size)
    (v : Value) (n : Nat) (xs : List Value) (hs : a.eval s = v) (hown : w.ownsRow base e size v n xs)
    (m c : Nat) (news : List Value) (hx : a.eval x = .slice (some ⟨w.heap.size, 0, none⟩) m c) (hl : news.length = m * size) (h1 : ∀ u ∈ news, u.oneCell' = true)
    (h63 : n + m ≤ maxLen) (hbytes : (n + m) * bytes ≤ 140737488355328) (hbase : base ≤ w.heap.size)
    (h : ∀ v' w', w'.ownsRow base e size v' (n + m) (xs ++ news) → Below base w w' → w.grownBy w' v.ownBlock → (v'.ownBlock = v.ownBlock ∨ ∃ g, v'.ownBlock = some g ∧ w.heap.size ≤ g) → wpList P ops Q rest (a.put o.dst v') w') :
    wpList P ops Q (o :: rest) a (w.alloc (.cells news.toArray e)) := by
  refine wpList_plain hgd fun _ hK => ?_
  have hr : Reads (w.alloc (.cells news.toArray e)) (w.alloc (.cells news.toArray e)).heap.size size (some ⟨w.heap.size, 0, none⟩) m news := by
    have := Reads.new w news.toArray e (0, 0) (n := m) (size := size) (by simpa using hl)
    simpa using this
  refine wp_append_any (w.alloc (.cells news.toArray e)) s x t ho base e i z size bytes ht hi hz hsize hby hzs hsz v n xs hs (hown.alloc _) _ _ m c news hx hr h1 h63 hbytes (by simp; omega) fun v' w' h2 h3 h4 => hK _ _ ?_
  have hg : w.grownBy w' v.ownBlock := ⟨h3.os, h3.tape, h3.output, Nat.le_trans (by simp) h3.size, fun i hi hne => (h3.block i (by simp; omega) hne).trans (Below.heap_alloc w _ i hi)⟩
  refine h v' w' h2 ⟨hg.os, hg.tape, hg.output, hg.size, fun i hi => hg.block i (by omega) (fun e' => ?_)⟩ hg ?_
  · have := hown.lt i e'.symm; omega
  · rcases h4 with h4 | h4
    · exact .inl h4
    · exact .inr ⟨_, h4, by simp⟩
end
/-! ### a block that is known whole (after the guide's page of words) -/
def Blk (w : World) (g : Nat) (t : TypeId) (cs : Array Value) : Prop := w.heap[g]? = some (.cells cs t (0, 0))

section
variable {w w' : World} {g : Nat} {t : TypeId} {cs : Array Value}
theorem Blk.lt (h : Blk w g t cs) : g < w.heap.size := by
  rcases Nat.lt_or_ge g w.heap.size with hlt | hge
  · exact hlt
  · unfold Blk at h; rw [Array.getElem?_eq_none hge] at h; cases h
theorem Blk.cell (h : Blk w g t cs) (i : Nat) : w.cell? ⟨g, i, none⟩ = cs[i]? := cell_of_row w g i cs t (0, 0) h
theorem Blk.frozen (h : Blk w g t cs) (i : Nat) : w.frozen? ⟨g, i, none⟩ = false := by
  unfold Blk at h
  simp [World.frozen?, h]
theorem Blk.new (w : World) (t : TypeId) (cs : Array Value) : Blk (w.alloc (.cells cs t)) w.heap.size t cs := heap_alloc_new w _
theorem Blk.drew (h : Blk w g t cs) : Blk w.drew g t cs := h
theorem Blk.drewN (h : Blk w g t cs) (n : Nat) : Blk (w.drewN n) g t cs := h
theorem Blk.alloc (h : Blk w g t cs) (o : Obj) : Blk (w.alloc o) g t cs := (Below.heap_alloc w o g h.lt).trans h
theorem Blk.set_ (h : Blk w g t cs) (i : Nat) (u : Value) : Blk (w.setCell ⟨g, i, none⟩ u) g t (cs.setIfInBounds i u) := by
  unfold Blk at h ⊢
  simp [World.setCell, Array.getElem?_modify, h]
theorem Blk.far (h : Blk w g t cs) {p : Addr} (hp : g ≠ p.block) (u : Value) : Blk (w.setCell p u) g t cs := (Below.heap_setCell w p u g hp).trans h
theorem Blk.below {B : Nat} (h : Blk w g t cs) (hb : Below B w w') (hg : g < B) : Blk w' g t cs := (hb.block g hg).trans h
theorem Blk.grown {row : Option Nat} (h : Blk w g t cs) (hb : w.grownBy w' row) (hg : some g ≠ row) : Blk w' g t cs := (hb.block g h.lt hg).trans h
theorem Blk.ne_ {g' : Nat} {t' : TypeId} {cs' : Array Value} (h : Blk w g t cs) (h' : Blk w g' t' cs') (hne : t ≠ t') : g ≠ g' := by
  rintro rfl
  unfold Blk at h h'
  rw [h] at h'
  injection h' with h'
  injection h' with _ ht
  exact hne ht
theorem own_blk_ne {base : Nat} {e : TypeId} {size n : Nat} {v : Value} {xs : List Value} (h : w.ownsRow base e size v n xs) (hg : Blk w g t cs) (hne : e ≠ t) : v.ownBlock ≠ some g := by
  rcases h.2 with ⟨rfl, _⟩ | ⟨g', cap, cur, rfl, _, hh, _⟩
  · simp [Value.ownBlock]
  · intro he
    have : g' = g := by simpa [Value.ownBlock] using he
    subst this
    exact Blk.ne_ (t := e) hh hg hne rfl
end

theorem Blk.keeps {X : Nat → Prop} {w w' : World} {g : Nat} {t : TypeId} {cs : Array Value} (h : Blk w g t cs) (hk : Keeps X w w') (hg : ¬ X g) : Blk w' g t cs := (hk.block g h.lt hg).trans h
theorem Blk.newAt (w : World) (t : TypeId) (cs : Array Value) {g : Nat} (hg : g = w.heap.size) : Blk (w.alloc (.cells cs t)) g t cs := by subst hg; exact Blk.new w t cs
/-! ### rows of cells, one a thing -/
section
variable {α : Type} (f : α → List Value) {size : Nat} (hf : ∀ c, (f c).length = size)
include hf
theorem len_flat (l : List α) : (l.flatMap f).length = l.length * size := by
  induction l with
  | nil => simp
  | cons c l ih => rw [List.flatMap_cons, List.length_append, ih, hf, List.length_cons, Nat.add_mul]; omega
theorem get_flat (l : List α) : ∀ (n j : Nat) (hn : n < l.length), j < size → (l.flatMap f)[n * size + j]? = (f l[n])[j]? := by
  induction l with
  | nil => intro n j hn; simp at hn
  | cons c l ih =>
    intro n j hn hj
    rw [List.flatMap_cons]
    cases n with
    | zero => rw [Nat.zero_mul, Nat.zero_add, List.getElem?_append_left (by rw [hf]; exact hj)]; rfl
    | succ n =>
      rw [List.getElem?_append_right (by rw [hf, Nat.add_mul]; omega), hf, show (n + 1) * size + j - size = n * size + j by rw [Nat.add_mul]; omega]
      exact ih n j (by simpa using hn) hj
theorem Reads.row_at {w : World} {b off : Nat} {l : List α} (hc : ∀ j, j < (l.flatMap f).length → w.cell? ⟨b, off + j, none⟩ = (l.flatMap f)[j]?) {n : Nat} (hn : n < l.length) (j : Nat) (hj : j < size) :
    w.cell? ⟨b, off + n * size + j, none⟩ = (f l[n])[j]? := by
  have h1 : n * size + j < l.length * size := by
    have : (n + 1) * size ≤ l.length * size := Nat.mul_le_mul_right _ hn
    rw [Nat.add_mul] at this; omega
  rw [Nat.add_assoc, hc _ (by rw [len_flat f hf]; exact h1), get_flat f hf l n j hn hj]
end
/-- What a row of the call's own looks like. -/
theorem ownsRow_slice {w : World} {base : Nat} {e : TypeId} {size : Nat} {v : Value} {n : Nat} {xs : List Value} (h : w.ownsRow base e size v n xs) : ∃ A c, v = .slice A n c := by
  rcases h.2 with ⟨rfl, rfl⟩ | ⟨g, cap, _, rfl, _⟩
  · exact ⟨none, 0, rfl⟩
  · exact ⟨_, cap, rfl⟩
theorem wpList_append_newAt {P : Program} {Q : Exit → Act → World → Prop} {w : World} {ops : Array Oper} {rest : List Oper} {o : Oper} {a : Act} (hgd : o.guard = none) (s x : Operand) (t : TypeId)
    (ho : o.op = .call { callee := .builtin .append, args := #[s, x], argTypes := #[t, t] })
    (base : Nat) (e : TypeId) (i : TypeInfo) (z : Value) (size bytes : Nat) (ht : P.underlying t = some (.slice e)) (hi : P.info? e = some i) (hz : i.zero = some z)
    (hsize : i.size = size) (hby : i.bytes = bytes) (hzs : z.cells.size = size) (hsz : 0 < size)
    (v : Value) (n : Nat) (xs : List Value) (hs : a.eval s = v) (hown : w.ownsRow base e size v n xs)
    (m c g : Nat) (hg : g = w.heap.size) (news : List Value) (hx : a.eval x = .slice (some ⟨g, 0, none⟩) m c) (hl : news.length = m * size) (h1 : ∀ u ∈ news, u.oneCell' = true)
    (h63 : n + m ≤ maxLen) (hbytes : (n + m) * bytes ≤ 140737488355328) (hbase : base ≤ w.heap.size)
    (h : ∀ v' w', w'.ownsRow base e size v' (n + m) (xs ++ news) → Below base w w' → w.grownBy w' v.ownBlock → (v'.ownBlock = v.ownBlock ∨ ∃ g, v'.ownBlock = some g ∧ w.heap.size ≤ g) → wpList P ops Q rest (a.put o.dst v') w') :
    wpList P ops Q (o :: rest) a (w.alloc (.cells news.toArray e)) := by
  subst hg
  exact wpList_append_new hgd s x t ho base e i z size bytes ht hi hz hsize hby hzs hsz v n xs hs hown m c news hx hl h1 h63 hbytes hbase h
/-! ### cuts of a slice of rows -/
section
variable {α : Type} (f : α → List Value) {size : Nat} (hf : ∀ c, (f c).length = size)
include hf
theorem flat_drop (l : List α) : ∀ k, (l.flatMap f).drop (k * size) = (l.drop k).flatMap f := by
  induction l with
  | nil => intro k; simp
  | cons c l ih =>
    intro k
    cases k with
    | zero => simp
    | succ k =>
      rw [List.flatMap_cons, List.drop_append, List.drop_eq_nil_of_le (by rw [hf, Nat.add_mul]; omega), List.nil_append, hf, show (k + 1) * size - size = k * size by rw [Nat.add_mul]; omega]
      simpa using ih k
theorem flat_take (l : List α) : ∀ k, (l.flatMap f).take (k * size) = (l.take k).flatMap f := by
  induction l with
  | nil => intro k; simp
  | cons c l ih =>
    intro k
    cases k with
    | zero => simp
    | succ k =>
      rw [List.flatMap_cons, List.take_append, List.take_of_length_le (by rw [hf, Nat.add_mul]; omega), hf, show (k + 1) * size - size = k * size by rw [Nat.add_mul]; omega, ih k]
      simp
theorem Reads.dropAt {w : World} {B b off n k : Nat} {l : List α} (h : Reads w B size (some ⟨b, off, none⟩) n (l.flatMap f)) (hk : k < n) : Reads w B size (some ⟨b, off + k * size, none⟩) (n - k) ((l.drop k).flatMap f) := by
  obtain ⟨h1, h2⟩ := h
  obtain ⟨b', off', e, hb, hc⟩ := h2 (by omega)
  injection e with e; injection e with e1 e2 _
  subst e1 e2
  refine ⟨by rw [← flat_drop f hf, List.length_drop, h1, Nat.sub_mul], fun _ => ⟨b, off + k * size, rfl, hb, fun j hj => ?_⟩⟩
  rw [← flat_drop f hf, List.length_drop] at hj
  rw [← flat_drop f hf, List.getElem?_drop, Nat.add_assoc, hc _ (by omega)]
theorem Reads.takeAt {w : World} {B b off n k : Nat} {l : List α} (h : Reads w B size (some ⟨b, off, none⟩) n (l.flatMap f)) (hk : k ≤ n) (hn : 0 < n) : Reads w B size (some ⟨b, off, none⟩) k ((l.take k).flatMap f) := by
  obtain ⟨h1, h2⟩ := h
  obtain ⟨b', off', e, hb, hc⟩ := h2 hn
  injection e with e; injection e with e1 e2 _
  subst e1 e2
  have hle : k * size ≤ n * size := Nat.mul_le_mul_right _ hk
  refine ⟨by rw [← flat_take f hf, List.length_take, h1]; omega, fun _ => ⟨b, off, rfl, hb, fun j hj => ?_⟩⟩
  rw [← flat_take f hf, List.length_take] at hj
  rw [← flat_take f hf, List.getElem?_take, if_pos (by omega), hc _ (by omega)]
end
theorem Keeps.set1 (w : World) (g i : Nat) (v : Value) : Keeps (· = g) w (w.setCell ⟨g, i, none⟩ v) := Keeps.setCell (X := (· = g)) (p := ⟨g, i, none⟩) (.inl rfl) v
theorem two (w1 : World) (g : Nat) (t : TypeId) (a0 a1 b0 b1 : Value) (h : Blk w1 g t #[a0, a1]) :
    Blk ((w1.setCell ⟨g, 0, none⟩ b0).setCell ⟨g, 1, none⟩ b1) g t #[b0, b1] ∧ Keeps (· = g) w1 ((w1.setCell ⟨g, 0, none⟩ b0).setCell ⟨g, 1, none⟩ b1) :=
  ⟨by have := (h.set_ 0 b0).set_ 1 b1; simpa using this, (Keeps.set1 _ _ _ _).trans (Keeps.set1 _ _ _ _)⟩
theorem below_keeps {B : Nat} {w w1 w2 : World} {X : Nat → Prop} (h : Below B w w1) (hB : B ≤ w.heap.size) (k : Keeps X w1 w2) (hX : ∀ i, i < B → ¬ X i) : Below B w w2 := h.trans (k.below hX (Nat.le_trans hB h.size))
theorem below_new (w : World) (o : Obj) : Below w.heap.size w (w.alloc o) := (Below.refl _ _).alloc (Nat.le_refl _) _
theorem below_step {w w1 w2 : World} (h : Below w.heap.size w w1) (h2 : Below w1.heap.size w1 w2) : Below w.heap.size w w2 := h.trans (h2.mono h.size)
theorem below_alloc {w w1 : World} (h : Below w.heap.size w w1) (o : Obj) : Below w.heap.size w (w1.alloc o) := h.alloc h.size o
theorem below_kept {w w1 w2 : World} {X : Nat → Prop} (h : Below w.heap.size w w1) (k : Keeps X w1 w2) (hX : ∀ i, X i → w.heap.size ≤ i) : Below w.heap.size w w2 := below_keeps h (Nat.le_refl _) k (fun i hi hx => by have := hX i hx; omega)
theorem Reads.at_some {w : World} {B size n : Nat} {A : Option Addr} {xs : List Value} (h : Reads w B size A n xs) (hn : 0 < n) : ∃ b off, A = some ⟨b, off, none⟩ ∧ b < B := by
  obtain ⟨b, off, e, hb, _⟩ := h.2 hn
  exact ⟨b, off, e, hb⟩
theorem Reads.get {w : World} {B size n b off j : Nat} {xs : List Value} {v : Value} (h : Reads w B size (some ⟨b, off, none⟩) n xs) (hn : 0 < n) (hj : xs[j]? = some v) : w.cell? ⟨b, off + j, none⟩ = some v := by
  obtain ⟨b', off', e, _, hc⟩ := h.2 hn
  injection e with e; injection e with e1 e2 _
  subst e1 e2
  rw [hc j (List.getElem?_eq_some_iff.1 hj).1, hj]
theorem Reads.int {w : World} {B n b off k : Nat} {kd : IntKind} {zs : List Int} (h : Reads w B 1 (some ⟨b, off, none⟩) n (zs.map (Value.int kd))) (hk : k < n) : w.cell? ⟨b, off + k, none⟩ = some (.int kd (zs.getD k 0)) := by
  have hl := h.1
  simp at hl
  refine h.get (by omega) ?_
  simp [List.getD_eq_getElem?_getD, List.getElem?_eq_getElem (show k < zs.length by omega)]
/-- Rows that are each the cells of a thing. -/
theorem rows_map {α : Type} (f : α → List Value) : ∀ (rows : List (List Value)), (∀ r ∈ rows, ∃ x, r = f x) → ∃ l : List α, rows = l.map f
  | [], _ => ⟨[], rfl⟩
  | r :: rows, h => by
    obtain ⟨x, rfl⟩ := h r (by simp)
    obtain ⟨l, rfl⟩ := rows_map f rows (fun r hr => h r (by simp [hr]))
    exact ⟨x :: l, rfl⟩
/-- A slice argument, each of whose elements is the cells of a thing. -/
theorem Arg.things {P : Program} {w : World} {t e : TypeId} {v : Value} {α : Type} (f : α → List Value) (ht : P.underlying t = some (.slice e)) (hpos : 0 < P.cellsOf e) (hf : ∀ cs, cs.length = P.cellsOf e → Sees P w e cs → ∃ x, cs = f x) (h : Arg P w t v) :
    ∃ (A : Option Addr) (len cap : Nat) (l : List α), v = .slice A len cap ∧ len ≤ cap ∧ cap ≤ maxLen ∧ l.length = len ∧ Reads w w.heap.size (P.cellsOf e) A len (l.flatMap f) ∧ (A = none → len = 0 ∧ cap = 0) ∧ ∀ x ∈ l, Sees P w e (f x) := by
  obtain ⟨A, len, cap, rows, rfl, h1, h2, h3, h4, h5, h6⟩ := h.rows ht hpos
  have h5 := h5.take (fun r hr => (h4 r hr).1) h3 h1
  obtain ⟨l, hl⟩ := rows_map f (rows.take len) (fun r hr => hf r (h4 r (List.mem_of_mem_take hr)).1 (h4 r (List.mem_of_mem_take hr)).2)
  rw [hl] at h5
  refine ⟨A, len, cap, l, rfl, h1, h2, ?_, by rw [List.flatMap_def]; exact h5, h6, fun x hx => (h4 _ (List.mem_of_mem_take (by rw [hl]; exact List.mem_map_of_mem hx))).2⟩
  have := congrArg List.length hl
  simp at this
  omega
theorem Reads.thing {α : Type} (f : α → List Value) {size : Nat} (hf : ∀ c, (f c).length = size) {w : World} {B b off n : Nat} {l : List α} (h : Reads w B size (some ⟨b, off, none⟩) n (l.flatMap f)) {k : Nat} {x : α} (hk : k < n) (hx : l[k]? = some x) (j : Nat) (hj : j < size) :
    w.cell? ⟨b, off + k * size + j, none⟩ = (f x)[j]? := by
  obtain ⟨b', off', e, _, hc⟩ := h.2 (by omega)
  injection e with e; injection e with e1 e2 _
  subst e1 e2
  obtain ⟨hk', rfl⟩ := List.getElem?_eq_some_iff.1 hx
  exact Reads.row_at f hf hc hk' j hj
theorem heap_lt {w : World} {g : Nat} {o : Obj} (h : w.heap[g]? = some o) : g < w.heap.size := by
  rcases Nat.lt_or_ge g w.heap.size with hlt | hge
  · exact hlt
  · rw [Array.getElem?_eq_none hge] at h; cases h
theorem own_keeps {X : Nat → Prop} {w w' : World} {base : Nat} {e : TypeId} {size n : Nat} {v : Value} {xs : List Value} (h : w.ownsRow base e size v n xs) (hk : Keeps X w w') (hx : ∀ g, base ≤ g → ¬ X g) : w'.ownsRow base e size v n xs :=
  ⟨h.1, h.2.imp id fun ⟨g, cap, cur, e, h1, h2, r⟩ => ⟨g, cap, cur, e, h1, (hk.block g (heap_lt h2) (hx g h1)).trans h2, r⟩⟩
theorem own_below {w w' : World} {base : Nat} {e : TypeId} {size n : Nat} {v : Value} {xs : List Value} (h : w.ownsRow base e size v n xs) (hb : Below w.heap.size w w') : w'.ownsRow base e size v n xs :=
  own_keeps h (X := nobody) (.of_below hb) (fun _ _ h => h)
theorem below_ofDrew {w w1 : World} (h : Below w.drew.heap.size w.drew w1) : Below w.heap.size w w1 := ⟨h.os, h.tape, h.output, h.size, h.block⟩
theorem Keeps.set {X : Nat → Prop} {w w' : World} (h : Keeps X w w') {p : Addr} (hp : X p.block ∨ w.heap.size ≤ p.block) (u : Value) : Keeps X w (w'.setCell p u) :=
  ⟨h.os, h.tape, h.output, by simpa [World.setCell] using h.size, fun i hi hx => (Below.heap_setCell w' p u i (by
    rintro rfl
    rcases hp with hp | hp
    · exact hx hp
    · omega)).trans (h.block i hi hx)⟩
theorem len_split {α : Type} {l : List α} {n : Nat} (h : l.length = n + 1) : ∃ a l', l = a :: l' ∧ l'.length = n := by
  cases l with
  | nil => simp at h
  | cons a l => exact ⟨a, l, rfl, by simpa using h⟩
theorem len_none {α : Type} {l : List α} (h : l.length = 0) : l = [] := List.eq_nil_of_length_eq_zero h
theorem len_two {α : Type} {l : List α} (h : l.length = 2) : ∃ a b, l = [a, b] := by
  obtain ⟨a, l1, rfl, h1⟩ := len_split h
  obtain ⟨b, l2, rfl, h2⟩ := len_split h1
  obtain rfl := len_none h2
  exact ⟨a, b, rfl⟩
end Go.Proofs.YticlnjfndjnfhaaDoor.base
