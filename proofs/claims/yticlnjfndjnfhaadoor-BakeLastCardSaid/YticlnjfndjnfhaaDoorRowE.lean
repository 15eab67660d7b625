/- Laws on whole elements: a value of more than one cell read from memory at once, and stored at once. Over any program; nothing of the program is named. -/
import Derived.Test.YticlnjfndjnfhaaDoorBase
import Derived.Laws.Rows
import Derived.Laws.CopyRow
namespace Go.Proofs.YticlnjfndjnfhaaDoor.rowe
open Go.RowKit Go.Proofs.YticlnjfndjnfhaaDoor.base

section
variable {P : Program} {w : World}
theorem setRow_keeps (w : World) (g : Nat) (cs : Array Value) : Keeps (· = g) w (w.setRow g cs) :=
  ⟨rfl, rfl, rfl, by simp, fun i _ hi => setRow_other w g i cs hi⟩
theorem setRow_blk {g : Nat} {t : TypeId} {old : Array Value} (cs : Array Value) (h : Blk w g t old) : Blk (w.setRow g cs) g t cs := setRow_heap w g old cs t (0, 0) h

/-- the cells of a row with some of them anew -/
def putAt (cur : List Value) (o : Nat) (vs : List Value) : List Value := cur.take o ++ vs ++ cur.drop (o + vs.length)
theorem putAt_len {cur vs : List Value} {o : Nat} (h : o + vs.length ≤ cur.length) : (putAt cur o vs).length = cur.length := by
  unfold putAt; simp; omega
theorem putAt_flat {α : Type} (f : α → List Value) {size : Nat} (hf : ∀ c, (f c).length = size) : ∀ (l : List α) (i : Nat) (x : α), i < l.length → putAt (l.flatMap f) (i * size) (f x) = (l.set i x).flatMap f
  | [], _, _, h => by simp at h
  | a :: l, 0, x, _ => by
    unfold putAt
    simp only [Nat.zero_mul, List.take_zero, List.nil_append, Nat.zero_add, List.set_cons_zero, List.flatMap_cons]
    rw [hf x, ← hf a, List.drop_left']
    rfl
  | a :: l, i + 1, x, h => by
    have ih := putAt_flat f hf l i x (by simpa using h)
    unfold putAt at ih ⊢
    have e1 : (i + 1) * size = (f a).length + i * size := by rw [hf a, Nat.succ_mul]; omega
    simp only [List.flatMap_cons, List.set_cons_succ]
    rw [e1, List.take_length_add_append, ← ih, Nat.add_assoc, List.drop_length_add_append]
    simp
theorem putAt_take {cur vs : List Value} {o m : Nat} (h : o + vs.length ≤ m) : (putAt cur o vs).take m = putAt (cur.take m) o vs := by
  unfold putAt
  by_cases hm : o ≤ cur.length
  · rw [List.take_append, List.take_of_length_le (l := cur.take o ++ vs) (by simp; omega), List.take_take, Nat.min_eq_left (by omega), List.drop_take]
    congr 2
    simp
    omega
  · have h1 : cur.take o = cur := List.take_of_length_le (by omega)
    have h2 : (cur.take m).take o = cur := by rw [List.take_take, Nat.min_eq_left (by omega), h1]
    rw [h1, h2, List.drop_eq_nil_of_le (by omega), List.drop_eq_nil_of_le (by simp; omega), List.append_nil, List.take_of_length_le (by simp; omega)]

/-! ### reading an element -/
theorem run_loadVar_at {ty : TypeId} {d : TypeDesc} {b o : Nat} {cs : List Value} (hu : P.underlying ty = some d) (hd : (match d with | .struct _ | .array _ _ => true | _ => false) = true)
    (hi : (P.info? ty).map (·.size) = some cs.length) (hc : ∀ j v, cs[j]? = some v → w.cell? ⟨b, o + j, none⟩ = some v) : (loadVar ty ⟨b, o, none⟩).run P w = .ok (.agg ⟨cs⟩) w := by
  have hl : (loadCells ⟨b, o, none⟩ cs.length).run P w = .ok cs.toArray w :=
    run_loadCells_list (P := P) w ⟨b, o, none⟩ cs (fun j v hv => by rw [add_plain']; exact hc j v hv)
  cases hq : P.info? ty with
  | none => simp [hq] at hi
  | some i =>
    have hs : i.size = cs.length := by simpa [hq] using hi
    have hagg : (isAgg ty).run P w = .ok true w := by
      unfold isAgg
      rw [Sem.run_bind, run_underlying hu w]
      cases d <;> simp_all
    simp [loadVar, Sem.run_bind, hagg, sizeOf, typeInfo, hq, hs, hl]
theorem wp_load_at {o : Oper} {a : Act} {K : Act → World → Prop} {Q : Exit → Act → World → Prop} (ty : TypeId) (x : Operand) (ho : o.op = .load ty x) (b off : Nat) (cs : List Value)
    (hx : a.eval x = .pointer (some ⟨b, off, none⟩)) {d : TypeDesc} (hu : P.underlying ty = some d) (hd : (match d with | .struct _ | .array _ _ => true | _ => false) = true)
    (hi : (P.info? ty).map (·.size) = some cs.length) (hc : ∀ j v, cs[j]? = some v → w.cell? ⟨b, off + j, none⟩ = some v) (h : K (a.put o.dst (.agg ⟨cs⟩)) w) : o.wp P a w K Q := by
  unfold Oper.wp execOp
  simp only [ho, hx, Instr.loadAt, Instr.sureAddr, Sem.run_bind, Sem.run_pure, Result.andThen_ok, run_loadVar_at hu hd hi hc]
  exact h
theorem wpList_load_at {ops : Array Oper} {rest : List Oper} {o : Oper} {a : Act} {Q : Exit → Act → World → Prop} (hgd : o.guard = none) (ty : TypeId) (x : Operand) (ho : o.op = .load ty x) (b off : Nat) (cs : List Value)
    (hx : a.eval x = .pointer (some ⟨b, off, none⟩)) {d : TypeDesc} (hu : P.underlying ty = some d) (hd : (match d with | .struct _ | .array _ _ => true | _ => false) = true)
    (hi : (P.info? ty).map (·.size) = some cs.length) (hc : ∀ j v, cs[j]? = some v → w.cell? ⟨b, off + j, none⟩ = some v) (h : wpList P ops Q rest (a.put o.dst (.agg ⟨cs⟩)) w) : wpList P ops Q (o :: rest) a w :=
  wpList_plain hgd fun _ hK => wp_load_at ty x ho b off cs hx hu hd hi hc (hK _ _ h)

/-! ### storing an element -/
theorem run_storeVar_at {ty t : TypeId} {g o : Nat} {old : Array Value} {vs : List Value} (hg : Blk w g t old) (hi : (P.info? ty).map (·.size) = some vs.length) (ho : o + vs.length ≤ old.size) (h1 : vs.all (·.oneCell') = true) :
    (storeVar ty ⟨g, o, none⟩ (.agg ⟨vs⟩)).run P w = .ok () (w.setRow g (putAt old.toList o vs).toArray) := by
  have := run_storeCells_at P g o t vs 0 old w hg (by simpa using ho) (fun v hv => (List.all_eq_true.1 h1) v hv)
  cases hq : P.info? ty with
  | none => simp [hq] at hi
  | some i =>
    have hs : vs.length = i.size := by simp [hq] at hi; omega
    simp [storeVar, sizeOf, typeInfo, hq, Value.cells, hs, this, putAt]
theorem wp_store_at {o : Oper} {a : Act} {K : Act → World → Prop} {Q : Exit → Act → World → Prop} (ty : TypeId) (x y : Operand) (ho : o.op = .store ty x y) (g off : Nat) (vs : List Value)
    (hx : a.eval x = .pointer (some ⟨g, off, none⟩)) (hy : a.eval y = .agg ⟨vs⟩) {t : TypeId} {old : Array Value} (hg : Blk w g t old) (hi : (P.info? ty).map (·.size) = some vs.length)
    (hold : off + vs.length ≤ old.size) (h1 : vs.all (·.oneCell') = true) (h : ∀ w', Blk w' g t (putAt old.toList off vs).toArray → Keeps (· = g) w w' → w'.heap.size = w.heap.size → K (a.put o.dst undef) w') : o.wp P a w K Q := by
  unfold Oper.wp execOp
  simp only [ho, hx, hy, Instr.storeAt, Instr.sureAddr, Sem.run_bind, Sem.run_pure, Result.andThen_ok, run_storeVar_at hg hi hold h1]
  exact h _ (setRow_blk _ hg) (setRow_keeps _ _ _) (by simp)
theorem wpList_store_at {ops : Array Oper} {rest : List Oper} {o : Oper} {a : Act} {Q : Exit → Act → World → Prop} (hgd : o.guard = none) (ty : TypeId) (x y : Operand) (ho : o.op = .store ty x y) (g off : Nat) (vs : List Value)
    (hx : a.eval x = .pointer (some ⟨g, off, none⟩)) (hy : a.eval y = .agg ⟨vs⟩) {t : TypeId} {old : Array Value} (hg : Blk w g t old) (hi : (P.info? ty).map (·.size) = some vs.length)
    (hold : off + vs.length ≤ old.size) (h1 : vs.all (·.oneCell') = true) (h : ∀ w', Blk w' g t (putAt old.toList off vs).toArray → Keeps (· = g) w w' → w'.heap.size = w.heap.size → wpList P ops Q rest (a.put o.dst undef) w') : wpList P ops Q (o :: rest) a w :=
  wpList_plain hgd fun _ hK => wp_store_at ty x y ho g off vs hx hy hg hi hold h1 (fun w' h2 h3 h4 => hK _ _ (h w' h2 h3 h4))
/-- a whole block anew -/
theorem putAt_all {cur vs : List Value} (h : vs.length = cur.length) : putAt cur 0 vs = vs := by
  unfold putAt; rw [List.drop_eq_nil_of_le (by omega)]; simp
theorem wpList_store_blk {ops : Array Oper} {rest : List Oper} {o : Oper} {a : Act} {Q : Exit → Act → World → Prop} (hgd : o.guard = none) (ty : TypeId) (x y : Operand) (ho : o.op = .store ty x y) (g : Nat) (vs : List Value)
    (hx : a.eval x = .pointer (some ⟨g, 0, none⟩)) (hy : a.eval y = .agg ⟨vs⟩) {t : TypeId} {old : Array Value} (hg : Blk w g t old) (hi : (P.info? ty).map (·.size) = some vs.length)
    (hold : old.size = vs.length) (h1 : vs.all (·.oneCell') = true) (h : ∀ w', Blk w' g t vs.toArray → Keeps (· = g) w w' → w'.heap.size = w.heap.size → wpList P ops Q rest (a.put o.dst undef) w') : wpList P ops Q (o :: rest) a w :=
  wpList_store_at hgd ty x y ho g 0 vs hx hy hg hi (by omega) h1 fun w' h2 h3 h4 => h w' (by rwa [putAt_all (by simpa using hold.symm)] at h2) h3 h4
/-- an element of an own row anew -/
theorem own_put {base : Nat} {e : TypeId} {size n g cap : Nat} {xs vs : List Value} {off : Nat} (h : w.ownsRow base e size (.slice (some ⟨g, 0, none⟩) n cap) n xs) (ho : off + vs.length ≤ n * size) :
    ∃ old : Array Value, Blk w g e old ∧ off + vs.length ≤ old.size ∧ ∀ w', Blk w' g e (putAt old.toList off vs).toArray → w'.ownsRow base e size (.slice (some ⟨g, 0, none⟩) n cap) n (putAt xs off vs) := by
  rcases h.2 with ⟨h', _⟩ | ⟨g', cap', cur, h', hb, hg, hnc, hcm, hcs, htake⟩
  · simp at h'
  · simp only [Value.slice.injEq, Option.some.injEq, Addr.mk.injEq, and_true, true_and] at h'
    obtain ⟨rfl, rfl⟩ := h'
    have hle : n * size ≤ cap * size := Nat.mul_le_mul_right _ hnc
    refine ⟨cur, hg, by omega, fun w' hw' => ⟨?_, .inr ⟨g, cap, _, rfl, hb, hw', hnc, hcm, ?_, ?_⟩⟩⟩
    · rw [putAt_len (by have := h.1; omega)]; exact h.1
    · have := putAt_len (cur := cur.toList) (vs := vs) (o := off) (by simp; omega)
      simp at this ⊢
      omega
    · simp only []
      rw [putAt_take ho, htake]
theorem wpList_store_own {ops : Array Oper} {rest : List Oper} {o : Oper} {a : Act} {Q : Exit → Act → World → Prop} (hgd : o.guard = none) (ty : TypeId) (x y : Operand) (ho : o.op = .store ty x y)
    {α : Type} (f : α → List Value) {size : Nat} (hf : ∀ c, (f c).length = size) {base : Nat} {e : TypeId} {n g cap : Nat} {l : List α} (i : Nat) (u : α)
    (hx : a.eval x = .pointer (some ⟨g, i * size, none⟩)) (hy : a.eval y = .agg ⟨f u⟩) (hr : w.ownsRow base e size (.slice (some ⟨g, 0, none⟩) n cap) n (l.flatMap f)) (hl : l.length = n) (hin : i < n)
    (hi : (P.info? ty).map (·.size) = some size) (h1 : (f u).all (·.oneCell') = true)
    (h : ∀ w', w'.ownsRow base e size (.slice (some ⟨g, 0, none⟩) n cap) n ((l.set i u).flatMap f) → Keeps (· = g) w w' → w'.heap.size = w.heap.size → wpList P ops Q rest (a.put o.dst undef) w') : wpList P ops Q (o :: rest) a w := by
  have hle : (i + 1) * size ≤ n * size := Nat.mul_le_mul_right _ hin
  rw [Nat.succ_mul] at hle
  obtain ⟨old, h2, h3, h4⟩ := own_put (vs := f u) (off := i * size) hr (by rw [hf u]; exact hle)
  refine wpList_store_at hgd ty x y ho g (i * size) (f u) hx hy h2 (by rw [hf u]; exact hi) h3 h1 fun w' h5 h6 h7 => h w' ?_ h6 h7
  have := h4 w' h5
  rwa [putAt_flat f hf l i u (by omega)] at this
end
end Go.Proofs.YticlnjfndjnfhaaDoor.rowe
