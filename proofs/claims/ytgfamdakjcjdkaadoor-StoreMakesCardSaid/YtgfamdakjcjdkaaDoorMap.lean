/- A map that is known whole: its block as a list of keys and values. Over any program; nothing of the program is named. -/
import Derived.Test.YtgfamdakjcjdkaaDoorBase
import Derived.Maps.Keyed
import Derived.MapKept
import Derived.WideKeyEntry
namespace Go.Proofs.YtgfamdakjcjdkaaDoor.map_
open Go.RowKit Go.Proofs.YtgfamdakjcjdkaaDoor.base Go.Maps Go.ChangeMaps Go.MapKept Go.WideElems

/-- Things that are keys of type K. -/
structure Emb (P : Program) (K : TypeId) (κ : Type) where
  en : κ → Value
  inj : ∀ {x y}, en x = en y → x = y
  ok : κ → Prop
  key : ∀ x, ok x → ∃ l, keyOf P K (en x) = some l
section
variable {P : Program} {K T E : TypeId} {κ : Type} {Em : Emb P K κ} {w w' : World} {b : Nat} {m : List (κ × Value)}
/-- The keys are apart. -/
def Apart (m : List (κ × Value)) : Prop := (m.map (·.1)).Nodup
/-- Block b is the map whose entries, in some order of making, are m. -/
def MapM (Em : Emb P K κ) (w : World) (b : Nat) (m : List (κ × Value)) : Prop :=
  ∃ es clock, w.heap[b]? = some (.map es clock) ∧ Stamped es clock ∧ es.toList.map (fun e => (e.key, e.val)) = m.map (fun p => (Em.en p.1, p.2)) ∧ ∀ p ∈ m, Em.ok p.1
theorem keeps_block (w : World) (b : Nat) (o : Obj) : Keeps (· = b) w (setBlock w b o) :=
  ⟨rfl, rfl, rfl, by simp [setBlock], fun i _ hx => by
    have hx : i ≠ b := hx
    simp [setBlock, Ne.symm hx]⟩
theorem MapM.lt (h : MapM Em w b m) : b < w.heap.size := by obtain ⟨es, clock, hb, _⟩ := h; exact heap_lt hb
theorem MapM.keeps {X : Nat → Prop} (h : MapM Em w b m) (hk : Keeps X w w') (hx : ¬ X b) : MapM Em w' b m := by
  obtain ⟨es, clock, hb, r⟩ := h
  exact ⟨es, clock, (hk.block b (heap_lt hb) hx).trans hb, r⟩
theorem MapM.below (h : MapM Em w b m) (hk : Below w.heap.size w w') : MapM Em w' b m := h.keeps (X := nobody) (.of_below hk) (fun h => h)
theorem MapM.new (Em : Emb P K κ) (w : World) : MapM Em (w.alloc (.map #[] 0)) w.heap.size [] :=
  ⟨#[], 0, (MapKept.heap_alloc w _).1, stamped_empty 0, by simp, by simp⟩
theorem MapM.not_blk {t : TypeId} {cs : Array Value} (h : MapM Em w b m) {g : Nat} (hg : Blk w g t cs) : g ≠ b := fun e => by
  subst e
  obtain ⟨es, clock, hb, _⟩ := h
  unfold Blk at hg
  rw [hb] at hg; cases hg
theorem apart_of {es : Array MapEntry} {clock : Nat} (hs : Stamped es clock) (hm : es.toList.map (fun e => (e.key, e.val)) = m.map (fun p => (Em.en p.1, p.2))) : Apart m := by
  have h1 : es.toList.map (·.key) = m.map (fun p => Em.en p.1) := by
    have := congrArg (List.map Prod.fst) hm
    simpa [List.map_map, Function.comp_def] using this
  have h2 := hs.2.2
  rw [h1] at h2
  unfold Apart
  exact List.pairwise_map.2 ((List.pairwise_map.1 h2).imp fun h e => h (congrArg Em.en e))
theorem MapM.apart (h : MapM Em w b m) : Apart m := by obtain ⟨es, clock, _, hs, hm, _⟩ := h; exact apart_of hs hm
theorem at_of {es : Array MapEntry} (hm : es.toList.map (fun e => (e.key, e.val)) = m.map (fun p => (Em.en p.1, p.2))) (j : Nat) {e : MapEntry} (hj : es.toList[j]? = some e) : ∃ p, m[j]? = some p ∧ e.key = Em.en p.1 ∧ e.val = p.2 := by
  have := congrArg (fun l => l[j]?) hm
  simp only [List.getElem?_map, hj, Option.map_some] at this
  cases hp : m[j]? with
  | none => rw [hp] at this; cases this
  | some p => rw [hp] at this; simp at this; exact ⟨p, rfl, this.1, this.2⟩
theorem MapM.len (h : MapM Em w b m) (ht : P.underlying T = some (.map K E)) (ty : TypeId) : (Builtin.len_ #[T] ty #[.map (some b)]).run P w = .ok (.int .i64 m.length) w := by
  obtain ⟨es, clock, hb, hs, hm, hok⟩ := h
  have hl : es.size = m.length := by have := congrArg List.length hm; simpa using this
  simp [Builtin.len_, run_underlying ht, MapKept.run_getObj_map hb, goInt, Result.andThen, hl]
theorem MapM.clear (h : MapM Em w b m) (ht : P.underlying T = some (.map K E)) (ty : TypeId) :
    ∃ w', (Builtin.clear_ #[T] ty #[.map (some b)]).run P w = .ok (.tuple #[]) w' ∧ MapM Em w' b [] ∧ Keeps (· = b) w w' := by
  obtain ⟨es, clock, hb, hs, hm, hok⟩ := h
  refine ⟨setBlock w b (.map #[] clock), ?_, ⟨_, _, heap_setBlock_same hb _, stamped_empty _, by simp, by simp⟩, keeps_block w b _⟩
  simp [Builtin.clear_, run_underlying ht, MapKept.run_getObj_map hb, MapKept.run_setObj_map _ hb, Result.andThen, setBlock]
end
section
variable {κ : Type} [DecidableEq κ]
def getM (m : List (κ × Value)) (x : κ) : Option Value := (m.find? fun p => decide (p.1 = x)).map (·.2)
def setM (m : List (κ × Value)) (x : κ) (v : Value) : List (κ × Value) := m.map fun p => if p.1 = x then (x, v) else p
def putM (m : List (κ × Value)) (x : κ) (v : Value) : List (κ × Value) := if (getM m x).isSome then setM m x v else m ++ [(x, v)]
def delM (m : List (κ × Value)) (x : κ) : List (κ × Value) := m.filter fun p => decide (p.1 ≠ x)
theorem get_none {m : List (κ × Value)} {x : κ} : getM m x = none ↔ ∀ p ∈ m, p.1 ≠ x := by
  unfold getM
  rw [Option.map_eq_none_iff, List.find?_eq_none]
  simp
theorem get_at {m : List (κ × Value)} (h : Apart m) {j : Nat} {x : κ} {v : Value} (hj : m[j]? = some (x, v)) : getM m x = some v := by
  induction m generalizing j with
  | nil => simp at hj
  | cons p m ih =>
    unfold Apart at h
    simp only [List.map_cons, List.nodup_cons] at h
    unfold getM
    rw [List.find?_cons]
    cases j with
    | zero => simp at hj; subst hj; simp
    | succ j =>
      simp at hj
      have hne : p.1 ≠ x := fun e => h.1 (by rw [e]; exact List.mem_map.2 ⟨(x, v), List.mem_of_getElem? hj, rfl⟩)
      rw [decide_eq_false hne]
      exact ih h.2 hj
theorem get_mem {m : List (κ × Value)} {x : κ} {v : Value} (h : getM m x = some v) : (x, v) ∈ m := by
  unfold getM at h
  obtain ⟨p, hp, rfl⟩ := Option.map_eq_some_iff.1 h
  have h1 := List.find?_some hp
  have h2 := List.mem_of_find?_eq_some hp
  simp at h1
  subst h1
  exact h2
theorem get_put (m : List (κ × Value)) (x y : κ) (v : Value) : getM (putM m x v) y = if y = x then some v else getM m y := by
  unfold putM
  cases hx : getM m x with
  | none =>
    simp only [Option.isSome_none, Bool.false_eq_true, if_false]
    unfold getM
    rw [List.find?_append]
    by_cases hy : y = x
    · subst hy
      have : m.find? (fun p => decide (p.1 = y)) = none := by
        unfold getM at hx; exact Option.map_eq_none_iff.1 hx
      rw [this]; simp
    · rw [if_neg hy]
      have h2 : [(x, v)].find? (fun p => decide (p.1 = y)) = none := by simp [Ne.symm hy]
      rw [h2]; simp
  | some u =>
    simp only [Option.isSome_some, if_true]
    unfold setM getM
    rw [List.find?_map]
    by_cases hy : y = x
    · subst hy
      rw [if_pos rfl]
      have h1 : ((fun p : κ × Value => decide (p.1 = y)) ∘ fun p => if p.1 = y then (y, v) else p) = fun p => decide (p.1 = y) := by
        funext p; simp only [Function.comp]; split <;> simp_all
      rw [h1]
      unfold getM at hx
      obtain ⟨p, hp, _⟩ := Option.map_eq_some_iff.1 hx
      rw [hp]
      have := List.find?_some hp
      simp at this
      simp [this]
    · rw [if_neg hy]
      have h1 : ((fun p : κ × Value => decide (p.1 = y)) ∘ fun p => if p.1 = x then (x, v) else p) = fun p => decide (p.1 = y) := by
        funext p; simp only [Function.comp]; split
        · simp_all [Ne.symm hy]
        · rfl
      rw [h1]
      cases hf : m.find? (fun p => decide (p.1 = y)) with
      | none => rfl
      | some p =>
        have := List.find?_some hf
        simp at this
        simp [this, hy]
theorem get_del (m : List (κ × Value)) (x y : κ) : getM (delM m x) y = if y = x then none else getM m y := by
  unfold delM
  by_cases hy : y = x
  · subst hy
    rw [if_pos rfl, get_none]
    intro p hp
    have := (List.mem_filter.1 hp).2
    simpa using this
  · rw [if_neg hy]
    unfold getM
    rw [List.find?_filter]
    congr 2
    funext p
    by_cases hp : p.1 = y
    · simp [hp, hy]
    · simp [hp]
theorem set_at {m : List (κ × Value)} (h : Apart m) {j : Nat} {x : κ} {u v : Value} (hj : m[j]? = some (x, u)) : setM m x v = m.set j (x, v) := by
  induction m generalizing j with
  | nil => simp at hj
  | cons p m ih =>
    unfold Apart at h
    simp only [List.map_cons, List.nodup_cons] at h
    cases j with
    | zero =>
      simp at hj; subst hj
      simp only [setM, List.map_cons, if_true, List.set_cons_zero]
      congr 1
      refine (List.map_congr_left fun q hq => ?_).trans (List.map_id _)
      rw [if_neg]; rfl
      intro e
      exact h.1 (by rw [← e]; exact List.mem_map.2 ⟨q, hq, rfl⟩)
    | succ j =>
      simp at hj
      have hne : p.1 ≠ x := fun e => h.1 (by rw [e]; exact List.mem_map.2 ⟨(x, u), List.mem_of_getElem? hj, rfl⟩)
      simp only [setM, List.map_cons, if_neg hne, List.set_cons_succ]
      congr 1
      exact ih h.2 hj
theorem del_at {m : List (κ × Value)} (h : Apart m) {j : Nat} {x : κ} {u : Value} (hj : m[j]? = some (x, u)) : delM m x = m.eraseIdx j := by
  induction m generalizing j with
  | nil => simp at hj
  | cons p m ih =>
    unfold Apart at h
    simp only [List.map_cons, List.nodup_cons] at h
    cases j with
    | zero =>
      simp at hj; subst hj
      simp only [delM, List.filter_cons, ne_eq, not_true_eq_false, decide_false, Bool.false_eq_true, if_false, List.eraseIdx_cons_zero]
      refine List.filter_eq_self.2 fun q hq => ?_
      simp only [decide_eq_true_eq]
      intro e
      exact h.1 (by rw [← e]; exact List.mem_map.2 ⟨q, hq, rfl⟩)
    | succ j =>
      simp at hj
      have hne : p.1 ≠ x := fun e => h.1 (by rw [e]; exact List.mem_map.2 ⟨(x, u), List.mem_of_getElem? hj, rfl⟩)
      simp only [delM, List.filter_cons, ne_eq, hne, not_false_eq_true, decide_true, if_true, List.eraseIdx_cons_succ]
      congr 1
      exact ih h.2 hj
section
variable {P : Program} {K T E : TypeId} {Em : Emb P K κ} {w : World} {b : Nat} {m : List (κ × Value)}
theorem find_of (Kd : Keyed P K) {es : Array MapEntry} {clock : Nat} (hs : Stamped es clock) (hm : es.toList.map (fun e => (e.key, e.val)) = m.map (fun p => (Em.en p.1, p.2))) (hok : ∀ p ∈ m, Em.ok p.1) (w : World) {x : κ} (hx : Em.ok x) :
    ((Instr.findKey K (Em.en x) es.toList).run P w = .ok none w ∧ getM m x = none ∧ ∀ e ∈ es.toList, e.key ≠ Em.en x) ∨
    ∃ j e, (Instr.findKey K (Em.en x) es.toList).run P w = .ok (some (j, e.val)) w ∧ es.toList[j]? = some e ∧ e.key = Em.en x ∧ m[j]? = some (x, e.val) ∧ getM m x = some e.val := by
  obtain ⟨lx, hlx⟩ := Em.key x hx
  have hkeys : ∀ e ∈ es.toList, ∃ l, keyOf P K e.key = some l := by
    intro e he
    obtain ⟨j, hj, rfl⟩ := List.getElem_of_mem he
    obtain ⟨p, hp, h1, _⟩ := at_of hm j (List.getElem?_eq_getElem hj)
    rw [h1]
    exact Em.key p.1 (hok p (List.mem_of_getElem? hp))
  rcases Kd.find w hlx es.toList hkeys with ⟨h1, h2⟩ | ⟨j, e, h1, h2, h3⟩
  · refine .inl ⟨h1, get_none.2 fun p hp hpx => ?_, h2⟩
    have hmem : (Em.en p.1, p.2) ∈ es.toList.map (fun e => (e.key, e.val)) := by rw [hm]; exact List.mem_map.2 ⟨p, hp, rfl⟩
    obtain ⟨e, he, hee⟩ := List.mem_map.1 hmem
    simp at hee
    exact h2 e he (by rw [hee.1, hpx])
  · obtain ⟨⟨px, pv⟩, hp, h4, h5⟩ := at_of hm j h2
    have hpx : px = x := Em.inj (by rw [← h4, h3])
    simp only at h5
    subst hpx h5
    exact .inr ⟨j, e, h1, h2, h3, hp, get_at (apart_of hs hm) hp⟩
theorem MapM.look (h : MapM Em w b m) (Kd : Keyed P K) (ht : P.underlying T = some (.map K E)) {z : Value} (hz : (zeroValue E).run P w = .ok z w) {x : κ} (hx : Em.ok x) :
    (Instr.lookup T (.map (some b)) (Em.en x) false).run P w = .ok ((getM m x).getD z) w := by
  obtain ⟨es, clock, hb, hs, hm, hok⟩ := h
  obtain ⟨lx, hlx⟩ := Em.key x hx
  rcases find_of Kd hs hm hok w hx with ⟨h1, h2, _⟩ | ⟨j, e, h1, h2, h3, h4, h5⟩
  · simp [Instr.lookup, run_underlying ht, MapKept.run_getObj_map hb, Kd.check w _ hlx, h1, hz, Result.andThen, h2]
  · simp [Instr.lookup, run_underlying ht, MapKept.run_getObj_map hb, Kd.check w _ hlx, h1, Result.andThen, h5]
theorem MapM.look_ok (h : MapM Em w b m) (Kd : Keyed P K) (ht : P.underlying T = some (.map K E)) {z : Value} (hz : (zeroValue E).run P w = .ok z w) {x : κ} (hx : Em.ok x) :
    (Instr.lookup T (.map (some b)) (Em.en x) true).run P w = .ok (.tuple #[(getM m x).getD z, .bool (getM m x).isSome]) w := by
  obtain ⟨es, clock, hb, hs, hm, hok⟩ := h
  obtain ⟨lx, hlx⟩ := Em.key x hx
  rcases find_of Kd hs hm hok w hx with ⟨h1, h2, _⟩ | ⟨j, e, h1, h2, h3, h4, h5⟩
  · simp [Instr.lookup, run_underlying ht, MapKept.run_getObj_map hb, Kd.check w _ hlx, h1, hz, Result.andThen, h2]
  · simp [Instr.lookup, run_underlying ht, MapKept.run_getObj_map hb, Kd.check w _ hlx, h1, Result.andThen, h5]
theorem MapM.put (h : MapM Em w b m) (Kd : Keyed P K) (ht : P.underlying T = some (.map K E)) {x : κ} (hx : Em.ok x) (v : Value) :
    ∃ w', (Instr.mapUpdate T (.map (some b)) (Em.en x) v).run P w = .ok () w' ∧ MapM Em w' b (putM m x v) ∧ Keeps (· = b) w w' := by
  obtain ⟨es, clock, hb, hs, hm, hok⟩ := h
  obtain ⟨lx, hlx⟩ := Em.key x hx
  rcases find_of Kd hs hm hok w hx with ⟨h1, h2, h3⟩ | ⟨j, e, h1, h2, h3, h4, h5⟩
  · refine ⟨setBlock w b (.map (es.push ⟨Em.en x, v, clock⟩) (clock + 1)), ?_, ⟨_, _, heap_setBlock_same hb _, stamped_push hs h3, ?_, ?_⟩, keeps_block w b _⟩
    · simp [Instr.mapUpdate, run_underlying ht, MapKept.run_getObj_map hb, Kd.check w false hlx, h1, MapKept.run_setObj_map _ hb, Result.andThen, setBlock]
    · unfold putM
      rw [h2]
      simp [hm]
    · unfold putM
      rw [h2]
      intro p hp
      simp at hp
      rcases hp with hp | rfl
      · exact hok p hp
      · exact hx
  · have hj : es[j]? = some e := by simpa using h2
    have hset : putM m x v = m.set j (x, v) := by
      unfold putM
      rw [h5]
      exact set_at (apart_of hs hm) h4
    have hlist : (es.modify j (fun e' => { e' with key := Em.en x, val := v })).toList = es.toList.set j { e with key := Em.en x, val := v } := by rw [Array.toList_modify, modify_eq_set _ _ _ _ h2]
    refine ⟨setBlock w b (.map (es.modify j (fun e' => { e' with key := Em.en x, val := v })) clock), ?_, ⟨_, _, heap_setBlock_same hb _, stamped_modify hs _ _ (fun _ _ => rfl) (fun e' _ he' => by rw [hj] at he'; cases he'; exact h3.symm), ?_, ?_⟩, keeps_block w b _⟩
    · simp [Instr.mapUpdate, run_underlying ht, MapKept.run_getObj_map hb, Kd.check w false hlx, h1, hj, h3, Kd.stays w hlx, MapKept.run_setObj_map _ hb, Result.andThen, setBlock]
    · rw [hset, hlist, List.map_set, List.map_set, hm]
    · rw [hset]
      intro p hp
      rcases List.mem_or_eq_of_mem_set hp with hp | rfl
      · exact hok p hp
      · exact hx
theorem MapM.del (h : MapM Em w b m) (Kd : Keyed P K) (ht : P.underlying T = some (.map K E)) {x : κ} (hx : Em.ok x) (ty : TypeId) :
    ∃ w', (Builtin.delete_ #[T, K] ty #[.map (some b), Em.en x]).run P w = .ok (.tuple #[]) w' ∧ MapM Em w' b (delM m x) ∧ Keeps (· = b) w w' := by
  obtain ⟨es, clock, hb, hs, hm, hok⟩ := h
  obtain ⟨lx, hlx⟩ := Em.key x hx
  rcases find_of Kd hs hm hok w hx with ⟨h1, h2, h3⟩ | ⟨j, e, h1, h2, h3, h4, h5⟩
  · have hd : delM m x = m := List.filter_eq_self.2 fun p hp => by simpa using get_none.1 h2 p hp
    rw [hd]
    refine ⟨setBlock w b (.map es clock), ?_, ⟨_, _, heap_setBlock_same hb _, hs, hm, hok⟩, keeps_block w b _⟩
    simp [Builtin.delete_, run_underlying ht, MapKept.run_getObj_map hb, Kd.check w _ hlx, h1, MapKept.run_setObj_map _ hb, Result.andThen, setBlock]
  · have hjl : j < es.size := by have := (List.getElem?_eq_some_iff.1 h2).1; simpa using this
    have hd : delM m x = m.eraseIdx j := del_at (apart_of hs hm) h4
    have hlist : (es.eraseIdxIfInBounds j).toList = es.toList.eraseIdx j := by
      unfold Array.eraseIdxIfInBounds
      rw [dif_pos hjl]
      simp
    refine ⟨setBlock w b (.map (es.eraseIdxIfInBounds j) clock), ?_, ⟨_, _, heap_setBlock_same hb _, stamped_erase hs j, ?_, ?_⟩, keeps_block w b _⟩
    · simp [Builtin.delete_, run_underlying ht, MapKept.run_getObj_map hb, Kd.check w _ hlx, h1, MapKept.run_setObj_map _ hb, Result.andThen, setBlock]
    · rw [hd, hlist, map_eraseIdx, map_eraseIdx, hm]
    · rw [hd]
      intro p hp
      exact hok p (List.mem_of_mem_eraseIdx hp)
theorem block_set {w2 : World} {b : Nat} {o : Obj} (hb : b < w2.heap.size) : (setBlock w2 b o).heap[b]? = some o := by
  simp [setBlock, hb]
/-- 'm[k] op= ..': the entry is fetched (and made, if it is not there), something is done elsewhere, the entry is stored. -/
theorem MapM.entry (h : MapM Em w b m) (KL : WideMaps.KeyLaw P K) (ht : P.underlying T = some (.map K E)) {z : Value} (hz : ∀ u : World, (zeroValue E).run P u = .ok z u) {x : κ} (hx : Em.ok x) (hl : m.length ≤ 1000000) :
    ∃ st w1, (Instr.mapEntry T (.map (some b)) (Em.en x)).run P w = .ok (.tuple #[(getM m x).getD z, .int .i64 st]) w1 ∧ Keeps (· = b) w w1 ∧ b < w1.heap.size ∧
      ∀ w2 v, w2.heap[b]? = w1.heap[b]? → ∃ w3, (Instr.entryStore T (.map (some b)) (.int .i64 st) v).run P w2 = .ok () w3 ∧ MapM Em w3 b (putM m x v) ∧ Keeps (· = b) w2 w3 := by
  have h0 := h
  obtain ⟨es, clock, hb, hs, hm, hok⟩ := h
  obtain ⟨lx, hlx⟩ := Em.key x hx
  have hsz : es.size = m.length := by have := congrArg List.length hm; simpa using this
  have F : Fit (H := Unit) P K (fun _ => some (.lit (.bool true), [])) es clock := by
    refine ⟨by unfold maxLen; omega, hs, fun e he => ?_⟩
    obtain ⟨j, hj, rfl⟩ := List.getElem_of_mem he
    obtain ⟨p, hp, h1, _⟩ := at_of hm j (List.getElem?_eq_getElem hj)
    obtain ⟨l, hl⟩ := Em.key p.1 (hok p (List.mem_of_getElem? hp))
    have hk : keyOf P K es.toList[j].key = some l := by rw [h1]; exact hl
    exact ⟨_, rd_mk (R := fun _ => some (.lit (.bool true), [])) (key := es.toList[j].key) (val := es.toList[j].val) hk rfl⟩
  obtain ⟨v0, st, es1, clock1, hrun, hv0, hstore⟩ := entry_then_store KL ht hz hb F hlx
  have hg : v0 = (getM m x).getD z := by
    rcases find_of (Keyed.of_law KL) hs hm hok w hx with ⟨h1, h2, h3⟩ | ⟨j, e, h1, h2, h3, h4, h5⟩
    · rw [h2]
      rcases hv0 with ⟨e0, he0, hk, _⟩ | ⟨_, h⟩
      · exact absurd hk (h3 e0 he0)
      · exact h
    · rw [h5]
      rcases hv0 with ⟨e0, he0, hk, h⟩ | ⟨hn, _⟩
      · obtain ⟨i, hi, rfl⟩ := List.getElem_of_mem he0
        obtain ⟨⟨px, pv⟩, hp, hpk, hpv⟩ := at_of hm i (List.getElem?_eq_getElem hi)
        have hpx : px = x := Em.inj (by rw [← hpk, hk])
        subst hpx
        have := get_at (apart_of hs hm) hp
        rw [h5] at this
        injection this with this
        rw [h, hpv, this]; rfl
      · exact absurd h3 (hn e (List.mem_of_getElem? h2))
  refine ⟨st, _, by rw [← hg]; exact hrun, keeps_block w b _, by simpa [setBlock] using heap_lt hb, fun w2 v hw2 => ?_⟩
  rw [block_set (heap_lt hb)] at hw2
  obtain ⟨es', clock', h1, h2⟩ := hstore w2 v hw2
  refine ⟨_, h1, ?_, keeps_block w2 b _⟩
  obtain ⟨w', h3, h4, _⟩ := h0.put (Keyed.of_law KL) ht hx v
  rw [h2] at h3
  injection h3 with _ h3
  subst h3
  obtain ⟨es2, c2, hb2, r⟩ := h4
  rw [block_set (heap_lt hb)] at hb2
  injection hb2 with hb2
  injection hb2 with e1 e2
  subst e1 e2
  exact ⟨_, _, block_set (heap_lt hw2), r⟩
end
end
end Go.Proofs.YtgfamdakjcjdkaaDoor.map_
