/- Store.Sweep: what is gone for good is let go; maps.DeleteFunc by its closure. -/
import Derived.Test.YtgfamdakjcjdkaaDoorShowS
namespace Go.Proofs.YtgfamdakjcjdkaaDoor.range_
open Go.RowKit Go.Proofs.YtgfamdakjcjdkaaDoor.base Go.Proofs.YtgfamdakjcjdkaaDoor.map_ Go.Maps Go.ChangeMaps Go.MapKept
section
variable {P : Program} {K T E : TypeId} {κ : Type} [DecidableEq κ] {Em : Emb P K κ} {w w' : World} {r b : Nat} {m left : List (κ × Value)}
omit [DecidableEq κ] in
theorem IterM.nodup (h : IterM Em w r b m left) : (left.map (·.1)).Nodup := by
  obtain ⟨es, clock, seen, since, c0, hb, hs, hm, hr, hold, hsc, hcl, hl, hsub⟩ := h
  have ha := apart_of hs hm
  have h1 : (es.toList.map (·.key)).Nodup := by
    have h2 := congrArg (List.map Prod.fst) hm
    rw [List.map_map, List.map_map] at h2
    have h3 : es.toList.map (·.key) = (m.map (·.1)).map Em.en := by rw [List.map_map]; exact h2
    rw [h3]
    exact List.Pairwise.map _ (fun a b h e => h (Em.inj e)) ha
  have h4 : ((leftOf es seen).toList.map (·.key)).Nodup := by
    unfold leftOf
    rw [Array.toList_filter]
    exact List.Nodup.sublist (List.Sublist.map _ List.filter_sublist) h1
  have h5 := congrArg (List.map Prod.fst) hl
  rw [List.map_map, List.map_map] at h5
  have h6 : (leftOf es seen).toList.map (·.key) = (left.map (·.1)).map Em.en := by rw [List.map_map]; exact h5
  rw [h6] at h4
  exact List.Pairwise.of_map Em.en (fun a b h e => h (by rw [e])) h4
theorem filter_erase {α : Type} (p : α → Bool) : ∀ (l : List α) (j : Nat) (a : α), l[j]? = some a → p a = false → (l.eraseIdx j).filter p = l.filter p
  | [], _, _, h, _ => by simp at h
  | x :: l, 0, a, h, hp => by
    simp at h
    subst h
    simp [hp]
  | x :: l, j + 1, a, h, hp => by
    simp at h
    rw [List.eraseIdx_cons_succ, List.filter_cons, List.filter_cons, filter_erase p l j a h hp]
theorem IterM.del (h : IterM Em w r b m left) (hok : ∀ p ∈ m, Em.ok p.1) (Kd : Keyed P K) (ht : P.underlying T = some (.map K E)) {x : κ} (hx : Em.ok x) (hn : ∀ q ∈ left, q.1 ≠ x) (ty : TypeId) :
    ∃ w', (Builtin.delete_ #[T, K] ty #[.map (some b), Em.en x]).run P w = .ok (.tuple #[]) w' ∧ IterM Em w' r b (delM m x) left ∧ MapM Em w' b (delM m x) ∧ Keeps (· = b) w w' := by
  obtain ⟨es, clock, seen, since, c0, hb, hs, hm, hr, hold, hsc, hcl, hl, hsub⟩ := h
  obtain ⟨lx, hlx⟩ := Em.key x hx
  have hne : r ≠ b := by
    rintro rfl
    rw [hr] at hb; cases hb
  have hsub' : ∀ p ∈ left, p ∈ delM m x := fun p hp => List.mem_filter.2 ⟨hsub p hp, by simpa using hn p hp⟩
  rcases find_of Kd hs hm hok w hx with ⟨h1, h2, h3⟩ | ⟨j, e, h1, h2, h3, h4, h5⟩
  · have hd : delM m x = m := List.filter_eq_self.2 fun p hp => by simpa using get_none.1 h2 p hp
    rw [hd] at hsub' ⊢
    have hb2 : (setBlock w b (.map es clock)).heap[b]? = some (.map es clock) := heap_setBlock_same hb _
    have hr2 : (setBlock w b (.map es clock)).heap[r]? = some (.mapIter (some b) since seen c0) := ((keeps_block w b _).block r (heap_lt hr) hne).trans hr
    refine ⟨setBlock w b (.map es clock), ?_, ⟨es, clock, seen, since, c0, hb2, hs, hm, hr2, hold, hsc, hcl, hl, hsub'⟩, ⟨_, _, hb2, hs, hm, hok⟩, keeps_block w b _⟩
    simp [Builtin.delete_, run_underlying ht, MapKept.run_getObj_map hb, Kd.check w _ hlx, h1, MapKept.run_setObj_map _ hb, Result.andThen, setBlock]
  · have hjl : j < es.size := by have := (List.getElem?_eq_some_iff.1 h2).1; simpa using this
    have hd : delM m x = m.eraseIdx j := del_at (apart_of hs hm) h4
    have hlist : (es.eraseIdxIfInBounds j).toList = es.toList.eraseIdx j := by
      unfold Array.eraseIdxIfInBounds
      rw [dif_pos hjl]
      simp
    have hseen : (!seen.contains e.born) = false := by
      rw [Bool.eq_false_iff]
      intro hc
      have hmem : e ∈ (leftOf es seen).toList := by
        unfold leftOf
        rw [Array.toList_filter]
        exact List.mem_filter.2 ⟨List.mem_of_getElem? h2, hc⟩
      have h6 : (e.key, e.val) ∈ left.map (fun p => (Em.en p.1, p.2)) := by rw [← hl]; exact List.mem_map.2 ⟨e, hmem, rfl⟩
      obtain ⟨q, hq, e6⟩ := List.mem_map.1 h6
      have e7 : Em.en q.1 = e.key := congrArg Prod.fst e6
      exact hn q hq (Em.inj (by rw [e7, h3]))
    have hleft : (leftOf (es.eraseIdxIfInBounds j) seen).toList = (leftOf es seen).toList := by
      unfold leftOf
      rw [Array.toList_filter, Array.toList_filter, hlist]
      exact filter_erase _ es.toList j e h2 hseen
    have hm2 : (es.eraseIdxIfInBounds j).toList.map (fun e => (e.key, e.val)) = (m.eraseIdx j).map (fun p => (Em.en p.1, p.2)) := by rw [hlist, map_eraseIdx, map_eraseIdx, hm]
    have hb2 : (setBlock w b (.map (es.eraseIdxIfInBounds j) clock)).heap[b]? = some (.map (es.eraseIdxIfInBounds j) clock) := heap_setBlock_same hb _
    have hr2 : (setBlock w b (.map (es.eraseIdxIfInBounds j) clock)).heap[r]? = some (.mapIter (some b) since seen c0) := ((keeps_block w b _).block r (heap_lt hr) hne).trans hr
    rw [hd] at hsub' ⊢
    refine ⟨setBlock w b (.map (es.eraseIdxIfInBounds j) clock), ?_, ⟨_, clock, seen, since, c0, hb2, stamped_erase hs j, hm2, hr2, fun x hx => hold x ?_, hsc, hcl, by rw [hleft]; exact hl, hsub'⟩, ⟨_, _, hb2, stamped_erase hs j, hm2, fun p hp => hok p (List.mem_of_mem_eraseIdx hp)⟩, keeps_block w b _⟩
    · simp [Builtin.delete_, run_underlying ht, MapKept.run_getObj_map hb, Kd.check w _ hlx, h1, MapKept.run_setObj_map _ hb, Result.andThen, setBlock]
    · rw [hlist] at hx
      exact List.mem_of_mem_eraseIdx hx
end
end Go.Proofs.YtgfamdakjcjdkaaDoor.range_
namespace Go.Proofs.YtgfamdakjcjdkaaDoor.store
open Go Go.RowKit Go.Proofs.YtgfamdakjcjdkaaDoor.base Go.Proofs.YtgfamdakjcjdkaaDoor.map_ Go.Proofs.YtgfamdakjcjdkaaDoor.range_ Go.Proofs.YtgfamdakjcjdkaaDoor.above Go.Proofs.YtgfamdakjcjdkaaDoor.law Go.Proofs.YtgfamdakjcjdkaaDoor.merge Go.Proofs.YtgfamdakjcjdkaaDoor.rows Go.Proofs.YtgfamdakjcjdkaaDoor.rowe Go.Maps

def goneB (fl : Int) (c : C) : Bool := c.g && decide (c.t ≤ fl)
/-- what a sweep leaves -/
def keepL (fl : Int) (L : List R) : List R := L.filter fun x => !goneB fl x.2
theorem map_len {m : List (Nm × Value)} {L : List R} (hr : Rising L) (ha : Apart m) (he : ∀ x, getM m x = (getL L x).map cval) : m.length = L.length := by
  have hall := map_rows ha he
  have : ∃ out : List R, m = out.map enR := by
    clear ha he
    induction m with
    | nil => exact ⟨[], rfl⟩
    | cons p m ih =>
      obtain ⟨x, e, _⟩ := hall p (by simp)
      obtain ⟨out, e2⟩ := ih (fun q hq => hall q (by simp [hq]))
      exact ⟨x :: out, by rw [e, e2]; rfl⟩
  obtain ⟨out, e⟩ := this
  have hp := rows_perm hr ha he (out := out) (by rw [e])
  rw [e, List.length_map]
  exact hp.length_eq
/-- the entries of m are rows of L; those of L that are not there are gone -/
structure Part (fl : Int) (L : List R) (m left : List (Nm × Value)) : Prop where
  got : ∀ x, getM m x = (getL L x).map cval ∨ (getM m x = none ∧ ∃ c, getL L x = some c ∧ goneB fl c = true)
  todo : ∀ x c, getM m x = some (cval c) → goneB fl c = true → (x, cval c) ∈ left
theorem Part.start {fl : Int} {L : List R} {m : List (Nm × Value)} (he : ∀ x, getM m x = (getL L x).map cval) : Part fl L m m := ⟨fun x => .inl (he x), fun _ _ h _ => get_mem h⟩
theorem Part.done {fl : Int} {L : List R} {m : List (Nm × Value)} (hr : Rising L) (h : Part fl L m []) : ∀ x, getM m x = (getL (keepL fl L) x).map cval := by
  intro x
  unfold keepL
  rw [getL_filter hr]
  rcases h.got x with h1 | ⟨h1, c, h2, h3⟩
  · rw [h1]
    cases hg : getL L x with
    | none => rfl
    | some c =>
      rw [hg] at h1
      cases hb : goneB fl c with
      | true => exact absurd (h.todo x c h1 hb) (by simp)
      | false => simp [hb]
  · rw [h1, h2]
    simp [h3]
theorem Part.row {fl : Int} {L : List R} {m left : List (Nm × Value)} (ha : Apart m) (h : Part fl L m left) {p : Nm × Value} (hp : p ∈ m) : ∃ x : R, p = enR x := by
  obtain ⟨x, v⟩ := p
  have h1 := get_mem' ha hp
  rcases h.got x with h2 | ⟨h2, _⟩
  · rw [h2] at h1
    cases hg : getL L x with
    | none => rw [hg] at h1; cases h1
    | some c =>
      rw [hg] at h1
      injection h1 with h1
      exact ⟨(x, c), by rw [← h1]; rfl⟩
  · rw [h2] at h1; cases h1
theorem Part.skip {fl : Int} {L : List R} {m l1 l2 : List (Nm × Value)} {x : R} (h : Part fl L m (l1 ++ enR x :: l2)) (hx : goneB fl x.2 = false) : Part fl L m (l1 ++ l2) := by
  refine ⟨h.got, fun y c h1 h2 => ?_⟩
  have h3 := h.todo y c h1 h2
  simp only [List.mem_append, List.mem_cons] at h3 ⊢
  rcases h3 with h3 | h3 | h3
  · exact .inl h3
  · have : (y, c) = x := enR_inj h3
    rw [← this] at hx
    simp only at hx
    rw [h2] at hx; cases hx
  · exact .inr h3
theorem Part.drop {fl : Int} {L : List R} {m l1 l2 : List (Nm × Value)} {x : R} (ha : Apart m) (hm : enR x ∈ m) (h : Part fl L m (l1 ++ enR x :: l2)) (hx : goneB fl x.2 = true) : Part fl L (delM m x.1) (l1 ++ l2) := by
  have hg := get_mem' ha (x := x.1) (v := cval x.2) hm
  refine ⟨fun y => ?_, fun y c h1 h2 => ?_⟩
  · rw [get_del]
    by_cases e : y = x.1
    · rw [if_pos e, e]
      right
      refine ⟨rfl, x.2, ?_, hx⟩
      rcases h.got x.1 with h1 | ⟨h1, _⟩
      · rw [hg] at h1
        cases hq : getL L x.1 with
        | none => rw [hq] at h1; cases h1
        | some d =>
          rw [hq] at h1
          injection h1 with h1
          rw [cval_inj h1]
      · rw [hg] at h1; cases h1
    · rw [if_neg e]; exact h.got y
  · rw [get_del] at h1
    by_cases e : y = x.1
    · rw [if_pos e] at h1; cases h1
    · rw [if_neg e] at h1
      have h3 := h.todo y c h1 h2
      simp only [List.mem_append, List.mem_cons] at h3 ⊢
      rcases h3 with h3 | h3 | h3
      · exact .inl h3
      · exact absurd (congrArg Prod.fst h3) e
      · exact .inr h3
/-- what the deletion leaves of the map -/
def MapDel (fl : Int) (bm : Nat) (L : List R) (w : World) (e : Ending) (w' : World) : Prop :=
  e = .returned (.tuple #[]) ∧ (∃ m, MapM nameE w' bm m ∧ ∀ x, getM m x = (getL (keepL fl L) x).map cval) ∧ Keeps (· = bm) w w'
/-- what Sweep leaves -/
def SweepR (g bm : Nat) (fl : Int) (L : List R) (w : World) (e : Ending) (w' : World) : Prop :=
  e = .returned (.int .i64 ((L.length : Int) - ((keepL fl L).length : Int))) ∧ StI w' g bm (keepL fl L) ∧ Keeps (· = bm) w w'
theorem keepL_up {fl : Int} {L : List R} (h : Rising L) : Rising (keepL fl L) := h.filter _
theorem keepL_len (fl : Int) (L : List R) : (keepL fl L).length ≤ L.length := List.length_filter_le _ _
theorem StI.len {w : World} {g bm : Nat} {L : List R} (h : StI w g bm L) (ty : TypeId) : (Builtin.len_ #[mapT] ty #[.map (some bm)]).run Tryd.prog w = .ok (.int .i64 L.length) w := by
  obtain ⟨m, hm, he⟩ := h.map
  rw [hm.len Tryd.underlying63 ty, map_len h.up hm.apart he]
end Go.Proofs.YtgfamdakjcjdkaaDoor.store
