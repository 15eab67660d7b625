/- A range over a map that is known whole: what is left, in whatever order it comes. Over any program. -/
import Derived.Test.YtgfamdakjcjdkaaDoorMap
import Derived.Maps.RangeRun
namespace Go.Proofs.YtgfamdakjcjdkaaDoor.range_
open Go.RowKit Go.Proofs.YtgfamdakjcjdkaaDoor.base Go.Proofs.YtgfamdakjcjdkaaDoor.map_ Go.Maps Go.ChangeMaps Go.MapKept
section
variable {P : Program} {K T E : TypeId} {κ : Type} {Em : Emb P K κ} {w w' : World} {r b : Nat} {m left : List (κ × Value)}
/-- Block r holds a range over the map in block b; what has not come yet is left. -/
def IterM (Em : Emb P K κ) (w : World) (r b : Nat) (m left : List (κ × Value)) : Prop :=
  ∃ es clock seen since c0, w.heap[b]? = some (.map es clock) ∧ Stamped es clock ∧ es.toList.map (fun e => (e.key, e.val)) = m.map (fun p => (Em.en p.1, p.2)) ∧ w.heap[r]? = some (.mapIter (some b) since seen c0) ∧ (∀ x ∈ es.toList, x.born < since) ∧ since ≤ c0 ∧ since ≤ clock ∧
    (leftOf es seen).toList.map (fun e => (e.key, e.val)) = left.map (fun p => (Em.en p.1, p.2)) ∧ ∀ p ∈ left, p ∈ m
/-- How much is left. -/
def leftN (w : World) (r b : Nat) : Nat := match w.heap[b]? with | some (.map es _) => (leftOf es (w.iterSeen r)).size | _ => 0
theorem IterM.size (h : IterM Em w r b m left) : leftN w r b = left.length := by
  obtain ⟨es, clock, seen, since, c0, hb, hs, hm, hr, hold, hsc, hcl, hl, hsub⟩ := h
  have h1 : w.iterSeen r = seen := by unfold World.iterSeen; rw [hr]
  unfold leftN
  rw [hb]
  simp only [h1]
  have := congrArg List.length hl
  simpa using this
theorem IterM.keeps {X : Nat → Prop} (h : IterM Em w r b m left) (hk : Keeps X w w') (hb : ¬ X b) (hr : ¬ X r) : IterM Em w' r b m left := by
  obtain ⟨es, clock, seen, since, c0, h1, hs, hm, h2, q⟩ := h
  exact ⟨es, clock, seen, since, c0, (hk.block b (heap_lt h1) hb).trans h1, hs, hm, (hk.block r (heap_lt h2) hr).trans h2, q⟩
theorem _root_.Go.Proofs.YtgfamdakjcjdkaaDoor.map_.MapM.range (h : MapM Em w b m) (ht : P.underlying T = some (.map K E)) :
    ∃ o, (Instr.range T (.map (some b))).run P w = .ok (.pointer (some ⟨w.heap.size, 0, none⟩)) (w.alloc o) ∧ IterM Em (w.alloc o) w.heap.size b m m := by
  obtain ⟨es, clock, hb, hs, hm, hok⟩ := h
  refine ⟨_, run_range_map w T K E b es clock ht hb, es, clock, #[], clock, clock, (Below.heap_alloc w _ b (heap_lt hb)).trans hb, hs, hm, heap_alloc_new w _, hs.1, Nat.le_refl _, Nat.le_refl _, ?_, fun _ h => h⟩
  rw [← hm]
  unfold leftOf
  congr 1
  rw [Array.toList_filter]
  exact List.filter_eq_self.2 fun x _ => by simp
theorem left_push {es : Array MapEntry} {seen : Array Nat} {e : MapEntry} {L1 L2 : List MapEntry} (hn : (es.toList.map (·.born)).Nodup) (h : (leftOf es seen).toList = L1 ++ e :: L2) : (leftOf es (seen.push e.born)).toList = L1 ++ L2 := by
  have h0 : (leftOf es seen).toList = es.toList.filter (fun x => !seen.contains x.born) := by unfold leftOf; simp
  have h1 : (leftOf es (seen.push e.born)).toList = ((leftOf es seen).toList).filter (fun x => !(x.born == e.born)) := by
    rw [h0, List.filter_filter]
    unfold leftOf
    rw [Array.toList_filter]
    refine List.filter_congr fun x _ => ?_
    rw [contains_push, Bool.not_or, Bool.and_comm]
  have h2 : (((leftOf es seen).toList).map (·.born)).Nodup := by
    rw [h0]
    exact List.Nodup.sublist (List.Sublist.map _ List.filter_sublist) hn
  rw [h1, h]
  rw [h] at h2
  rw [List.map_append, List.map_cons] at h2
  have h3 := List.nodup_append.1 h2
  have h4 := List.nodup_cons.1 h3.2.1
  rw [List.filter_append, List.filter_cons]
  simp only [beq_self_eq_true, Bool.not_true, Bool.false_eq_true, if_false]
  congr 1
  · refine List.filter_eq_self.2 fun x hx => ?_
    have : x.born ≠ e.born := h3.2.2 x.born (List.mem_map.2 ⟨x, hx, rfl⟩) e.born (by simp)
    simp [this]
  · refine List.filter_eq_self.2 fun x hx => ?_
    have : x.born ≠ e.born := fun he => h4.1 (by rw [← he]; exact List.mem_map.2 ⟨x, hx, rfl⟩)
    simp [this]
theorem IterM.next (h : IterM Em w r b m left) (ty : TypeId) :
    (left = [] ∧ (Instr.next (.pointer (some ⟨r, 0, none⟩)) false ty).run P w = .ok (.tuple #[.bool false]) w) ∨
    ∃ l1 p l2 w', left = l1 ++ p :: l2 ∧ (Instr.next (.pointer (some ⟨r, 0, none⟩)) false ty).run P w = .ok (.tuple #[.bool true, Em.en p.1, p.2]) w' ∧ IterM Em w' r b m (l1 ++ l2) ∧
      (Instr.entry (.pointer (some ⟨r, 0, none⟩))).run P w' = .ok (.tuple #[Em.en p.1, p.2]) w' ∧ Keeps (· = r) w w' := by
  obtain ⟨es, clock, seen, since, c0, hb, hs, hm, hr, hold, hsc, hcl, hl, hsub⟩ := h
  rcases run_next_at (P := P) w ty r b since c0 seen es clock hr hb hold hsc with ⟨h0, hrun⟩ | ⟨e, he, w1, hal, hrun⟩
  · refine .inl ⟨?_, hrun⟩
    have := congrArg List.length hl
    simp [h0] at this
    exact List.eq_nil_of_length_eq_zero this.symm
  · right
    obtain ⟨L1, L2, hL⟩ := List.append_of_mem he
    rw [hL] at hl
    have hl2 := hl.symm
    rw [List.map_append, List.map_cons] at hl2
    obtain ⟨l1, l3, rfl, e1, e2⟩ := List.map_eq_append_iff.1 hl2
    obtain ⟨p, l2, rfl, e3, e4⟩ := List.map_eq_cons_iff.1 e2
    have e5 : Em.en p.1 = e.key := by have := congrArg Prod.fst e3; exact this
    have e6 : p.2 = e.val := by have := congrArg Prod.snd e3; exact this
    have hne : r ≠ b := by
      rintro rfl
      rw [hr] at hb; cases hb
    have hrl := heap_lt hr
    have hbl := heap_lt hb
    have hr1 : w1.heap[r]? = some (.mapIter (some b) since seen c0) := by rcases hal with rfl | rfl <;> exact hr
    have hb1 : w1.heap[b]? = some (.map es clock) := by rcases hal with rfl | rfl <;> exact hb
    have hk1 : Keeps (· = r) w w1 := by rcases hal with rfl | rfl; exact (.of_below (Below.refl _ _)); exact .drew
    have hr2 : (setBlock w1 r (.mapIter (some b) since (seen.push e.born) clock)).heap[r]? = some (.mapIter (some b) since (seen.push e.born) clock) := block_set (heap_lt hr1)
    have hb2 : (setBlock w1 r (.mapIter (some b) since (seen.push e.born) clock)).heap[b]? = some (.map es clock) := by
      rw [← hb1]
      exact (keeps_block w1 r _).block b (heap_lt hb1) (Ne.symm hne)
    refine ⟨l1, p, l2, _, rfl, by rw [e5, e6]; exact hrun, ⟨es, clock, _, since, clock, hb2, hs, hm, hr2, hold, hcl, hcl, ?_, fun q hq => hsub q (by simp at hq ⊢; rcases hq with hq | hq <;> simp [hq])⟩, ?_, hk1.trans (keeps_block w1 r _)⟩
    · rw [left_push hs.2.1 hL, List.map_append, List.map_append, e1, e4]
    · rw [e5, e6]
      exact run_entry_at _ r b since seen es clock e hr2 hb2 (mem_left he).1 hs.2.1
end
end Go.Proofs.YtgfamdakjcjdkaaDoor.range_
