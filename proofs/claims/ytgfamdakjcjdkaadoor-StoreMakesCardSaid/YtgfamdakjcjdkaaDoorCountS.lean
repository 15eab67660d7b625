/- The plain law of StoreShows: what shows is what can be got, and its sessions' heads. -/
import Derived.Test.YtgfamdakjcjdkaaDoorSweptS
namespace Go.Proofs.YtgfamdakjcjdkaaDoor.store
open Go Go.RowKit Go.Proofs.YtgfamdakjcjdkaaDoor.above Go.Proofs.YtgfamdakjcjdkaaDoor.law Go.Proofs.YtgfamdakjcjdkaaDoor.merge Go.Proofs.YtgfamdakjcjdkaaDoor.rows

theorem mem_show {L : List R} {x : R} (h : x ∈ showL L) : x ∈ L ∧ visC x.2 = true ∧ visC (atL L (x.1.1, ⟨#[]⟩)) = true := by
  unfold showL at h
  obtain ⟨h1, h2⟩ := List.mem_filter.1 h
  unfold hide at h2
  simp only [Bool.not_or, Bool.not_not, Bool.and_eq_true] at h2
  exact ⟨h1, h2.1, h2.2⟩
theorem at_mem {L : List R} (hr : Rising L) {x : R} (h : x ∈ L) : atL L x.1 = x.2 := by
  unfold atL
  rw [getL_of hr (x := x.1) (c := x.2) h]; rfl
theorem isEmpty_eq {b : ByteArray} (h : b.toList.isEmpty = true) : b = ⟨#[]⟩ := by
  refine ba_ext ?_
  rw [List.isEmpty_iff.1 h, ByteArray.toList_eq]
/-- a session's head that shows is what Head answers -/
theorem show_head {L : List R} (hr : Rising L) {x : R} (h : x ∈ showL L) (he : x.1.2.toList.isEmpty = true) : atL L (x.1.1, ⟨#[]⟩) = x.2 := by
  have h1 := at_mem hr (mem_show h).1
  rw [← h1]
  congr 1
  exact Prod.ext rfl (isEmpty_eq he).symm
theorem show_get {L : List R} (hr : Rising L) {x : R} (h : x ∈ showL L) (he : x.1.2.toList.isEmpty = false) : getC x.1.2 (atL L (x.1.1, ⟨#[]⟩)) (atL L x.1) = 0 := by
  obtain ⟨h1, h2, h3⟩ := mem_show h
  unfold getC
  rw [if_neg (by rw [he]; decide), if_neg (by rw [h3]; decide), if_neg (by rw [at_mem hr h1, h2]; decide)]
def sumK (L : List R) : List ByteArray → Nat
  | [] => 0
  | s :: r => 1 + (keysL L s).length + sumK L r
theorem sumK_append (L : List R) (a b : List ByteArray) : sumK L (a ++ b) = sumK L a + sumK L b := by
  induction a with
  | nil => simp [sumK]
  | cons s a ih => simp only [List.cons_append, sumK, ih]; omega
def isIn (N : List ByteArray) (s : ByteArray) : Bool := N.any fun t => decide (t = s)
theorem isIn_iff (N : List ByteArray) (s : ByteArray) : isIn N s = true ↔ s ∈ N := by
  unfold isIn
  rw [List.any_eq_true]
  constructor
  · rintro ⟨t, h, e⟩
    rw [← of_decide_eq_true e]; exact h
  · exact fun h => ⟨s, h, by simp⟩
def inner (N : List ByteArray) (x : R) : Bool := !x.1.2.toList.isEmpty && (visC x.2 && isIn N x.1.1)
theorem keyB_eq (s : ByteArray) (x : R) : keyB s x = (decide (x.1.1 = s) && (!x.1.2.toList.isEmpty && visC x.2)) := by
  unfold keyB
  congr 1
  rw [Bool.eq_iff_iff, beq_iff_eq, decide_eq_true_eq]
  exact ⟨ba_ext, fun h => by rw [h]⟩
theorem inner_cons (s : ByteArray) (N : List ByteArray) (hn : s ∉ N) (L : List R) : (L.filter (inner (s :: N))).length = (L.filter (keyB s)).length + (L.filter (inner N)).length := by
  induction L with
  | nil => rfl
  | cons x L ih =>
    have hx : (if inner (s :: N) x then 1 else 0) = (if keyB s x then 1 else 0) + (if inner N x then 1 else 0) := by
      rw [keyB_eq]
      unfold inner
      have hc : isIn (s :: N) x.1.1 = (decide (s = x.1.1) || isIn N x.1.1) := rfl
      rw [hc]
      by_cases e : x.1.1 = s
      · have hf : isIn N x.1.1 = false := by
          rw [Bool.eq_false_iff, ne_eq, isIn_iff, e]; exact hn
        rw [hf, decide_eq_true e, decide_eq_true e.symm]
        cases x.1.2.toList.isEmpty <;> cases visC x.2 <;> rfl
      · rw [decide_eq_false e, decide_eq_false (fun h => e h.symm)]
        cases x.1.2.toList.isEmpty <;> cases visC x.2 <;> cases isIn N x.1.1 <;> rfl
    rw [List.filter_cons, List.filter_cons, List.filter_cons]
    revert hx
    cases inner (s :: N) x <;> cases keyB s x <;> cases inner N x <;> simp <;> omega
theorem sumK_eq (L : List R) (N : List ByteArray) (hn : N.Nodup) : sumK L N = N.length + (L.filter (inner N)).length := by
  induction N with
  | nil =>
    have : L.filter (inner []) = [] := List.filter_eq_nil_iff.2 fun x _ => by simp [inner, isIn]
    rw [this]; rfl
  | cons s N ih =>
    obtain ⟨h1, h2⟩ := List.nodup_cons.1 hn
    rw [inner_cons s N h1]
    show 1 + (keysL L s).length + sumK L N = _
    rw [ih h2]
    unfold keysL
    rw [List.length_map, List.length_cons]
    omega
theorem filter_split (p q : R → Bool) (L : List R) : (L.filter p).length = (L.filter fun x => p x && q x).length + (L.filter fun x => p x && !q x).length := by
  induction L with
  | nil => rfl
  | cons x L ih =>
    rw [List.filter_cons, List.filter_cons, List.filter_cons]
    cases p x <;> cases q x <;> simp <;> omega
theorem mem_lives {L : List R} (hr : Rising L) (s : ByteArray) : s ∈ livesL L ↔ visC (atL L (s, ⟨#[]⟩)) = true := by
  unfold livesL
  rw [List.mem_map]
  constructor
  · rintro ⟨x, hx, rfl⟩
    obtain ⟨h1, h2⟩ := List.mem_filter.1 hx
    unfold liveB at h2
    rw [Bool.and_eq_true] at h2
    have := at_mem hr h1
    rw [← this] at h2
    have e : x.1 = (x.1.1, ⟨#[]⟩) := Prod.ext rfl (isEmpty_eq h2.1)
    rw [← e]; exact h2.2
  · intro h
    unfold atL at h
    cases hg : getL L (s, ⟨#[]⟩) with
    | none => rw [hg] at h; exact absurd h (by decide)
    | some c =>
      rw [hg] at h
      refine ⟨((s, ⟨#[]⟩), c), List.mem_filter.2 ⟨getL_mem hg, ?_⟩, rfl⟩
      unfold liveB
      rw [Bool.and_eq_true]
      exact ⟨by rw [ByteArray.toList_eq]; rfl, h⟩
theorem lives_nodup {L : List R} (hr : Rising L) : (livesL L).Nodup := by
  unfold livesL
  have h1 : Rising (L.filter liveB) := hr.filter _
  have h2 : ∀ x ∈ L.filter liveB, x.1.2 = ⟨#[]⟩ := fun x hx => by
    have := (List.mem_filter.1 hx).2
    unfold liveB at this
    rw [Bool.and_eq_true] at this
    exact isEmpty_eq this.1
  generalize L.filter liveB = M at h1 h2
  induction M with
  | nil => simp
  | cons x M ih =>
    obtain ⟨h3, h4⟩ := List.pairwise_cons.1 h1
    rw [List.map_cons, List.nodup_cons]
    refine ⟨fun hm => ?_, ih h4 (fun y hy => h2 y (by simp [hy]))⟩
    obtain ⟨y, hy, e⟩ := List.mem_map.1 hm
    exact ltN_ne (h3 y hy) (Prod.ext e.symm ((h2 x (by simp)).trans (h2 y (by simp [hy])).symm))
theorem count_all {L : List R} (hr : Rising L) : sumK L (livesL L) = (showL L).length := by
  rw [sumK_eq L _ (lives_nodup hr)]
  unfold showL
  rw [filter_split (fun x => !hide L x) (fun x => x.1.2.toList.isEmpty) L]
  congr 1
  · unfold livesL
    rw [List.length_map]
    congr 1
    refine List.filter_congr fun x hx => ?_
    unfold liveB hide
    cases he : x.1.2.toList.isEmpty with
    | false => simp
    | true =>
      have e : atL L (x.1.1, ⟨#[]⟩) = x.2 := by
        rw [← at_mem hr hx]; congr 1; exact Prod.ext rfl (isEmpty_eq he).symm
      rw [e]
      cases visC x.2 <;> rfl
  · congr 1
    refine List.filter_congr fun x hx => ?_
    unfold inner hide
    have : isIn (livesL L) x.1.1 = visC (atL L (x.1.1, ⟨#[]⟩)) := by
      rw [Bool.eq_iff_iff, isIn_iff, mem_lives hr]
    rw [this]
    cases x.1.2.toList.isEmpty <;> cases visC x.2 <;> cases visC (atL L (x.1.1, ⟨#[]⟩)) <;> rfl
theorem sumK_le (L : List R) (N : List ByteArray) : N.length ≤ sumK L N ∧ sumK L N ≤ N.length * (1 + L.length) := by
  induction N with
  | nil => simp [sumK]
  | cons s N ih =>
    have : (keysL L s).length ≤ L.length := by unfold keysL; rw [List.length_map]; exact List.length_filter_le _ _
    simp only [sumK, List.length_cons, Nat.add_mul]
    omega
end Go.Proofs.YtgfamdakjcjdkaaDoor.store
