/- The plain law of StoreSweeps: a sweep changes nothing of what shows, now and later. -/
import Derived.Test.YtgfamdakjcjdkaaDoorKeysS
namespace Go.Proofs.YtgfamdakjcjdkaaDoor.store
open Go Go.Proofs.YtgfamdakjcjdkaaDoor.above Go.Proofs.YtgfamdakjcjdkaaDoor.law Go.Proofs.YtgfamdakjcjdkaaDoor.merge Go.Proofs.YtgfamdakjcjdkaaDoor.rows

/-- b is a without some rows that are gone for good -/
def Swept (fl : Int) (a b : List R) : Prop := ∀ x, getL b x = getL a x ∨ (getL b x = none ∧ ∃ c, getL a x = some c ∧ goneB fl c = true)
theorem Swept.start {fl : Int} {L : List R} (hr : Rising L) : Swept fl L (keepL fl L) := by
  intro x
  unfold keepL
  rw [getL_filter hr]
  cases hg : getL L x with
  | none => exact .inl rfl
  | some c =>
    cases hb : goneB fl c with
    | true => exact .inr ⟨by simp [hb], c, rfl, hb⟩
    | false => exact .inl (by simp [hb])
theorem gone_vis {fl : Int} {c : C} (h : goneB fl c = true) : visC c = false := by
  unfold goneB at h
  unfold visC
  simp only [Bool.and_eq_true] at h
  rw [h.1]; simp
theorem Swept.vis {fl : Int} {a b : List R} (h : Swept fl a b) (x : Nm) : visC (atL b x) = visC (atL a x) := by
  unfold atL
  rcases h x with h1 | ⟨h1, c, h2, h3⟩
  · rw [h1]
  · rw [h1, h2]
    show visC zeroC = visC c
    rw [gone_vis h3]; rfl
theorem Swept.shows {fl : Int} {a b : List R} (ha : Rising a) (hb : Rising b) (h : Swept fl a b) : showL a = showL b := by
  refine rising_ext (ha.filter _) (hb.filter _) fun x => ?_
  unfold showL
  rw [getL_filter ha, getL_filter hb]
  have hh : ∀ c, hide a (x, c) = hide b (x, c) := fun c => by unfold hide; rw [h.vis]
  rcases h x with h1 | ⟨h1, c, h2, h3⟩
  · rw [h1]
    cases getL a x with
    | none => rfl
    | some c => simp only [Option.bind_some, hh]
  · rw [h1, h2]
    have : hide a (x, c) = true := by unfold hide; rw [gone_vis h3]; rfl
    simp [this]
theorem Swept.take {fl : Int} {a b : List R} (ha : Rising a) (hb : Rising b) (h : Swept fl a b) (x : Nm) (c : C) (hc : fl < c.t) : Swept fl (takeL a x c) (takeL b x c) := by
  intro y
  rw [getL_take ha, getL_take hb]
  by_cases e : y = x
  · rw [if_pos e, if_pos e]
    left
    rcases h x with h1 | ⟨h1, d, h2, h3⟩
    · rw [h1]
    · rw [h1, h2]
      have : above c d = true := by
        rw [above_iff]
        left
        unfold goneB at h3
        simp only [Bool.and_eq_true, decide_eq_true_eq] at h3
        omega
      show some c = some (if above c d = true then c else d)
      rw [if_pos this]
  · rw [if_neg e, if_neg e]; exact h y
/-- those whose time is above the floor -/
def lateW (fl : Int) (l : List Wt) : List Wt := l.filter fun x => decide (fl < x.t)
theorem late_snoc (fl : Int) (l : List Wt) (k : Nat) (hk : k < l.length) : lateW fl (l.take (k + 1)) = lateW fl (l.take k) ++ (if fl < (l.getD k wtZ).t then [l.getD k wtZ] else []) := by
  unfold lateW
  rw [List.take_succ_eq_append_getElem hk, List.filter_append, List.getD_eq_getElem?_getD, List.getElem?_eq_getElem hk]
  congr 1
  by_cases h : fl < l[k].t <;> simp [h]
theorem showL_len (L : List R) : (showL L).length ≤ L.length := List.length_filter_le _ _
end Go.Proofs.YtgfamdakjcjdkaaDoor.store
