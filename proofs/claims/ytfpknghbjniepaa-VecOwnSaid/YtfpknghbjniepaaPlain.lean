/- Plain laws of vectors. -/
import Derived.Test.YtfpknghbjniepaaLit
namespace Go.Proofs.Ytfpknghbjniepaa.plain
open Go.RowKit Go.Proofs.Ytfpknghbjniepaa.base Go.Proofs.Ytfpknghbjniepaa.vec Go.Proofs.Ytfpknghbjniepaa.ref Go.Proofs.Ytfpknghbjniepaa.made Go.Proofs.Ytfpknghbjniepaa.all_ Go.Proofs.Ytfpknghbjniepaa.lit

theorem atV_getD (zs : List Int) (k : Nat) : atV zs ((k : Int) + 1) = zs.getD k 0 := by
  by_cases h : k < zs.length
  · exact atV_succ zs k h
  · rw [atV_out zs _ (fun j hj => by omega), List.getD_eq_getElem?_getD, List.getElem?_eq_none (by omega)]; rfl
theorem covers_iff (a b : List Int) : coversB a b = true ↔ ∀ k : Nat, b.getD k 0 ≤ a.getD k 0 := by
  unfold coversB
  rw [List.all_eq_true]
  constructor
  · intro h k
    by_cases hk : k < max a.length b.length
    · have := h k (by simpa using hk)
      rw [atV_getD, atV_getD] at this
      simpa using this
    · rw [List.getD_eq_getElem?_getD, List.getD_eq_getElem?_getD, List.getElem?_eq_none (by omega), List.getElem?_eq_none (by omega)]
      exact Int.le_refl _
  · intro h k _
    rw [atV_getD, atV_getD]
    simpa using h k
theorem covers_refl (a : List Int) : coversB a a = true := (covers_iff a a).2 fun _ => Int.le_refl _
theorem covers_trans {a b c : List Int} (h : coversB a b = true) (h' : coversB b c = true) : coversB a c = true :=
  (covers_iff a c).2 fun k => Int.le_trans ((covers_iff b c).1 h' k) ((covers_iff a b).1 h k)
theorem trim_getD (zs : List Int) (k : Nat) : (trimL zs).getD k 0 = zs.getD k 0 := by
  unfold trimL
  by_cases h : k < trimN zs zs.length
  · rw [List.getD_eq_getElem?_getD, List.getD_eq_getElem?_getD, List.getElem?_take, if_pos h]
  · rw [List.getD_eq_getElem?_getD, List.getElem?_take, if_neg h]
    by_cases hk : k < zs.length
    · exact (trimN_zero zs _ k (by omega) hk).symm
    · rw [List.getD_eq_getElem?_getD, List.getElem?_eq_none (by omega)]
theorem trimN_far (zs : List Int) (k : Nat) (h : trimN zs zs.length ≤ k) : zs.getD k 0 = 0 := by
  by_cases hk : k < zs.length
  · exact trimN_zero zs _ k h hk
  · rw [List.getD_eq_getElem?_getD, List.getElem?_eq_none (by omega)]; rfl
theorem trim_len (zs : List Int) : (trimL zs).length = trimN zs zs.length := by
  unfold trimL; rw [List.length_take]; have := trimN_le zs zs.length; omega
theorem trim_ext {a b : List Int} (h : ∀ k, a.getD k 0 = b.getD k 0) : trimL a = trimL b := by
  have hN : trimN a a.length = trimN b b.length := by
    have h1 := trimN_last a a.length
    have h2 := trimN_last b b.length
    rcases Nat.lt_trichotomy (trimN a a.length) (trimN b b.length) with hl | he | hg
    · rcases h2 with h2 | h2
      · omega
      · exact absurd ((h _).symm.trans (trimN_far a (trimN b b.length - 1) (by omega))) h2
    · exact he
    · rcases h1 with h1 | h1
      · omega
      · exact absurd ((h _).trans (trimN_far b (trimN a a.length - 1) (by omega))) h1
  apply List.ext_getElem (by rw [trim_len, trim_len, hN])
  intro k h1 h2
  have := (trim_getD a k).trans ((h k).trans (trim_getD b k).symm)
  simpa [List.getD_eq_getElem?_getD, List.getElem?_eq_getElem h1, List.getElem?_eq_getElem h2] using this
theorem covers_both (a b : List Int) : (coversB a b && coversB b a) = decide (trimL a = trimL b) := by
  by_cases h : trimL a = trimL b
  · have hk : ∀ k, a.getD k 0 = b.getD k 0 := fun k => by rw [← trim_getD a, ← trim_getD b, h]
    rw [decide_eq_true h, (covers_iff a b).2 fun k => by rw [hk k]; exact Int.le_refl _, (covers_iff b a).2 fun k => by rw [hk k]; exact Int.le_refl _]; rfl
  · rw [decide_eq_false h, Bool.eq_false_iff]
    intro hh
    rw [Bool.and_eq_true] at hh
    exact h (trim_ext fun k => Int.le_antisymm ((covers_iff b a).1 hh.2 k) ((covers_iff a b).1 hh.1 k))
theorem rel_zero (a b : List Int) : (relI a b == 0) = decide (trimL a = trimL b) := by
  rw [← covers_both]
  unfold relI
  cases coversB a b <;> cases coversB b a <;> rfl
theorem rel_two (a b : List Int) : (relI a b == 2) = (relI b a == 2) := by
  unfold relI
  cases coversB a b <;> cases coversB b a <;> rfl
end Go.Proofs.Ytfpknghbjniepaa.plain
