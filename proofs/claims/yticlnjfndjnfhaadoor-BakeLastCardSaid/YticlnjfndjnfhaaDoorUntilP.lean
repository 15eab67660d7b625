/- A text up to a byte's first place, and behind it; its pieces between them: plain laws. -/
import Derived.Test.YticlnjfndjnfhaaDoorTrimR
import Derived.Lib.SplitLaws
import Derived.Lib.CutLaws
namespace Go.Proofs.YticlnjfndjnfhaaDoor.bake
open Go Go.RowKit

def untilL (c : UInt8) : List UInt8 → List UInt8 × List UInt8 × Bool
  | [] => ([], [], false)
  | b :: l => if b = c then ([], l, true) else (b :: (untilL c l).1, (untilL c l).2.1, (untilL c l).2.2)
theorem until_hit {c : UInt8} (a b : List UInt8) (h : ∀ x ∈ a, x ≠ c) : untilL c (a ++ c :: b) = (a, b, true) := by
  induction a with
  | nil => simp [untilL]
  | cons x a ih =>
    rw [List.cons_append, untilL, if_neg (h x (by simp)), ih (fun y hy => h y (by simp [hy]))]
theorem until_miss {c : UInt8} (a : List UInt8) (h : ∀ x ∈ a, x ≠ c) : untilL c a = (a, [], false) := by
  induction a with
  | nil => rfl
  | cons x a ih => rw [untilL, if_neg (h x (by simp)), ih (fun y hy => h y (by simp [hy]))]
theorem until_cases (c : UInt8) (l : List UInt8) : (∃ a b, l = a ++ c :: b ∧ (∀ x ∈ a, x ≠ c) ∧ untilL c l = (a, b, true)) ∨ ((∀ x ∈ l, x ≠ c) ∧ untilL c l = (l, [], false)) := by
  induction l with
  | nil => exact Or.inr ⟨by simp, rfl⟩
  | cons x l ih =>
    by_cases hx : x = c
    · subst hx; exact Or.inl ⟨[], l, rfl, by simp, by simp [untilL]⟩
    · rcases ih with ⟨a, b, h1, h2, h3⟩ | ⟨h2, h3⟩
      · refine Or.inl ⟨x :: a, b, by rw [h1]; rfl, ?_, by rw [untilL, if_neg hx, h3]⟩
        intro y hy
        rcases List.mem_cons.mp hy with rfl | hy
        · exact hx
        · exact h2 y hy
      · refine Or.inr ⟨?_, by rw [untilL, if_neg hx, h3]⟩
        intro y hy
        rcases List.mem_cons.mp hy with rfl | hy
        · exact hx
        · exact h2 y hy
theorem pre_one (c x : UInt8) (l : List UInt8) : [c].isPrefixOf (x :: l) = (c == x) := by simp [List.isPrefixOf]
theorem index_hit {c : UInt8} (a b : List UInt8) (h : ∀ x ∈ a, x ≠ c) : Lib.index (a ++ c :: b) [c] = a.length := by
  induction a with
  | nil => rw [List.nil_append, Lib.index, pre_one, if_pos (by simp)]; rfl
  | cons x a ih =>
    have hx : ¬ (c == x) = true := by have := h x (by simp); simpa using fun e => this e.symm
    rw [List.cons_append, Lib.index, pre_one, if_neg hx, ih (fun y hy => h y (by simp [hy])), if_neg (by simp)]
    simp
theorem index_miss {c : UInt8} (a : List UInt8) (h : ∀ x ∈ a, x ≠ c) : Lib.index a [c] = -1 := by
  induction a with
  | nil => rfl
  | cons x a ih =>
    have hx : ¬ (c == x) = true := by have := h x (by simp); simpa using fun e => this e.symm
    rw [Lib.index, pre_one, if_neg hx, ih (fun y hy => h y (by simp [hy])), if_pos (by rfl)]
theorem cut_until (c : UInt8) (l : List UInt8) : Lib.cut l [c] = untilL c l := by
  rcases until_cases c l with ⟨a, b, rfl, h2, h3⟩ | ⟨h2, h3⟩
  · rw [h3]
    unfold Lib.cut
    rw [index_hit a b h2, if_pos (by omega)]
    simp
  · rw [h3]
    unfold Lib.cut
    rw [index_miss l h2, if_neg (by omega)]
def pcs (c : UInt8) : Nat → List UInt8 → List (List UInt8)
  | 0, l => [l]
  | k + 1, l => if (untilL c l).2.2 then (untilL c l).1 :: pcs c k (untilL c l).2.1 else [l]
theorem split_pcs (c : UInt8) : ∀ (k : Nat) (l : List UInt8), Lib.splitK [c] 0 k l = pcs c k l
  | 0, _ => rfl
  | k + 1, l => by
    unfold Lib.splitK pcs
    rcases until_cases c l with ⟨a, b, rfl, h2, h3⟩ | ⟨h2, h3⟩
    · rw [h3, index_hit a b h2, if_neg (by simp), if_pos rfl, split_pcs c k]
      simp
    · rw [h3, index_miss l h2, if_pos (by rfl), if_neg (by simp)]
theorem pcs_ne (c : UInt8) (k : Nat) (l : List UInt8) : pcs c k l ≠ [] := by
  cases k with
  | zero => simp [pcs]
  | succ k => unfold pcs; split <;> simp
theorem count_until (c : UInt8) (l : List UInt8) : l.count c = if (untilL c l).2.2 then (untilL c l).2.1.count c + 1 else 0 := by
  rcases until_cases c l with ⟨a, b, rfl, h2, h3⟩ | ⟨h2, h3⟩
  · rw [h3, if_pos rfl, List.count_append, List.count_eq_zero_of_not_mem (fun h => h2 c h rfl)]
    simp
  · rw [h3, if_neg (by simp)]
    exact List.count_eq_zero_of_not_mem (fun h => h2 c h rfl)
/-- All the pieces of a text between a byte's places. -/
def parts (c : UInt8) (l : List UInt8) : List (List UInt8) := pcs c (l.count c) l
theorem parts_eq (c : UInt8) (l : List UInt8) : parts c l = if (untilL c l).2.2 then (untilL c l).1 :: parts c (untilL c l).2.1 else [l] := by
  unfold parts
  rw [count_until]
  cases h : (untilL c l).2.2 with
  | true => rw [if_pos rfl, if_pos rfl, pcs, if_pos h]
  | false => rfl
end Go.Proofs.YticlnjfndjnfhaaDoor.bake
