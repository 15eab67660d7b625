/- The plain law of a feed that is given its own writes, one by one: nothing of the program. -/
import Derived.Test.YtmclmefgddomfaaArgsF
namespace Go.Proofs.Ytmclmefgddomfaa.feed
open Go.RowKit Go.Proofs.Ytmclmefgddomfaa.base Go.Proofs.Ytmclmefgddomfaa.rowe Go.Proofs.Ytmclmefgddomfaa.err Go.Proofs.Ytmclmefgddomfaa.wire Go.Proofs.Ytmclmefgddomfaa.monoj

def wsL (rg bs m : Nat) : List Wr := (List.range m).map fun i => wrL rg ((bs + 1 + i : Nat) : Int)
theorem wsL_len (rg bs m : Nat) : (wsL rg bs m).length = m := by simp [wsL]
theorem wsL_push (rg bs m : Nat) : wsL rg bs m ++ [wrL rg ((bs + m + 1 : Nat) : Int)] = wsL rg bs (m + 1) := by
  unfold wsL
  rw [List.range_succ, List.map_append]
  simp only [List.map_cons, List.map_nil]
  congr 3
  omega
theorem wsL_get {rg bs m i : Nat} (h : i < m) : (wsL rg bs m)[i]? = some (wrL rg ((bs + 1 + i : Nat) : Int)) := by
  unfold wsL
  rw [List.getElem?_map, List.getElem?_range h]
  rfl
theorem wsL_drop (rg bs m n : Nat) : (wsL rg bs m).drop n = wsL rg (bs + n) (m - n) := by
  apply List.ext_getElem?
  intro i
  rw [List.getElem?_drop]
  by_cases h : n + i < m
  · rw [wsL_get h, wsL_get (by omega)]
    congr 2
    omega
  · rw [List.getElem?_eq_none (by rw [wsL_len]; omega), List.getElem?_eq_none (by rw [wsL_len]; omega)]
theorem wsL_take (rg bs m n : Nat) : (wsL rg bs m).take n = wsL rg bs (min n m) := by
  apply List.ext_getElem?
  intro i
  by_cases h : i < min n m
  · rw [List.getElem?_take_of_lt (by omega), wsL_get (by omega), wsL_get h]
  · rw [List.getElem?_eq_none (by rw [List.length_take, wsL_len]; omega), List.getElem?_eq_none (by rw [wsL_len]; omega)]
theorem right_wrL {rg n : Int} (h1 : 1 ≤ rg) (h2 : rg ≤ 16) (h3 : 1 ≤ n) (h4 : n ≤ 1099511627776) : rightB (wrL rg n) = true := by
  unfold rightB inB
  have e : trB (wrL rg n).z 1099511627776 = true := by kernel_rfl
  rw [e]
  simp [wrL, h1, h2, h3, h4]
  exact ⟨rfl, rfl, rfl, rfl⟩
theorem add_ok {rg bs m : Nat} (h1 : 1 ≤ rg) (h2 : rg ≤ 16) (h3 : bs + m + 1 ≤ 1099511627776) : addC rg bs (wsL rg bs m) (wrL rg ((bs + m + 1 : Nat) : Int)) = 0 := by
  unfold addC
  rw [right_wrL (by omega) (by omega) (by omega) (by omega)]
  have : ((wrL rg ((bs + m + 1 : Nat) : Int)).r == (rg : Int)) = true := by simp [wrL]
  rw [this, if_neg (by decide), if_pos (by rw [wsL_len]; rfl)]
theorem add_more {rg bs m : Nat} (h1 : 1 ≤ rg) (h2 : rg ≤ 16) (h3 : bs + m + 1 ≤ 1099511627776) : addL rg bs (wsL rg bs m) (wrL rg ((bs + m + 1 : Nat) : Int)) = wsL rg bs (m + 1) := by
  unfold addL
  rw [add_ok h1 h2 h3, if_pos rfl, ← wsL_push]
  rfl
structure GoodF (rg nn last bs m : Nat) (K : List Int) : Prop where
  sum : bs + m = last
  klen : K.length = nn
  kb : ∀ q, q < nn → q + 1 ≠ rg → (bs : Int) ≤ K.getD q 0 ∧ K.getD q 0 ≤ last
theorem GoodF.ack {rg nn last bs m : Nat} {K : List Int} (h : GoodF rg nn last bs m K) (p hv : Int) : GoodF rg nn last bs m (ackK rg nn bs (wsL rg bs m) K p hv) := by
  unfold ackK
  split
  · rename_i ha
    unfold ackB at ha
    simp only [Bool.and_eq_true, decide_eq_true_eq] at ha
    obtain ⟨h1, h2, h3⟩ := ha
    obtain ⟨q, rfl, hq, hq2⟩ := is_at h1
    have e : (((q + 1 : Nat) : Int) - 1).toNat = q := by omega
    rw [e] at h2 ⊢
    rw [wsL_len] at h3
    refine ⟨h.sum, by rw [List.length_set]; exact h.klen, fun r hr hr2 => ?_⟩
    have hs := h.sum
    have hk := h.kb q hq hq2
    by_cases hrq : r = q
    · subst hrq
      rw [List.getD_eq_getElem?_getD, List.getElem?_set_self (by rw [h.klen]; exact hr)]
      simp only [Option.getD_some]
      omega
    · rw [List.getD_eq_getElem?_getD, List.getElem?_set_ne (by omega), ← List.getD_eq_getElem?_getD]
      exact h.kb r hr hr2
  · exact h
theorem isB_at {rg nn q : Nat} (h1 : q < nn) (h2 : q + 1 ≠ rg) : isB rg nn ((q + 1 : Nat) : Int) = true := by
  unfold isB
  simp
  omega
theorem minI_le (a b : Int) : minI a b ≤ a ∧ minI a b ≤ b := by unfold minI; split <;> omega
theorem le_minI {a b c : Int} (h1 : c ≤ a) (h2 : c ≤ b) : c ≤ minI a b := by unfold minI; split <;> assumption
theorem least_low {rg nn last bs m : Nat} {K : List Int} (h : GoodF rg nn last bs m K) : ∀ p, (bs : Int) ≤ leastI rg nn ((last : Nat) : Int) K p
  | 0 => by have := h.sum; show (bs : Int) ≤ (last : Int); omega
  | p + 1 => by
    unfold leastI
    split
    · rename_i hi
      obtain ⟨q, hq, h1, h2⟩ := is_at hi
      have : p = q + 1 := by omega
      subst this
      exact le_minI (least_low h (q + 1)) (h.kb q h1 h2).1
    · exact least_low h p
theorem least_top {rg nn : Nat} {last : Int} {K : List Int} : ∀ p, leastI rg nn last K p ≤ last
  | 0 => Int.le_refl _
  | p + 1 => by
    unfold leastI
    split
    · exact Int.le_trans (minI_le _ _).1 (least_top p)
    · exact least_top p
theorem least_each {rg nn : Nat} {last : Int} {K : List Int} (q : Nat) (h1 : q < nn) (h2 : q + 1 ≠ rg) : ∀ p, q + 1 < p → leastI rg nn last K p ≤ K.getD q 0
  | 0, h => by omega
  | p + 1, h => by
    unfold leastI
    by_cases hp : p = q + 1
    · subst hp
      rw [if_pos (isB_at h1 h2)]
      exact (minI_le _ _).2
    · have ih := least_each (last := last) (K := K) q h1 h2 p (by omega)
      split
      · exact Int.le_trans (minI_le _ _).1 ih
      · exact ih
theorem GoodF.trim {rg nn last bs m : Nat} {K : List Int} (h : GoodF rg nn last bs m K) (hn : nn ≤ 16) :
    ∃ n : Nat, trimN rg nn bs (wsL rg bs m) K = n ∧ n ≤ m ∧ ((bs + n : Nat) : Int) = leastI rg nn (last : Int) K 17 ∧ GoodF rg nn last (bs + n) (m - n) K := by
  have hs := h.sum
  have h1 := least_low h 17
  have h2 := least_top (rg := rg) (nn := nn) (last := (last : Int)) (K := K) 17
  have e : trimN rg nn bs (wsL rg bs m) K = leastI rg nn (last : Int) K 17 - bs := by
    unfold trimN
    rw [wsL_len, hs]
  obtain ⟨n, hn2⟩ : ∃ n : Nat, leastI rg nn (last : Int) K 17 - bs = n := ⟨(leastI rg nn (last : Int) K 17 - bs).toNat, by omega⟩
  refine ⟨n, by rw [e, hn2], by omega, by omega, ⟨by omega, h.klen, fun q hq hq2 => ⟨?_, (h.kb q hq hq2).2⟩⟩⟩
  have := least_each (last := (last : Int)) (K := K) q hq hq2 17 (by omega)
  omega
theorem batch_wsL {rg bs m h : Nat} (h1 : bs ≤ h) (h2 : h < bs + m) : batchL bs (wsL rg bs m) (h : Int) = wsL rg h (min 8 (bs + m - h)) := by
  unfold batchL
  rw [if_neg (by rw [wsL_len]; omega), wsL_drop, wsL_take]
  have e1 : bs + ((h : Int) - bs).toNat = h := by omega
  have e2 : m - ((h : Int) - bs).toNat = bs + m - h := by omega
  rw [e1, e2]
theorem batch_none {rg bs m h : Nat} (h2 : bs + m ≤ h) : batchL bs (wsL rg bs m) (h : Int) = [] := by
  unfold batchL
  rw [if_pos (by rw [wsL_len]; omega)]
end Go.Proofs.Ytmclmefgddomfaa.feed
