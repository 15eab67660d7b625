/- The plain law of RegSame: in whichever order, one by one, or again: the same cell wins. -/
import Derived.Test.YtbknkajlajbifaaLaw
namespace Go.Proofs.Ytbknkajlajbifaa.samelaw
open Go.Proofs.Ytbknkajlajbifaa.cmp Go.Proofs.Ytbknkajlajbifaa.above Go.Proofs.Ytbknkajlajbifaa.merge Go.Proofs.Ytbknkajlajbifaa.law

theorem mergeL_one (c : C) : mergeL [c] = c := rfl
theorem mergeL_append {a b : List C} (ha : a ≠ []) (hb : b ≠ []) : mergeL [mergeL a, mergeL b] = mergeL (a ++ b) := by
  have h1 := mergeL_max a ha
  have h2 := mergeL_max b hb
  have h3 := mergeL_max [mergeL a, mergeL b] (by simp)
  have hm := mergeL_max (a ++ b) (by simp [ha])
  have hneg : ∀ x m m' : C, above x m = false → above m m' = false → above x m' = false := by
    intro x m m' e1 e2
    rw [Bool.eq_false_iff]
    intro e3
    rcases above_total x m with e | e | e
    · subst e; rw [e2] at e3; cases e3
    · rw [e1] at e; cases e
    · rw [above_trans e e3] at e2; cases e2
  refine Max.unique (l := a ++ b) ⟨?_, fun x hx => ?_⟩ hm (fun _ => Iff.rfl)
  · rcases List.mem_cons.1 h3.1 with e | e
    · rw [e]; exact List.mem_append.2 (.inl h1.1)
    · rcases List.mem_cons.1 e with e | e
      · rw [e]; exact List.mem_append.2 (.inr h2.1)
      · cases e
  · rcases List.mem_append.1 hx with hx | hx
    · exact hneg x (mergeL a) _ (h1.2 x hx) (h3.2 _ (by simp))
    · exact hneg x (mergeL b) _ (h2.2 x hx) (h3.2 _ (by simp))
/-- one by one -/
def oneAt (cs : List C) (z : C) : Nat → C
  | 0 => z
  | i + 1 => mergeL [cs.getD i zeroC, oneAt cs z i]
theorem oneAt_eq (cs : List C) (z : C) : ∀ i, i ≤ cs.length → oneAt cs z i = mergeL (cs.take i ++ [z])
  | 0, _ => rfl
  | i + 1, h => by
    show mergeL [cs.getD i zeroC, oneAt cs z i] = _
    rw [oneAt_eq cs z i (by omega)]
    have e := mergeL_append (a := [cs.getD i zeroC]) (b := cs.take i ++ [z]) (by simp) (by simp)
    rw [mergeL_one] at e
    rw [e]
    refine mergeL_eq (by simp) fun x => ?_
    rw [List.take_succ_eq_append_getElem (by omega)]
    have : cs.getD i zeroC = cs[i] := by rw [List.getD_eq_getElem?_getD, List.getElem?_eq_getElem (by omega)]; rfl
    rw [this]
    simp only [List.mem_append, List.mem_cons, List.not_mem_nil, or_false]
    constructor
    · rintro (h | h | h)
      · exact .inl (.inr h)
      · exact .inl (.inl h)
      · exact .inr h
    · rintro ((h | h) | h)
      · exact .inr (.inl h)
      · exact .inl h
      · exact .inr (.inr h)
theorem one_all (cs : List C) (k : Nat) (hk : k < cs.length) : oneAt cs cs[k] cs.length = mergeL cs := by
  rw [oneAt_eq cs _ _ (Nat.le_refl _), List.take_length]
  refine mergeL_eq (by simp) fun x => ?_
  simp only [List.mem_append, List.mem_cons, List.not_mem_nil, or_false]
  exact ⟨fun h => h.elim id (fun e => e ▸ List.getElem_mem hk), .inl⟩
theorem turned (cs : List C) (h : cs ≠ []) (k : Nat) : mergeL (cs.drop k ++ cs.take k) = mergeL cs := by
  refine (mergeL_eq h fun x => ?_).symm
  conv => lhs; rw [← List.take_append_drop k cs]
  simp only [List.mem_append]
  exact Or.comm
theorem back (cs : List C) (h : cs ≠ []) : mergeL cs.reverse = mergeL cs := (mergeL_eq h fun x => by simp).symm
theorem cut (cs : List C) (c : Nat) (h0 : 0 < c) (h1 : c < cs.length) : mergeL [mergeL (cs.take c), mergeL (cs.drop c)] = mergeL cs := by
  rw [mergeL_append, List.take_append_drop]
  · intro e; have := congrArg List.length e; rw [List.length_take, List.length_nil] at this; omega
  · intro e; have := congrArg List.length e; rw [List.length_drop, List.length_nil] at this; omega
theorem again (cs : List C) (h : cs ≠ []) : mergeL (cs.reverse ++ [mergeL cs]) = mergeL cs := by
  refine (mergeL_eq h fun x => ?_).symm
  simp only [List.mem_append, List.mem_reverse, List.mem_cons, List.not_mem_nil, or_false]
  exact ⟨.inl, fun hx => hx.elim id (fun e => e ▸ (mergeL_max cs h).1)⟩
/-- turning round, one by one -/
def half (cs : List C) (i : Nat) : List C := cs.reverse.take i ++ cs.drop i
theorem half_len (cs : List C) (i : Nat) : (half cs i).length = cs.length := by simp [half]; omega
theorem half_set (cs : List C) (i : Nat) (h : i < cs.length) : (half cs i).set i (cs[cs.length - 1 - i]'(by omega)) = half cs (i + 1) := by
  unfold half
  rw [List.set_append_right _ _ (by simp; omega)]
  have h1 : (cs.reverse.take i).length = i := by simp; omega
  rw [h1, Nat.sub_self, List.drop_eq_getElem_cons h, List.set_cons_zero, List.take_succ_eq_append_getElem (by simpa using h), List.append_assoc]
  simp
theorem half_all (cs : List C) : half cs cs.length = cs.reverse := by simp only [half, List.drop_length, List.append_nil]; exact List.take_of_length_le (by simp)
theorem cells_set (cs : List C) (i : Nat) (c : C) (h : i < cs.length) :
    (((((cs.flatMap C.cells).set (i * 5) (.int .i64 c.t)).set (i * 5 + 1) (.int .i64 c.r)).set (i * 5 + 2) (.string c.v)).set (i * 5 + 3) (.bool c.g)).set (i * 5 + 4) (.int .i64 c.l) = (cs.set i c).flatMap C.cells := by
  induction cs generalizing i with
  | nil => simp at h
  | cons d cs ih =>
    cases i with
    | zero => simp [C.cells]
    | succ i =>
      have := ih i (by simpa using h)
      rw [List.set_cons_succ, List.flatMap_cons, List.flatMap_cons, ← this]
      have e0 : (i + 1) * 5 = i * 5 + 5 := by omega
      simp only [e0, C.cells, List.cons_append, List.nil_append, List.set_cons_succ]
end Go.Proofs.Ytbknkajlajbifaa.samelaw
