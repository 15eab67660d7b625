/- What two tables come to that learn of one another: the plain law. -/
import Derived.Test.YtojmnkcncjconaaLaw
namespace Go.Proofs.Ytojmnkcncjconaa.learns
open Go.Proofs.Ytojmnkcncjconaa.list Go.Proofs.Ytojmnkcncjconaa.tab Go.Proofs.Ytojmnkcncjconaa.new Go.Proofs.Ytojmnkcncjconaa.law

def learnAll (L : List Ep) (M : List Ep) : List Ep := M.foldl (fun L x => learnL L x.u x.n) L
theorem all_succ {L M : List Ep} {k : Nat} {x : Ep} (hx : M[k]? = some x) : learnAll L (M.take (k + 1)) = learnL (learnAll L (M.take k)) x.u x.n := by
  rw [take_last hx]
  simp [learnAll, List.foldl_append]
theorem all_good {L : List Ep} (h : GoodL L) : ∀ M, GoodL (learnAll L M) := by
  intro M
  unfold learnAll
  induction M generalizing L with
  | nil => exact h
  | cons x M ih => exact ih (learn_good h _ _)
theorem all_len (L : List Ep) : ∀ M, (learnAll L M).length ≤ L.length + M.length := by
  intro M
  unfold learnAll
  induction M generalizing L with
  | nil => simp
  | cons x M ih =>
    have h1 := ih (learnL L x.u x.n)
    have h2 := learn_len (L := L) x.u x.n
    simp only [List.foldl_cons, List.length_cons]
    omega
theorem can_small {L : List Ep} {u : ByteArray} {n : Int} (hl : L.length < 64) (hr : right u n = true) : canC L u n = 0 := by
  unfold canC
  rw [if_pos hr, if_neg (by omega)]
/-- After k of M: what is among them, is the greater one; the others are as they were. -/
theorem all_get {L M : List Ep} (hL : GoodL L) (hM : GoodL M) (hl : ∀ k, k < M.length → (∀ u, getL (learnAll L (M.take k)) u = max (getL L u) (getL (M.take k) u)) → (learnAll L (M.take k)).length < 64) : ∀ k, k ≤ M.length → ∀ u, getL (learnAll L (M.take k)) u = max (getL L u) (getL (M.take k) u) := by
  intro k
  induction k with
  | zero =>
    intro _ u
    have := get_bd hL.2.2 u
    simp [learnAll, getL]; omega
  | succ k ih =>
    intro hk u
    have hx : M[k]? = some M[k] := List.getElem?_eq_getElem (by omega)
    have hb : M[k] ∈ M := List.getElem_mem (by omega)
    have hc : canC (learnAll L (M.take k)) M[k].u M[k].n = 0 := can_small (hl k (by omega) (ih (by omega))) (hM.2.2 _ hb)
    rw [all_succ hx, learn_get (all_good hL _) _ _ _ hc, ih (by omega), ih (by omega), take_last hx]
    have hg : GoodL (M.take (k + 1)) := good_take _ hM
    rw [take_last hx] at hg
    have h1 : ∀ e ∈ M.take k, bl e.u M[k].u = true := ((rising_app _ _).1 hg.1).2
    have h2 : getL (M.take k) M[k].u = 0 := get_none _ _ h1
    have happ : ∀ (A : List Ep) (x : Ep) (v : ByteArray), (∀ e ∈ A, bl e.u x.u = true) → getL (A ++ [x]) v = if eqb x.u v then x.n else getL A v := by
      intro A x v hA
      induction A with
      | nil => simp [getL]
      | cons a A iha =>
        simp only [List.cons_append, getL]
        by_cases hav : a.u = v
        · have := hA a (by simp)
          rw [hav] at this
          rw [hav, eqb_self, if_pos rfl, eqb_false (fun he : x.u = v => by rw [he, bl_irr] at this; cases this)]
          rfl
        · rw [eqb_false hav]
          simp only [Bool.false_eq_true, if_false]
          exact iha (fun e he => hA e (by simp [he]))
    rw [happ _ _ _ h1]
    by_cases hu : M[k].u = u
    · rw [hu, eqb_self, if_pos rfl, if_pos rfl, ← hu, h2]
      have h3 := get_bd hL.2.2 M[k].u
      have h4 := of_decide_eq_true (hM.2.2 _ hb)
      omega
    · rw [eqb_false hu]; rfl
theorem users_le : ∀ (V L : List Ep), Rising L → Rising V → (∀ e ∈ L, ∃ f ∈ V, f.u = e.u) → L.length ≤ V.length
  | [], L, _, _, h => by
    cases L with
    | nil => simp
    | cons e L => obtain ⟨f, hf, _⟩ := h e (by simp); simp at hf
  | f :: V, [], _, _, _ => by simp
  | f :: V, e :: L, hL, hV, h => by
    by_cases hef : e.u = f.u
    · have := users_le V L hL.2 hV.2 (fun x hx => by
        obtain ⟨y, hy, hyx⟩ := h x (by simp [hx])
        rcases List.mem_cons.1 hy with rfl | hy
        · have := hL.1 x hx
          rw [hef, hyx, bl_irr] at this; cases this
        · exact ⟨y, hy, hyx⟩)
      simp; omega
    · obtain ⟨g, hg, hge⟩ := h e (by simp)
      have hgV : g ∈ V := by
        rcases List.mem_cons.1 hg with rfl | hg
        · exact absurd hge.symm hef
        · exact hg
      have hfe : bl f.u e.u = true := by rw [← hge]; exact hV.1 g hgV
      have := users_le V (e :: L) hL hV.2 (fun x hx => by
        obtain ⟨y, hy, hyx⟩ := h x hx
        rcases List.mem_cons.1 hy with rfl | hy
        · exfalso
          rcases List.mem_cons.1 hx with rfl | hx
          · rw [hyx, bl_irr] at hfe; cases hfe
          · have h2 := bl_trans hfe (hL.1 x hx)
            rw [hyx, bl_irr] at h2; cases h2
        · exact ⟨y, hy, hyx⟩)
      simp at this ⊢; omega
theorem get_le_take {V : List Ep} (hV : GoodL V) (k : Nat) (u : ByteArray) : getL (V.take k) u = 0 ∨ getL (V.take k) u = getL V u := by
  by_cases h : getL (V.take k) u = 0
  · exact .inl h
  · right
    obtain ⟨e, he, h1, h2⟩ := mem_get h
    rw [← h2, ← h1]
    exact (get_mem hV.1 (List.mem_of_mem_take he)).symm
theorem first_len {T U : List Ep} (_ : GoodL T) (_ : GoodL U) (h1 : T.length ≤ 30) (h2 : U.length ≤ 30) (k : Nat) : (learnAll U (T.take k)).length ≤ 60 := by
  have := all_len U (T.take k)
  simp at this; omega
section
variable {T U : List Ep} (hT : GoodL T) (hU : GoodL U) (h1 : T.length ≤ 30) (h2 : U.length ≤ 30)
include hT hU h1 h2
theorem first_can {k : Nat} {x : Ep} (hx : T[k]? = some x) : canC (learnAll U (T.take k)) x.u x.n = 0 :=
  can_small (by have := first_len hT hU h1 h2 k; omega) (hT.2.2 x (List.mem_of_getElem? hx))
theorem first_get (u : ByteArray) : getL (learnAll U T) u = max (getL U u) (getL T u) := by
  have h := all_get hU hT (fun k _ _ => by have := first_len hT hU h1 h2 k; omega) T.length (Nat.le_refl _) u
  rw [List.take_of_length_le (Nat.le_refl _)] at h
  exact h
theorem second_len (k : Nat) (hg : ∀ u, getL (learnAll T ((learnAll U T).take k)) u = max (getL T u) (getL ((learnAll U T).take k) u)) : (learnAll T ((learnAll U T).take k)).length < 64 := by
  have hV := all_good hU T
  have hL := all_good hT ((learnAll U T).take k)
  have h3 := users_le (learnAll U T) (learnAll T ((learnAll U T).take k)) hL.1 hV.1 (fun e he => by
    have h4 := get_mem hL.1 he
    have h5 := of_decide_eq_true (hL.2.2 e he)
    rw [hg] at h4
    have h6 := first_get hT hU h1 h2 e.u
    have h7 := get_bd hT.2.2 e.u
    have h8 := get_bd hU.2.2 e.u
    have h9 : getL (learnAll U T) e.u ≠ 0 := by
      rcases get_le_take hV k e.u with h | h <;> omega
    obtain ⟨f, hf, hfu, _⟩ := mem_get h9
    exact ⟨f, hf, hfu⟩)
  have h4 := all_len U T
  omega
theorem second_get (k : Nat) (hk : k ≤ (learnAll U T).length) (u : ByteArray) : getL (learnAll T ((learnAll U T).take k)) u = max (getL T u) (getL ((learnAll U T).take k) u) :=
  all_get hT (all_good hU T) (fun k _ hg => second_len hT hU h1 h2 k hg) k hk u
theorem second_can {k : Nat} {x : Ep} (hx : (learnAll U T)[k]? = some x) : canC (learnAll T ((learnAll U T).take k)) x.u x.n = 0 :=
  can_small (second_len hT hU h1 h2 k (second_get hT hU h1 h2 k (by have := (List.getElem?_eq_some_iff.1 hx).1; omega))) ((all_good hU T).2.2 x (List.mem_of_getElem? hx))
theorem second_has {k : Nat} {x : Ep} (hx : (learnAll U T)[k]? = some x) : getL (learnL (learnAll T ((learnAll U T).take k)) x.u x.n) x.u = x.n := by
  have hk := (List.getElem?_eq_some_iff.1 hx).1
  have hV := all_good hU T
  rw [learn_get (all_good hT _) _ _ _ (second_can hT hU h1 h2 hx), eqb_self, if_pos rfl, second_get hT hU h1 h2 k (by omega)]
  have h3 := get_mem hV.1 (List.mem_of_getElem? hx)
  have h4 := first_get hT hU h1 h2 x.u
  have h5 := of_decide_eq_true (hV.2.2 x (List.mem_of_getElem? hx))
  rcases get_le_take hV k x.u with h | h <;> omega
theorem both_same : learnAll T (learnAll U T) = learnAll U T := by
  refine good_ext _ _ (all_good hT _) (all_good hU T) (fun u => ?_)
  have h3 := second_get hT hU h1 h2 _ (Nat.le_refl _) u
  rw [List.take_of_length_le (Nat.le_refl _)] at h3
  have h4 := first_get hT hU h1 h2 u
  omega
end
end Go.Proofs.Ytojmnkcncjconaa.learns
