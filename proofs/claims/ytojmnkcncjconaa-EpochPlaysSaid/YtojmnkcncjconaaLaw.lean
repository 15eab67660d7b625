/- The plain laws of tables: what two of them come to. -/
import Derived.Test.YtojmnkcncjconaaNew
namespace Go.Proofs.Ytojmnkcncjconaa.law
open Go.Proofs.Ytojmnkcncjconaa.list Go.Proofs.Ytojmnkcncjconaa.tab Go.Proofs.Ytojmnkcncjconaa.new

theorem get_put (L : List Ep) (u v : ByteArray) (n : Int) : Rising L → getL (putL L u n) v = if eqb u v then n else getL L v := by
  induction L with
  | nil => intro _; simp [putL, getL]
  | cons e L ih =>
    rintro ⟨h1, h2⟩
    simp only [putL]
    rcases bl_tri u e.u with ⟨hh, h3, h4⟩ | ⟨hh, h3, h4⟩ | ⟨hh, h3, h4⟩
    · subst hh; simp only [h3, Bool.false_eq_true, if_false, eqb_self, if_true, getL]
      split <;> rfl
    · simp only [h3, if_true, getL]
    · simp only [h3, eqb_false hh, Bool.false_eq_true, if_false, getL, ih h2]
      by_cases hv : e.u = v
      · subst hv
        simp [eqb_self, eqb_false hh]
      · simp [eqb_false hv]
/-- What a table becomes by learning. -/
def learnL (L : List Ep) (u : ByteArray) (n : Int) : List Ep := if canC L u n = 0 then (if n ≤ getL L u then L else putL L u n) else L
theorem learn_good {L : List Ep} (h : GoodL L) (u : ByteArray) (n : Int) : GoodL (learnL L u n) := by
  unfold learnL
  by_cases hc : canC L u n = 0
  · rw [if_pos hc]
    split
    · exact h
    · exact (good_put h hc).1
  · rw [if_neg hc]; exact h
theorem learn_len {L : List Ep} (u : ByteArray) (n : Int) : (learnL L u n).length ≤ L.length + 1 := by
  unfold learnL
  split
  · split
    · omega
    · exact put_len L u n
  · omega
theorem learn_get {L : List Ep} (h : GoodL L) (u v : ByteArray) (n : Int) (hc : canC L u n = 0) : getL (learnL L u n) v = if eqb u v then max n (getL L u) else getL L v := by
  unfold learnL
  rw [if_pos hc]
  by_cases hn : n ≤ getL L u
  · rw [if_pos hn]
    by_cases hv : u = v
    · subst hv; rw [eqb_self, if_pos rfl]; omega
    · rw [eqb_false hv]; rfl
  · rw [if_neg hn, get_put L u v n h.1]
    split
    · omega
    · rfl
theorem get_mem {L : List Ep} (hr : Rising L) {e : Ep} (he : e ∈ L) : getL L e.u = e.n := by
  obtain ⟨k, hk, rfl⟩ := List.getElem_of_mem he
  induction L generalizing k with
  | nil => simp at hk
  | cons x L ih =>
    cases k with
    | zero => simp [getL, eqb_self]
    | succ k =>
      have hk' : k < L.length := by simpa using hk
      have h1 := hr.1 L[k] (List.getElem_mem hk')
      simp only [getL, List.getElem_cons_succ, eqb_false (fun he : x.u = L[k].u => by rw [he, bl_irr] at h1; cases h1), Bool.false_eq_true, if_false]
      exact ih hr.2 k hk' (List.getElem_mem hk')
theorem mem_get {L : List Ep} {u : ByteArray} (h : getL L u ≠ 0) : ∃ e ∈ L, e.u = u ∧ e.n = getL L u := by
  induction L with
  | nil => exact absurd rfl h
  | cons e L ih =>
    simp only [getL] at h ⊢
    by_cases he : e.u = u
    · subst he
      rw [eqb_self, if_pos rfl]
      exact ⟨e, by simp, rfl, rfl⟩
    · rw [eqb_false he, if_neg (by simp)] at h ⊢
      obtain ⟨f, hf, h1, h2⟩ := ih h
      exact ⟨f, by simp [hf], h1, h2⟩
/-- Two good lists with the same epochs are one. -/
theorem good_ext : ∀ (L M : List Ep), GoodL L → GoodL M → (∀ u, getL L u = getL M u) → L = M
  | [], [], _, _, _ => rfl
  | [], e :: M, _, hM, h => by
    have h1 := h e.u
    rw [get_mem hM.1 (by simp)] at h1
    have h2 := of_decide_eq_true (hM.2.2 e (by simp))
    have h3 : e.n = 0 := h1.symm
    omega
  | e :: L, [], hL, _, h => by
    have h1 := h e.u
    rw [get_mem hL.1 (by simp)] at h1
    have h2 := of_decide_eq_true (hL.2.2 e (by simp))
    have h3 : e.n = 0 := h1
    omega
  | e :: L, f :: M, hL, hM, h => by
    have he := of_decide_eq_true (hL.2.2 e (by simp))
    have hf := of_decide_eq_true (hM.2.2 f (by simp))
    have key : ∀ (e f : Ep) (L M : List Ep), Rising (f :: M) → (1 ≤ e.n) → getL (e :: L) e.u = getL (f :: M) e.u → bl e.u f.u = false := by
      intro e f L M hM h1 h2
      cases hb : bl e.u f.u
      · rfl
      · exfalso
        have h3 : getL (f :: M) e.u = 0 := get_above _ _ (fun g hg => by
          rcases List.mem_cons.1 hg with rfl | hg
          · exact hb
          · exact bl_trans hb (hM.1 g hg))
        rw [h3] at h2
        simp only [getL, eqb_self, if_true] at h2
        omega
    have hu : e.u = f.u := by
      have k1 := key e f L M hM.1 (by omega) (h e.u)
      have k2 := key f e M L hL.1 (by omega) (h f.u).symm
      rcases bl_tri e.u f.u with ⟨h, _⟩ | ⟨_, h, _⟩ | ⟨_, _, h⟩
      · exact h
      · rw [k1] at h; cases h
      · rw [k2] at h; cases h
    have hn : e.n = f.n := by
      have := h e.u
      rw [get_mem hL.1 (by simp), hu, get_mem hM.1 (by simp)] at this
      exact this
    have hef : e = f := by obtain ⟨eu, en⟩ := e; obtain ⟨fu, fn⟩ := f; simp at hu hn; simp [hu, hn]
    subst hef
    have hL2 : GoodL L := ⟨hL.1.2, by have := hL.2.1; simp at this; omega, fun x hx => hL.2.2 x (by simp [hx])⟩
    have hM2 : GoodL M := ⟨hM.1.2, by have := hM.2.1; simp at this; omega, fun x hx => hM.2.2 x (by simp [hx])⟩
    rw [good_ext L M hL2 hM2 (fun u => by
      by_cases hu : e.u = u
      · subst hu
        rw [get_above L _ (fun g hg => hL.1.1 g hg), get_above M _ (fun g hg => hM.1.1 g hg)]
      · have := h u
        simp only [getL, eqb_false hu, Bool.false_eq_true, if_false] at this
        exact this)]
/-- What a table becomes by raising. -/
def raiseL (L : List Ep) (u : ByteArray) : List Ep := if canC L u (getL L u + 1) = 0 then putL L u (getL L u + 1) else L
theorem raise_good {L : List Ep} (h : GoodL L) (u : ByteArray) : GoodL (raiseL L u) := by
  unfold raiseL
  split
  · exact (good_put h ‹_›).1
  · exact h
theorem raise_mono {L : List Ep} (h : GoodL L) (u : ByteArray) : getL L u ≤ getL (raiseL L u) u := by
  unfold raiseL
  split
  · rw [get_put L u u _ h.1, eqb_self, if_pos rfl]; omega
  · omega
theorem learn_mono {L : List Ep} (h : GoodL L) (u : ByteArray) (n : Int) : getL L u ≤ getL (learnL L u n) u := by
  by_cases hc : canC L u n = 0
  · rw [learn_get h _ _ _ hc, eqb_self, if_pos rfl]; omega
  · unfold learnL; rw [if_neg hc]; omega
theorem raise_same {L : List Ep} {u : ByteArray} (h : canC L u (getL L u + 1) ≠ 0) : raiseL L u = L := if_neg h
theorem raise_new {L : List Ep} {u : ByteArray} (h : canC L u (getL L u + 1) = 0) : raiseL L u = putL L u (getL L u + 1) := if_pos h
theorem learn_same {L : List Ep} {u : ByteArray} {n : Int} (h : canC L u n ≠ 0) : learnL L u n = L := if_neg h
theorem learn_elder {L : List Ep} {u : ByteArray} {n : Int} (h : n ≤ getL L u) : learnL L u n = L := by unfold learnL; rw [if_pos h]; split <;> rfl
theorem learn_newer {L : List Ep} {u : ByteArray} {n : Int} (hc : canC L u n = 0) (h : ¬ n ≤ getL L u) : learnL L u n = putL L u n := by unfold learnL; rw [if_pos hc, if_neg h]
end Go.Proofs.Ytojmnkcncjconaa.law
