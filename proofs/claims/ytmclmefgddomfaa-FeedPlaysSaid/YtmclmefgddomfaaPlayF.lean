/- A feed and the document's feed side by side: each operation of one leaves the other as it is. -/
import Derived.Test.YtmclmefgddomfaaRefNewF
import Derived.Test.YtmclmefgddomfaaPlainF
namespace Go.Proofs.Ytmclmefgddomfaa.feed
open Go.RowKit Go.Proofs.Ytmclmefgddomfaa.base Go.Proofs.Ytmclmefgddomfaa.rowe Go.Proofs.Ytmclmefgddomfaa.err Go.Proofs.Ytmclmefgddomfaa.wire Go.Proofs.Ytmclmefgddomfaa.monoj

/-- both, in blocks apart, all made behind B -/
structure Both (B : Nat) (W : World) (S1 S2 : Nat → Prop) (g r rg nn bs : Nat) (L : List Wr) (K : List Int) (bs' : Nat) (L' : List Wr) (K' : List Int) : Prop where
  fe : FeedS W S1 g rg nn bs L K
  re : RefS W S2 r rg nn bs' L' K'
  ap : ∀ i, S1 i → ¬ S2 i
  b1 : ∀ i, S1 i → B ≤ i
  b2 : ∀ i, S2 i → B ≤ i
theorem FeedS.small {S : Nat → Prop} {w : World} {g rg nn bs : Nat} {L : List Wr} {K : List Int} (h : FeedS w S g rg nn bs L K) : ∀ i, S i → i < w.heap.size := by
  obtain ⟨_, _, _, _, _, h⟩ := h; exact h.small
theorem RefS.small {S : Nat → Prop} {w : World} {g rg nn bs : Nat} {L : List Wr} {K : List Int} (h : RefS w S g rg nn bs L K) : ∀ i, S i → i < w.heap.size := by
  obtain ⟨_, _, _, _, _, _, h⟩ := h; exact h.small
section
variable {B : Nat} {W W' : World} {S1 S2 S1' S2' : Nat → Prop} {g r rg nn bs bs' b2 : Nat} {L L' L2 : List Wr} {K K' K2 : List Int}
theorem Both.below (h : Both B W S1 S2 g r rg nn bs L K bs' L' K') (hb : Below W.heap.size W W') : Both B W' S1 S2 g r rg nn bs L K bs' L' K' := ⟨h.fe.below hb, h.re.below hb, h.ap, h.b1, h.b2⟩
theorem Both.feed (h : Both B W S1 S2 g r rg nn bs L K bs' L' K') (hB : B ≤ W.heap.size) (hf : FeedS W' S1' g rg nn b2 L2 K2) (hk : Keeps S1 W W') (hs : ∀ i, S1' i → S1 i ∨ W.heap.size ≤ i) : Both B W' S1' S2 g r rg nn b2 L2 K2 bs' L' K' :=
  ⟨hf, h.re.keeps hk (fun i h2 h1 => h.ap i h1 h2), fun i hi h2 => (hs i hi).elim (fun h1 => h.ap i h1 h2) (fun h3 => by have := h.re.small i h2; omega), fun i hi => (hs i hi).elim (h.b1 i) (fun h => by omega), h.b2⟩
theorem Both.ref (h : Both B W S1 S2 g r rg nn bs L K bs' L' K') (hB : B ≤ W.heap.size) (hf : RefS W' S2' r rg nn b2 L2 K2) (hk : Keeps S2 W W') (hs : ∀ i, S2' i → S2 i ∨ W.heap.size ≤ i) : Both B W' S1 S2' g r rg nn bs L K b2 L2 K2 :=
  ⟨h.fe.keeps hk (fun i h1 h2 => h.ap i h1 h2), hf, fun i h1 hi => (hs i hi).elim (fun h2 => h.ap i h1 h2) (fun h3 => by have := h.fe.small i h1; omega), h.b1, fun i hi => (hs i hi).elim (h.b2 i) (fun h => by omega)⟩
end
/-- what is kept: the writes' numbers, and that others are known to have the base at least -/
structure InvF (rg nn bs : Nat) (L : List Wr) (K : List Int) : Prop where
  num : ∀ i, i < L.length → (L.getD i (wrL 0 0)).n = ((bs + 1 + i : Nat) : Int)
  klen : K.length = nn
  kb : ∀ q, q < nn → q + 1 ≠ rg → (bs : Int) ≤ K.getD q 0
theorem num_push {rg b : Nat} {acc : List Wr} {x : Wr} (ha : ∀ i, i < acc.length → (acc.getD i (wrL 0 0)).n = ((b + 1 + i : Nat) : Int)) (hc : addC rg b acc x = 0) : ∀ i, i < (acc ++ [x.abs]).length → ((acc ++ [x.abs]).getD i (wrL 0 0)).n = ((b + 1 + i : Nat) : Int) := by
  intro i hi
  have hx : x.n = ((b + acc.length + 1 : Nat) : Int) := by
    unfold addC at hc
    split at hc
    · cases hc
    · split at hc
      · assumption
      · cases hc
  by_cases hl : i < acc.length
  · rw [List.getD_eq_getElem?_getD, List.getElem?_append_left hl, ← List.getD_eq_getElem?_getD]
    exact ha i hl
  · have : i = acc.length := by simp at hi; omega
    subst this
    rw [List.getD_eq_getElem?_getD, List.getElem?_append_right (Nat.le_refl _)]
    simp only [Nat.sub_self, List.getElem?_cons_zero, Option.getD_some]
    show x.n = _
    rw [hx]
    congr 1
    omega
theorem addAll_num {rg b : Nat} : ∀ (xs acc out : List Wr), addAll rg b acc xs = some out → (∀ i, i < acc.length → (acc.getD i (wrL 0 0)).n = ((b + 1 + i : Nat) : Int)) → (∀ i, i < out.length → (out.getD i (wrL 0 0)).n = ((b + 1 + i : Nat) : Int))
  | [], acc, out, h, ha => by injection h with h; rw [← h]; exact ha
  | x :: xs, acc, out, h, ha => by
    unfold addAll at h
    split at h
    · rename_i hc
      refine addAll_num xs _ out h (num_push ha hc)
    · cases h
theorem InvF.new {rg nn b : Nat} {xs out : List Wr} (h : addAll rg b [] xs = some out) : InvF rg nn b out (List.replicate nn (b : Int)) :=
  ⟨addAll_num xs [] out h (fun i hi => by simp at hi), by simp, fun q hq _ => by rw [List.getD_eq_getElem?_getD, List.getElem?_replicate, if_pos hq]; simp⟩
theorem InvF.add {rg nn b : Nat} {L : List Wr} {K : List Int} (h : InvF rg nn b L K) (x : Wr) : InvF rg nn b (addL rg b L x) K := by
  unfold addL
  split
  · rename_i hc
    exact ⟨num_push h.num hc, h.klen, h.kb⟩
  · exact h
theorem InvF.ack {rg nn b : Nat} {L : List Wr} {K : List Int} (h : InvF rg nn b L K) (p hv : Int) : InvF rg nn b L (ackK rg nn b L K p hv) := by
  unfold ackK
  split
  · rename_i ha
    unfold ackB at ha
    simp only [Bool.and_eq_true, decide_eq_true_eq] at ha
    obtain ⟨h1, h2, h3⟩ := ha
    obtain ⟨q, rfl, hq, hq2⟩ := is_at h1
    have e : (((q + 1 : Nat) : Int) - 1).toNat = q := by omega
    rw [e] at h2 ⊢
    refine ⟨h.num, by rw [List.length_set]; exact h.klen, fun r hr hr2 => ?_⟩
    have hk := h.kb q hq hq2
    by_cases hrq : r = q
    · subst hrq
      rw [List.getD_eq_getElem?_getD, List.getElem?_set_self (by rw [h.klen]; exact hr)]
      simp only [Option.getD_some]
      omega
    · rw [List.getD_eq_getElem?_getD, List.getElem?_set_ne (by omega), ← List.getD_eq_getElem?_getD]
      exact h.kb r hr hr2
  · exact h
theorem InvF.drop {rg nn b n : Nat} {L : List Wr} {K : List Int} (h : InvF rg nn b L K) (hn : n ≤ L.length) (hk : ∀ q, q < nn → q + 1 ≠ rg → ((b + n : Nat) : Int) ≤ K.getD q 0) : InvF rg nn (b + n) (L.drop n) K := by
  refine ⟨fun i hi => ?_, h.klen, hk⟩
  rw [List.length_drop] at hi
  rw [List.getD_eq_getElem?_getD, List.getElem?_drop, ← List.getD_eq_getElem?_getD, h.num (n + i) (by omega)]
  congr 1
  omega
/-- what is let go is what the document says -/
theorem trim_same {rg nn b n : Nat} {L : List Wr} {K : List Int} (h : InvF rg nn b L K) (h16 : nn ≤ 16) (hn : n ≤ L.length) (ha : Above rg nn b K n) (he : n = L.length ∨ ∃ q, q < nn ∧ q + 1 ≠ rg ∧ K.getD q 0 ≤ ((b + n : Nat) : Int)) :
    trimN rg nn b L K = n ∧ ∀ q, q < nn → q + 1 ≠ rg → ((b + n : Nat) : Int) ≤ K.getD q 0 := by
  have hk : ∀ q, q < nn → q + 1 ≠ rg → ((b + n : Nat) : Int) ≤ K.getD q 0 := fun q hq hq2 => by
    rcases Nat.eq_zero_or_pos n with h0 | h0
    · subst h0; exact h.kb q hq hq2
    · have := ha (n - 1) (by omega) q hq hq2
      omega
  refine ⟨?_, hk⟩
  unfold trimN
  have hlow : ∀ p, ((b + n : Nat) : Int) ≤ leastI rg nn ((b + L.length : Nat) : Int) K p := by
    intro p
    induction p with
    | zero => show _ ≤ ((b + L.length : Nat) : Int); omega
    | succ p ih =>
      unfold leastI
      split
      · rename_i hi
        obtain ⟨q, hq, h1, h2⟩ := is_at hi
        have : p = q + 1 := by omega
        subst this
        exact le_minI ih (hk q h1 h2)
      · exact ih
  have htop := least_top (rg := rg) (nn := nn) (last := ((b + L.length : Nat) : Int)) (K := K) 17
  have h17 := hlow 17
  rcases he with he | ⟨q, hq, hq2, he⟩
  · omega
  · have := least_each (rg := rg) (nn := nn) (last := ((b + L.length : Nat) : Int)) (K := K) q hq hq2 17 (by omega)
    omega
/-- a batch is what the document says -/
theorem batch_same {rg nn b : Nat} {L : List Wr} {K : List Int} (h : InvF rg nn b L K) (hv : Int) : batchL b L hv = refBatch hv L := by
  have key : ∀ k, k ≤ L.length → (L.drop k).filter (later hv) = L.drop (max k (hv - b).toNat) := by
    intro k hk
    induction hd : L.length - k generalizing k with
    | zero =>
      have : k = L.length := by omega
      subst this
      rw [List.drop_length, List.drop_eq_nil_of_le (by omega)]
      rfl
    | succ d ih =>
      have hkl : k < L.length := by omega
      rw [List.drop_eq_getElem_cons hkl, List.filter_cons, ih (k + 1) (by omega) (by omega)]
      have hnk : (L[k]).n = ((b + 1 + k : Nat) : Int) := by
        have := h.num k hkl
        rwa [List.getD_eq_getElem?_getD, List.getElem?_eq_getElem hkl] at this
      by_cases hl : hv < (L[k]).n
      · rw [if_pos (by unfold later; simpa using hl)]
        have e1 : max k (hv - b).toNat = k := by omega
        have e2 : max (k + 1) (hv - b).toNat = k + 1 := by omega
        rw [e1, e2, ← List.drop_eq_getElem_cons hkl]
      · rw [if_neg (by unfold later; simpa using hl)]
        congr 1
        omega
  have k0 := key 0 (by omega)
  rw [List.drop_zero] at k0
  unfold refBatch batchL
  rw [k0, Nat.zero_max]
  split
  · rw [List.drop_eq_nil_of_le (by omega)]; rfl
  · rfl
end Go.Proofs.Ytmclmefgddomfaa.feed
