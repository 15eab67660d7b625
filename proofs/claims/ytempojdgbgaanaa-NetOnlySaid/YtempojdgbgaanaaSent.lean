/- What a law has sent: an own row of events; and what its net's bags have of it. -/
import Derived.Test.YtempojdgbgaanaaOwn
import Derived.Test.YtempojdgbgaanaaArgs
namespace Go.Proofs.Ytempojdgbgaanaa.sent
open Go.RowKit Go.Proofs.Ytempojdgbgaanaa.base Go.Proofs.Ytempojdgbgaanaa.map_ Go.Proofs.Ytempojdgbgaanaa.net Go.Proofs.Ytempojdgbgaanaa.state Go.Proofs.Ytempojdgbgaanaa.at_ Go.Proofs.Ytempojdgbgaanaa.send Go.Proofs.Ytempojdgbgaanaa.take Go.Proofs.Ytempojdgbgaanaa.double Go.Proofs.Ytempojdgbgaanaa.own Go.Proofs.Ytempojdgbgaanaa.wNetNone Go.Proofs.Ytempojdgbgaanaa.args

theorem op_info : (Try.prog.info? 30).map (fun i => (i.zero, i.size, i.bytes)) = some (some (.agg #[.int .i64 0, .int .i64 0, .int .i64 0, .int .i64 0, .string ⟨#[]⟩]), 5, 48) := by kernel_rfl
section
variable {w w' : World} {base B g bb cb k k' n : Nat} {S S' : Nat → Prop} {z : Int} {F F' : W2 → List ByteArray} {C C' : W2 → Bool} {A : Option Addr} {c : Nat} {L : List O} {e : TypeId} {size : Nat} {v : Value} {xs : List Value}
theorem own_keepB {X : Nat → Prop} (h : w.ownsRow base e size v n xs) (hk : Keeps X w w') (hx : ∀ g, v.ownBlock = some g → ¬ X g) : w'.ownsRow base e size v n xs :=
  ⟨h.1, h.2.imp id fun ⟨g, cap, cur, e, h1, h2, r⟩ => ⟨g, cap, cur, e, h1, (hk.block g (heap_lt h2) (hx g (by rw [e]; rfl))).trans h2, r⟩⟩
structure Sent (w : World) (base : Nat) (S : Nat → Prop) (bb cb : Nat) (A : Option Addr) (n c : Nat) (L : List O) : Prop where
  own : w.ownsRow base 30 5 (.slice A n c) n (L.flatMap oc)
  apart : ∀ i, (Value.slice A n c).ownBlock = some i → i < w.heap.size ∧ ¬ S i ∧ i ≠ bb ∧ i ≠ cb
theorem Sent.nil : Sent w base S bb cb none 0 0 [] := ⟨World.ownsRow_nil _ _ _ _, fun i h => by simp [Value.ownBlock] at h⟩
theorem Sent.len (h : Sent w base S bb cb A n c L) : L.length = n := by have := h.own.1; rw [len_flat oc oc_len] at this; omega
theorem Sent.below (h : Sent w base S bb cb A n c L) (hb : Below w.heap.size w w') : Sent w' base S bb cb A n c L :=
  ⟨own_below h.own hb, fun i hi => ⟨Nat.lt_of_lt_of_le (h.apart i hi).1 hb.size, (h.apart i hi).2⟩⟩
theorem Sent.net (h : Sent w base S bb cb A n c L) (hS : ∀ i, S' i → S i ∨ w.heap.size ≤ i) (hk : Keeps (fun i => S i ∨ i = bb ∨ i = cb) w w') : Sent w' base S' bb cb A n c L := by
  refine ⟨own_keepB h.own hk fun i hi hx => ?_, fun i hi => ?_⟩
  · have := h.apart i hi
    rcases hx with hx | hx | hx
    · exact this.2.1 hx
    · exact this.2.2.1 hx
    · exact this.2.2.2 hx
  · have := h.apart i hi
    refine ⟨Nat.lt_of_lt_of_le this.1 hk.size, fun h' => ?_, this.2.2⟩
    rcases hS i h' with h1 | h1
    · exact this.2.1 h1
    · omega
/-- One more sent: a new row in the old one's block, or in one that is new; the net is as it was. -/
theorem Sent.more (h : Sent w base S bb cb A n c L) (hN : NetO w B S g bb cb k z F C) {v' : Value} {o : O} (hv : w'.ownsRow base 30 5 v' (n + 1) (L.flatMap oc ++ oc o)) (hg : w.grownBy w' (Value.slice A n c).ownBlock)
    (hw : v'.ownBlock = (Value.slice A n c).ownBlock ∨ ∃ g, v'.ownBlock = some g ∧ w.heap.size ≤ g) : ∃ A' c', v' = .slice A' (n + 1) c' ∧ Sent w' base S bb cb A' (n + 1) c' (L ++ [o]) ∧ NetO w' B S g bb cb k z F C := by
  obtain ⟨A', c', rfl⟩ := ownsRow_slice hv
  refine ⟨A', c', rfl, ⟨by rw [List.flatMap_append]; simpa using hv, fun i hi => ?_⟩, ?_⟩
  · refine ⟨(hv.lt i hi).2, ?_⟩
    rcases hw with hw | ⟨g', hw, hlt⟩
    · exact (h.apart i (by rw [← hw]; exact hi)).2
    · rw [hw] at hi; injection hi with hi; subst hi
      have h1 := hN.net.bags
      obtain ⟨m, m1, _⟩ := h1
      obtain ⟨mc, mc1, _⟩ := hN.net.cuts
      have := m1.lt
      have := mc1.lt
      refine ⟨fun hs => ?_, by omega, by omega⟩
      have := (hN.own _ hs).2; omega
  · have hk : Keeps (fun i => (Value.slice A n c).ownBlock = some i) w w' := ⟨hg.os, hg.tape, hg.output, hg.size, fun i hi hne => hg.block i hi (fun e => hne e.symm)⟩
    refine hN.keeps hk (fun hx => ?_) (fun hx => (h.apart _ hx).2.2.1 rfl) (fun hx => (h.apart _ hx).2.2.2 rfl) (fun i hi hx => (h.apart _ hx).2.1 hi)
    exact own_blk_ne h.own hN.net.net (by decide +kernel) hx
end
/-! ### what the bags have was sent -/
def Inv (F : W2 → List ByteArray) (L : List O) : Prop := (∀ x s, s ∈ F x → ∃ o ∈ L, (o.a, o.b) = x ∧ o.s = s) ∧ ∀ x : W2, isW 16 x.1 x.2 = false → F x = []
section
variable {F : W2 → List ByteArray} {C : W2 → Bool} {L : List O} {x : W2} {i : Int} {s : ByteArray}
theorem inv_none : Inv (fun _ => []) [] := ⟨by simp, fun _ _ => rfl⟩
theorem inv_upd (h : Inv F L) {l : List ByteArray} (h1 : ∀ s ∈ l, ∃ o ∈ L, (o.a, o.b) = x ∧ o.s = s) (h2 : isW 16 x.1 x.2 = true) : Inv (upd F x l) L := by
  refine ⟨fun y s hs => ?_, fun y hy => ?_⟩
  · unfold upd at hs
    split at hs
    · rename_i he; subst he; exact h1 s hs
    · exact h.1 y s hs
  · unfold upd
    split
    · rename_i he; subst he; rw [h2] at hy; cases hy
    · exact h.2 y hy
theorem inv_more (h : Inv F L) (o : O) : Inv F (L ++ [o]) := ⟨fun y s hs => by obtain ⟨o', h1, h2⟩ := h.1 y s hs; exact ⟨o', by simp [h1], h2⟩, h.2⟩
theorem inv_send (h : Inv F L) {o : O} (hs : sendB 16 F C (o.a, o.b) = true) : Inv (sendF 16 F C (o.a, o.b) o.s) (L ++ [o]) := by
  unfold sendF
  rw [if_pos hs]
  simp [sendB] at hs
  refine inv_upd (inv_more h o) (fun t ht => ?_) hs.1.1
  rcases List.mem_append.1 ht with ht | ht
  · exact (inv_more h o).1 _ t ht
  · simp at ht; subst ht; exact ⟨o, by simp, rfl, rfl⟩
theorem inv_erase (h : Inv F L) (k : Nat) (h2 : atOk 16 F x = true) : Inv (upd F x ((F x).eraseIdx k)) L := by
  simp [atOk] at h2
  exact inv_upd h (fun t ht => h.1 x t (List.mem_of_mem_eraseIdx ht)) h2.1
theorem inv_take (h : Inv F L) : Inv (takeF 16 F C x i) L := by
  unfold takeF
  split
  · rename_i hs
    simp [takeB] at hs
    exact inv_erase h _ hs.1
  · exact h
theorem inv_drop (h : Inv F L) : Inv (dropF 16 F x i) L := by
  unfold dropF
  split
  · rename_i hs
    exact inv_erase h _ hs
  · exact h
theorem msg_mem (h : atOk 16 F x = true) : msg F x i ∈ F x := by
  simp [atOk] at h
  have hl : 1 ≤ (F x).length := by
    cases hF : F x with
    | nil => exact absurd hF h.2
    | cons a l => simp
  have := idx_lt i hl
  unfold msg
  rw [List.getD_eq_getElem?_getD, List.getElem?_eq_getElem this]
  exact List.getElem_mem _
theorem inv_double (h : Inv F L) : Inv (doubleF 16 F x i) L := by
  unfold doubleF
  split
  · rename_i hs
    simp [doubleB] at hs
    have h2 := hs.1
    simp [atOk] at h2
    refine inv_upd h (fun t ht => ?_) h2.1
    rcases List.mem_append.1 ht with ht | ht
    · exact h.1 x t ht
    · simp at ht; subst ht; exact h.1 x _ (msg_mem hs.1)
  · exact h
/-- Has such a message been sent? -/
def mt (a b : Int) (s : ByteArray) (p : O) : Bool := decide (p.a = a) && (decide (p.b = b) && decide (p.s = s))
def fnd (ok : Bool) (a b : Int) (s : ByteArray) (L : List O) : Bool := !ok || L.any (mt a b s)
theorem fnd_all (h : Inv F L) (a b : Int) (i : Int) : fnd (takeB 16 F C (a, b)) a b (if takeB 16 F C (a, b) then msg F (a, b) i else ⟨#[]⟩) L = true := by
  unfold fnd
  cases ht : takeB 16 F C (a, b)
  · rfl
  · simp [takeB] at ht
    obtain ⟨o, ho, h1, h2⟩ := h.1 (a, b) _ (msg_mem (i := i) ht.1)
    simp at h1
    rw [if_pos rfl]
    simp only [Bool.not_true, Bool.false_or, List.any_eq_true]
    exact ⟨o, ho, by simp [mt, h1, h2]⟩
theorem fnd_step (ok : Bool) (a b : Int) (s : ByteArray) {j : Nat} {p : O} (hp : L[j]? = some p) : fnd ok a b s (L.take (j + 1)) = (fnd ok a b s (L.take j) || mt a b s p) := by
  unfold fnd
  rw [List.take_add_one, hp]
  simp [Bool.or_assoc]
end
end Go.Proofs.Ytempojdgbgaanaa.sent
