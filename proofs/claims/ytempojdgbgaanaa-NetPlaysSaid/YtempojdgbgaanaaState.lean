/- A net, known whole: its bags and its cuts; how they stay and change. -/
import Derived.Test.YtempojdgbgaanaaNet
namespace Go.Proofs.Ytempojdgbgaanaa.state
open Go.RowKit Go.Proofs.Ytempojdgbgaanaa.base Go.Proofs.Ytempojdgbgaanaa.map_ Go.Proofs.Ytempojdgbgaanaa.err Go.Proofs.Ytempojdgbgaanaa.net Go.Maps

abbrev W2 := Int × Int
def okW (x : W2) : Prop := (Lit.int .i64 x.1).wf = true ∧ (Lit.int .i64 x.2).wf = true
theorem str_info : (Try.prog.info? 9).map (fun i => (i.zero, i.size, i.bytes)) = some (some (.string ⟨#[]⟩), 1, 16) := by kernel_rfl
/-- A bag: an own row of texts. -/
def Bag (w : World) (v : Value) (xs : List ByteArray) : Prop := w.ownsRow 0 9 1 v xs.length (xs.map Value.string)
/-- All bags, in the map at block b, their rows in the blocks S. -/
def Bags (w : World) (S : Nat → Prop) (b k : Nat) (F : W2 → List ByteArray) : Prop :=
  ∃ m, MapM wayE w b m ∧ (∀ p ∈ m, Bag w p.2 (F p.1) ∧ ∀ g, p.2.ownBlock = some g → S g) ∧ (∀ p ∈ m, ∀ q ∈ m, p.1 ≠ q.1 → ∀ g, p.2.ownBlock = some g → q.2.ownBlock ≠ some g) ∧ (∀ x, getM m x = none → F x = []) ∧ m.length ≤ k
def Cuts (w : World) (b k : Nat) (C : W2 → Bool) : Prop := ∃ m, MapM wayE w b m ∧ (∀ x, (getM m x).getD (.bool false) = .bool (C x)) ∧ m.length ≤ k
def upd {α : Type} (F : W2 → α) (x : W2) (v : α) : W2 → α := fun y => if y = x then v else F y
section
variable {w w' : World} {S : Nat → Prop} {b k g : Nat} {F : W2 → List ByteArray} {C : W2 → Bool}
theorem Bags.keeps {X : Nat → Prop} (h : Bags w S b k F) (hk : Keeps X w w') (hb : ¬ X b) (hx : ∀ g, S g → g < w.heap.size → ¬ X g) : Bags w' S b k F := by
  obtain ⟨m, h1, h2, h3, h4, h5⟩ := h
  refine ⟨m, h1.keeps hk hb, fun p hp => ⟨⟨(h2 p hp).1.1, (h2 p hp).1.2.imp id fun ⟨g, cap, cur, e, e1, e2, r⟩ => ⟨g, cap, cur, e, e1, (hk.block g (heap_lt e2) (hx g ((h2 p hp).2 g (by rw [e]; rfl)) (heap_lt e2))).trans e2, r⟩⟩, (h2 p hp).2⟩, h3, h4, h5⟩
theorem Bags.below (h : Bags w S b k F) (hk : Below w.heap.size w w') : Bags w' S b k F := h.keeps (X := nobody) (.of_below hk) (fun h => h) (fun _ _ _ h => h)
theorem Cuts.keeps {X : Nat → Prop} (h : Cuts w b k C) (hk : Keeps X w w') (hb : ¬ X b) : Cuts w' b k C := by
  obtain ⟨m, h1, h2, h3⟩ := h
  exact ⟨m, h1.keeps hk hb, h2, h3⟩
theorem Cuts.below (h : Cuts w b k C) (hk : Below w.heap.size w w') : Cuts w' b k C := h.keeps (X := nobody) (.of_below hk) (fun h => h)
theorem Cuts.look (h : Cuts w b k C) {x : W2} (hx : okW x) : (Instr.lookup 52 (.map (some b)) (way x) false).run Try.prog w = .ok (.bool (C x)) w := by
  obtain ⟨m, h1, h2, h3⟩ := h
  rw [← h2 x]
  exact h1.look keyed Try.underlying52 (zero_bool w) hx
/-- What a look-up finds: a row of the bag's texts. -/
theorem Bags.look (h : Bags w S b k F) {x : W2} (hx : okW x) : ∃ A c, (Instr.lookup 51 (.map (some b)) (way x) false).run Try.prog w = .ok (.slice A (F x).length c) w ∧ Bag w (.slice A (F x).length c) (F x) ∧ ∀ g, (Value.slice A (F x).length c).ownBlock = some g → S g := by
  obtain ⟨m, h1, h2, h3, h4, h5⟩ := h
  have hr := h1.look keyed Try.underlying51 (zero_slice w) hx
  cases hg : getM m x with
  | none =>
    rw [hg] at hr
    rw [h4 x hg]
    exact ⟨none, 0, hr, World.ownsRow_nil _ _ _ _, fun g hg => by simp [Value.ownBlock] at hg⟩
  | some v =>
    rw [hg] at hr
    obtain ⟨hb, hS⟩ := h2 _ (get_mem hg)
    obtain ⟨A, c, hv⟩ := ownsRow_slice hb
    simp only at hv hb hS
    subst hv
    exact ⟨A, c, hr, hb, hS⟩
theorem Bags.new (w : World) (k : Nat) : Bags (w.alloc (.map #[] 0)) nobody w.heap.size k (fun _ => []) := ⟨[], .new _ _, by simp, by simp, fun _ _ => rfl, by simp⟩
theorem Cuts.new (w : World) (k : Nat) : Cuts (w.alloc (.map #[] 0)) w.heap.size k (fun _ => false) := ⟨[], .new _ _, fun _ => rfl, by simp⟩
theorem Bags.more {k' : Nat} (h : Bags w S b k F) (hk : k ≤ k') : Bags w S b k' F := by
  obtain ⟨m, h1, h2, h3, h4, h5⟩ := h
  exact ⟨m, h1, h2, h3, h4, by omega⟩
theorem putM_len (m : List (W2 × Value)) (x : W2) (v : Value) : (putM m x v).length ≤ m.length + 1 := by
  unfold putM setM
  split <;> simp
theorem putM_mem {m : List (W2 × Value)} {x : W2} {v : Value} {p : W2 × Value} (h : p ∈ putM m x v) : p = (x, v) ∨ (p ∈ m ∧ p.1 ≠ x) := by
  unfold putM at h
  split at h
  · unfold setM at h
    obtain ⟨q, hq, rfl⟩ := List.mem_map.1 h
    split
    · exact .inl rfl
    · exact .inr ⟨hq, ‹_›⟩
  · rename_i hn
    have hg : getM m x = none := by
      cases hg : getM m x with
      | none => rfl
      | some u => rw [hg] at hn; simp at hn
    rcases List.mem_append.1 h with h | h
    · exact .inr ⟨h, get_none.1 hg p h⟩
    · simp at h; exact .inl h
/-- A new row for one key: it lies in the old one's block, or in one that is new. -/
theorem Bags.put {w1 : World} {m : List (W2 × Value)} (h1 : MapM wayE w b m) (h2 : ∀ p ∈ m, Bag w p.2 (F p.1) ∧ ∀ g, p.2.ownBlock = some g → S g) (h3 : ∀ p ∈ m, ∀ q ∈ m, p.1 ≠ q.1 → ∀ g, p.2.ownBlock = some g → q.2.ownBlock ≠ some g)
    (h4 : ∀ x, getM m x = none → F x = []) (h5 : m.length ≤ k) {x : W2} {v : Value} {xs : List ByteArray}
    (hk : Keeps (fun i => (∃ u, getM m x = some u ∧ u.ownBlock = some i) ∨ i = b) w w1) (hm : MapM wayE w1 b (putM m x v)) (hv : Bag w1 v xs)
    (hnew : ∀ g, v.ownBlock = some g → (∃ u, getM m x = some u ∧ u.ownBlock = some g) ∨ w.heap.size ≤ g) : Bags w1 (fun i => S i ∨ w.heap.size ≤ i) b (k + 1) (upd F x xs) := by
  have key : ∀ p ∈ m, p.1 ≠ x → ∀ g, p.2.ownBlock = some g → g < w.heap.size ∧ ¬ ((∃ u, getM m x = some u ∧ u.ownBlock = some g) ∨ g = b) := by
    intro p hp hne g hg
    have hlt := (h2 p hp).1.lt g hg
    refine ⟨hlt.2, fun h => ?_⟩
    rcases h with ⟨u, hu, hug⟩ | h
    · exact h3 p hp (x, u) (get_mem hu) hne g hg hug
    · rcases (h2 p hp).1.2 with ⟨e, _⟩ | ⟨g', cap, cur, e, _, e2, _⟩
      · rw [e] at hg; simp [Value.ownBlock] at hg
      · have hgg : g' = g := by rw [e] at hg; simpa [Value.ownBlock] using hg
        subst hgg
        exact h1.not_blk (t := 9) (cs := cur) e2 h
  have hS : ∀ g, v.ownBlock = some g → S g ∨ w.heap.size ≤ g := by
    intro g hg
    rcases hnew g hg with ⟨u, hu, hug⟩ | h
    · exact .inl ((h2 _ (get_mem hu)).2 g hug)
    · exact .inr h
  refine ⟨_, hm, fun p hp => ?_, fun p hp q hq hpq g hg => ?_, fun y hy => ?_, by have := putM_len m x v; omega⟩
  · rcases putM_mem hp with rfl | ⟨hp, hne⟩
    · unfold upd; rw [if_pos rfl]; exact ⟨hv, hS⟩
    · unfold upd; rw [if_neg hne]
      obtain ⟨hb, hs⟩ := h2 p hp
      refine ⟨⟨hb.1, hb.2.imp id fun ⟨g, cap, cur, e, e1, e2, r⟩ => ⟨g, cap, cur, e, e1, ?_, r⟩⟩, fun g hg => .inl (hs g hg)⟩
      have := key p hp hne g (by rw [e]; rfl)
      exact (hk.block g this.1 this.2).trans e2
  · rcases putM_mem hp with rfl | ⟨hp, hne⟩
    · rcases putM_mem hq with rfl | ⟨hq, hne2⟩
      · exact absurd rfl hpq
      · intro hqg
        have h6 := key q hq hne2 g hqg
        rcases hnew g hg with h | h
        · exact h6.2 (.inl h)
        · omega
    · rcases putM_mem hq with rfl | ⟨hq, hne2⟩
      · intro hqg
        have h6 := key p hp hne g hg
        rcases hnew g hqg with h | h
        · exact h6.2 (.inl h)
        · omega
      · exact h3 p hp q hq hpq g hg
  · rw [get_put] at hy
    split at hy
    · cases hy
    · rename_i hne
      unfold upd; rw [if_neg hne]; exact h4 y hy
/-- A net at block g. -/
structure NetS (w : World) (S : Nat → Prop) (g bb cb k : Nat) (n : Int) (F : W2 → List ByteArray) (C : W2 → Bool) : Prop where
  net : NetB w g bb cb n
  bags : Bags w S bb k F
  cuts : Cuts w cb k C
  ne : bb ≠ cb
theorem NetS.keeps {X : Nat → Prop} {bb cb : Nat} {n : Int} (h : NetS w S g bb cb k n F C) (hk : Keeps X w w') (hg : ¬ X g) (hb : ¬ X bb) (hc : ¬ X cb) (hx : ∀ g, S g → g < w.heap.size → ¬ X g) : NetS w' S g bb cb k n F C :=
  ⟨h.net.keeps hk hg, h.bags.keeps hk hb hx, h.cuts.keeps hk hc, h.ne⟩
theorem NetS.below {bb cb : Nat} {n : Int} (h : NetS w S g bb cb k n F C) (hk : Below w.heap.size w w') : NetS w' S g bb cb k n F C := h.keeps (X := nobody) (.of_below hk) (fun h => h) (fun h => h) (fun h => h) (fun _ _ _ h => h)
theorem NetS.drew {bb cb : Nat} {n : Int} (h : NetS w S g bb cb k n F C) : NetS w.drew S g bb cb k n F C := h.keeps (X := nobody) .drew (fun h => h) (fun h => h) (fun h => h) (fun _ _ _ h => h)
theorem Bag.keeps {X : Nat → Prop} {v : Value} {xs : List ByteArray} (h : Bag w v xs) (hk : Keeps X w w') (hx : ∀ g, v.ownBlock = some g → ¬ X g) : Bag w' v xs :=
  ⟨h.1, h.2.imp id fun ⟨g, cap, cur, e, e1, e2, r⟩ => ⟨g, cap, cur, e, e1, (hk.block g (heap_lt e2) (hx g (by rw [e]; rfl))).trans e2, r⟩⟩
theorem Bag.ne_map {v : Value} {xs : List ByteArray} {m : List (W2 × Value)} (h : Bag w v xs) (hm : MapM wayE w b m) : v.ownBlock ≠ some b := by
  intro he
  rcases h.2 with ⟨e, _⟩ | ⟨g', cap, cur, e, _, e2, _⟩
  · rw [e] at he; simp [Value.ownBlock] at he
  · have hgg : g' = b := by rw [e] at he; simpa [Value.ownBlock] using he
    subst hgg
    exact hm.not_blk (t := 9) (cs := cur) e2 rfl
theorem NetS.more {k' bb cb : Nat} {n : Int} (h : NetS w S g bb cb k n F C) (hk : k ≤ k') : NetS w S g bb cb k' n F C :=
  ⟨h.net, h.bags.more hk, (by obtain ⟨m, h1, h2, h3⟩ := h.cuts; exact ⟨m, h1, h2, by omega⟩), h.ne⟩
theorem bag_of {m : List (W2 × Value)} (h2 : ∀ p ∈ m, Bag w p.2 (F p.1) ∧ ∀ g, p.2.ownBlock = some g → S g) (h4 : ∀ x, getM m x = none → F x = []) (x : W2) : Bag w ((getM m x).getD (.slice none 0 0)) (F x) := by
  cases hg : getM m x with
  | none => rw [h4 x hg]; exact World.ownsRow_nil _ _ _ _
  | some v => exact (h2 _ (get_mem hg)).1
theorem own_of {m : List (W2 × Value)} {x : W2} {i : Nat} (h : ((getM m x).getD (.slice none 0 0)).ownBlock = some i) : ∃ u, getM m x = some u ∧ u.ownBlock = some i := by
  cases hg : getM m x with
  | none => rw [hg] at h; simp [Value.ownBlock] at h
  | some v => rw [hg] at h; exact ⟨v, rfl, h⟩
/-- One bag is another one now. -/
theorem NetS.set {bb cb : Nat} {n : Int} (h : NetS w S g bb cb k n F C) {m : List (W2 × Value)} (m1 : MapM wayE w bb m) (m2 : ∀ p ∈ m, Bag w p.2 (F p.1) ∧ ∀ g, p.2.ownBlock = some g → S g)
    (m3 : ∀ p ∈ m, ∀ q ∈ m, p.1 ≠ q.1 → ∀ g, p.2.ownBlock = some g → q.2.ownBlock ≠ some g) (m4 : ∀ x, getM m x = none → F x = []) (m5 : m.length ≤ k) {x : W2} {v0 v' : Value} {xs : List ByteArray}
    (hv0 : (getM m x).getD (.slice none 0 0) = v0) (hk : Keeps (fun i => v0.ownBlock = some i ∨ i = bb) w w') (hm : MapM wayE w' bb (putM m x v')) (hv : Bag w' v' xs)
    (hnew : v'.ownBlock = v0.ownBlock ∨ ∃ j, v'.ownBlock = some j ∧ w.heap.size ≤ j) :
    NetS w' (fun i => S i ∨ w.heap.size ≤ i) g bb cb (k + 1) n (upd F x xs) C ∧ Keeps (fun i => S i ∨ i = bb) w w' := by
  subst hv0
  have hold := bag_of m2 m4 x
  have hS : ∀ i, ((getM m x).getD (.slice none 0 0)).ownBlock = some i → S i := by
    intro i hi
    obtain ⟨u, hu, hui⟩ := own_of hi
    exact (m2 _ (get_mem hu)).2 i hui
  have hxg : ¬ (((getM m x).getD (.slice none 0 0)).ownBlock = some g ∨ g = bb) := by
    rintro (he | he)
    · exact own_blk_ne hold h.net (by decide) he
    · exact m1.not_blk h.net he
  obtain ⟨mc, c1, c2, c3⟩ := h.cuts
  have hxc : ¬ (((getM m x).getD (.slice none 0 0)).ownBlock = some cb ∨ cb = bb) := by
    rintro (he | he)
    · exact hold.ne_map c1 he
    · exact h.ne he.symm
  refine ⟨⟨h.net.keeps hk hxg, Bags.put m1 m2 m3 m4 m5 (hk.more fun i _ hi => hi.imp own_of id) hm hv ?_, ⟨mc, c1.keeps hk hxc, c2, by omega⟩, h.ne⟩, hk.more fun i _ hi => hi.imp (hS i) id⟩
  intro i hi
  rcases hnew with hn | ⟨j, hn, hj⟩
  · rw [hn] at hi; exact .inl (own_of hi)
  · rw [hn] at hi; injection hi with hi; omega
end
end Go.Proofs.Ytempojdgbgaanaa.state
