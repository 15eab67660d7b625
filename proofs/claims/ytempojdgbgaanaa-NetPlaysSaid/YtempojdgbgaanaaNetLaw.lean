/- A net and the document's net stand for one another: what each method answers of both is the same. -/
import Derived.Test.YtempojdgbgaanaaRefCut
namespace Go.Proofs.Ytempojdgbgaanaa.netlaw
open Go.RowKit Go.Proofs.Ytempojdgbgaanaa.base Go.Proofs.Ytempojdgbgaanaa.net Go.Proofs.Ytempojdgbgaanaa.state Go.Proofs.Ytempojdgbgaanaa.at_ Go.Proofs.Ytempojdgbgaanaa.send Go.Proofs.Ytempojdgbgaanaa.take Go.Proofs.Ytempojdgbgaanaa.double Go.Proofs.Ytempojdgbgaanaa.cut Go.Proofs.Ytempojdgbgaanaa.all_ Go.Proofs.Ytempojdgbgaanaa.own Go.Proofs.Ytempojdgbgaanaa.refnet Go.Proofs.Ytempojdgbgaanaa.refat Go.Proofs.Ytempojdgbgaanaa.refcnt Go.Proofs.Ytempojdgbgaanaa.refsend Go.Proofs.Ytempojdgbgaanaa.reftake Go.Proofs.Ytempojdgbgaanaa.refcut

structure Rel (n : Int) (F : W2 → List ByteArray) (C : W2 → Bool) (L : List M) (Ws : List W2) : Prop where
  bags : ∀ x, F x = (bag L x).map (·.s)
  cuts : ∀ x, C x = isC Ws x
  ways : ∀ m ∈ L, isW n m.f m.t = true
  there : ∀ v ∈ Ws, isW n v.1 v.2 = true
section
variable {n : Int} {F : W2 → List ByteArray} {C : W2 → Bool} {L : List M} {Ws : List W2} {x : W2} {i : Int} {s : ByteArray}
theorem rel_none (n : Int) : Rel n (fun _ => []) (fun _ => false) [] [] := ⟨fun _ => rfl, fun _ => rfl, by simp, by simp⟩
theorem Rel.len (h : Rel n F C L Ws) (x : W2) : (F x).length = (bag L x).length := by rw [h.bags x, List.length_map]
theorem ofW_iff {y : W2} {m : M} : ofW y m = true ↔ y = (m.f, m.t) := by
  obtain ⟨a, b⟩ := y
  simp [ofW]
  constructor
  · rintro ⟨h1, h2⟩; exact ⟨h1.symm, h2.symm⟩
  · rintro ⟨h1, h2⟩; exact ⟨h1.symm, h2.symm⟩
theorem bag_mem {y : W2} {m : M} (h : m ∈ bag L y) : m ∈ L ∧ y = (m.f, m.t) := by
  unfold bag at h
  have := List.mem_filter.1 h
  exact ⟨this.1, ofW_iff.1 this.2⟩
theorem Rel.isW (h : Rel n F C L Ws) (hx : (bag L x).length ≠ 0) : isW n x.1 x.2 = true := by
  cases hb : bag L x with
  | nil => rw [hb] at hx; simp at hx
  | cons m l =>
    obtain ⟨h1, h2⟩ := bag_mem (show m ∈ bag L x by rw [hb]; simp)
    rw [h2]
    exact h.ways m h1
theorem Rel.atOk (h : Rel n F C L Ws) (x : W2) : atOk n F x = hasB L x := by
  unfold at_.atOk hasB
  rw [h.len x]
  by_cases hx : (bag L x).length = 0
  · simp [hx]
  · rw [h.isW hx]; simp
theorem bag_add (L : List M) (m : M) (y : W2) : bag (L ++ [m]) y = bag L y ++ (if y = (m.f, m.t) then [m] else []) := by
  unfold bag
  rw [List.filter_append]
  congr 1
  by_cases h : y = (m.f, m.t)
  · rw [if_pos h]; simp [ofW_iff.2 h]
  · rw [if_neg h]
    have : ofW y m = false := by
      cases hc : ofW y m with
      | false => rfl
      | true => exact absurd (ofW_iff.1 hc) h
    simp [this]
theorem Rel.add (h : Rel n F C L Ws) (m : M) (hm : n = n ∧ net.isW n m.f m.t = true) : Rel n (upd F (m.f, m.t) (F (m.f, m.t) ++ [m.s])) C (L ++ [m]) Ws := by
  refine ⟨fun y => ?_, h.cuts, fun m' hm' => ?_, h.there⟩
  · rw [bag_add]
    unfold upd
    by_cases hy : y = (m.f, m.t)
    · rw [if_pos hy, if_pos hy, List.map_append, ← h.bags y, hy]
      rfl
    · rw [if_neg hy, if_neg hy, List.append_nil, h.bags y]
  · rcases List.mem_append.1 hm' with h1 | h1
    · exact h.ways m' h1
    · simp at h1; rw [h1]; exact hm.2
theorem rel_send (h : Rel n F C L Ws) (x : W2) (s : ByteArray) : sendB n F C x = sendD n L Ws x ∧ Rel n (sendF n F C x s) C (sendL n L Ws x s) Ws := by
  have h1 : sendB n F C x = sendD n L Ws x := by unfold sendB sendD; rw [h.cuts x, h.len x]
  refine ⟨h1, ?_⟩
  unfold sendF sendL
  rw [h1]
  cases hd : sendD n L Ws x
  · exact h
  · rw [if_pos rfl, if_pos rfl]
    simp [sendD] at hd
    exact h.add ⟨x.1, x.2, s⟩ ⟨rfl, hd.1.1⟩
theorem map_erase {α β : Type} (f : α → β) : ∀ (l : List α) (k : Nat), (l.eraseIdx k).map f = (l.map f).eraseIdx k
  | [], _ => rfl
  | _ :: _, 0 => rfl
  | a :: l, k + 1 => by rw [List.eraseIdx_cons_succ, List.map_cons, List.map_cons, List.eraseIdx_cons_succ, map_erase f l k]
theorem Rel.erase (h : Rel n F C L Ws) (hx : hasB L x = true) (i : Int) : Rel n (upd F x ((F x).eraseIdx (idx i (F x).length))) C (L.eraseIdx (posN L x i)) Ws := by
  obtain ⟨h1, h2, h3, h4⟩ := posN_spec i hx
  refine ⟨fun y => ?_, h.cuts, fun m hm => h.ways m (List.mem_of_mem_eraseIdx hm), h.there⟩
  unfold upd
  by_cases hy : y = x
  · rw [if_pos hy, hy, h3, h.len x, h.bags x, map_erase]
  · rw [if_neg hy, h4 y hy, h.bags y]
theorem rel_drop (h : Rel n F C L Ws) (x : W2) (i : Int) : atOk n F x = hasB L x ∧ Rel n (dropF n F x i) C (dropD L x i) Ws := by
  refine ⟨h.atOk x, ?_⟩
  unfold dropF dropD
  rw [h.atOk x]
  cases hb : hasB L x
  · exact h
  · rw [if_pos rfl, if_pos rfl]; exact h.erase hb i
theorem Rel.msg (h : Rel n F C L Ws) (hx : hasB L x = true) (i : Int) : msg F x i = (msgM L x i).s := by
  have h1 : 1 ≤ (bag L x).length := by have := of_decide_eq_true hx; omega
  have h2 := idx_lt i h1
  unfold take.msg msgM
  rw [h.len x, h.bags x, List.getD_eq_getElem?_getD, List.getD_eq_getElem?_getD, List.getElem?_map, List.getElem?_eq_getElem h2]
  rfl
theorem rel_take (h : Rel n F C L Ws) (x : W2) (i : Int) : takeB n F C x = takeD L Ws x ∧ (if takeB n F C x then msg F x i else ⟨#[]⟩) = takeS L Ws x i ∧ Rel n (takeF n F C x i) C (takeL L Ws x i) Ws := by
  have h1 : takeB n F C x = takeD L Ws x := by unfold takeB takeD; rw [h.atOk x, h.cuts x]
  refine ⟨h1, ?_, ?_⟩
  · rw [h1]
    unfold takeS
    cases ht : takeD L Ws x
    · rfl
    · simp [takeD] at ht
      rw [if_pos rfl, if_pos rfl, h.msg ht.1 i]
  · unfold takeF takeL
    rw [h1]
    cases ht : takeD L Ws x
    · exact h
    · simp [takeD] at ht
      rw [if_pos rfl, if_pos rfl]
      unfold dropD
      rw [if_pos ht.1]
      exact h.erase ht.1 i
theorem rel_double (h : Rel n F C L Ws) (x : W2) (i : Int) : doubleB n F x = doubleD L x ∧ Rel n (doubleF n F x i) C (doubleL L x i) Ws := by
  have h1 : doubleB n F x = doubleD L x := by unfold doubleB doubleD; rw [h.atOk x, h.len x]
  refine ⟨h1, ?_⟩
  unfold doubleF doubleL
  rw [h1]
  cases hd : doubleD L x
  · exact h
  · rw [if_pos rfl, if_pos rfl]
    simp [doubleD] at hd
    obtain ⟨_, p2, _, _⟩ := posN_spec i hd.1
    have hmem : msgM L x i ∈ bag L x := by
      have h1 : 1 ≤ (bag L x).length := by have := of_decide_eq_true hd.1; omega
      have h2 := idx_lt i h1
      unfold msgM
      rw [List.getD_eq_getElem?_getD, List.getElem?_eq_getElem h2]
      exact List.getElem_mem _
    obtain ⟨m1, m2⟩ := bag_mem hmem
    have := h.add (msgM L x i) ⟨rfl, h.ways _ m1⟩
    rw [← m2] at this
    rw [h.msg hd.1 i]
    exact this
theorem hit_iff {x v : W2} : hit x v = true ↔ v = x ∨ v = (x.2, x.1) := by
  obtain ⟨a, b⟩ := x
  obtain ⟨c, d⟩ := v
  simp [hit]
theorem hit_of {x v : W2} : hit x v = decide (v = x ∨ v = (x.2, x.1)) := by
  cases h : hit x v
  · symm
    rw [decide_eq_false_iff_not, ← hit_iff, h]
    simp
  · symm
    rw [decide_eq_true_iff, ← hit_iff, h]
theorem hit_sym (x v : W2) : hit v x = hit x v := by
  rw [hit_of, hit_of]
  obtain ⟨a, b⟩ := x
  obtain ⟨c, d⟩ := v
  apply decide_eq_decide.2
  simp
  constructor <;> (rintro (⟨h1, h2⟩ | ⟨h1, h2⟩) <;> simp [h1, h2])
theorem isW_swap (n a b : Int) : net.isW n b a = net.isW n a b := by
  unfold net.isW
  apply decide_eq_decide.2
  omega
theorem upd_two (C : W2 → Bool) (a b : Int) (v : Bool) (y : W2) : upd (upd C (a, b) v) (b, a) v y = if hit (a, b) y then v else C y := by
  rw [hit_of]
  simp only [upd, decide_eq_true_eq]
  by_cases h1 : y = (b, a)
  · rw [if_pos h1, if_pos (.inr h1)]
  · rw [if_neg h1]
    by_cases h2 : y = (a, b)
    · rw [if_pos h2, if_pos (.inl h2)]
    · rw [if_neg h2, if_neg (by simp [h1, h2])]
theorem rel_cut (h : Rel n F C L Ws) (a b : Int) : Rel n F (cutC n a b C) L (cutW n Ws (a, b)) := by
  unfold cutC cutW
  cases hi : net.isW n a b
  · exact h
  · rw [if_pos rfl, if_pos rfl]
    refine ⟨h.bags, fun y => ?_, h.ways, fun v hv => ?_⟩
    · rw [upd_two]
      unfold isC
      rw [List.any_append]
      simp only [List.any_cons, List.any_nil, Bool.or_false]
      rw [hit_sym (a, b) y, h.cuts y]
      unfold isC
      cases hit (a, b) y <;> simp
    · rcases List.mem_append.1 hv with h1 | h1
      · exact h.there v h1
      · simp at h1; rw [h1]; exact hi
theorem any_filter (Ws : List W2) (p q : W2 → Bool) : (Ws.filter q).any p = Ws.any (fun v => q v && p v) := by
  induction Ws with
  | nil => rfl
  | cons v l ih => rw [List.filter_cons]; cases hq : q v <;> simp [hq, ih]
theorem hit_trans {x y v : W2} (h1 : hit x v = true) (h2 : hit y v = true) : hit x y = true := by
  rw [hit_iff] at *
  obtain ⟨a, b⟩ := x
  obtain ⟨c, d⟩ := y
  obtain ⟨e, f⟩ := v
  simp at *
  omega
theorem rel_join (h : Rel n F C L Ws) (a b : Int) : Rel n F (joinC n a b C) L (joinW Ws (a, b)) := by
  have hc : ∀ y, isC (joinW Ws (a, b)) y = if hit (a, b) y then false else isC Ws y := by
    intro y
    unfold isC joinW
    rw [any_filter]
    cases hy : hit (a, b) y
    · rw [if_neg (by simp)]
      congr 1
      funext v
      cases hv : hit y v
      · simp
      · have : hit (a, b) v = false := by
          cases h3 : hit (a, b) v with
          | false => rfl
          | true => have := hit_trans h3 hv; rw [hy] at this; cases this
        simp [this]
    · rw [if_pos rfl]
      refine List.any_eq_false.2 fun v _ => ?_
      cases hv : hit y v
      · simp
      · have : hit (a, b) v = true := by
          rw [hit_sym] at hv
          have := hit_trans (x := v) (y := (a, b)) (v := y) hv (by exact hy)
          rw [hit_sym] at this; exact this
        simp [this]
  refine ⟨h.bags, fun y => ?_, h.ways, fun v hv => h.there v (List.mem_filter.1 hv).1⟩
  rw [hc y]
  unfold joinC
  cases hi : net.isW n a b
  · rw [if_neg (by simp), h.cuts y]
    cases hy : hit (a, b) y
    · rfl
    · rw [if_pos rfl]
      unfold isC
      refine List.any_eq_false.2 fun v hv => ?_
      intro hv2
      have h3 := h.there v hv
      have h4 : hit (a, b) v = true := by
        rw [hit_sym] at hv2
        have := hit_trans (x := v) (y := (a, b)) (v := y) hv2 hy
        rw [hit_sym] at this; exact this
      rw [hit_iff] at h4
      rcases h4 with rfl | rfl
      · rw [hi] at h3; cases h3
      · rw [isW_swap, hi] at h3; cases h3
  · rw [if_pos rfl, upd_two, h.cuts y]
theorem rel_heal (h : Rel n F C L Ws) : Rel n F (fun _ => false) L [] := ⟨h.bags, fun _ => rfl, h.ways, by simp⟩
/-! ### all of them -/
theorem sum_pick (l : List W2) (hn : l.Nodup) (z : W2) (hz : z ∈ l) (f : W2 → Nat) : (l.map fun x => f x + (if x = z then 1 else 0)).sum = (l.map f).sum + 1 := by
  induction l with
  | nil => simp at hz
  | cons y l ih =>
    obtain ⟨h1, h2⟩ := List.nodup_cons.1 hn
    simp only [List.map_cons, List.sum_cons]
    by_cases hy : y = z
    · subst hy
      have : (l.map fun x => f x + (if x = y then 1 else 0)) = l.map f := List.map_congr_left fun x hx => by rw [if_neg (fun e => h1 (by rw [← e]; exact hx))]; rfl
      rw [this, if_pos rfl]; omega
    · rw [if_neg hy, ih h2 (by simpa [Ne.symm hy] using hz)]; omega
theorem sum_none (l : List W2) : (l.map fun _ => 0).sum = 0 := by
  induction l with
  | nil => rfl
  | cons y l ih => rw [List.map_cons, List.sum_cons, ih]
theorem sum_bags (l : List W2) (hn : l.Nodup) : ∀ (L : List M), (∀ m ∈ L, (m.f, m.t) ∈ l) → (l.map fun x => (bag L x).length).sum = L.length
  | [], _ => by
    have : (l.map fun x => (bag ([] : List M) x).length) = l.map fun _ => 0 := rfl
    rw [this, sum_none]
    rfl
  | m :: L, h => by
    have h1 : (l.map fun x => (bag (m :: L) x).length) = l.map fun x => (bag L x).length + (if x = (m.f, m.t) then 1 else 0) := by
      refine List.map_congr_left fun x _ => ?_
      unfold bag
      rw [List.filter_cons]
      by_cases hx : x = (m.f, m.t)
      · rw [if_pos (ofW_iff.2 hx), if_pos hx]; rfl
      · rw [if_neg (fun e => hx (ofW_iff.1 e)), if_neg hx]; rfl
    rw [h1, sum_pick l hn _ (h m (by simp)) (fun x => (bag L x).length), sum_bags l hn L (fun m' hm' => h m' (by simp [hm'])), List.length_cons]
theorem Rel.all (h : Rel n F C L Ws) {l : List W2} (hn : l.Nodup) (hl : ∀ x, x ∉ l → F x = []) : sumB F l = L.length := by
  unfold sumB
  have h1 : (l.map fun x => (F x).length) = l.map fun x => (bag L x).length := List.map_congr_left fun x _ => h.len x
  rw [h1]
  refine sum_bags l hn L fun m hm => ?_
  by_cases hx : (m.f, m.t) ∈ l
  · exact hx
  · have h2 := h.len (m.f, m.t)
    rw [hl _ hx] at h2
    have h3 : m ∈ bag L (m.f, m.t) := List.mem_filter.2 ⟨hm, ofW_iff.2 rfl⟩
    rw [List.eq_nil_of_length_eq_zero h2.symm] at h3
    simp at h3
end
end Go.Proofs.Ytempojdgbgaanaa.netlaw
