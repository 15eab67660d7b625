/- In plain words: an inbox in its order and the document's inbox, in the order in which writes came, show and keep the same. -/
import Derived.Test.YtedkcpncomgboaaDrainF
import Derived.Test.YtedkcpncomgboaaPlainI
namespace Go.Proofs.Ytedkcpncomgboaa.dep
open Go Go.RowKit Go.Proofs.Ytedkcpncomgboaa.base Go.Proofs.Ytedkcpncomgboaa.rowe Go.Proofs.Ytedkcpncomgboaa.wire Go.Proofs.Ytedkcpncomgboaa.vec Go.Proofs.Ytedkcpncomgboaa.cmp Go.Proofs.Ytedkcpncomgboaa.with_ Go.Proofs.Ytedkcpncomgboaa.monoj

/-- one by one, of what can be shown that of the least region -/
inductive RSteps (ap : List Int) (ws : List Wr) : List Int → List Wr → List Wr → Prop
  | zero : RSteps ap ws ap ws []
  | one {a : List Int} {l out : List Wr} (h : RSteps ap ws a l out) (k : Nat) (hk : k < l.length) (hr : readyB a (l.getD k wrZ) = true) (hn : ∀ j, j < l.length → readyB a (l.getD j wrZ) = true → (l.getD k wrZ).r ≤ (l.getD j wrZ).r) :
      RSteps ap ws (withL a (l.getD k wrZ).r (l.getD k wrZ).n) (l.eraseIdx k) (out ++ [l.getD k wrZ])
theorem RSteps.ws_len {ap : List Int} {ws : List Wr} {a : List Int} {l out : List Wr} (h : RSteps ap ws a l out) : l.length + out.length = ws.length := by
  induction h with
  | zero => simp
  | one h k hk _ _ ih =>
    rw [List.length_eraseIdx_of_lt hk, List.length_append]
    simp
    omega
theorem RSteps.mem {ap : List Int} {ws : List Wr} {a : List Int} {l out : List Wr} (h : RSteps ap ws a l out) : (∀ x ∈ l, x ∈ ws) ∧ ∀ x ∈ out, x ∈ ws := by
  induction h with
  | zero => exact ⟨fun _ h => h, fun x h => by cases h⟩
  | one h k hk _ _ ih =>
    refine ⟨fun x hx => ih.1 x (List.mem_of_mem_eraseIdx hx), fun x hx => ?_⟩
    rcases List.mem_append.1 hx with hx | hx
    · exact ih.2 x hx
    · rw [List.mem_singleton.1 hx]; exact ih.1 _ (getD_mem hk)
theorem ready_abs (a : List Int) (x : Wr) : readyB a x.abs = readyB a x := rfl
theorem map_getD {l : List Wr} {k : Nat} (hk : k < l.length) : (l.map Wr.abs).getD k wrZ = (l.getD k wrZ).abs := by
  rw [List.getD_eq_getElem?_getD, List.getElem?_map, List.getElem?_eq_getElem hk, List.getD_eq_getElem?_getD, List.getElem?_eq_getElem hk]; rfl
theorem map_erase (l : List Wr) (k : Nat) : (l.eraseIdx k).map Wr.abs = (l.map Wr.abs).eraseIdx k := by
  rw [List.eraseIdx_eq_take_drop_succ, List.eraseIdx_eq_take_drop_succ, List.map_append, List.map_take, List.map_drop]
theorem erase_perm {l : List Wr} {k : Nat} (hk : k < l.length) : (l.getD k wrZ :: l.eraseIdx k).Perm l := by
  rw [List.eraseIdx_eq_take_drop_succ, List.getD_eq_getElem?_getD, List.getElem?_eq_getElem hk]
  have h := List.take_append_drop k l
  rw [List.drop_eq_getElem_cons hk] at h
  conv => rhs; rw [← h]
  exact List.perm_middle.symm
theorem Steps.absm {ap : List Int} {ws : List Wr} {a : List Int} {l out : List Wr} (h : Steps ap ws a l out) : Steps ap (ws.map Wr.abs) a (l.map Wr.abs) (out.map Wr.abs) := by
  induction h with
  | zero => exact .zero
  | @one a l out h k hk hr hn ih =>
    have h1 := Steps.one ih k (by simpa using hk) (by rw [map_getD hk]; exact hr) (fun j hj => by rw [map_getD (by omega)]; exact hn j hj)
    rw [map_getD hk] at h1
    rw [map_erase, List.map_append]
    exact h1
theorem Sorted.absm {l : List Wr} (h : Sorted l) : Sorted (l.map Wr.abs) := by
  unfold Sorted at h ⊢
  rw [List.pairwise_map]
  exact h.imp fun h => h
theorem sorted_one : ∀ {l1 l2 : List Wr}, Sorted l1 → Sorted l2 → l1.Perm l2 → l1 = l2
  | [], l2, _, _, h => h.nil_eq
  | a :: l1, [], _, _, h => by have := h.length_eq; simp at this
  | a :: l1, b :: l2, h1, h2, h => by
    obtain ⟨a1, a2⟩ := List.pairwise_cons.1 h1
    obtain ⟨b1, b2⟩ := List.pairwise_cons.1 h2
    by_cases e : a = b
    · subst e
      rw [sorted_one (l1 := l1) (l2 := l2) a2 b2 (List.perm_cons _ |>.1 h)]
    · have ha : a ∈ l2 := by
        have : a ∈ b :: l2 := h.subset (by simp)
        rcases List.mem_cons.1 this with h | h
        · exact absurd h e
        · exact h
      have hb : b ∈ l1 := by
        have : b ∈ a :: l1 := h.symm.subset (by simp)
        rcases List.mem_cons.1 this with h | h
        · exact absurd h.symm e
        · exact h
      have c1 := a1 b hb
      have c2 := b1 a ha
      rw [cmpW_lt] at c1 c2
      omega
theorem getD_mem' {l : List Wr} {x : Wr} (h : x ∈ l) : ∃ k, k < l.length ∧ l.getD k wrZ = x := by
  obtain ⟨k, hk, rfl⟩ := List.mem_iff_getElem.1 h
  exact ⟨k, hk, by rw [List.getD_eq_getElem?_getD, List.getElem?_eq_getElem hk]; rfl⟩
theorem ready_n {a : List Int} {x : Wr} (h : readyB a x = true) : atV a x.r = x.n - 1 := by
  unfold readyB at h
  simp only [Bool.and_eq_true, decide_eq_true_eq] at h
  exact h.1
theorem RSteps.sorted {ap : List Int} {L : List Wr} {a : List Int} {l out : List Wr} (h : RSteps ap L a l out) {ws0 : List Wr} (hs : Sorted ws0) (hp : ws0.Perm (L.map Wr.abs)) :
    ∃ l0, Sorted l0 ∧ l0.Perm (l.map Wr.abs) ∧ Steps ap ws0 a l0 (out.map Wr.abs) := by
  induction h with
  | zero => exact ⟨ws0, hs, hp, .zero⟩
  | @one a l out h k hk hr hn ih =>
    obtain ⟨l0, s0, p0, st0⟩ := ih
    have hy : (l.getD k wrZ).abs ∈ l0 := p0.symm.subset (List.mem_map_of_mem (getD_mem hk))
    obtain ⟨k0, hk0, e0⟩ := getD_mem' hy
    have hfirst : ∀ j, j < k0 → readyB a (l0.getD j wrZ) = false := by
      intro j hj
      rw [Bool.eq_false_iff]
      intro hrj
      have hmem : l0.getD j wrZ ∈ l.map Wr.abs := p0.subset (getD_mem (by omega))
      obtain ⟨x, hx, ex⟩ := List.mem_map.1 hmem
      obtain ⟨j', hj', ej⟩ := getD_mem' hx
      have h1 := hn j' hj' (by rw [ej, ← ready_abs, ex]; exact hrj)
      have h2 := s0.get hj hk0
      rw [e0, cmpW_lt, ← ex] at h2
      rw [ej] at h1
      have n1 := ready_n hrj
      have n2 := ready_n hr
      rw [← ex] at n1
      have er : x.abs.r = x.r := rfl
      have en : x.abs.n = x.n := rfl
      have er2 : (l.getD k wrZ).abs.r = (l.getD k wrZ).r := rfl
      have en2 : (l.getD k wrZ).abs.n = (l.getD k wrZ).n := rfl
      rw [er, en, er2, en2] at h2
      rw [er, en] at n1
      rcases h2 with h2 | ⟨h2, h3⟩
      · omega
      · rw [h2] at n1; omega
    have hst := Steps.one st0 k0 hk0 (by rw [e0]; exact hr) hfirst
    rw [e0] at hst
    refine ⟨l0.eraseIdx k0, s0.sub (List.eraseIdx_sublist _ _), ?_, by rw [List.map_append]; exact hst⟩
    have q1 := erase_perm hk0
    rw [e0] at q1
    have q2 := (erase_perm hk).map Wr.abs
    rw [List.map_cons] at q2
    exact (List.perm_cons _).1 ((q1.trans p0).trans q2.symm)
theorem play_drain {ap a a' : List Int} {ws L l l' out out' : List Wr} (hs : Sorted ws) (hp : (ws.map Wr.abs).Perm (L.map Wr.abs)) (h1 : Steps ap ws a l out) (t1 : ∀ j, j < l.length → readyB a (l.getD j wrZ) = false)
    (h2 : RSteps ap L a' l' out') (t2 : ∀ j, j < l'.length → readyB a' (l'.getD j wrZ) = false) : a = a' ∧ out.map Wr.abs = out'.map Wr.abs ∧ (l.map Wr.abs).Perm (l'.map Wr.abs) := by
  obtain ⟨l0, s0, p0, st0⟩ := h2.sorted hs.absm hp
  have e1 := drainF_eq h1.absm (fun j hj => by
    have hj' : j < l.length := by simpa using hj
    rw [map_getD hj']; exact t1 j hj')
  have e2 := drainF_eq st0 (fun j hj => by
    have hmem : l0.getD j wrZ ∈ l'.map Wr.abs := p0.subset (getD_mem hj)
    obtain ⟨x, hx, ex⟩ := List.mem_map.1 hmem
    obtain ⟨j', hj', ej⟩ := getD_mem' hx
    rw [← ex, ready_abs, ← ej]
    exact t2 j' hj')
  rw [e1] at e2
  injection e2 with e3 e2
  injection e2 with e4 e5
  exact ⟨e3, e5, e4 ▸ p0⟩
/-- the code that the document's inbox answers to an offer, or 0 -/
def hasB (L : List Wr) (x : Wr) : Bool := L.any fun y => y.r == x.r && y.n == x.n
def offR (rg : Int) (ap : List Int) (L : List Wr) (x : Wr) : Int :=
  if rightB x = false ∨ x.r = rg then 1 else if hasB L x = true ∨ x.n ≤ atV ap x.r then 8 else if 16 ≤ manyW L x ∧ readyB ap x = false then 4 else 0
theorem hasB_iff {L : List Wr} {x : Wr} : hasB L x = true ↔ ∃ y ∈ L, y.r = x.r ∧ y.n = x.n := by
  unfold hasB
  simp only [List.any_eq_true, Bool.and_eq_true, beq_iff_eq]
theorem here_has {L : List Wr} {x : Wr} {k : Nat} (hs : Sorted L) (h : At_ L x k) : hereB L x k = hasB L x := by
  rw [Bool.eq_iff_iff, hasB_iff]
  unfold hereB
  simp only [Bool.and_eq_true, decide_eq_true_eq, beq_iff_eq]
  constructor
  · rintro ⟨h1, h2⟩
    exact ⟨_, getD_mem h1, cmpW_eq.1 h2⟩
  · rintro ⟨y, hy, h1⟩
    obtain ⟨j, hj, rfl⟩ := getD_mem' hy
    have hc := cmpW_eq.2 h1
    have hkj : k ≤ j := by
      rcases Nat.lt_or_ge j k with hlt | hge
      · have := h.2.1 j hlt; omega
      · exact hge
    rcases Nat.eq_or_lt_of_le hkj with e | hlt
    · subst e; exact ⟨hj, hc⟩
    · have h2 := h.2.2 k (Nat.le_refl _) (by omega)
      have h3 := hs.get hlt hj
      rw [cmpW_congr h1.1 h1.2] at h3
      exact absurd h3 h2
theorem hasB_abs (L : List Wr) (x : Wr) : hasB (L.map Wr.abs) x = hasB L x := by
  unfold hasB; rw [List.any_map]; rfl
theorem many_abs (L : List Wr) (x : Wr) : manyW (L.map Wr.abs) x = manyW L x := by
  unfold manyW; rw [List.filter_map, List.length_map]; rfl
theorem hasB_perm {L M : List Wr} {x : Wr} (h : L.Perm M) : hasB L x = hasB M x := by
  rw [Bool.eq_iff_iff, hasB_iff, hasB_iff]
  constructor
  · rintro ⟨y, hy, h1⟩; exact ⟨y, h.subset hy, h1⟩
  · rintro ⟨y, hy, h1⟩; exact ⟨y, h.symm.subset hy, h1⟩
theorem off_same {rg : Int} {ap : List Int} {ws L : List Wr} {x : Wr} {k : Nat} (hs : Sorted ws) (hp : (ws.map Wr.abs).Perm (L.map Wr.abs)) (h : At_ ws x k) : offC rg ap ws x k = offR rg ap L x := by
  unfold offC offR
  have h1 : hasB ws x = hasB L x := by rw [← hasB_abs ws, ← hasB_abs L]; exact hasB_perm hp
  have h2 : manyW ws x = manyW L x := by
    rw [← many_abs ws, ← many_abs L]
    unfold manyW
    exact (hp.filter _).length_eq
  rw [here_has hs h, h1, h2]
theorem ins_perm {ws L : List Wr} {x y : Wr} {k : Nat} (hp : (ws.map Wr.abs).Perm (L.map Wr.abs)) (hxy : x.abs = y.abs) : ((ws.take k ++ x :: ws.drop k).map Wr.abs).Perm ((L ++ [y]).map Wr.abs) := by
  rw [List.map_append, List.map_cons, List.map_append, List.map_cons, List.map_nil, ← hxy]
  refine List.perm_middle.trans ?_
  rw [← List.map_append, List.take_append_drop]
  exact (List.Perm.cons _ hp).trans (List.perm_append_comm (l₁ := [x.abs]))
end Go.Proofs.Ytedkcpncomgboaa.dep
