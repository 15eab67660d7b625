/- The plain law of an inbox: nothing of the program. -/
import Derived.Test.YtedkcpncomgboaaOwnI
namespace Go.Proofs.Ytedkcpncomgboaa.dep
open Go Go.RowKit Go.Proofs.Ytedkcpncomgboaa.base Go.Proofs.Ytedkcpncomgboaa.rowe Go.Proofs.Ytedkcpncomgboaa.wire Go.Proofs.Ytedkcpncomgboaa.vec Go.Proofs.Ytedkcpncomgboaa.cmp Go.Proofs.Ytedkcpncomgboaa.with_ Go.Proofs.Ytedkcpncomgboaa.monoj Go.Proofs.Ytedkcpncomgboaa.err

theorem ops_arg {w : World} {v : Value} (h : Arg Try.prog w 49 v) : ∃ L, OpsR w v L := by
  rcases h.slice Try.underlying49 with rfl | ⟨a, len, cap, rfl, _⟩
  · exact ops_sees h.2
  · exact ops_sees h.2
/-! ### vectors -/
theorem trimN_last (zs : List Int) : ∀ n, trimN zs n = 0 ∨ zs.getD (trimN zs n - 1) 0 ≠ 0
  | 0 => .inl rfl
  | n + 1 => by
    unfold trimN
    split
    · exact trimN_last zs n
    · next h => exact .inr h
theorem trim_trim (zs : List Int) : trimL (trimL zs) = trimL zs := by
  apply trim_self
  have hle := trimN_le zs zs.length
  have hl : (trimL zs).length = trimN zs zs.length := by unfold trimL; rw [List.length_take]; omega
  have h0 := trimN_last zs zs.length
  unfold trimL at hl ⊢
  rw [List.length_take, hl]
  generalize trimN zs zs.length = k at *
  rcases h0 with rfl | h0
  · rfl
  · cases k with
    | zero => rfl
    | succ k =>
      have e : trimN (zs.take (k + 1)) (k + 1) = k + 1 := by
        unfold trimN
        rw [if_neg]
        rw [List.getD_eq_getElem?_getD, List.getElem?_take, if_pos (by omega)]
        simpa [List.getD_eq_getElem?_getD] using h0
      rw [e, Nat.min_self]
theorem trim_with (zs : List Int) (r n : Int) : trimL (withL zs r n) = withL zs r n := by
  unfold withL
  split <;> exact trim_trim _
theorem atV_with (zs : List Int) (r n q : Int) (h : 1 ≤ r ∧ r ≤ 16) : atV (withL zs r n) q = if q = r then n else atV zs q := by
  split
  · next e => rw [e]; exact with_at zs r n h
  · next e =>
    by_cases hq : q < 1
    · unfold atV; rw [if_pos (.inl hq), if_pos (.inl hq)]
    · obtain ⟨k, rfl⟩ : ∃ k : Nat, q = (k : Int) + 1 := ⟨(q - 1).toNat, by omega⟩
      obtain ⟨m, rfl⟩ : ∃ m : Nat, r = (m : Int) + 1 := ⟨(r - 1).toNat, by omega⟩
      unfold withL
      rw [if_pos h, atV_getD, trim_getD, atV_getD, show ((m : Int) + 1).toNat - 1 = m by omega]
      have hkm : m ≠ k := fun e2 => e (by rw [e2])
      unfold setL
      rw [List.getD_eq_getElem?_getD, List.getElem?_set_ne hkm, List.getElem?_append]
      split
      · rw [List.getD_eq_getElem?_getD]
      · next hj => rw [List.getD_eq_getElem?_getD, List.getElem?_eq_none (by omega : zs.length ≤ k), List.getElem?_replicate]; split <;> rfl
theorem atV_nil (r : Int) : atV [] r = 0 := by
  unfold atV
  split
  · rfl
  · simp
theorem covers_nil {ap : List Int} (h : ∀ r, 0 ≤ atV ap r) : coversB ap [] = true := by
  unfold coversB
  rw [List.all_eq_true]
  intro r _
  rw [atV_nil]
  have := h (r + 1)
  simp
  omega
/-! ### what is shown -/
def foldA (a : List Int) (out : List Wr) : List Int := out.foldl (fun a y => withL a y.r y.n) a
theorem foldA_snoc (a : List Int) (out : List Wr) (y : Wr) : foldA a (out ++ [y]) = withL (foldA a out) y.r y.n := by unfold foldA; rw [List.foldl_append]; rfl
theorem Steps.shown {ap : List Int} {ws : List Wr} {a : List Int} {l out : List Wr} (h : Steps ap ws a l out) :
    foldA ap out = a ∧ (∀ j, j < out.length → readyB (foldA ap (out.take j)) (out.getD j wrZ) = true) ∧ (∀ x ∈ out, x ∈ ws) ∧ l.Sublist ws := by
  induction h with
  | zero => exact ⟨rfl, fun j h => absurd h (by simp), (fun x h => by cases h), List.Sublist.refl _⟩
  | @one a l out h k hk hr hn ih =>
    obtain ⟨h1, h2, h3, h4⟩ := ih
    refine ⟨by rw [foldA_snoc, h1], fun j hj => ?_, fun x hx => ?_, (List.eraseIdx_sublist l k).trans h4⟩
    · rw [List.length_append] at hj
      simp only [List.length_cons, List.length_nil] at hj
      by_cases hlt : j < out.length
      · rw [List.take_append_of_le_length (by omega), List.getD_eq_getElem?_getD, List.getElem?_append_left hlt, ← List.getD_eq_getElem?_getD]
        exact h2 j hlt
      · obtain rfl : j = out.length := by omega
        rw [List.take_append_of_le_length (Nat.le_refl _), List.take_length, List.getD_eq_getElem?_getD, List.getElem?_append_right (Nat.le_refl _), Nat.sub_self, h1]
        exact hr
    · rcases List.mem_append.1 hx with hx | hx
      · exact h3 x hx
      · obtain rfl := List.mem_singleton.1 hx
        apply h4.subset
        rw [List.getD_eq_getElem?_getD, List.getElem?_eq_getElem hk]
        exact List.getElem_mem hk
/-! ### a list that waits in order -/
theorem cmpW_lt {x y : Wr} : cmpW x y < 0 ↔ x.r < y.r ∨ (x.r = y.r ∧ x.n < y.n) := by
  unfold cmpW or2 cmpI
  repeat' split
  all_goals omega
theorem cmpW_eq {x y : Wr} : cmpW x y = 0 ↔ x.r = y.r ∧ x.n = y.n := by
  unfold cmpW or2 cmpI
  repeat' split
  all_goals omega
theorem cmpW_trans {x y z : Wr} (h1 : cmpW x y < 0) (h2 : cmpW y z < 0) : cmpW x z < 0 := by
  rw [cmpW_lt] at *
  omega
def Sorted (L : List Wr) : Prop := L.Pairwise fun a b => cmpW a b < 0
theorem getD_mem {L : List Wr} {k : Nat} (h : k < L.length) : L.getD k wrZ ∈ L := by
  rw [List.getD_eq_getElem?_getD, List.getElem?_eq_getElem h]
  exact List.getElem_mem h
theorem Sorted.get {L : List Wr} (h : Sorted L) {j k : Nat} (hj : j < k) (hk : k < L.length) : cmpW (L.getD j wrZ) (L.getD k wrZ) < 0 := by
  rw [List.getD_eq_getElem?_getD, List.getElem?_eq_getElem (by omega), List.getD_eq_getElem?_getD, List.getElem?_eq_getElem hk]
  exact List.pairwise_iff_getElem.1 h j k (by omega) hk hj
theorem Sorted.part {L : List Wr} (h : Sorted L) (x : Wr) : Part L x := by
  intro j k hjk hk hc
  rcases Nat.lt_or_ge j k with hlt | hge
  · exact cmpW_trans (h.get hlt hk) hc
  · obtain rfl : j = k := by omega
    exact hc
theorem mem_take_getD {L : List Wr} {k : Nat} {y : Wr} (h : y ∈ L.take k) : ∃ j, j < k ∧ j < L.length ∧ L.getD j wrZ = y := by
  obtain ⟨j, hj, rfl⟩ := List.mem_iff_getElem.1 h
  rw [List.length_take] at hj
  refine ⟨j, by omega, by omega, ?_⟩
  rw [List.getD_eq_getElem?_getD, List.getElem?_eq_getElem (by omega), List.getElem_take]
  rfl
theorem mem_drop_getD {L : List Wr} {k : Nat} {y : Wr} (h : y ∈ L.drop k) : ∃ j, k ≤ j ∧ j < L.length ∧ L.getD j wrZ = y := by
  obtain ⟨j, hj, rfl⟩ := List.mem_iff_getElem.1 h
  rw [List.length_drop] at hj
  refine ⟨k + j, by omega, by omega, ?_⟩
  rw [List.getD_eq_getElem?_getD, List.getElem?_eq_getElem (by omega), List.getElem_drop]
  rfl
theorem cmpW_congr {x y z : Wr} (hr : x.r = y.r) (hn : x.n = y.n) : cmpW z x < 0 ↔ cmpW z y < 0 := by rw [cmpW_lt, cmpW_lt, hr, hn]
theorem cmpW_congr' {x y z : Wr} (hr : x.r = y.r) (hn : x.n = y.n) : cmpW x z < 0 ↔ cmpW y z < 0 := by rw [cmpW_lt, cmpW_lt, hr, hn]
theorem At_.above {L : List Wr} {x : Wr} {k : Nat} (hs : Sorted L) (h : At_ L x k) (hh : hereB L x k = false) (j : Nat) (hk : k ≤ j) (hj : j < L.length) : cmpW x (L.getD j wrZ) < 0 := by
  have hkk : cmpW x (L.getD k wrZ) < 0 := by
    have h1 := h.2.2 k (Nat.le_refl _) (by omega)
    have h2 : ¬ cmpW (L.getD k wrZ) x = 0 := by
      intro e
      unfold hereB at hh
      rw [decide_eq_true (by omega : k < L.length), e] at hh
      cases hh
    rw [cmpW_lt] at h1 ⊢
    rw [cmpW_eq] at h2
    omega
  rcases Nat.lt_or_ge k j with hlt | hge
  · exact cmpW_trans hkk (hs.get hlt hj)
  · obtain rfl : j = k := by omega
    exact hkk
theorem Sorted.insert {L : List Wr} {x : Wr} {k : Nat} (hs : Sorted L) (h : At_ L x k) (hh : hereB L x k = false) (y : Wr) (hr : y.r = x.r) (hn : y.n = x.n) : Sorted (L.take k ++ y :: L.drop k) := by
  unfold Sorted
  rw [List.pairwise_append]
  refine ⟨hs.sublist (List.take_sublist _ _), ?_, fun a ha b hb => ?_⟩
  · rw [List.pairwise_cons]
    refine ⟨fun b hb => ?_, hs.sublist (List.drop_sublist _ _)⟩
    obtain ⟨j, h1, h2, rfl⟩ := mem_drop_getD hb
    rw [cmpW_congr' hr hn]
    exact h.above hs hh j h1 h2
  · obtain ⟨j, h1, h2, rfl⟩ := mem_take_getD ha
    have hx := h.2.1 j h1
    rcases List.mem_cons.1 hb with rfl | hb
    · rw [cmpW_congr hr hn]; exact hx
    · obtain ⟨i, h3, h4, rfl⟩ := mem_drop_getD hb
      exact hs.get (by omega) h4
theorem Sorted.sub {L l : List Wr} (h : Sorted L) (hl : l.Sublist L) : Sorted l := h.sublist hl
theorem mem_ins {L : List Wr} {k : Nat} {x y : Wr} (h : x ∈ L.take k ++ y :: L.drop k) : x ∈ L ∨ x = y := by
  rcases List.mem_append.1 h with h | h
  · exact .inl (List.mem_of_mem_take h)
  · rcases List.mem_cons.1 h with h | h
    · exact .inr h
    · exact .inl (List.mem_of_mem_drop h)
theorem offC_zero {rg : Int} {ap : List Int} {L : List Wr} {x : Wr} {k : Nat} (h : offC rg ap L x k = 0) : rightB x = true ∧ x.r ≠ rg ∧ hereB L x k = false ∧ atV ap x.r < x.n ∧ (manyW L x < 16 ∨ readyB ap x = true) := by
  unfold offC at h
  split at h
  · cases h
  · next h1 =>
    split at h
    · cases h
    · next h2 =>
      split at h
      · cases h
      · next h3 =>
        refine ⟨?_, fun e => h1 (.inr e), ?_, by omega, ?_⟩
        · cases hr : rightB x
          · exact absurd (.inl hr) h1
          · rfl
        · cases hh : hereB L x k
          · rfl
          · exact absurd (.inl hh) h2
        · rcases Nat.lt_or_ge (manyW L x) 16 with h4 | h4
          · exact .inl h4
          · refine .inr ?_
            cases hb : readyB ap x
            · exact absurd ⟨h4, hb⟩ h3
            · rfl
theorem ready_at {a : List Int} {x : Wr} (h : readyB a x = true) : atV a x.r = x.n - 1 ∧ coversB a x.z = true := by
  unfold readyB at h
  simpa using h
end Go.Proofs.Ytedkcpncomgboaa.dep
