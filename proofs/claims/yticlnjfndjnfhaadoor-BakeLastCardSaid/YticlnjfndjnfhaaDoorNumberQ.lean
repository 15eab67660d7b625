/- quota.number: a decimal numeral from 1 to most, or none. -/
import Derived.Test.YticlnjfndjnfhaaDoorDec
import Derived.Test.YticlnjfndjnfhaaDoorErr
namespace Go.Proofs.YticlnjfndjnfhaaDoor.quota
open Go.RowKit Go.Proofs.YticlnjfndjnfhaaDoor.base Go.Proofs.YticlnjfndjnfhaaDoor.dec Go.Lib

theorem take_next (l : List UInt8) (n : Nat) (h : n < l.length) : l.take (n + 1) = l.take n ++ [l[n]] := by rw [List.take_add_one, List.getElem?_eq_getElem h]; rfl
theorem stop_dig {l : List UInt8} {n most : Nat} (h : n < l.length) (hd : digit l[n] = false) : NumOf l most 0 :=
  .inl ⟨rfl, fun v _ _ e => by
    have := dec_dig v l[n] (by rw [← e]; exact List.getElem_mem h)
    rw [hd] at this; cases this⟩
theorem stop_hd {l : List UInt8} {most : Nat} (h : 0 < l.length) (hd : l[0] = 48) : NumOf l most 0 :=
  .inl ⟨rfl, fun v h1 _ e => by
    refine dec_hd v h1 ?_
    rw [← e, List.head?_eq_getElem?, List.getElem?_eq_getElem h, hd]⟩
theorem stop_val {l : List UInt8} {n most : Nat} (hv : most < val (l.take n)) : NumOf l most 0 :=
  .inl ⟨rfl, fun v _ h2 e => by
    have h1 := val_le (l.take n) (l.drop n)
    rw [List.take_append_drop, e, dec_val, ← e] at h1
    omega⟩
theorem canon_next {l : List UInt8} {n : Nat} (h : n < l.length) (hc : 0 < n → Canon (l.take n)) (hd : digit l[n] = true) (h0 : n = 0 → l[n] ≠ 48) : Canon (l.take (n + 1)) := by
  rw [take_next l n h]
  refine ⟨List.append_ne_nil_of_right_ne_nil _ (by simp), fun c hm => ?_, ?_⟩
  · rcases List.mem_append.1 hm with hm | hm
    · rcases Nat.eq_zero_or_pos n with e | e
      · subst e; simp at hm
      · exact (hc e).dig c hm
    · rw [List.mem_singleton.1 hm]; exact hd
  · rcases Nat.eq_zero_or_pos n with e | e
    · subst e; simpa using h0 rfl
    · rw [head_app (hc e).ne]; exact (hc e).hd
theorem num_end {l : List UInt8} {most : Nat} (hc : 0 < l.length → Canon l) (hv : val l ≤ most) : NumOf l most (val l) := by
  rcases Nat.eq_zero_or_pos l.length with e | e
  · have := List.length_eq_zero_iff.1 e
    subst this
    exact .inl ⟨rfl, fun v _ _ e => dec_ne v e.symm⟩
  · exact .inr ⟨canon_pos (hc e), hv, canon_eq (hc e)⟩
end Go.Proofs.YticlnjfndjnfhaaDoor.quota
