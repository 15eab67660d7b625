/- Joins and leasts of two vectors written out: plain law and walk. -/
import Derived.Test.YtfpknghbjniepaaPlain
namespace Go.Proofs.Ytfpknghbjniepaa.pair
open Go.RowKit Go.Proofs.Ytfpknghbjniepaa.base Go.Proofs.Ytfpknghbjniepaa.vec Go.Proofs.Ytfpknghbjniepaa.ref Go.Proofs.Ytfpknghbjniepaa.made Go.Proofs.Ytfpknghbjniepaa.all_ Go.Proofs.Ytfpknghbjniepaa.lit Go.Proofs.Ytfpknghbjniepaa.plain

theorem map_getD (f : Nat → Int) (m k : Nat) : ((List.range m).map f).getD k 0 = if k < m then f k else 0 := by
  rw [List.getD_eq_getElem?_getD, List.getElem?_map]
  by_cases h : k < m
  · rw [if_pos h, List.getElem?_range h]; rfl
  · rw [if_neg h, List.getElem?_eq_none (by simpa using h)]; rfl
theorem getD_out (zs : List Int) (k : Nat) (h : zs.length ≤ k) : zs.getD k 0 = 0 := by
  rw [List.getD_eq_getElem?_getD, List.getElem?_eq_none h]; rfl
theorem join_getD (op : Int → Int → Int) (h0 : op 0 0 = 0) (u v : V) (hu : u.zs.length = u.len) (hv : v.zs.length = v.len) (k : Nat) : (joinV op [u, v]).getD k 0 = op (u.zs.getD k 0) (v.zs.getD k 0) := by
  unfold joinV
  rw [trim_getD, map_getD]
  have hm : most [u, v] = max (max 0 u.len) v.len := rfl
  have hf : foldAt op [u, v] ((k : Int) + 1) = op (atV u.zs ((k : Int) + 1)) (atV v.zs ((k : Int) + 1)) := rfl
  rw [hm, hf, atV_getD, atV_getD]
  split
  · rfl
  · rw [getD_out u.zs k (by omega), getD_out v.zs k (by omega), h0]
theorem join_ext {op op' : Int → Int → Int} {l l' : List V} (h : ∀ k, (joinV op l).getD k 0 = (joinV op' l').getD k 0) : joinV op l = joinV op' l' := by
  unfold joinV at h ⊢
  simp only [trim_getD] at h
  exact trim_ext h
theorem join_len (op : Int → Int → Int) (u v : V) : (joinV op [u, v]).length ≤ max u.len v.len := by
  unfold joinV
  rw [trim_len]
  have h := trimN_le ((List.range (most [u, v])).map fun r : Nat => foldAt op [u, v] ((r : Int) + 1)) ((List.range (most [u, v])).map fun r : Nat => foldAt op [u, v] ((r : Int) + 1)).length
  have hm : most [u, v] = max (max 0 u.len) v.len := rfl
  simp only [List.length_map, List.length_range] at h ⊢
  omega
/-- A vector, and short. -/
def Ok (w : World) (v : V) : Prop := Vec w w.heap.size v.A v.len v.cap v.zs ∧ v.len ≤ 1000000
theorem Ok.below {w w' : World} {v : V} (h : Ok w v) (hb : Below w.heap.size w w') : Ok w' v := ⟨(h.1.below hb).more hb.size, h.2⟩
def Two (op : Int → Int → Int) (w : World) (u v : V) (e : Ending) (w' : World) : Prop :=
  ∃ r : V, e = .returned (.slice r.A r.len r.cap) ∧ r.zs = joinV op [u, v] ∧ r.len ≤ max u.len v.len ∧ Ok w' r ∧ Below w.heap.size w w'
theorem join_two (w : World) (u v : V) (g : Nat) (hg : g = w.heap.size) (hu : Ok w u) (hv : Ok w v) :
    Calls Try.prog 16 #[.slice (some ⟨g, 0, none⟩) 2 2] (w.alloc (.cells #[.slice u.A u.len u.cap, .slice v.A v.len v.cap] 32)) (Two opMax w u v) := by
  have h := vecs_lit w (g := g) 32 [u, v] hg (by simp) (by
    intro x hx
    simp only [List.mem_cons, List.not_mem_nil, or_false] at hx
    rcases hx with rfl | rfl
    · exact hu
    · exact hv)
  refine (join_any _ 2 2 _ _ h (by omega)).mono ?_
  rintro e w' ⟨x, rfl, hown, hb⟩
  have hl := join_len opMax u v
  obtain ⟨A, c, rfl, hx⟩ := Vec.of_own hown
  have hu2 := hu.2
  have hv2 := hv.2
  exact ⟨⟨A, _, c, joinV opMax [u, v]⟩, rfl, rfl, hl, ⟨hx, by dsimp only; omega⟩, ((Below.refl _ _).alloc (Nat.le_refl _) _).trans (hb.mono (by simp))⟩
theorem least_two (w : World) (u v : V) (g : Nat) (hg : g = w.heap.size) (hu : Ok w u) (hv : Ok w v) :
    Calls Try.prog 19 #[.slice (some ⟨g, 0, none⟩) 2 2] (w.alloc (.cells #[.slice u.A u.len u.cap, .slice v.A v.len v.cap] 32)) (Two opMin w u v) := by
  have h := vecs_lit w (g := g) 32 [u, v] hg (by simp) (by
    intro x hx
    simp only [List.mem_cons, List.not_mem_nil, or_false] at hx
    rcases hx with rfl | rfl
    · exact hu
    · exact hv)
  refine (least_any _ 2 2 _ _ h (by omega)).mono ?_
  rintro e w' ⟨x, rfl, hown, hb⟩
  have hl := join_len opMin u v
  obtain ⟨A, c, rfl, hx⟩ := Vec.of_own hown
  have hu2 := hu.2
  have hv2 := hv.2
  exact ⟨⟨A, _, c, joinV opMin [u, v]⟩, rfl, rfl, hl, ⟨hx, by dsimp only; omega⟩, ((Below.refl _ _).alloc (Nat.le_refl _) _).trans (hb.mono (by simp))⟩
end Go.Proofs.Ytfpknghbjniepaa.pair
