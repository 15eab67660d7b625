/- A message out of a bag: slices.Delete, from the shelf. -/
import Derived.Test.YtempojdgbgaanaaAt
import Derived.Test.YtempojdgbgaanaaShelfC
namespace Go.Proofs.Ytempojdgbgaanaa.del
open Go.RowKit Go.Proofs.Ytempojdgbgaanaa.base Go.Proofs.Ytempojdgbgaanaa.map_ Go.Proofs.Ytempojdgbgaanaa.err Go.Proofs.Ytempojdgbgaanaa.net Go.Proofs.Ytempojdgbgaanaa.state Go.Maps Go.Sort

theorem putCells_take (d : Array ByteArray) (c : Array Value) (m : Nat) (hm : m ≤ d.size) (hc : d.size ≤ c.size) : (putCells Value.string 0 d c).toList.take m = (d.toList.take m).map Value.string := by
  apply List.ext_getElem?
  intro k
  by_cases hk : k < m
  · rw [List.getElem?_take_of_lt hk, List.getElem?_map, List.getElem?_take_of_lt hk]
    have h1 : k < c.size := by omega
    have h2 : k < d.size := by omega
    have h3 : (putCells Value.string 0 d c)[k]? = some (.string d[k]) := by
      unfold putCells
      rw [Array.getElem?_mapIdx, Array.getElem?_eq_getElem h1]
      simp [h2]
    rw [Array.getElem?_toList, h3, Array.getElem?_toList, Array.getElem?_eq_getElem h2]
    rfl
  · rw [List.getElem?_eq_none (by simp; omega), List.getElem?_eq_none (by simp; omega)]
theorem bag_put {w : World} {g n cap : Nat} {xs : List ByteArray} (h : w.ownsRow 0 9 1 (.slice (some ⟨g, 0, none⟩) n cap) n (xs.map Value.string)) (d : Array ByteArray) (q m : Nat) (hd : d.size = n) (hm : m ≤ n) :
    Bag (putRow Value.string (Sort.ahead w q) g 0 d) (.slice (some ⟨g, 0, none⟩) m cap) (d.toList.take m) ∧ Keeps (· = g) w (putRow Value.string (Sort.ahead w q) g 0 d) := by
  obtain ⟨h1, ⟨e, _⟩ | ⟨g', cap', cur, e, e1, e2, e3, e4, e5, e6⟩⟩ := h
  · cases e
  injection e with e _ ec
  injection e with e
  injection e with e
  subst e ec
  have hlen : (d.toList.take m).length = m := by simp; omega
  refine ⟨⟨by simp <;> omega, .inr ⟨g, cap, putCells Value.string 0 d cur, by rw [hlen], by omega, ?_, by omega, e4, by simp [putCells, e5], ?_⟩⟩, ?_⟩
  · have hlt := heap_lt e2
    unfold putRow mapBlock Sort.ahead
    simp only [Array.getElem?_modify]
    simp [e2, onCells]
  · rw [hlen]
    rw [show m * 1 = m by omega]
    exact putCells_take d cur m (by omega) (by omega)
  · refine ⟨rfl, rfl, rfl, by simp [putRow, mapBlock, Sort.ahead], fun i hi hx => ?_⟩
    have hx : i ≠ g := hx
    unfold putRow mapBlock Sort.ahead
    simp only [Array.getElem?_modify]
    rw [if_neg (Ne.symm hx)]
theorem zero_string (w : World) : (zeroValue 9).run Try.prog w = .ok (.string ⟨#[]⟩) w := by kernel_rfl
theorem delete_any {w : World} {g n cap : Nat} {xs : List ByteArray} (h : w.ownsRow 0 9 1 (.slice (some ⟨g, 0, none⟩) n cap) n (xs.map Value.string)) (i : Nat) (hn : xs.length = n) (hi : i < n) :
    Calls Try.prog 29 #[.slice (some ⟨g, 0, none⟩) n cap, .int .i64 i, .int .i64 ((i + 1 : Nat) : Int)] w fun e w' => e = .returned (.slice (some ⟨g, 0, none⟩) (n - 1) cap) ∧ Bag w' (.slice (some ⟨g, 0, none⟩) (n - 1) cap) (xs.eraseIdx i) ∧ Keeps (· = g) w w' := by
  obtain ⟨i0, hi0, hz⟩ := Option.map_eq_some_iff.1 str_info
  simp only [Prod.mk.injEq] at hz
  have h0 := h
  obtain ⟨h1, ⟨e, _⟩ | ⟨g', cap', cur, e, e1, e2, e3, e4, e5, e6⟩⟩ := h
  · cases e
  injection e with e _ ec
  injection e with e
  injection e with e
  subst e ec
  subst hn
  have hH : Holds Value.string w g 0 xs.toArray := by
    intro j hj
    simp at hj
    have hb : Blk w g 9 cur := e2
    refine ⟨?_, by simpa using hb.frozen j⟩
    have hc := hb.cell j
    rw [show 0 + j = j by omega, hc]
    have h3 : cur.toList[j]? = (xs.map Value.string)[j]? := by
      rw [← e6, List.getElem?_take_of_lt (by omega)]
    rw [Array.getElem?_toList] at h3
    rw [h3]
    simp [hj]
  unfold maxLen at e4
  have hd := Go.Proofs.Try.slices_Delete Value.string (fun _ => rfl) ⟨#[]⟩ zero_string i0 hi0 hz.2.1 g 0 cap i (i + 1) xs.toArray w hH (by simpa using e3) (by omega) (by omega) (by simp; omega)
  refine Calls.mono (by simpa using hd) ?_
  rintro e w' ⟨rfl, q, rfl⟩
  have hsz : (xs.take i ++ xs.drop (i + 1) ++ List.replicate (i + 1 - i) (⟨#[]⟩ : ByteArray)).length = xs.length := by simp; omega
  obtain ⟨r1, r2⟩ := bag_put h0 (xs.take i ++ xs.drop (i + 1) ++ List.replicate (i + 1 - i) (⟨#[]⟩ : ByteArray)).toArray q (xs.length - 1) (by simpa using hsz) (by omega)
  have hE : (xs.take i ++ xs.drop (i + 1) ++ List.replicate (i + 1 - i) (⟨#[]⟩ : ByteArray)).take (xs.length - 1) = xs.eraseIdx i := by
    rw [List.eraseIdx_eq_take_drop_succ, List.take_append_of_le_length (by simp; omega), List.take_of_length_le (by simp; omega)]
  refine ⟨rfl, ?_, ?_⟩
  · rw [← hE]; simpa using r1
  · simpa using r2
end Go.Proofs.Ytempojdgbgaanaa.del
