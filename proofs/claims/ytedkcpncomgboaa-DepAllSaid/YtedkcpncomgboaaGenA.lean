/- DepAll's makers, in plain words. -/
import Derived.Test.YtedkcpncomgboaaPlainA
import Derived.Test.YtedkcpncomgboaaJoinR
namespace Go.Proofs.Ytedkcpncomgboaa.dep
open Go Go.RowKit Go.Proofs.Ytedkcpncomgboaa.base Go.Proofs.Ytedkcpncomgboaa.rowe Go.Proofs.Ytedkcpncomgboaa.wire Go.Proofs.Ytedkcpncomgboaa.vec Go.Proofs.Ytedkcpncomgboaa.cmp Go.Proofs.Ytedkcpncomgboaa.with_ Go.Proofs.Ytedkcpncomgboaa.err Go.Proofs.Ytedkcpncomgboaa.joinr

def AtP (all : List Wr) (at_ : Nat → List Int) : Prop :=
  ∀ r : Nat, (at_ r).length ≤ 16 ∧ (∀ q, 0 ≤ atV (at_ r) q ∧ atV (at_ r) q ≤ (cnt q all : Int)) ∧ (2 ≤ r → r ≤ 4 → atV (at_ r) r = (cnt r all : Int))
def upd (at_ : Nat → List Int) (r : Nat) (v : List Int) : Nat → List Int := fun i => if i = r then v else at_ i
def vOf (zs : List Int) : V := ⟨none, zs.length, 0, zs⟩
def join2 (a b : List Int) : List Int := joinV opMax [vOf a, vOf b]
theorem join2_eq (u v : V) (hu : u.zs.length = u.len) (hv : v.zs.length = v.len) : joinV opMax [u, v] = join2 u.zs v.zs := by
  unfold join2 joinV most foldAt vOf
  simp only [List.foldl_cons, List.foldl_nil, hu, hv]
theorem join2_at (a b : List Int) (q : Int) : atV (join2 a b) q = if atV a q < atV b q then atV b q else atV a q := by
  by_cases hq : q < 1
  · have e : ∀ zs : List Int, atV zs q = 0 := fun zs => by unfold atV; rw [if_pos (.inl hq)]
    rw [e, e, e]; rfl
  · obtain ⟨k, rfl⟩ : ∃ k : Nat, q = (k : Int) + 1 := ⟨(q - 1).toNat, by omega⟩
    rw [atV_getD (join2 a b)]
    unfold join2 joinV
    rw [trim_getD, List.getD_eq_getElem?_getD, List.getElem?_map]
    by_cases hk : k < most [vOf a, vOf b]
    · rw [List.getElem?_range hk]
      rfl
    · rw [List.getElem?_eq_none (by simp; omega)]
      have hm : most [vOf a, vOf b] = max (max 0 a.length) b.length := rfl
      have e1 : atV a ((k : Int) + 1) = 0 := by rw [atV_getD, List.getD_eq_getElem?_getD, List.getElem?_eq_none (by omega)]; rfl
      have e2 : atV b ((k : Int) + 1) = 0 := by rw [atV_getD, List.getD_eq_getElem?_getD, List.getElem?_eq_none (by omega)]; rfl
      rw [e1, e2]; rfl
theorem join2_len {a b : List Int} (ha : a.length ≤ 16) (hb : b.length ≤ 16) : (join2 a b).length ≤ 16 := by
  unfold join2 joinV trimL
  have hm : most [vOf a, vOf b] = max (max 0 a.length) b.length := rfl
  rw [List.length_take, List.length_map, List.length_range]
  omega
theorem trB_of {zs : List Int} (hl : zs.length ≤ 16) (ht : trimL zs = zs) (h : ∀ q, 0 ≤ atV zs q ∧ atV zs q ≤ 1099511627776) : trB zs 1099511627776 = true := by
  unfold trB
  rw [decide_eq_true hl, Bool.true_and]
  have h1 : zs.all (okN 1099511627776) = true := by
    rw [List.all_eq_true]
    intro z hz
    obtain ⟨k, hk, rfl⟩ := List.mem_iff_getElem.1 hz
    have := h ((k : Int) + 1)
    rw [atV_getD, List.getD_eq_getElem?_getD, List.getElem?_eq_getElem hk] at this
    unfold okN
    simpa using this
  rw [h1, Bool.and_true]
  have h2 : ¬ (0 < zs.length ∧ zs.getD (zs.length - 1) 0 = 0) := by
    intro ⟨h3, h4⟩
    have h5 := congrArg List.length ht
    unfold trimL at h5
    rw [List.length_take] at h5
    have h6 := trimN_le zs zs.length
    have h7 := trimN_last zs zs.length
    rw [show trimN zs zs.length = zs.length by omega] at h7
    rcases h7 with h7 | h7
    · omega
    · exact h7 h4
  by_cases h3 : 0 < zs.length
  · rw [decide_eq_true h3, decide_eq_false (fun h4 => h2 ⟨h3, h4⟩)]; rfl
  · rw [decide_eq_false h3]; rfl
theorem right_wrD {r n : Int} {d : Value} {z : List Int} (h1 : 1 ≤ r) (h2 : r ≤ 16) (h3 : 1 ≤ n) (h4 : n ≤ 1099511627776) (e : trB z 1099511627776 = true) : rightB (wrD r n d z) = true := by
  unfold rightB inB
  have e2 : trB (wrD r n d z).z 1099511627776 = true := e
  rw [e2]
  simp [wrD, h1, h2, h3, h4]
  exact ⟨rfl, rfl, rfl, rfl⟩
theorem getD_app {L : List Wr} {x : Wr} {i : Nat} (h : i < L.length) : (L ++ [x]).getD i wrZ = L.getD i wrZ := by
  rw [List.getD_eq_getElem?_getD, List.getElem?_append_left h, ← List.getD_eq_getElem?_getD]
theorem getD_last {L : List Wr} {x : Wr} : (L ++ [x]).getD L.length wrZ = x := by
  rw [List.getD_eq_getElem?_getD, List.getElem?_append_right (Nat.le_refl _), Nat.sub_self]; rfl
theorem GenI.more {all : List Wr} (hg : GenI all) {at_ : Nat → List Int} (ha : AtP all at_) {r f : Nat} (hr : 2 ≤ r ∧ r ≤ 4) (h12 : atV (at_ r) r < 12) (d : Value) :
    GenI (all ++ [wrD r (atV (join2 (at_ r) (at_ f)) r + 1) d (join2 (at_ r) (at_ f))]) ∧
      AtP (all ++ [wrD r (atV (join2 (at_ r) (at_ f)) r + 1) d (join2 (at_ r) (at_ f))]) (upd at_ r (withL (join2 (at_ r) (at_ f)) r (atV (join2 (at_ r) (at_ f)) r + 1))) ∧
      atV (join2 (at_ r) (at_ f)) r = (cnt r all : Int) ∧ cnt r all < 12 ∧ (join2 (at_ r) (at_ f)).length ≤ 16 := by
  obtain ⟨hl1, hb1, ho1⟩ := ha r
  obtain ⟨hl2, hb2, _⟩ := ha f
  have hown := ho1 hr.1 hr.2
  have hj : ∀ q, 0 ≤ atV (join2 (at_ r) (at_ f)) q ∧ atV (join2 (at_ r) (at_ f)) q ≤ (cnt q all : Int) := fun q => by
    rw [join2_at]
    have h1 := hb1 q
    have h2 := hb2 q
    split <;> omega
  have hjr : atV (join2 (at_ r) (at_ f)) r = (cnt r all : Int) := by
    rw [join2_at]
    have h2 := hb2 (r : Int)
    split <;> omega
  have hjl := join2_len hl1 hl2
  have hjt : trimL (join2 (at_ r) (at_ f)) = join2 (at_ r) (at_ f) := by unfold join2 joinV; exact trim_trim _
  generalize join2 (at_ r) (at_ f) = v at *
  have hc12 : cnt r all < 12 := by omega
  have hfew : ∀ q, (cnt q all : Int) ≤ 12 := fun q => by have := hg.few q; omega
  have hxr : (wrD r (atV v r + 1) d v).r = r := rfl
  have hlen : (all ++ [wrD r (atV v r + 1) d v]).length = all.length + 1 := by simp
  have hcn : ∀ q, cnt q (all ++ [wrD r (atV v r + 1) d v]) = cnt q all + if (r : Int) = q then 1 else 0 := fun q => by rw [cnt_append, cnt_one]; rfl
  have htk : ∀ i, i ≤ all.length → (all ++ [wrD r (atV v r + 1) d v]).take i = all.take i := fun i hi => List.take_append_of_le_length hi
  refine ⟨⟨fun i hi => ?_, fun i hi => ?_, fun i hi q => ?_, fun i hi => ?_, fun q => ?_⟩, fun s => ?_, hjr, hc12, hjl⟩
  · rw [hlen] at hi
    rcases Nat.lt_or_ge i all.length with h | h
    · rw [getD_app h]; exact hg.reg i h
    · obtain rfl : i = all.length := by omega
      rw [getD_last, hxr]; omega
  · rw [hlen] at hi
    rcases Nat.lt_or_ge i all.length with h | h
    · rw [getD_app h, htk i (by omega)]; exact hg.num i h
    · obtain rfl : i = all.length := by omega
      rw [getD_last, htk _ (Nat.le_refl _), List.take_length, hxr]
      show atV v r + 1 = _
      rw [hjr]
  · rw [hlen] at hi
    rcases Nat.lt_or_ge i all.length with h | h
    · rw [getD_app h, htk i (by omega)]; exact hg.dep i h q
    · obtain rfl : i = all.length := by omega
      rw [getD_last, htk _ (Nat.le_refl _), List.take_length]
      exact (hj q).2
  · rw [hlen] at hi
    rcases Nat.lt_or_ge i all.length with h | h
    · rw [getD_app h]; exact hg.right i h
    · obtain rfl : i = all.length := by omega
      rw [getD_last]
      exact right_wrD (by omega) (by omega) (by omega) (by omega) (trB_of hjl hjt fun q => by
        have h1 := hj q
        have h2 := hfew q
        omega)
  · rw [hcn]
    have := hg.few q
    split
    · next e =>
      have : cnt q all < 12 := by rw [← e]; exact hc12
      omega
    · omega
  · unfold upd
    by_cases hs : s = r
    · subst hs
      rw [if_pos rfl]
      refine ⟨with_len hjl, fun q => ?_, fun h1 h2 => ?_⟩
      · rw [atV_with _ _ _ _ (by omega), hcn]
        split
        · next e => rw [if_pos e.symm, e, hjr]; omega
        · next e => rw [if_neg (fun h => e h.symm)]; have := hj q; omega
      · rw [with_at _ _ _ (by omega), hcn, if_pos rfl, hjr]
        omega
    · rw [if_neg hs]
      obtain ⟨h1, h2, h3⟩ := ha s
      refine ⟨h1, fun q => ?_, fun h4 h5 => ?_⟩
      · rw [hcn]
        have := h2 q
        split <;> omega
      · rw [hcn, if_neg (by omega)]
        have := h3 h4 h5
        omega
theorem GenI.nil : GenI [] := ⟨fun i h => absurd h (by simp), fun i h => absurd h (by simp), fun i h => absurd h (by simp), fun i h => absurd h (by simp), fun q => by simp [cnt]⟩
theorem AtP.nil : AtP [] fun _ => [] := fun r => ⟨by simp, fun q => by rw [atV_nil]; simp [cnt], fun _ _ => by rw [atV_nil]; simp [cnt]⟩
end Go.Proofs.Ytedkcpncomgboaa.dep
