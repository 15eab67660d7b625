/- The plain law of DepAll: what comes as its regions might have made it is all shown. -/
import Derived.Test.YtedkcpncomgboaaPlainI
namespace Go.Proofs.Ytedkcpncomgboaa.dep
open Go Go.RowKit Go.Proofs.Ytedkcpncomgboaa.base Go.Proofs.Ytedkcpncomgboaa.rowe Go.Proofs.Ytedkcpncomgboaa.wire Go.Proofs.Ytedkcpncomgboaa.vec Go.Proofs.Ytedkcpncomgboaa.cmp Go.Proofs.Ytedkcpncomgboaa.with_ Go.Proofs.Ytedkcpncomgboaa.err

/-- how many of region q -/
def cnt (q : Int) (l : List Wr) : Nat := (l.filter fun x => x.r == q).length
theorem cnt_append (q : Int) (a b : List Wr) : cnt q (a ++ b) = cnt q a + cnt q b := by unfold cnt; rw [List.filter_append, List.length_append]
theorem cnt_one (q : Int) (x : Wr) : cnt q [x] = if x.r = q then 1 else 0 := by
  unfold cnt
  rw [List.filter_cons]
  by_cases h : x.r = q
  · simp [h]
  · simp [h]
theorem take_one {L : List Wr} {i : Nat} (h : i < L.length) : L.take (i + 1) = L.take i ++ [L.getD i wrZ] := by
  rw [List.take_add_one, List.getElem?_eq_getElem h, List.getD_eq_getElem?_getD, List.getElem?_eq_getElem h]
  rfl
theorem cnt_take {q : Int} {L : List Wr} {i : Nat} (h : i < L.length) : cnt q (L.take (i + 1)) = cnt q (L.take i) + if (L.getD i wrZ).r = q then 1 else 0 := by
  rw [take_one h, cnt_append, cnt_one]
theorem cnt_mono {q : Int} {L : List Wr} {i j : Nat} (h : i ≤ j) : cnt q (L.take i) ≤ cnt q (L.take j) := by
  have e : L.take j = L.take i ++ (L.take j).drop i := by
    have := (List.take_append_drop i (L.take j)).symm
    rw [List.take_take, Nat.min_eq_left h] at this
    exact this
  rw [e, cnt_append]
  omega
theorem cnt_all {q : Int} {L : List Wr} (i : Nat) : cnt q (L.take i) ≤ cnt q L := by
  have := cnt_mono (q := q) (L := L) (Nat.le_max_left i L.length)
  rwa [List.take_of_length_le (Nat.le_max_right i L.length)] at this
/-- writes as their regions might have made them -/
structure GenI (all : List Wr) : Prop where
  reg : ∀ i, i < all.length → 2 ≤ (all.getD i wrZ).r ∧ (all.getD i wrZ).r ≤ 4
  num : ∀ i, i < all.length → (all.getD i wrZ).n = (cnt (all.getD i wrZ).r (all.take i) : Int) + 1
  dep : ∀ i, i < all.length → ∀ q, atV (all.getD i wrZ).z q ≤ (cnt q (all.take i) : Int)
  right : ∀ i, i < all.length → rightB (all.getD i wrZ) = true
  few : ∀ q, cnt q all ≤ 12
theorem GenI.n_le {all : List Wr} (h : GenI all) {i : Nat} (hi : i < all.length) : (all.getD i wrZ).n ≤ cnt (all.getD i wrZ).r all ∧ 1 ≤ (all.getD i wrZ).n := by
  have h1 := h.num i hi
  have h2 := cnt_take (q := (all.getD i wrZ).r) hi
  rw [if_pos rfl] at h2
  have h3 := cnt_all (q := (all.getD i wrZ).r) (L := all) (i + 1)
  omega
theorem GenI.last {all : List Wr} (h : GenI all) (q : Int) : ∀ i, i ≤ all.length → 0 < cnt q (all.take i) → ∃ j, j < i ∧ (all.getD j wrZ).r = q ∧ (all.getD j wrZ).n = (cnt q (all.take i) : Int)
  | 0, _, h0 => absurd h0 (by simp [cnt])
  | i + 1, hi, h0 => by
    rw [cnt_take (by omega)] at h0 ⊢
    by_cases hr : (all.getD i wrZ).r = q
    · refine ⟨i, by omega, hr, ?_⟩
      rw [h.num i (by omega), hr, if_pos rfl]
      omega
    · rw [if_neg hr] at h0 ⊢
      obtain ⟨j, h1, h2, h3⟩ := GenI.last h q i (by omega) h0
      exact ⟨j, by omega, h2, h3⟩
/-- x is the i-th -/
def Is (all : List Wr) (x : Wr) (i : Nat) : Prop := i < all.length ∧ x.r = (all.getD i wrZ).r ∧ x.n = (all.getD i wrZ).n ∧ x.z = (all.getD i wrZ).z
def Pres (all : List Wr) (a : List Int) (l : List Wr) (j : Nat) : Prop := (all.getD j wrZ).n ≤ atV a (all.getD j wrZ).r ∨ ∃ x ∈ l, x.r = (all.getD j wrZ).r ∧ x.n = (all.getD j wrZ).n
/-- where an inbox stands, but for what can be shown -/
structure MidI (all : List Wr) (a : List Int) (l : List Wr) (sh : Int) : Prop where
  sorted : Sorted l
  is : ∀ x ∈ l, (∃ i, Is all x i) ∧ atV a x.r < x.n
  le : ∀ q, 0 ≤ atV a q ∧ atV a q ≤ (cnt q all : Int)
  sum : sh = atV a 2 + atV a 3 + atV a 4
theorem getD_erase {l : List Wr} {k : Nat} {x : Wr} (hx : x ∈ l.eraseIdx k) : ∃ j, j ≠ k ∧ j < l.length ∧ l.getD j wrZ = x := by
  obtain ⟨j, hj, rfl⟩ := List.mem_iff_getElem.1 hx
  have hlen := List.length_eraseIdx_le l k
  by_cases hkl : k < l.length
  · rw [List.length_eraseIdx_of_lt hkl] at hj
    rw [List.getElem_eraseIdx]
    split
    · next h => exact ⟨j, by omega, by omega, by rw [List.getD_eq_getElem?_getD, List.getElem?_eq_getElem (by omega)]; rfl⟩
    · next h => exact ⟨j + 1, by omega, by omega, by rw [List.getD_eq_getElem?_getD, List.getElem?_eq_getElem (by omega)]; rfl⟩
  · have e : l.eraseIdx k = l := List.eraseIdx_of_length_le (by omega)
    simp only [e] at hj ⊢
    exact ⟨j, by omega, hj, by rw [List.getD_eq_getElem?_getD, List.getElem?_eq_getElem hj]; rfl⟩
theorem mem_erase {l : List Wr} {k : Nat} {x : Wr} (hx : x ∈ l) (hk : k < l.length) (hn : x ≠ l.getD k wrZ) : x ∈ l.eraseIdx k := by
  obtain ⟨j, hj, rfl⟩ := List.mem_iff_getElem.1 hx
  rw [List.mem_eraseIdx_iff_getElem]
  refine ⟨j, hj, ?_, rfl⟩
  intro e
  subst e
  apply hn
  rw [List.getD_eq_getElem?_getD, List.getElem?_eq_getElem hj]
  rfl
theorem GenI.regs {all : List Wr} (hg : GenI all) {x : Wr} (h : ∃ i, Is all x i) : (2 ≤ x.r ∧ x.r ≤ 4) ∧ 1 ≤ x.n ∧ x.n ≤ cnt x.r all ∧ x.n ≤ 12 := by
  obtain ⟨i, hi, h1, h2, _⟩ := h
  have h3 := hg.reg i hi
  have h4 := hg.n_le hi
  have h5 := hg.few (all.getD i wrZ).r
  rw [h1, h2]
  omega
theorem MidI.steps {all : List Wr} (hg : GenI all) {ap : List Int} {ws : List Wr} {sh : Int} (h0 : MidI all ap ws sh) {a : List Int} {l out : List Wr} (h : Steps ap ws a l out) :
    MidI all a l (sh + out.length) ∧ ∀ j, Pres all ap ws j → Pres all a l j := by
  induction h with
  | zero => exact ⟨by simpa using h0, fun j h => h⟩
  | @one a l out h k hk hr hn ih =>
    obtain ⟨hm, hp⟩ := ih
    have hmem := getD_mem hk
    obtain ⟨his, hlt⟩ := hm.is _ hmem
    obtain ⟨hrg, hn1, hn2, _⟩ := hg.regs his
    obtain ⟨hat, _⟩ := ready_at hr
    have hsk : ∀ j, j ≠ k → j < l.length → cmpW (l.getD j wrZ) (l.getD k wrZ) ≠ 0 := fun j hj hjl => by
      rcases Nat.lt_or_gt_of_ne hj with h | h
      · have := hm.sorted.get h hk; omega
      · have := hm.sorted.get h hjl
        rw [cmpW_lt] at this
        rw [Ne, cmpW_eq]
        omega
    have h16 : 1 ≤ (l.getD k wrZ).r ∧ (l.getD k wrZ).r ≤ 16 := by omega
    refine ⟨⟨hm.sorted.sub (List.eraseIdx_sublist _ _), fun x hx => ?_, fun q => ?_, ?_⟩, fun j hj => ?_⟩
    · obtain ⟨j, h1, h2, rfl⟩ := getD_erase hx
      have h3 := hm.is _ (getD_mem h2)
      refine ⟨h3.1, ?_⟩
      rw [atV_with _ _ _ _ h16]
      split
      · next e =>
        have h4 := hsk j h1 h2
        rw [Ne, cmpW_eq] at h4
        have h5 := h3.2
        rw [e, hat] at h5
        omega
      · exact h3.2
    · rw [atV_with _ _ _ _ h16]
      split
      · next e => rw [e]; omega
      · exact hm.le q
    · have h6 := hm.sum
      rw [List.length_append]
      simp only [List.length_cons, List.length_nil]
      rw [atV_with _ _ _ _ h16, atV_with _ _ _ _ h16, atV_with _ _ _ _ h16]
      rcases (by omega : (l.getD k wrZ).r = 2 ∨ (l.getD k wrZ).r = 3 ∨ (l.getD k wrZ).r = 4) with e | e | e
      · rw [e] at hat ⊢; rw [if_pos rfl, if_neg (by omega), if_neg (by omega)]; omega
      · rw [e] at hat ⊢; rw [if_pos rfl, if_neg (by omega), if_neg (by omega)]; omega
      · rw [e] at hat ⊢; rw [if_pos rfl, if_neg (by omega), if_neg (by omega)]; omega
    · rcases hp j hj with h7 | ⟨x, hx, h8, h9⟩
      · refine .inl ?_
        rw [atV_with _ _ _ _ h16]
        split
        · next e => rw [e, hat] at h7; omega
        · exact h7
      · by_cases hxk : x = l.getD k wrZ
        · refine .inl ?_
          rw [atV_with _ _ _ _ h16, ← h8, hxk, if_pos rfl, ← h9, hxk]
          omega
        · exact .inr ⟨x, mem_erase hx hk hxk, h8, h9⟩
/-- a rising list of numbers in a narrow range is short -/
theorem rising_short : ∀ (l : List Wr) (lo hi : Int), l.Pairwise (fun a b => a.n < b.n) → (∀ x ∈ l, lo < x.n ∧ x.n ≤ hi) → lo ≤ hi → (l.length : Int) ≤ hi - lo
  | [], lo, hi, _, _, h => by simp; omega
  | x :: l, lo, hi, hp, hb, _ => by
    rw [List.pairwise_cons] at hp
    have h1 := hb x (by simp)
    have := rising_short l x.n hi hp.2 (fun y hy => ⟨hp.1 y hy, (hb y (by simp [hy])).2⟩) h1.2
    simp
    omega
theorem MidI.many {all : List Wr} (hg : GenI all) {a : List Int} {l : List Wr} {sh : Int} (h : MidI all a l sh) (x : Wr) : manyW l x < 16 := by
  have h1 : (l.filter fun y => y.r == x.r).Pairwise fun a b => a.n < b.n := by
    have h2 : (l.filter fun y => y.r == x.r).Pairwise fun a b => cmpW a b < 0 := h.sorted.sublist List.filter_sublist
    refine h2.imp_of_mem ?_
    intro a b ha hb hab
    have ha := (List.mem_filter.1 ha).2
    have hb := (List.mem_filter.1 hb).2
    rw [cmpW_lt] at hab
    simp at ha hb
    omega
  have h3 := rising_short _ 0 12 h1 (fun y hy => by
    have := (hg.regs (h.is y (List.mem_filter.1 hy).1).1).2
    omega) (by omega)
  unfold manyW
  omega
/-- behind an offer of the i-th -/
theorem MidI.refused {all : List Wr} (hg : GenI all) {a : List Int} {l : List Wr} {sh : Int} (h : MidI all a l sh) {x : Wr} {i k : Nat} (hx : Is all x i) (hr : rightB x = true) (hc : offC 1 a l x k ≠ 0) : Pres all a l i := by
  have hrg := (hg.regs ⟨i, hx⟩).1
  have hm := h.many hg x
  unfold offC at hc
  rw [if_neg (by rw [hr]; simp; omega)] at hc
  by_cases h8 : hereB l x k = true ∨ x.n ≤ atV a x.r
  · rcases h8 with h8 | h8
    · unfold hereB at h8
      simp only [Bool.and_eq_true, decide_eq_true_eq, beq_iff_eq] at h8
      obtain ⟨h9, h10⟩ := h8
      rw [cmpW_eq] at h10
      exact .inr ⟨_, getD_mem h9, by rw [h10.1]; exact hx.2.1, by rw [h10.2]; exact hx.2.2.1⟩
    · refine .inl ?_
      rw [← hx.2.1, ← hx.2.2.1]
      exact h8
  · rw [if_neg h8, if_neg (by omega)] at hc
    exact absurd rfl hc
theorem MidI.offered {all : List Wr} {a : List Int} {l : List Wr} {sh : Int} (h : MidI all a l sh) {x y : Wr} {i k : Nat} (hx : Is all x i) (hy : y.r = x.r ∧ y.n = x.n ∧ y.z = x.z) (hk : At_ l x k) (hc : offC 1 a l x k = 0) :
    MidI all a (l.take k ++ y :: l.drop k) sh ∧ Pres all a (l.take k ++ y :: l.drop k) i ∧ ∀ j, Pres all a l j → Pres all a (l.take k ++ y :: l.drop k) j := by
  obtain ⟨_, _, h3, h4, _⟩ := offC_zero hc
  refine ⟨⟨h.sorted.insert hk h3 y hy.1 hy.2.1, fun z hz => ?_, h.le, h.sum⟩, .inr ⟨y, by simp, by rw [hy.1]; exact hx.2.1, by rw [hy.2.1]; exact hx.2.2.1⟩, fun j hj => hj.imp id fun ⟨z, hz, h5⟩ => ⟨z, ?_, h5⟩⟩
  · rcases mem_ins hz with hz | rfl
    · exact h.is z hz
    · exact ⟨⟨i, hx.1, by rw [hy.1]; exact hx.2.1, by rw [hy.2.1]; exact hx.2.2.1, by rw [hy.2.2]; exact hx.2.2.2⟩, by rw [hy.1, hy.2.1]; exact h4⟩
  · rw [← List.take_append_drop k l] at hz
    rcases List.mem_append.1 hz with hz | hz
    · exact List.mem_append_left _ hz
    · exact List.mem_append_right _ (List.mem_cons_of_mem _ hz)
theorem covers_of {a z : List Int} (h : ∀ q, atV z q ≤ atV a q) : coversB a z = true := by
  unfold coversB
  rw [List.all_eq_true]
  intro r _
  have := h (r + 1)
  simp
  omega
/-- where all are there and none can be shown, all are shown -/
theorem MidI.all_shown {all : List Wr} (hg : GenI all) {a : List Int} {l : List Wr} {sh : Int} (h : MidI all a l sh) (hid : ∀ x ∈ l, readyB a x = false) (hp : ∀ j, j < all.length → Pres all a l j) : sh = all.length ∧ l = [] := by
  have key : ∀ i, i ≤ all.length → ∀ q, (cnt q (all.take i) : Int) ≤ atV a q := by
    intro i
    induction i with
    | zero => intro _ q; have := (h.le q).1; simp [cnt]; omega
    | succ i ih =>
      intro hi q
      have ihi := ih (by omega)
      have hsh : (all.getD i wrZ).n ≤ atV a (all.getD i wrZ).r := by
        rcases hp i (by omega) with h1 | ⟨x, hx, h1, h2⟩
        · exact h1
        · exfalso
          obtain ⟨⟨i', h3, h4, h5, h6⟩, h7⟩ := h.is x hx
          have hii : i' ≤ i := by
            rcases Nat.lt_or_ge i i' with hlt | hge
            · exfalso
              have e1 := hg.num i' h3
              have e2 := hg.num i (by omega)
              have e3 := cnt_mono (q := x.r) (L := all) (show i + 1 ≤ i' by omega)
              have e4 := cnt_take (q := x.r) (L := all) (i := i) (by omega)
              rw [if_pos h1.symm] at e4
              rw [← h4, ← h5] at e1
              rw [← h1, ← h2] at e2
              omega
            · exact hge
          have hrd : readyB a x = true := by
            unfold readyB
            have e2 := hg.num i (by omega)
            rw [← h1, ← h2] at e2
            have e5 := ihi x.r
            rw [decide_eq_true (by omega : atV a x.r = x.n - 1), Bool.true_and]
            refine covers_of fun q => ?_
            have e6 := hg.dep i' h3 q
            rw [← h6] at e6
            have e7 := cnt_mono (q := q) (L := all) hii
            have e8 := ihi q
            omega
          rw [hid x hx] at hrd
          cases hrd
      rw [cnt_take (by omega)]
      by_cases hr : (all.getD i wrZ).r = q
      · rw [if_pos hr]
        have e2 := hg.num i (by omega)
        rw [hr] at e2 hsh
        omega
      · rw [if_neg hr]
        exact ihi q
  have kall := key all.length (Nat.le_refl _)
  rw [List.take_length] at kall
  have hsum : cnt 2 all + cnt 3 all + cnt 4 all = all.length := by
    have : ∀ i, i ≤ all.length → cnt 2 (all.take i) + cnt 3 (all.take i) + cnt 4 (all.take i) = i := by
      intro i
      induction i with
      | zero => intro _; simp [cnt]
      | succ i ih =>
        intro hi
        have h1 := ih (by omega)
        have h2 := hg.reg i (by omega)
        rw [cnt_take (by omega), cnt_take (by omega), cnt_take (by omega)]
        rcases (by omega : (all.getD i wrZ).r = 2 ∨ (all.getD i wrZ).r = 3 ∨ (all.getD i wrZ).r = 4) with e | e | e
        · rw [e, if_pos rfl, if_neg (by omega), if_neg (by omega)]; omega
        · rw [e, if_pos rfl, if_neg (by omega), if_neg (by omega)]; omega
        · rw [e, if_pos rfl, if_neg (by omega), if_neg (by omega)]; omega
    have := this all.length (Nat.le_refl _)
    rwa [List.take_length] at this
  refine ⟨?_, ?_⟩
  · have h2 := kall 2
    have h3 := kall 3
    have h4 := kall 4
    have g2 := (h.le 2).2
    have g3 := (h.le 3).2
    have g4 := (h.le 4).2
    have := h.sum
    omega
  · cases l with
    | nil => rfl
    | cons x l =>
      exfalso
      obtain ⟨hex, h7⟩ := h.is x (by simp)
      have h8 := (hg.regs hex).2.2.1
      have h9 := kall x.r
      omega
end Go.Proofs.Ytedkcpncomgboaa.dep
