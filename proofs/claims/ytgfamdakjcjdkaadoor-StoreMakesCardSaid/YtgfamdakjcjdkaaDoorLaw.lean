/- The plain law of registers: 'above' is a strict order of which each two unlike cells stand one above the other; what merging finds is the one that none is above. -/
import Derived.Test.YtgfamdakjcjdkaaDoorMergeS
namespace Go.Proofs.YtgfamdakjcjdkaaDoor.law
open Go.Proofs.YtgfamdakjcjdkaaDoor.cmp Go.Proofs.YtgfamdakjcjdkaaDoor.above Go.Proofs.YtgfamdakjcjdkaaDoor.merge

theorem bytesLess_tri : ∀ a b : List UInt8, (a = b ∧ Op.bytesLess a b = false ∧ Op.bytesLess b a = false) ∨ (a ≠ b ∧ Op.bytesLess a b = true ∧ Op.bytesLess b a = false) ∨ (a ≠ b ∧ Op.bytesLess a b = false ∧ Op.bytesLess b a = true)
  | [], [] => .inl ⟨rfl, rfl, rfl⟩
  | [], b :: y => .inr (.inl ⟨by simp, rfl, rfl⟩)
  | a :: x, [] => .inr (.inr ⟨by simp, rfl, rfl⟩)
  | a :: x, b :: y => by
    have ih := bytesLess_tri x y
    simp only [Op.bytesLess, List.cons.injEq, ne_eq]
    by_cases h : a = b
    · subst h
      have hl : decide (a < a) = false := by simp
      simp only [hl, Bool.false_or, beq_self_eq_true, Bool.true_and, true_and]
      exact ih
    · have h1 : (a == b) = false := by simpa using h
      have h2 : (b == a) = false := by simpa using fun e : b = a => h e.symm
      simp only [h1, h2, h, Bool.false_and, Bool.or_false, false_and, not_false_eq_true, true_and, false_or]
      rcases Nat.lt_trichotomy a.toNat b.toNat with hl | hl | hl
      · left; simp [UInt8.lt_iff_toNat_lt]; omega
      · exact absurd (UInt8.toNat_inj.1 hl) h
      · right; simp [UInt8.lt_iff_toNat_lt]; omega
theorem bytesLess_trans : ∀ a b c : List UInt8, Op.bytesLess a b = true → Op.bytesLess b c = true → Op.bytesLess a c = true
  | _, [], _, h, _ => by simp [Op.bytesLess] at h
  | _, _ :: _, [], _, h => by simp [Op.bytesLess] at h
  | [], _ :: _, _ :: _, _, _ => rfl
  | a :: x, b :: y, c :: z, h1, h2 => by
    have ih := bytesLess_trans x y z
    simp only [Op.bytesLess, Bool.or_eq_true, decide_eq_true_eq, Bool.and_eq_true, beq_iff_eq, UInt8.lt_iff_toNat_lt] at h1 h2 ⊢
    rcases h1 with h1 | ⟨e1, h1⟩ <;> rcases h2 with h2 | ⟨e2, h2⟩
    · left; omega
    · left; subst e2; exact h1
    · left; subst e1; exact h2
    · right; exact ⟨e1.trans e2, ih h1 h2⟩
/-- 'above', in so many words -/
def Ab (a b : C) : Prop := b.t < a.t ∨ (a.t = b.t ∧ (b.r < a.r ∨ (a.r = b.r ∧ ((a.g = true ∧ b.g = false) ∨ (a.g = b.g ∧ (Op.bytesLess b.v.toList a.v.toList = true ∨ (a.v.toList = b.v.toList ∧ b.l < a.l)))))))
theorem above_iff (a b : C) : above a b = true ↔ Ab a b := by
  unfold above Ab
  by_cases h1 : a.t = b.t
  · by_cases h2 : a.r = b.r
    · by_cases h4 : a.g = b.g
      · have key : ∀ x y : Int, (x = y → cmpI x y = 0) ∧ (x < y → cmpI x y = -1) ∧ (y < x → cmpI x y = 1) := by
          intro x y; unfold cmpI; refine ⟨?_, ?_, ?_⟩ <;> intro h <;> (repeat' split) <;> omega
        rcases bytesLess_tri a.v.toList b.v.toList with ⟨e, l1, l2⟩ | ⟨e, l1, l2⟩ | ⟨e, l1, l2⟩
        · have s1 : cmpS a.v b.v = 0 := by unfold cmpS; rw [l1, e]; simp
          rcases (by omega : a.l = b.l ∨ a.l < b.l ∨ b.l < a.l) with h5 | h5 | h5
          · simp [h1, h2, h4, h5, s1, or2, l2, (key b.l b.l).1 rfl]
          · simp [h1, h2, h4, s1, or2, l2, (key a.l b.l).2.1 h5]; omega
          · simp [h1, h2, h4, s1, or2, l2, (key a.l b.l).2.2 h5]; exact ⟨e, h5⟩
        · have s1 : cmpS a.v b.v = -1 := by unfold cmpS; rw [l1]; simp
          simp [h1, h2, h4, s1, or2, l2, e]
        · have s1 : cmpS a.v b.v = 1 := by unfold cmpS; rw [l1]; simp [e]
          simp [h1, h2, h4, s1, or2, l2]
      · simp only [h1, h2, h4, and_self, if_true, if_false, false_and, or_false, Int.lt_irrefl, false_or, true_and]
        revert h4; cases a.g <;> cases b.g <;> simp
    · have h2' : ¬ b.r = a.r := fun e => h2 e.symm
      simp [h1, h2, lessS]
  · have h1' : ¬ b.t = a.t := fun e => h1 e.symm
    simp [h1, h1', lessS]
theorem above_trans {a b c : C} (h1 : above a b = true) (h2 : above b c = true) : above a c = true := by
  rw [above_iff] at *
  unfold Ab at *
  rcases h1 with h1 | ⟨e1, h1⟩
  · rcases h2 with h2 | ⟨e2, _⟩ <;> (left; omega)
  · rcases h2 with h2 | ⟨e2, h2⟩
    · left; omega
    · right; refine ⟨e1.trans e2, ?_⟩
      rcases h1 with h1 | ⟨f1, h1⟩
      · rcases h2 with h2 | ⟨f2, _⟩ <;> (left; omega)
      · rcases h2 with h2 | ⟨f2, h2⟩
        · left; omega
        · right; refine ⟨f1.trans f2, ?_⟩
          rcases h1 with ⟨g1, g2⟩ | ⟨g1, h1⟩
          · rcases h2 with ⟨g3, _⟩ | ⟨g3, _⟩
            · rw [g2] at g3; cases g3
            · left; exact ⟨g1, g3 ▸ g2⟩
          · rcases h2 with ⟨g3, g4⟩ | ⟨g3, h2⟩
            · left; exact ⟨g1.trans g3, g4⟩
            · right; refine ⟨g1.trans g3, ?_⟩
              rcases h1 with h1 | ⟨e3, h1⟩
              · rcases h2 with h2 | ⟨e4, h2⟩
                · left; exact bytesLess_trans _ _ _ h2 h1
                · left; rw [← e4]; exact h1
              · rcases h2 with h2 | ⟨e4, h2⟩
                · left; rw [e3]; exact h2
                · right; exact ⟨e3.trans e4, by omega⟩
theorem C.ext' {a b : C} (h1 : a.t = b.t) (h2 : a.r = b.r) (h3 : a.v.toList = b.v.toList) (h4 : a.g = b.g) (h5 : a.l = b.l) : a = b := by
  obtain ⟨t, r, v, g, l⟩ := a
  obtain ⟨t', r', v', g', l'⟩ := b
  dsimp only at *
  have : v = v' := Go.WideShapes.bytes_inj (by rw [← ByteArray.toList_eq, ← ByteArray.toList_eq]; exact h3)
  subst h1 h2 this h4 h5
  rfl
/-- Just one of two unlike cells is above the other. -/
theorem above_total (a b : C) : a = b ∨ above a b = true ∨ above b a = true := by
  rw [above_iff, above_iff]
  unfold Ab
  rcases (by omega : a.t = b.t ∨ a.t < b.t ∨ b.t < a.t) with h1 | h1 | h1
  · rcases (by omega : a.r = b.r ∨ a.r < b.r ∨ b.r < a.r) with h2 | h2 | h2
    · by_cases h4 : a.g = b.g
      · rcases bytesLess_tri a.v.toList b.v.toList with ⟨e, _, _⟩ | ⟨_, l1, _⟩ | ⟨_, _, l2⟩
        · rcases (by omega : a.l = b.l ∨ a.l < b.l ∨ b.l < a.l) with h5 | h5 | h5
          · left; exact C.ext' h1 h2 e h4 h5
          · right; right; right; exact ⟨h1.symm, .inr ⟨h2.symm, .inr ⟨h4.symm, .inr ⟨e.symm, h5⟩⟩⟩⟩
          · right; left; right; exact ⟨h1, .inr ⟨h2, .inr ⟨h4, .inr ⟨e, h5⟩⟩⟩⟩
        · right; right; right; exact ⟨h1.symm, .inr ⟨h2.symm, .inr ⟨h4.symm, .inl l1⟩⟩⟩
        · right; left; right; exact ⟨h1, .inr ⟨h2, .inr ⟨h4, .inl l2⟩⟩⟩
      · right
        cases ha : a.g with
        | true => left; right; exact ⟨h1, .inr ⟨h2, .inl ⟨rfl, by cases hb : b.g with | true => rw [ha, hb] at h4; exact absurd rfl h4 | false => rfl⟩⟩⟩
        | false => right; right; exact ⟨h1.symm, .inr ⟨h2.symm, .inl ⟨by cases hb : b.g with | true => rfl | false => rw [ha, hb] at h4; exact absurd rfl h4, rfl⟩⟩⟩
    · right; right; right; exact ⟨h1.symm, .inl h2⟩
    · right; left; right; exact ⟨h1, .inl h2⟩
  · right; right; left; exact h1
  · right; left; left; exact h1
theorem above_irrefl (a : C) : above a a = false := by
  rw [Bool.eq_false_iff, ne_eq, above_iff]
  unfold Ab
  have := bytesLess_irrefl a.v.toList
  rintro (h | ⟨_, h | ⟨_, ⟨h1, h2⟩ | ⟨_, h | ⟨_, h⟩⟩⟩⟩)
  · omega
  · omega
  · rw [h1] at h2; cases h2
  · rw [this] at h; cases h
  · omega
/-- The one that none is above. -/
def Max (m : C) (l : List C) : Prop := m ∈ l ∧ ∀ x ∈ l, above x m = false
theorem Max.unique {m m' : C} {l l' : List C} (h : Max m l) (h' : Max m' l') (hs : ∀ x, x ∈ l ↔ x ∈ l') : m = m' := by
  rcases above_total m m' with h1 | h1 | h1
  · exact h1
  · rw [h'.2 m ((hs m).1 h.1)] at h1; cases h1
  · rw [h.2 m' ((hs m').2 h'.1)] at h1; cases h1
theorem mg_max (cs : List C) : ∀ n, 0 < n → n ≤ cs.length → Max (mg cs n) (cs.take n)
  | 0, h, _ => absurd h (by omega)
  | n + 1, _, hn => by
    have hg : cs.getD n zeroC = cs[n] := by rw [List.getD_eq_getElem?_getD, List.getElem?_eq_getElem (by omega)]; rfl
    have hmg : mg cs (n + 1) = if n = 0 ∨ above cs[n] (mg cs n) = true then cs[n] else mg cs n := by
      show (if n = 0 ∨ above (cs.getD n zeroC) (mg cs n) = true then cs.getD n zeroC else mg cs n) = _
      rw [hg]
    rw [hmg, List.take_succ_eq_append_getElem (by omega)]
    rcases Nat.eq_zero_or_pos n with h0 | h0
    · subst h0
      simp only [true_or, if_true, List.take_zero, List.nil_append]
      exact ⟨by simp, by intro x hx; simp at hx; subst hx; exact above_irrefl _⟩
    · obtain ⟨m1, m2⟩ := mg_max cs n h0 (by omega)
      by_cases hab : above cs[n] (mg cs n) = true
      · rw [if_pos (.inr hab)]
        refine ⟨List.mem_append.2 (.inr (List.mem_singleton.2 rfl)), fun x hx => ?_⟩
        rcases List.mem_append.1 hx with hx | hx
        · rw [Bool.eq_false_iff]; intro h
          have := above_trans h hab
          rw [m2 x hx] at this; cases this
        · simp at hx; subst hx; exact above_irrefl _
      · rw [if_neg (by rintro (h | h); omega; exact hab h)]
        refine ⟨List.mem_append.2 (.inl m1), fun x hx => ?_⟩
        rcases List.mem_append.1 hx with hx | hx
        · exact m2 x hx
        · simp at hx; subst hx; simpa using hab
def mergeL (cs : List C) : C := mg cs cs.length
theorem mergeL_max (cs : List C) (h : cs ≠ []) : Max (mergeL cs) cs := by
  have := mg_max cs cs.length (List.length_pos_iff.2 h) (Nat.le_refl _)
  rwa [List.take_length] at this
theorem mergeL_eq {a b : List C} (ha : a ≠ []) (hs : ∀ x, x ∈ a ↔ x ∈ b) : mergeL a = mergeL b := by
  have hb : b ≠ [] := by
    rintro rfl
    obtain ⟨x, hx⟩ := List.exists_mem_of_ne_nil a ha
    exact absurd ((hs x).1 hx) (by simp)
  exact (mergeL_max a ha).unique (mergeL_max b hb) hs
/-- the reference's way -/
def rmFrom (cs : List C) : List C → C
  | [] => zeroC
  | c :: r => if cs.all (fun x => !above x c) then c else rmFrom cs r
theorem rmFrom_max (cs : List C) : ∀ l : List C, (∃ c ∈ l, Max c cs) → (∀ c ∈ l, c ∈ cs) → Max (rmFrom cs l) cs
  | [], h, _ => by obtain ⟨_, h, _⟩ := h; cases h
  | c :: r, h, hm => by
    unfold rmFrom
    by_cases hc : cs.all (fun x => !above x c) = true
    · rw [if_pos hc]
      exact ⟨hm c (by simp), fun x hx => by simpa using List.all_eq_true.1 hc x hx⟩
    · rw [if_neg hc]
      refine rmFrom_max cs r ?_ (fun x hx => hm x (by simp [hx]))
      obtain ⟨d, hd, hmax⟩ := h
      rcases List.mem_cons.1 hd with rfl | hd
      · exact absurd (List.all_eq_true.2 fun x hx => by simp [hmax.2 x hx]) hc
      · exact ⟨d, hd, hmax⟩
theorem ref_eq (cs : List C) : rmFrom cs cs = mergeL cs := by
  by_cases h : cs = []
  · subst h; rfl
  · have hm := mergeL_max cs h
    exact (rmFrom_max cs cs ⟨_, hm.1, hm⟩ (fun _ h => h)).unique hm (fun _ => Iff.rfl)
end Go.Proofs.YtgfamdakjcjdkaaDoor.law
