/- Rising lists of users and their epochs: the plain law; how a map reads as one. -/
import Derived.Test.YtojmnkcncjconaaBase
import Derived.Test.YtojmnkcncjconaaRows
import Derived.Maps.Own
import Derived.Maps.OwnOps
import Derived.Maps.OwnSet
import Derived.Maps.Views
import Derived.Maps.Keyed
import Derived.StringKeys
namespace Go.Proofs.Ytojmnkcncjconaa.list
open Go.RowKit Go.Proofs.Ytojmnkcncjconaa.base Go.Maps Go.ChangeMaps

/-- below, as Go has it for strings -/
def bl (a b : ByteArray) : Bool := Op.bytesLess a.toList b.toList
theorem before_eq : ∀ a b : List UInt8, bytesBefore a b = Op.bytesLess a b
  | [], [] => rfl
  | [], _ :: _ => rfl
  | _ :: _, [] => rfl
  | a :: x, b :: y => by simp only [bytesBefore, Op.bytesLess, before_eq x y]
theorem less_tri : ∀ a b : List UInt8, (a = b ∧ Op.bytesLess a b = false ∧ Op.bytesLess b a = false) ∨ (a ≠ b ∧ Op.bytesLess a b = true ∧ Op.bytesLess b a = false) ∨ (a ≠ b ∧ Op.bytesLess a b = false ∧ Op.bytesLess b a = true)
  | [], [] => .inl ⟨rfl, rfl, rfl⟩
  | [], b :: y => .inr (.inl ⟨by simp, rfl, rfl⟩)
  | a :: x, [] => .inr (.inr ⟨by simp, rfl, rfl⟩)
  | a :: x, b :: y => by
    have ih := less_tri x y
    simp only [Op.bytesLess, List.cons.injEq, ne_eq]
    by_cases h : a = b
    · subst h
      have hl : decide (a < a) = false := by simp
      simp only [hl, Bool.false_or, beq_self_eq_true, Bool.true_and, true_and]
      exact ih
    · have h1 : (a == b) = false := by simpa using h
      have h2 : (b == a) = false := by simpa using fun e : b = a => h e.symm
      simp only [h1, h2, h, Bool.false_and, Bool.or_false, false_and, not_false_eq_true, true_and, false_or]
      rcases Nat.lt_trichotomy a.toNat b.toNat with hl | hl | hl
      · left; simp [UInt8.lt_iff_toNat_lt]; omega
      · exact absurd (UInt8.toNat_inj.1 hl) h
      · right; simp [UInt8.lt_iff_toNat_lt]; omega
theorem less_trans : ∀ a b c : List UInt8, Op.bytesLess a b = true → Op.bytesLess b c = true → Op.bytesLess a c = true
  | _, [], _, h, _ => by simp [Op.bytesLess] at h
  | _, _ :: _, [], _, h => by simp [Op.bytesLess] at h
  | [], _ :: _, _ :: _, _, _ => rfl
  | a :: x, b :: y, c :: z, h, h' => by
    simp only [Op.bytesLess, Bool.or_eq_true, Bool.and_eq_true, decide_eq_true_eq, beq_iff_eq, UInt8.lt_iff_toNat_lt] at h h' ⊢
    rcases h with h | ⟨rfl, h⟩
    · rcases h' with h' | ⟨rfl, h'⟩
      · left; omega
      · left; exact h
    · rcases h' with h' | ⟨rfl, h'⟩
      · left; exact h'
      · right; exact ⟨rfl, less_trans x y z h h'⟩
theorem bl_tri (a b : ByteArray) : (a = b ∧ bl a b = false ∧ bl b a = false) ∨ (a ≠ b ∧ bl a b = true ∧ bl b a = false) ∨ (a ≠ b ∧ bl a b = false ∧ bl b a = true) := by
  have h := less_tri a.toList b.toList
  have e : a.toList = b.toList ↔ a = b := by
    rw [ByteArray.toList_eq, ByteArray.toList_eq]
    constructor
    · intro h; obtain ⟨⟨x⟩⟩ := a; obtain ⟨⟨y⟩⟩ := b; simp at h; simp [h]
    · rintro rfl; rfl
  simp only [ne_eq, e] at h
  exact h
theorem bl_trans {a b c : ByteArray} (h : bl a b = true) (h' : bl b c = true) : bl a c = true := less_trans _ _ _ h h'
theorem bl_irr (a : ByteArray) : bl a a = false := by rcases bl_tri a a with h | h | h <;> simp_all
theorem bl_asym {a b : ByteArray} (h : bl a b = true) : bl b a = false := by
  rcases bl_tri a b with h' | h' | h'
  · exact h'.2.2
  · exact h'.2.2
  · rw [h] at h'; cases h'.2.1
/-- alike, as Go has it for strings -/
def eqb (a b : ByteArray) : Bool := a.toList == b.toList
theorem eqb_iff {a b : ByteArray} : eqb a b = true ↔ a = b := by
  unfold eqb
  rw [beq_iff_eq, ByteArray.toList_eq, ByteArray.toList_eq]
  constructor
  · intro h; obtain ⟨⟨x⟩⟩ := a; obtain ⟨⟨y⟩⟩ := b; simp at h; simp [h]
  · rintro rfl; rfl
theorem eqb_self (a : ByteArray) : eqb a a = true := eqb_iff.2 rfl
theorem eqb_false {a b : ByteArray} (h : a ≠ b) : eqb a b = false := by rw [Bool.eq_false_iff]; exact fun e => h (eqb_iff.1 e)
theorem eq_data (a b : ByteArray) : (a.data.toList == b.data.toList) = eqb a b := by unfold eqb; rw [ByteArray.toList_eq, ByteArray.toList_eq]
structure Ep where
  u : ByteArray
  n : Int
def ep (e : Ep) : List Value := [.string e.u, .int .i64 e.n]
theorem ep_len (e : Ep) : (ep e).length = 2 := rfl
def ent (e : Ep) : Lit × DataW Unit := (.string e.u.data.toList, .lit (.int .i64 e.n))
def dm (L : List Ep) : DataW Unit := .map (L.map ent)
def getL : List Ep → ByteArray → Int
  | [], _ => 0
  | e :: L, u => if eqb e.u u then e.n else getL L u
def putL : List Ep → ByteArray → Int → List Ep
  | [], u, n => [⟨u, n⟩]
  | e :: L, u, n => if bl u e.u then ⟨u, n⟩ :: e :: L else if eqb u e.u then ⟨u, n⟩ :: L else e :: putL L u n
def Rising : List Ep → Prop
  | [] => True
  | e :: L => (∀ f ∈ L, bl e.u f.u = true) ∧ Rising L
theorem at_dm (L : List Ep) (u : ByteArray) : (dm L).atKey (.string u.data.toList) (.lit (.int .i64 0)) = .lit (.int .i64 (getL L u)) := by
  unfold dm
  simp only [DataW.atKey]
  induction L with
  | nil => rfl
  | cons e L ih =>
    simp only [List.map_cons, List.find?_cons, getL]
    have : (ent e).1.sameKey (.string u.data.toList) = eqb e.u u := by simp only [ent, Lit.sameKey]; exact eq_data _ _
    rw [this]
    cases eqb e.u u
    · exact ih
    · rfl
theorem size_dm (L : List Ep) : Maps.size (dm L) = L.length := by simp [dm, Maps.size]
theorem put_dm (L : List Ep) (h : Rising L) (u : ByteArray) (n : Int) : (dm L).put (.string u.data.toList) (.lit (.int .i64 n)) = dm (putL L u n) := by
  unfold dm
  simp only [DataW.put]
  congr 1
  induction L with
  | nil => rfl
  | cons e L ih =>
    obtain ⟨h1, h2⟩ := h
    have hb : (Lit.string u.data.toList).before (ent e).1 = bl u e.u := by
      simp only [ent, Lit.before, before_eq, bl, ByteArray.toList_eq]
    have hs : (ent e).1.sameKey (.string u.data.toList) = eqb e.u u := by simp only [ent, Lit.sameKey]; exact eq_data _ _
    have hrest : ∀ L' : List Ep, (∀ f ∈ L', bl u f.u = true) → DataW.insert (.string u.data.toList, .lit (.int .i64 n)) ((L'.map ent).filter fun p => !p.1.sameKey (.string u.data.toList)) = ent ⟨u, n⟩ :: L'.map ent := by
      intro L' hL
      have hf : ((L'.map ent).filter fun p => !p.1.sameKey (.string u.data.toList)) = L'.map ent := by
        refine List.filter_eq_self.2 fun p hp => ?_
        obtain ⟨f, hf, rfl⟩ := List.mem_map.1 hp
        have := hL f hf
        have hs : (ent f).1.sameKey (.string u.data.toList) = eqb f.u u := by simp only [ent, Lit.sameKey]; exact eq_data _ _
        rw [hs]
        rcases bl_tri u f.u with h | h | h
        · rw [h.2.1] at this; cases this
        · rw [eqb_false (fun e => h.1 e.symm)]; rfl
        · rw [h.2.1] at this; cases this
      rw [hf]
      cases L' with
      | nil => rfl
      | cons f L' =>
        simp only [List.map_cons, DataW.insert]
        have hb : (Lit.string u.data.toList).before (ent f).1 = bl u f.u := by
          simp only [ent, Lit.before, before_eq, bl, ByteArray.toList_eq]
        rw [hb, hL f (by simp)]
        rfl
    simp only [putL]
    rcases bl_tri u e.u with ⟨h, h3, h4⟩ | ⟨h, h3, h4⟩ | ⟨h, h3, h4⟩
    · subst h
      have := hrest L h1
      rw [h3]
      simp only [List.map_cons, List.filter_cons, hs, eqb_self, Bool.not_true, Bool.false_eq_true, if_false, if_true]
      exact this
    · have := hrest (e :: L) (fun f hf => by
        rcases List.mem_cons.1 hf with rfl | hf
        · exact h3
        · exact bl_trans h3 (h1 f hf))
      rw [h3]
      simp only [if_true, List.map_cons] at this ⊢
      exact this
    · have hne : eqb e.u u = false := eqb_false (fun e => h e.symm)
      have hne' : eqb u e.u = false := eqb_false h
      rw [h3, hne']
      simp only [Bool.false_eq_true, if_false, List.map_cons, List.filter_cons, hs, hne, Bool.not_false, if_true, DataW.insert, hb, h3]
      rw [ih h2]
theorem rising_put (L : List Ep) (u : ByteArray) (n : Int) : Rising L → Rising (putL L u n) ∧ ∀ f ∈ putL L u n, f.u = u ∨ f ∈ L := by
  induction L with
  | nil => intro _; simp [putL, Rising]
  | cons e L ih =>
    rintro ⟨h1, h2⟩
    obtain ⟨i1, i2⟩ := ih h2
    simp only [putL]
    rcases bl_tri u e.u with ⟨h, h3, h4⟩ | ⟨h, h3, h4⟩ | ⟨h, h3, h4⟩
    · subst h
      simp only [h3, Bool.false_eq_true, if_false, eqb_self, if_true]
      exact ⟨⟨h1, h2⟩, fun f hf => by rcases List.mem_cons.1 hf with rfl | hf <;> simp_all⟩
    · simp only [h3, if_true]
      refine ⟨⟨fun f hf => ?_, h1, h2⟩, fun f hf => by rcases List.mem_cons.1 hf with rfl | hf <;> simp_all⟩
      rcases List.mem_cons.1 hf with rfl | hf
      · exact h3
      · exact bl_trans h3 (h1 f hf)
    · have hne' : eqb u e.u = false := eqb_false h
      simp only [h3, hne', Bool.false_eq_true, if_false]
      refine ⟨⟨fun f hf => ?_, i1⟩, fun f hf => ?_⟩
      · rcases i2 f hf with rfl | hf
        · exact h4
        · exact h1 f hf
      · rcases List.mem_cons.1 hf with rfl | hf
        · simp
        · rcases i2 f hf with h | h <;> simp_all
theorem mem_put (L : List Ep) (u : ByteArray) (n : Int) : ∀ f ∈ putL L u n, f = ⟨u, n⟩ ∨ f ∈ L := by
  induction L with
  | nil => intro f hf; simp [putL] at hf; exact .inl hf
  | cons e L ih =>
    intro f hf
    simp only [putL] at hf
    split at hf
    · rcases List.mem_cons.1 hf with rfl | hf
      · exact .inl rfl
      · exact .inr hf
    · split at hf
      · rcases List.mem_cons.1 hf with rfl | hf
        · exact .inl rfl
        · exact .inr (by simp [hf])
      · rcases List.mem_cons.1 hf with rfl | hf
        · exact .inr (by simp)
        · rcases ih f hf with h | h
          · exact .inl h
          · exact .inr (by simp [h])
end Go.Proofs.Ytojmnkcncjconaa.list
