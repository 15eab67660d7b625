/- The plain law of what fits: a session's keys stay few. -/
import Derived.Test.YtfcgffemdcfiiaaGreatDoorOpenP
namespace Go.Proofs.YtfcgffemdcfiiaaGreatDoor.quota
open Go Go.RowKit Go.Proofs.YtfcgffemdcfiiaaGreatDoor.base Go.Proofs.YtfcgffemdcfiiaaGreatDoor.dec Go.Proofs.YtfcgffemdcfiiaaGreatDoor.err Go.Proofs.YtfcgffemdcfiiaaGreatDoor.above Go.Proofs.YtfcgffemdcfiiaaGreatDoor.law Go.Proofs.YtfcgffemdcfiiaaGreatDoor.merge Go.Proofs.YtfcgffemdcfiiaaGreatDoor.rows Go.Proofs.YtfcgffemdcfiiaaGreatDoor.store

def fullB (L : List R) (s k : ByteArray) : Bool := decide (16 ≤ (keysL L s).length) && !(keysL L s).any (fun t => t.toList == k.toList)
/-- what is wrong with a key: an error's number, or 0 -/
def fitsC (L : List R) (s k : ByteArray) : Int :=
  if k.toList.isEmpty = true ∨ 32 < k.size then 1 else if visC (atL L (s, ⟨#[]⟩)) = false then 14 else if fullB L s k = true then 4 else 0
theorem any_key {l : List ByteArray} {k : ByteArray} : (l.any fun t => t.toList == k.toList) = true ↔ k ∈ l := by
  rw [List.any_eq_true]
  constructor
  · rintro ⟨t, h, e⟩
    rw [← ba_ext (eq_of_beq e)]; exact h
  · exact fun h => ⟨k, h, by simp⟩
theorem mem_keys {L : List R} (hr : Rising L) {s k : ByteArray} (h : k ∈ keysL L s) : k.toList.isEmpty = false ∧ ∃ d, getL L (s, k) = some d ∧ visC d = true := by
  unfold keysL at h
  obtain ⟨x, hx, rfl⟩ := List.mem_map.1 h
  obtain ⟨h1, h2⟩ := List.mem_filter.1 hx
  unfold keyB at h2
  simp only [Bool.and_eq_true, Bool.not_eq_true', beq_iff_eq] at h2
  obtain ⟨e, h3, h4⟩ := h2
  obtain ⟨⟨a, b⟩, c⟩ := x
  dsimp only at e h3 h4 ⊢
  obtain rfl := ba_ext e
  exact ⟨h3, c, getL_of hr h1, h4⟩
theorem keys_len (L : List R) (s : ByteArray) : (keysL L s).length = (L.filter (keyB s)).length := by unfold keysL; rw [List.length_map]
theorem keyB_own (s k : ByteArray) (hk : k.toList.isEmpty = false) (c : C) : keyB s ((s, k), c) = visC c := by
  unfold keyB
  dsimp only
  rw [hk]
  simp
structure KeepI (s : ByteArray) (n : Nat) (L : List R) : Prop where
  up : Rising L
  hd : visC (atL L (s, ⟨#[]⟩)) = true
  few : (keysL L s).length ≤ 16
  len : L.length ≤ n + 1
theorem KeepI.next {s : ByteArray} {n : Nat} {L : List R} (h : KeepI s n L) {k : ByteArray} (hk : k.toList.isEmpty = false) (c : C) (hf : c.g = true ∨ fitsC L s k = 0) : KeepI s (n + 1) (takeL L (s, k) c) := by
  refine ⟨rising_take h.up _ _, ?_, ?_, by have := length_take L (s, k) c; have := h.len; omega⟩
  · unfold atL
    rw [getL_take h.up, if_neg]
    · exact h.hd
    · intro e
      have := congrArg Prod.snd e
      dsimp only at this
      rw [← this, ByteArray.toList_eq] at hk
      cases hk
  · have h1 := cnt_put h.up (keyB s) (s, k) (takeC (getL L (s, k)) c)
    rw [keyB_own _ _ hk] at h1
    have h2 := h.few
    rw [keys_len] at h2 ⊢
    unfold takeL
    have hb := Bool.toNat_le (visC (takeC (getL L (s, k)) c))
    rcases hf with hg | hf
    · have hgn : visC c = false := by unfold visC; rw [hg]; simp
      unfold oldN at h1
      cases ho : getL L (s, k) with
      | none =>
        rw [ho] at h1
        have : takeC none c = c := rfl
        rw [this, hgn] at h1
        dsimp only at h1
        simp only [Bool.toNat_false] at h1
        rw [this]
        omega
      | some d =>
        rw [ho] at h1
        dsimp only at h1
        rw [keyB_own _ _ hk] at h1
        have : takeC (some d) c = if above c d = true then c else d := rfl
        by_cases ha : above c d = true
        · rw [this, if_pos ha, hgn] at h1
          rw [this, if_pos ha]
          simp only [Bool.toNat_false] at h1
          omega
        · rw [this, if_neg ha] at h1
          rw [this, if_neg ha]
          omega
    · have hfull : fullB L s k = false := by
        unfold fitsC at hf
        by_cases h3 : k.toList.isEmpty = true ∨ 32 < k.size
        · rw [if_pos h3] at hf; cases hf
        · rw [if_neg h3, if_neg (by rw [h.hd]; decide)] at hf
          by_cases h4 : fullB L s k = true
          · rw [if_pos h4] at hf; cases hf
          · simpa using h4
      unfold fullB at hfull
      by_cases h16 : 16 ≤ (keysL L s).length
      · rw [decide_eq_true h16, Bool.true_and, Bool.not_eq_false'] at hfull
        obtain ⟨_, d, hd, hv⟩ := mem_keys h.up (any_key.1 hfull)
        have : oldN (keyB s) L (s, k) = 1 := by
          unfold oldN
          rw [hd]
          dsimp only
          rw [keyB_own _ _ hk, hv]
          rfl
        omega
      · rw [keys_len] at h16
        omega
/-- what shows can be put anew -/
theorem KeepI.again {s : ByteArray} {n : Nat} {L : List R} (h : KeepI s n L) {k : ByteArray} (hk : k ∈ keysL L s) (hs : ¬ 32 < k.size) : fitsC L s k = 0 := by
  have h1 := (mem_keys h.up hk).1
  unfold fitsC
  rw [if_neg (by rw [h1]; simp; omega), if_neg (by rw [h.hd]; decide), if_neg]
  unfold fullB
  rw [any_key.2 hk]
  simp
end Go.Proofs.YtfcgffemdcfiiaaGreatDoor.quota
