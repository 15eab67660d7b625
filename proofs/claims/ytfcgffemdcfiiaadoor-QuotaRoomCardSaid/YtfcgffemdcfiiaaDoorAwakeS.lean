/- The laws' own awake; a store that isn't there. -/
import Derived.Test.YtfcgffemdcfiiaaDoorApplyS
namespace Go.Proofs.YtfcgffemdcfiiaaDoor.store
open Go Go.RowKit Go.Proofs.YtfcgffemdcfiiaaDoor.base Go.Proofs.YtfcgffemdcfiiaaDoor.map_ Go.Proofs.YtfcgffemdcfiiaaDoor.err Go.Proofs.YtfcgffemdcfiiaaDoor.cmp Go.Proofs.YtfcgffemdcfiiaaDoor.above Go.Proofs.YtfcgffemdcfiiaaDoor.law Go.Proofs.YtfcgffemdcfiiaaDoor.merge Go.Proofs.YtfcgffemdcfiiaaDoor.rows Go.Proofs.YtfcgffemdcfiiaaDoor.rowe Go.Maps Go.Proofs.YtfcgffemdcfiiaaDoor.monoj

/-! ### the example's rows -/
def s11 : ByteArray := ⟨#[49, 45, 49]⟩
def kA : ByteArray := ⟨#[97]⟩
def k0 : ByteArray := ⟨#[]⟩
def c1 : C := ⟨1, 1, ⟨#[97, 110, 110]⟩, false, 0⟩
def c2 : C := ⟨2, 1, ⟨#[120]⟩, false, 0⟩
def c3 : C := ⟨3, 1, ⟨#[]⟩, true, 0⟩
def L1 : List R := takeL [] (s11, k0) c1
def L2 : List R := takeL L1 (s11, kA) c2
def L3 : List R := takeL L2 (s11, k0) c3
theorem up1 : Rising L1 := rising_take rising_nil _ _
theorem up2 : Rising L2 := rising_take up1 _ _
theorem up3 : Rising L3 := rising_take up2 _ _
theorem k_ne : (s11, kA) ≠ (s11, k0) := by decide
theorem g1 (y : Nm) : getL L1 y = if y = (s11, k0) then some c1 else none := by
  unfold L1; rw [getL_take rising_nil]; rfl
theorem g2 (y : Nm) : getL L2 y = if y = (s11, kA) then some c2 else if y = (s11, k0) then some c1 else none := by
  unfold L2
  rw [getL_take up1, g1, g1, if_neg k_ne]; rfl
theorem g3 (y : Nm) : getL L3 y = if y = (s11, k0) then some c3 else if y = (s11, kA) then some c2 else none := by
  unfold L3
  rw [getL_take up2, g2, g2, if_neg (Ne.symm k_ne), if_pos rfl]
  have : takeC (some c1) c3 = c3 := by show (if above c3 c1 = true then c3 else c1) = c3; exact if_pos (by decide)
  rw [this]
  by_cases h : y = (s11, k0)
  · rw [if_pos h, if_pos h]
  · rw [if_neg h, if_neg h, if_neg h]
theorem a2h : atL L2 (s11, ⟨#[]⟩) = c1 := by show (getL L2 (s11, k0)).getD zeroC = c1; rw [g2, if_neg (Ne.symm k_ne), if_pos rfl]; rfl
theorem a2a : atL L2 (s11, kA) = c2 := by unfold atL; rw [g2, if_pos rfl]; rfl
theorem a3h : atL L3 (s11, ⟨#[]⟩) = c3 := by show (getL L3 (s11, k0)).getD zeroC = c3; rw [g3, if_pos rfl]; rfl
theorem a3a : atL L3 (s11, kA) = c2 := by unfold atL; rw [g3, if_neg k_ne, if_pos rfl]; rfl
theorem kA_empty : kA.toList.isEmpty = false := by rw [ByteArray.toList_eq]; rfl
theorem get2 : getC kA c1 c2 = 0 := by unfold getC; rw [kA_empty]; decide
theorem get3 : getC kA c3 c2 = 14 := by unfold getC; rw [kA_empty]; decide
end Go.Proofs.YtfcgffemdcfiiaaDoor.store
