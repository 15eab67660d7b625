/- A store that isn't there: what its methods answer. -/
import Derived.Test.YtfcgffemdcfiiaaGreatDoorRowsS
namespace Go.Proofs.YtfcgffemdcfiiaaGreatDoor.store
open Go Go.RowKit Go.Proofs.YtfcgffemdcfiiaaGreatDoor.base Go.Proofs.YtfcgffemdcfiiaaGreatDoor.err Go.Proofs.YtfcgffemdcfiiaaGreatDoor.cmp Go.Proofs.YtfcgffemdcfiiaaGreatDoor.above Go.Proofs.YtfcgffemdcfiiaaGreatDoor.law Go.Proofs.YtfcgffemdcfiiaaGreatDoor.merge Go.Proofs.YtfcgffemdcfiiaaGreatDoor.rows Go.Proofs.YtfcgffemdcfiiaaGreatDoor.rowe

theorem head_nil (s : ByteArray) (w : World) : Calls Tryz.prog 30 #[.pointer none, .string s] w fun e w' => e = .returned (cval zeroC) ∧ Below w.heap.size w w' := by
  go_enter Tryz.func30, Tryz.ntmps30
  go_wp2
  exact bodyPost_ret (v := cval zeroC) (by simp [results, Tryz.results30, go_sem, cval, zeroC]) rfl ⟨rfl, below_new _ _⟩
def GetNil (w : World) (e : Ending) (w' : World) : Prop := ∃ er, e = .returned (.tuple #[.string ⟨#[]⟩, er]) ∧ EO w' er 1 ∧ Below w.heap.size w w'
theorem keys_nil (s : ByteArray) (w : World) : Calls Tryz.prog 28 #[.pointer none, .string s] w fun e w' => e = .returned (.slice none 0 0) ∧ w = w' := by
  go_enter Tryz.func28, Tryz.ntmps28
  go_wp2_with fail
  refine (rows_nil w).mono ?_
  rintro e w1 ⟨rfl, rfl⟩
  go_wp2_with fail
  refine wp_loop_rounds 1 ?_
  rw [rounds_succ]
  go_wp2
  go_ret
  exact ⟨rfl, rfl⟩
theorem lives_nil (w : World) : Calls Tryz.prog 25 #[.pointer none] w fun e w' => e = .returned (.slice none 0 0) ∧ w = w' := by
  go_enter Tryz.func25, Tryz.ntmps25
  go_wp2_with fail
  refine (rows_nil w).mono ?_
  rintro e w1 ⟨rfl, rfl⟩
  go_wp2_with fail
  refine wp_loop_rounds 1 ?_
  rw [rounds_succ]
  go_wp2
  go_ret
  exact ⟨rfl, rfl⟩
end Go.Proofs.YtfcgffemdcfiiaaGreatDoor.store
