/- A store that isn't there: what its methods answer. -/
import Derived.Test.YtfcgffemdcfiiaaDoorRowsS
namespace Go.Proofs.YtfcgffemdcfiiaaDoor.store
open Go Go.RowKit Go.Proofs.YtfcgffemdcfiiaaDoor.base Go.Proofs.YtfcgffemdcfiiaaDoor.err Go.Proofs.YtfcgffemdcfiiaaDoor.cmp Go.Proofs.YtfcgffemdcfiiaaDoor.above Go.Proofs.YtfcgffemdcfiiaaDoor.law Go.Proofs.YtfcgffemdcfiiaaDoor.merge Go.Proofs.YtfcgffemdcfiiaaDoor.rows Go.Proofs.YtfcgffemdcfiiaaDoor.rowe

theorem head_nil (s : ByteArray) (w : World) : Calls Tryd.prog 32 #[.pointer none, .string s] w fun e w' => e = .returned (cval zeroC) ∧ Below w.heap.size w w' := by
  go_enter Tryd.func32, Tryd.ntmps32
  go_wp2
  exact bodyPost_ret (v := cval zeroC) (by simp [results, Tryd.results32, go_sem, cval, zeroC]) rfl ⟨rfl, below_new _ _⟩
def GetNil (w : World) (e : Ending) (w' : World) : Prop := ∃ er, e = .returned (.tuple #[.string ⟨#[]⟩, er]) ∧ EO w' er 1 ∧ Below w.heap.size w w'
theorem keys_nil (s : ByteArray) (w : World) : Calls Tryd.prog 20 #[.pointer none, .string s] w fun e w' => e = .returned (.slice none 0 0) ∧ w = w' := by
  go_enter Tryd.func20, Tryd.ntmps20
  go_wp2_with fail
  refine (rows_nil w).mono ?_
  rintro e w1 ⟨rfl, rfl⟩
  go_wp2_with fail
  refine wp_loop_rounds 1 ?_
  rw [rounds_succ]
  go_wp2
  go_ret
  exact ⟨rfl, rfl⟩
theorem lives_nil (w : World) : Calls Tryd.prog 30 #[.pointer none] w fun e w' => e = .returned (.slice none 0 0) ∧ w = w' := by
  go_enter Tryd.func30, Tryd.ntmps30
  go_wp2_with fail
  refine (rows_nil w).mono ?_
  rintro e w1 ⟨rfl, rfl⟩
  go_wp2_with fail
  refine wp_loop_rounds 1 ?_
  rw [rounds_succ]
  go_wp2
  go_ret
  exact ⟨rfl, rfl⟩
end Go.Proofs.YtfcgffemdcfiiaaDoor.store
