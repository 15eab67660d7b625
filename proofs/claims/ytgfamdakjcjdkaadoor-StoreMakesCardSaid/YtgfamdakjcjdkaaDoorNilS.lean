/- A store that isn't there: what its methods answer. -/
import Derived.Test.YtgfamdakjcjdkaaDoorRowsS
namespace Go.Proofs.YtgfamdakjcjdkaaDoor.store
open Go Go.RowKit Go.Proofs.YtgfamdakjcjdkaaDoor.base Go.Proofs.YtgfamdakjcjdkaaDoor.err Go.Proofs.YtgfamdakjcjdkaaDoor.cmp Go.Proofs.YtgfamdakjcjdkaaDoor.above Go.Proofs.YtgfamdakjcjdkaaDoor.law Go.Proofs.YtgfamdakjcjdkaaDoor.merge Go.Proofs.YtgfamdakjcjdkaaDoor.rows Go.Proofs.YtgfamdakjcjdkaaDoor.rowe

theorem head_nil (s : ByteArray) (w : World) : Calls Tryd.prog 24 #[.pointer none, .string s] w fun e w' => e = .returned (cval zeroC) ∧ Below w.heap.size w w' := by
  go_enter Tryd.func24, Tryd.ntmps24
  go_wp2
  exact bodyPost_ret (v := cval zeroC) (by simp [results, Tryd.results24, go_sem, cval, zeroC]) rfl ⟨rfl, below_new _ _⟩
def GetNil (w : World) (e : Ending) (w' : World) : Prop := ∃ er, e = .returned (.tuple #[.string ⟨#[]⟩, er]) ∧ EO w' er 1 ∧ Below w.heap.size w w'
theorem get_nil (s k : ByteArray) (w : World) : Calls Tryd.prog 16 #[.pointer none, .string s, .string k] w (GetNil w) := by
  go_enter Tryd.func16, Tryd.ntmps16
  go_wp2_with fail
  refine (bad_any _ _ _).mono ?_
  rintro e w1 ⟨v, rfl, h1, h2, h3, _⟩
  obtain ⟨ge, rfl⟩ := h1.form
  have HR := Lib.hid (show GetNil w (.returned (.tuple #[.string ⟨#[]⟩, .iface 69 (.pointer (some ⟨ge, 0, none⟩))])) w1 from ⟨_, rfl, .inr ⟨by decide, h1, h2⟩, h3⟩)
  clear h1 h2 h3
  go_wp2
  exact bodyPost_ret (v := .tuple #[.string ⟨#[]⟩, .iface 69 (.pointer (some ⟨ge, 0, none⟩))]) (by simp [results, Tryd.results16, go_sem]) rfl HR.out
theorem keys_nil (s : ByteArray) (w : World) : Calls Tryd.prog 27 #[.pointer none, .string s] w fun e w' => e = .returned (.slice none 0 0) ∧ w = w' := by
  go_enter Tryd.func27, Tryd.ntmps27
  go_wp2_with fail
  refine (rows_nil w).mono ?_
  rintro e w1 ⟨rfl, rfl⟩
  go_wp2_with fail
  refine wp_loop_rounds 1 ?_
  rw [rounds_succ]
  go_wp2
  go_ret
  exact ⟨rfl, rfl⟩
theorem lives_nil (w : World) : Calls Tryd.prog 29 #[.pointer none] w fun e w' => e = .returned (.slice none 0 0) ∧ w = w' := by
  go_enter Tryd.func29, Tryd.ntmps29
  go_wp2_with fail
  refine (rows_nil w).mono ?_
  rintro e w1 ⟨rfl, rfl⟩
  go_wp2_with fail
  refine wp_loop_rounds 1 ?_
  rw [rounds_succ]
  go_wp2
  go_ret
  exact ⟨rfl, rfl⟩
theorem index_nil (f : Value) (w : World) : Calls Tryd.prog 59 #[.slice none 0 0, f] w fun e w' => e = .returned (.int .i64 (-1)) ∧ w = w' := by
  go_enter Tryd.func59, Tryd.ntmps59
  go_wp2_with fail
  refine wp_loop_rounds 1 ?_
  rw [rounds_succ]
  go_wp2
  go_ret
  exact ⟨rfl, rfl⟩
theorem delete_nil (f : Value) (w : World) : Calls Tryd.prog 50 #[.slice none 0 0, f] w fun e w' => e = .returned (.slice none 0 0) ∧ w = w' := by
  go_enter Tryd.func50, Tryd.ntmps50
  go_wp2_with fail
  refine (index_nil f w).mono ?_
  rintro e w1 ⟨rfl, rfl⟩
  go_wp2
  go_ret
  exact ⟨rfl, rfl⟩
theorem shows_nil (w : World) : Calls Tryd.prog 34 #[.pointer none] w fun e w' => e = .returned (.slice none 0 0) ∧ Below w.heap.size w w' := by
  have hb := below_new w (.cells #[.pointer none] 36)
  have Hb := Lib.hid hb
  clear hb
  go_enter Tryd.func34, Tryd.ntmps34
  go_wp2_with fail
  refine (rows_nil _).mono ?_
  rintro e w1 ⟨rfl, rfl⟩
  go_wp2_with fail
  refine (delete_nil _ _).mono ?_
  rintro e w2 ⟨rfl, rfl⟩
  go_wp2
  go_ret
  exact ⟨rfl, Hb.out⟩
end Go.Proofs.YtgfamdakjcjdkaaDoor.store
