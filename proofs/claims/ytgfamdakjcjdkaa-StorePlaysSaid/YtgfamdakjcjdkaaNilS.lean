/- A store that isn't there: what its methods answer. -/
import Derived.Test.YtgfamdakjcjdkaaRowsS
namespace Go.Proofs.Ytgfamdakjcjdkaa.store
open Go Go.RowKit Go.Proofs.Ytgfamdakjcjdkaa.base Go.Proofs.Ytgfamdakjcjdkaa.err Go.Proofs.Ytgfamdakjcjdkaa.cmp Go.Proofs.Ytgfamdakjcjdkaa.above Go.Proofs.Ytgfamdakjcjdkaa.law Go.Proofs.Ytgfamdakjcjdkaa.merge Go.Proofs.Ytgfamdakjcjdkaa.rows Go.Proofs.Ytgfamdakjcjdkaa.rowe

theorem head_nil (s : ByteArray) (w : World) : Calls Try.prog 19 #[.pointer none, .string s] w fun e w' => e = .returned (cval zeroC) ∧ Below w.heap.size w w' := by
  go_enter Try.func19, Try.ntmps19
  go_wp2
  exact bodyPost_ret (v := cval zeroC) (by simp [results, Try.results19, go_sem, cval, zeroC]) rfl ⟨rfl, below_new _ _⟩
def GetNil (w : World) (e : Ending) (w' : World) : Prop := ∃ er, e = .returned (.tuple #[.string ⟨#[]⟩, er]) ∧ EO w' er 1 ∧ Below w.heap.size w w'
theorem get_nil (s k : ByteArray) (w : World) : Calls Try.prog 20 #[.pointer none, .string s, .string k] w (GetNil w) := by
  go_enter Try.func20, Try.ntmps20
  go_wp2_with fail
  refine (bad_any _ _ _).mono ?_
  rintro e w1 ⟨v, rfl, h1, h2, h3, _⟩
  obtain ⟨ge, rfl⟩ := h1.form
  have HR := Lib.hid (show GetNil w (.returned (.tuple #[.string ⟨#[]⟩, .iface 134 (.pointer (some ⟨ge, 0, none⟩))])) w1 from ⟨_, rfl, .inr ⟨by decide, h1, h2⟩, h3⟩)
  clear h1 h2 h3
  go_wp2
  exact bodyPost_ret (v := .tuple #[.string ⟨#[]⟩, .iface 134 (.pointer (some ⟨ge, 0, none⟩))]) (by simp [results, Try.results20, go_sem]) rfl HR.out
theorem keys_nil (s : ByteArray) (w : World) : Calls Try.prog 22 #[.pointer none, .string s] w fun e w' => e = .returned (.slice none 0 0) ∧ w = w' := by
  go_enter Try.func22, Try.ntmps22
  go_wp2_with fail
  refine (rows_nil w).mono ?_
  rintro e w1 ⟨rfl, rfl⟩
  go_wp2_with fail
  refine wp_loop_rounds 1 ?_
  rw [rounds_succ]
  go_wp2
  go_ret
  exact ⟨rfl, rfl⟩
theorem lives_nil (w : World) : Calls Try.prog 21 #[.pointer none] w fun e w' => e = .returned (.slice none 0 0) ∧ w = w' := by
  go_enter Try.func21, Try.ntmps21
  go_wp2_with fail
  refine (rows_nil w).mono ?_
  rintro e w1 ⟨rfl, rfl⟩
  go_wp2_with fail
  refine wp_loop_rounds 1 ?_
  rw [rounds_succ]
  go_wp2
  go_ret
  exact ⟨rfl, rfl⟩
theorem sweep_nil (n : Int) (w : World) : Calls Try.prog 17 #[.pointer none, .int .i64 n] w fun e w' => e = .returned (.int .i64 0) ∧ Below w.heap.size w w' := by
  have hb := below_new w (.cells #[.int .i64 n] 3)
  have Hb := Lib.hid hb
  clear hb
  go_enter Try.func17, Try.ntmps17
  go_wp2
  go_ret
  exact ⟨rfl, Hb.out⟩
theorem index_nil (f : Value) (w : World) : Calls Try.prog 55 #[.slice none 0 0, f] w fun e w' => e = .returned (.int .i64 (-1)) ∧ w = w' := by
  go_enter Try.func55, Try.ntmps55
  go_wp2_with fail
  refine wp_loop_rounds 1 ?_
  rw [rounds_succ]
  go_wp2
  go_ret
  exact ⟨rfl, rfl⟩
theorem delete_nil (f : Value) (w : World) : Calls Try.prog 35 #[.slice none 0 0, f] w fun e w' => e = .returned (.slice none 0 0) ∧ w = w' := by
  go_enter Try.func35, Try.ntmps35
  go_wp2_with fail
  refine (index_nil f w).mono ?_
  rintro e w1 ⟨rfl, rfl⟩
  go_wp2
  go_ret
  exact ⟨rfl, rfl⟩
theorem shows_nil (w : World) : Calls Try.prog 18 #[.pointer none] w fun e w' => e = .returned (.slice none 0 0) ∧ Below w.heap.size w w' := by
  have hb := below_new w (.cells #[.pointer none] 25)
  have Hb := Lib.hid hb
  clear hb
  go_enter Try.func18, Try.ntmps18
  go_wp2_with fail
  refine (rows_nil _).mono ?_
  rintro e w1 ⟨rfl, rfl⟩
  go_wp2_with fail
  refine (delete_nil _ _).mono ?_
  rintro e w2 ⟨rfl, rfl⟩
  go_wp2
  go_ret
  exact ⟨rfl, Hb.out⟩
end Go.Proofs.Ytgfamdakjcjdkaa.store
