/- slices.IndexFunc and slices.DeleteFunc of rows by the closure of Shows. -/
import Derived.Test.YtfcgffemdcfiiaaDoorLoopS
import Derived.Test.YtfcgffemdcfiiaaDoorRowOps
namespace Go.Proofs.YtfcgffemdcfiiaaDoor.store
open Go Go.RowKit Go.Proofs.YtfcgffemdcfiiaaDoor.base Go.Proofs.YtfcgffemdcfiiaaDoor.err Go.Proofs.YtfcgffemdcfiiaaDoor.above Go.Proofs.YtfcgffemdcfiiaaDoor.law Go.Proofs.YtfcgffemdcfiiaaDoor.merge Go.Proofs.YtfcgffemdcfiiaaDoor.rows Go.Proofs.YtfcgffemdcfiiaaDoor.rowe Go.Proofs.YtfcgffemdcfiiaaDoor.rowops

theorem wpList_clear_run {P : Program} (w : World) {ops : Array Oper} {rest : List Oper} {o : Oper} {a : Act} {Q : Exit → Act → World → Prop} (hgd : o.guard = none) (s : Operand) (t : TypeId)
    (ho : o.op = .call { callee := .builtin .clear, args := #[s], argTypes := #[t] }) (v : Value) (hs : a.eval s = v) {v' : Value} {w' : World}
    (hr : (Builtin.clear_ #[t] o.type #[v]).run P w = .ok v' w') (h : wpList P ops Q rest (a.put o.dst v') w') : wpList P ops Q (o :: rest) a w :=
  wpList_plain hgd fun _ hK => by
    unfold Oper.wp execOp
    simp only [ho, resolve, invoke, builtin, Sem.run_bind, Sem.run_pure, Result.andThen_ok, List.map_toArray, List.map_cons, List.map_nil, hs, hr]
    exact hK _ _ h
theorem row_zero (w : World) : (zeroValue 80).run Tryd.prog w = .ok (.agg #[.string ⟨#[]⟩, .string ⟨#[]⟩, .int .i64 0, .int .i64 0, .string ⟨#[]⟩, .bool false, .int .i64 0]) w := by kernel_rfl
def IndexR (L : List R) (P : R → Bool) (w : World) (e : Ending) (w' : World) : Prop :=
  ((∃ k : Nat, k < L.length ∧ (∀ x ∈ L.take k, P x = false) ∧ P (L.getD k rZ) = true ∧ e = .returned (.int .i64 k)) ∨ ((∀ x ∈ L, P x = false) ∧ e = .returned (.int .i64 (-1)))) ∧ Below w.heap.size w w'
theorem getD_mem {L : List R} {k : Nat} (hk : k < L.length) : L.getD k rZ ∈ L := by
  rw [List.getD_eq_getElem?_getD, List.getElem?_eq_getElem hk]
  exact List.getElem_mem hk
theorem take_snocR {L : List R} {k : Nat} (hk : k < L.length) : L.take (k + 1) = L.take k ++ [L.getD k rZ] := by
  rw [List.take_succ_eq_append_getElem hk, List.getD_eq_getElem?_getD, List.getElem?_eq_getElem hk]; rfl
/-- what the deletion leaves -/
def DelR (base g cap : Nat) (L : List R) (P : R → Bool) (w : World) (e : Ending) (w' : World) : Prop :=
  ∃ m, e = .returned (.slice (some ⟨g, 0, none⟩) m cap) ∧ w'.ownsRow base rowT 7 (.slice (some ⟨g, 0, none⟩) m cap) m ((L.filter fun x => !P x).flatMap rcells) ∧ Keeps (· = g) w w'
theorem set_take {M : List R} {i : Nat} {x : R} (hi : i < M.length) : (M.set i x).take (i + 1) = M.take i ++ [x] := by
  rw [List.take_set, List.take_succ_eq_append_getElem hi, List.set_append_right _ _ (by rw [List.length_take]; omega)]
  simp [Nat.min_eq_left (Nat.le_of_lt hi)]
theorem set_drop {M : List R} {i j : Nat} {x : R} (hi : i < j) : (M.set i x).drop j = M.drop j := List.drop_set_of_lt hi
end Go.Proofs.YtfcgffemdcfiiaaDoor.store
