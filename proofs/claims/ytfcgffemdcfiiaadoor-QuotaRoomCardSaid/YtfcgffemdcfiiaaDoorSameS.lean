/- Rows as the document has them (Plain), and whether rows are alike (Same). -/
import Derived.Test.YtfcgffemdcfiiaaDoorArgsS
namespace Go.Proofs.YtfcgffemdcfiiaaDoor.store
open Go Go.RowKit Go.Proofs.YtfcgffemdcfiiaaDoor.base Go.Proofs.YtfcgffemdcfiiaaDoor.err Go.Proofs.YtfcgffemdcfiiaaDoor.cmp Go.Proofs.YtfcgffemdcfiiaaDoor.above Go.Proofs.YtfcgffemdcfiiaaDoor.law Go.Proofs.YtfcgffemdcfiiaaDoor.merge Go.Proofs.YtfcgffemdcfiiaaDoor.rows Go.Proofs.YtfcgffemdcfiiaaDoor.rowe Go.Proofs.YtfcgffemdcfiiaaDoor.monoj

def rZ : R := ((⟨#[]⟩, ⟨#[]⟩), zeroC)
theorem row_at {w : World} {A : Option Addr} {m B : Nat} {L : List R} (h : Reads w B 7 A m (L.flatMap rcells)) (hl : L.length = m) {k : Nat} (hk : k < m) : ∃ b off, A = some ⟨b, off, none⟩ ∧ b < B ∧ ∀ q v, (rcells (L.getD k rZ))[q]? = some v → w.cell? ⟨b, off + k * 7 + q, none⟩ = some v := by
  obtain ⟨b, off, rfl, hb⟩ := h.at_some (by omega)
  refine ⟨b, off, rfl, hb, fun q v hq => ?_⟩
  have hq2 : q < 7 := by
    have := (List.getElem?_eq_some_iff.1 hq).1
    rwa [rlen] at this
  have h5 := Reads.thing rcells rlen h (k := k) (x := L.getD k rZ) (by omega) (by rw [List.getD_eq_getElem?_getD, List.getElem?_eq_getElem (by omega)]; rfl) q hq2
  rw [h5, hq]
theorem seven_of {w : World} {b off : Nat} {x : R} (h : ∀ q v, (rcells x)[q]? = some v → w.cell? ⟨b, off + q, none⟩ = some v) :
    w.cell? ⟨b, off, none⟩ = some (.string x.1.1) ∧ w.cell? ⟨b, off + 1, none⟩ = some (.string x.1.2) ∧ w.cell? ⟨b, off + 2, none⟩ = some (.int .i64 x.2.t) ∧ w.cell? ⟨b, off + 3, none⟩ = some (.int .i64 x.2.r) ∧ w.cell? ⟨b, off + 4, none⟩ = some (.string x.2.v) ∧
      w.cell? ⟨b, off + 5, none⟩ = some (.bool x.2.g) ∧ w.cell? ⟨b, off + 6, none⟩ = some (.int .i64 x.2.l) :=
  ⟨h 0 _ rfl, h 1 _ rfl, h 2 _ rfl, h 3 _ rfl, h 4 _ rfl, h 5 _ rfl, h 6 _ rfl⟩
/-! ### are rows alike? -/
def rowEq (x y : R) : Bool := (x.1.1.toList == y.1.1.toList) && ((x.1.2.toList == y.1.2.toList) && cellEq x.2 y.2)
theorem rowEq_iff (x y : R) : rowEq x y = true ↔ x = y := by
  unfold rowEq
  rw [Bool.and_eq_true, Bool.and_eq_true, cellEq_iff, beq_iff_eq, beq_iff_eq]
  constructor
  · rintro ⟨h1, h2, h3⟩
    exact Prod.ext (Prod.ext (ba_ext h1) (ba_ext h2)) h3
  · rintro rfl; exact ⟨rfl, rfl, rfl⟩
theorem exec_neq {P : Program} {o : Oper} {ev : Operand → Value} {w : World} (t u : TypeId) (x y : Operand) (ho : o.op = .binOp .neq t x y u) (xs ys : Array Value) (hx : ev x = .agg xs) (hy : ev y = .agg ys)
    (hm : P.eqGuardType P.depth t = false) (b : Bool) (h : (binOp .neq t (.agg xs) (.agg ys)).run P w = .ok (.bool b) w) : (execOp ev o).run P w = .ok (.value (.bool b)) w := by
  have hg := run_eqGuard_agg (P := P) w .neq t x y xs ys hm
  unfold execOp
  simp only [ho, hx, hy, Sem.run_bind, hg, Result.andThen_ok, h, Sem.run_pure]
theorem exec_load {P : Program} {o : Oper} {ev : Operand → Value} {w : World} (ty : TypeId) (x : Operand) (ho : o.op = .load ty x) (b off : Nat) (cs : List Value)
    (hx : ev x = .pointer (some ⟨b, off, none⟩)) {d : TypeDesc} (hu : P.underlying ty = some d) (hd : (match d with | .struct _ | .array _ _ => true | _ => false) = true)
    (hi : (P.info? ty).map (·.size) = some cs.length) (hc : ∀ j v, cs[j]? = some v → w.cell? ⟨b, off + j, none⟩ = some v) : (execOp ev o).run P w = .ok (.value (.agg ⟨cs⟩)) w := by
  have h := run_loadVar_at (P := P) (w := w) (b := b) (o := off) (cs := cs) hu hd hi hc
  unfold execOp
  simp only [ho, hx, Instr.loadAt, Instr.sureAddr, Sem.run_bind, Sem.run_pure, Result.andThen_ok, h]
theorem same_split {L M : List R} {k : Nat} (hl : k < L.length) (hm : k < M.length) : decide (L.drop k = M.drop k) = (rowEq (L.getD k rZ) (M.getD k rZ) && decide (L.drop (k + 1) = M.drop (k + 1))) := by
  rw [List.drop_eq_getElem_cons hl, List.drop_eq_getElem_cons hm, List.getD_eq_getElem?_getD, List.getElem?_eq_getElem hl, List.getD_eq_getElem?_getD, List.getElem?_eq_getElem hm]
  rw [Bool.eq_iff_iff, Bool.and_eq_true, rowEq_iff]
  simp only [decide_eq_true_eq, List.cons.injEq, Option.getD_some]
end Go.Proofs.YtfcgffemdcfiiaaDoor.store
