/- Errors of package fail that wrap a code: what fail.At makes of one; what errors.Is says of one and of nil. -/
import Derived.Test.YticlnjfndjnfhaaDoorIs
import Derived.Test.YticlnjfndjnfhaaDoorBase
import Derived.WalkSpells
import Derived.Stop.IfaceNil
namespace Go.Proofs.YticlnjfndjnfhaaDoor.err
open Go.RowKit Go.Proofs.YticlnjfndjnfhaaDoor.base Go.Proofs.YticlnjfndjnfhaaDoor.is_

/-- An error of package fail that wraps the code c. -/
def Err (w : World) (v : Value) (c : Int) : Prop := ∃ g, v = .iface 85 (.pointer (some ⟨g, 0, none⟩)) ∧ g < w.heap.size ∧ w.cell? ⟨g, 2, none⟩ = some (.iface 37 (.int .i64 c))
theorem Err.keeps {X : Nat → Prop} {w w' : World} {v : Value} {c : Int} (h : Err w v c) (hk : Keeps X w w') (hx : ∀ g, v = .iface 85 (.pointer (some ⟨g, 0, none⟩)) → ¬ X g) : Err w' v c := by
  obtain ⟨g, rfl, h1, h2⟩ := h
  exact ⟨g, rfl, Nat.lt_of_lt_of_le h1 hk.size, (hk.cell 2 h1 (hx g rfl)).trans h2⟩
theorem Err.below {w w' : World} {v : Value} {c : Int} (h : Err w v c) (hk : Below w.heap.size w w') : Err w' v c :=
  h.keeps (X := nobody) (.of_below hk) (fun _ _ h => h)
def ErrNew (c : Int) (w : World) (e : Ending) (w' : World) : Prop := ∃ v, e = .returned v ∧ Err w' v c ∧ v ≠ .nilIface ∧ Below w.heap.size w w' ∧ ∀ g, v = .iface 85 (.pointer (some ⟨g, 0, none⟩)) → w.heap.size ≤ g
theorem at_any (s : ByteArray) (n c : Int) (w : World) : Calls Tryd.prog 37 #[.string s, .int .i64 n, .iface 37 (.int .i64 c)] w (ErrNew c w) := by
  go_enter Tryd.func37, Tryd.ntmps37
  go_wp2
  go_ret
  refine ⟨_, rfl, ⟨_, rfl, by simp, by simp [cell_new]⟩, by simp, (Below.refl _ _).alloc (Nat.le_refl _) _, fun g h => ?_⟩
  simp at h; omega
theorem is_err (v : Value) (c c' : Int) (w : World) (h : Err w v c) :
    Calls Tryd.prog 10 #[v, .iface 37 (.int .i64 c')] w fun e w' => e = .returned (.bool (c == c')) ∧ w = w' := by
  obtain ⟨g, rfl, _, h2⟩ := h
  exact is_code g c c' w h2
theorem is_nil (c' : Int) (w : World) : Calls Tryd.prog 10 #[.nilIface, .iface 37 (.int .i64 c')] w fun e w' => e = .returned (.bool false) ∧ w = w' := by
  have hn := run_eql_iface_nil_left (P := Tryd.prog) w 37 (.int .i64 c') Tryd.underlying27
  go_enter Tryd.func10, Tryd.ntmps10
  go_wp2
  go_ret
  exact ⟨rfl, rfl⟩
/-- No error (code 0), or one that wraps the code. -/
def EO (w : World) (v : Value) (c : Int) : Prop := (c = 0 ∧ v = .nilIface) ∨ (c ≠ 0 ∧ Err w v c ∧ v ≠ .nilIface)
theorem EO.below {w w' : World} {v : Value} {c : Int} (h : EO w v c) (hk : Below w.heap.size w w') : EO w' v c := h.imp id fun ⟨a, b, d⟩ => ⟨a, b.below hk, d⟩
theorem EO.keeps {X : Nat → Prop} {w w' : World} {v : Value} {c : Int} (h : EO w v c) (hk : Keeps X w w') (hx : ∀ g, v = .iface 85 (.pointer (some ⟨g, 0, none⟩)) → ¬ X g) : EO w' v c := h.imp id fun ⟨a, b, d⟩ => ⟨a, b.keeps hk hx, d⟩
theorem EO.nil (w : World) : EO w .nilIface 0 := .inl ⟨rfl, rfl⟩
theorem is_eo (v : Value) (c c' : Int) (w : World) (h : EO w v c) : Calls Tryd.prog 10 #[v, .iface 37 (.int .i64 c')] w fun e w' => e = .returned (.bool (decide (c ≠ 0) && (c == c'))) ∧ w = w' := by
  rcases h with ⟨rfl, rfl⟩ | ⟨h, he, _⟩
  · exact is_nil c' w
  · rw [decide_eq_true h, Bool.true_and]
    exact is_err v c c' w he
theorem Err.form {w : World} {v : Value} {c : Int} (h : Err w v c) : ∃ g, v = .iface 85 (.pointer (some ⟨g, 0, none⟩)) := by obtain ⟨g, h, _⟩ := h; exact ⟨g, h⟩
theorem EO.form {w : World} {v : Value} {c : Int} (h : EO w v c) (hc : c ≠ 0) : ∃ g, v = .iface 85 (.pointer (some ⟨g, 0, none⟩)) := by
  rcases h with ⟨h, _⟩ | ⟨_, h, _⟩
  · exact absurd h hc
  · exact h.form
end Go.Proofs.YticlnjfndjnfhaaDoor.err
