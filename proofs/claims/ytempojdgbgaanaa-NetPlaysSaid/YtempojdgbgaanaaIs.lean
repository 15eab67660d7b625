/- errors.Is over an error of package fail that wraps a code (after the worked SentryIs). -/
import Derived.Test.YtempojdgbgaanaaRows
import Derived.WalkKit
import Derived.LaidEql
import Derived.Stop.Asserts
import Derived.RowKitTokens
namespace Go.Proofs.Ytempojdgbgaanaa.is_
open Go.RowKit Go.Extern.Stop Go.Stop Go.Extern
theorem isTypeOf (v : Value) (w : World) : (Extern.ReflectliteType.typeOf #[.iface 43 v]).run Try.prog w = .ok (.iface 74 (.agg #[.pointer (some ⟨0, 43, none⟩)])) w := by kernel_rfl
theorem isComparable (w : World) : ((Extern.ReflectliteType.method fun t => do Extern.Rtype.noPackHeld "Comparable" t; (fun a => Value.bool a.comparable) <$> typeInfo t) #[.agg #[.pointer (some ⟨0, 43, none⟩)]]).run Try.prog w = .ok (.bool true) w := by kernel_rfl
theorem noIsE (v : Value) (xT : TypeId) (w : World) : (Instr.typeAssert (.iface 70 v) xT 76 true).run Try.prog w = .ok (.tuple #[.nilIface, .bool false]) w := run_typeAssert_lacksB Try.underlying76 (by kernel_rfl) (by kernel_rfl) v xT w
theorem hasUnwrap (v : Value) (xT : TypeId) (w : World) : (Instr.typeAssert (.iface 70 v) xT 79 true).run Try.prog w = .ok (.tuple #[.iface 70 v, .bool true]) w := run_typeAssert_hasB Try.underlying79 (by kernel_rfl) v xT w
theorem noIsC (v : Value) (xT : TypeId) (w : World) : (Instr.typeAssert (.iface 43 v) xT 76 true).run Try.prog w = .ok (.tuple #[.nilIface, .bool false]) w := run_typeAssert_lacksB Try.underlying76 (by kernel_rfl) (by kernel_rfl) v xT w
theorem noUnwrapC (v : Value) (xT : TypeId) (w : World) : (Instr.typeAssert (.iface 43 v) xT 79 true).run Try.prog w = .ok (.tuple #[.nilIface, .bool false]) w := run_typeAssert_lacksB Try.underlying79 (by kernel_rfl) (by kernel_rfl) v xT w
theorem noUnwrapsC (v : Value) (xT : TypeId) (w : World) : (Instr.typeAssert (.iface 43 v) xT 81 true).run Try.prog w = .ok (.tuple #[.nilIface, .bool false]) w := run_typeAssert_lacksB Try.underlying81 (by kernel_rfl) (by kernel_rfl) v xT w
theorem isComp : (Try.prog.info? 43).map (·.comparable) = some true := by kernel_rfl
theorem eql_codes (c c' : Int) (w : World) : (binOp .eql 26 (.iface 43 (.int .i64 c)) (.iface 43 (.int .i64 c'))).run Try.prog w = .ok (.bool (c == c')) w := by
  obtain ⟨i, hi, hcmp⟩ := Option.map_eq_some_iff.1 isComp
  have h : ∀ d : Nat, (Op.equalIn (d + 2) 26 (.iface 43 (.int .i64 c)) (.iface 43 (.int .i64 c'))).run Try.prog w = .ok (c == c') w := fun d => by
    simp [Op.equalIn, run_underlying Try.underlying26, run_underlying Try.underlying43, hi, hcmp, typeInfo]
  simp only [binOp]
  simp [Op.equal, Op.maxDepth, h 9998]
theorem methodUnwrap (v : Value) (w : World) : (Go.method 217 70 v "Unwrap").run Try.prog w = .ok (52, v) w := by kernel_rfl
theorem methodComparable (v : Value) (w : World) : (Go.method 217 74 v "Comparable").run Try.prog w = .ok (56, v) w := by kernel_rfl
set_option maxHeartbeats 1600000 in
/-- errors.Is(e, c'), e of package fail, wraps the code c. -/
theorem is_code (g : Nat) (c c' : Int) (w : World) (h2 : w.cell? ⟨g, 2, none⟩ = some (.iface 43 (.int .i64 c))) :
    Calls Try.prog 18 #[.iface 70 (.pointer (some ⟨g, 0, none⟩)), .iface 43 (.int .i64 c')] w fun e w' => e = .returned (.bool (c == c')) ∧ w = w' := by
  have h8 := @run_callFunc_extern Try.prog 30 _ Extern.ReflectliteType.typeOf Try.func30 (by kernel_rfl) (by kernel_rfl) (by kernel_rfl) (by kernel_rfl)
  have h32 := @run_callFunc_extern Try.prog 56 _ (Extern.ReflectliteType.method fun t => do Extern.Rtype.noPackHeld "Comparable" t; pure (.bool (← typeInfo t).comparable)) Try.func56 (by kernel_rfl) (by kernel_rfl) (by kernel_rfl) (by kernel_rfl)
  have tT := isTypeOf
  have cT := isComparable
  have mR := methodComparable
  have n1 := noIsE
  have n2 := hasUnwrap
  have n3 := noIsC
  have n4 := noUnwrapC
  have n5 := noUnwrapsC
  have mU := methodUnwrap
  have heq := eql_codes c c' w
  have hty := run_eql_iface_types (P := Try.prog) 70 43 (.pointer (some ⟨g, 0, none⟩)) (.int .i64 c') Try.underlying26 (by decide) w
  generalize (c == c') = x at heq ⊢
  cases x
  all_goals
    go_enter Try.func18, Try.ntmps18
    go_wp2
    refine wp_loop_rounds 2 ?_
    rw [rounds_succ]
    go_wp2
    rw [rounds_succ]
    go_wp2
    go_ret
    exact ⟨rfl, rfl⟩
end Go.Proofs.Ytempojdgbgaanaa.is_
