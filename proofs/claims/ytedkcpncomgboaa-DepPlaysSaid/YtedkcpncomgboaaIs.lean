/- errors.Is over an error of package fail that wraps a code (after the worked SentryIs). -/
import Derived.Test.YtedkcpncomgboaaRows
import Derived.WalkKit
import Derived.LaidEql
import Derived.Stop.Asserts
import Derived.RowKitTokens
namespace Go.Proofs.Ytedkcpncomgboaa.is_
open Go.RowKit Go.Extern.Stop Go.Stop Go.Extern
theorem isTypeOf (v : Value) (w : World) : (Extern.ReflectliteType.typeOf #[.iface 61 v]).run Try.prog w = .ok (.iface 114 (.agg #[.pointer (some ⟨0, 61, none⟩)])) w := by kernel_rfl
theorem isComparable (w : World) : ((Extern.ReflectliteType.method fun t => do Extern.Rtype.noPackHeld "Comparable" t; (fun a => Value.bool a.comparable) <$> typeInfo t) #[.agg #[.pointer (some ⟨0, 61, none⟩)]]).run Try.prog w = .ok (.bool true) w := by kernel_rfl
theorem noIsE (v : Value) (xT : TypeId) (w : World) : (Instr.typeAssert (.iface 96 v) xT 116 true).run Try.prog w = .ok (.tuple #[.nilIface, .bool false]) w := run_typeAssert_lacksB Try.underlying116 (by kernel_rfl) (by kernel_rfl) v xT w
theorem hasUnwrap (v : Value) (xT : TypeId) (w : World) : (Instr.typeAssert (.iface 96 v) xT 119 true).run Try.prog w = .ok (.tuple #[.iface 96 v, .bool true]) w := run_typeAssert_hasB Try.underlying119 (by kernel_rfl) v xT w
theorem noIsC (v : Value) (xT : TypeId) (w : World) : (Instr.typeAssert (.iface 61 v) xT 116 true).run Try.prog w = .ok (.tuple #[.nilIface, .bool false]) w := run_typeAssert_lacksB Try.underlying116 (by kernel_rfl) (by kernel_rfl) v xT w
theorem noUnwrapC (v : Value) (xT : TypeId) (w : World) : (Instr.typeAssert (.iface 61 v) xT 119 true).run Try.prog w = .ok (.tuple #[.nilIface, .bool false]) w := run_typeAssert_lacksB Try.underlying119 (by kernel_rfl) (by kernel_rfl) v xT w
theorem noUnwrapsC (v : Value) (xT : TypeId) (w : World) : (Instr.typeAssert (.iface 61 v) xT 121 true).run Try.prog w = .ok (.tuple #[.nilIface, .bool false]) w := run_typeAssert_lacksB Try.underlying121 (by kernel_rfl) (by kernel_rfl) v xT w
theorem isComp : (Try.prog.info? 61).map (·.comparable) = some true := by kernel_rfl
theorem eql_codes (c c' : Int) (w : World) : (binOp .eql 40 (.iface 61 (.int .i64 c)) (.iface 61 (.int .i64 c'))).run Try.prog w = .ok (.bool (c == c')) w := by
  obtain ⟨i, hi, hcmp⟩ := Option.map_eq_some_iff.1 isComp
  have h : ∀ d : Nat, (Op.equalIn (d + 2) 40 (.iface 61 (.int .i64 c)) (.iface 61 (.int .i64 c'))).run Try.prog w = .ok (c == c') w := fun d => by
    simp [Op.equalIn, run_underlying Try.underlying40, run_underlying Try.underlying61, hi, hcmp, typeInfo]
  simp only [binOp]
  simp [Op.equal, Op.maxDepth, h 9998]
theorem methodUnwrap (v : Value) (w : World) : (Go.method 264 96 v "Unwrap").run Try.prog w = .ok (91, v) w := by kernel_rfl
theorem methodComparable (v : Value) (w : World) : (Go.method 264 114 v "Comparable").run Try.prog w = .ok (95, v) w := by kernel_rfl
set_option maxHeartbeats 1600000 in
/-- errors.Is(e, c'), e of package fail, wraps the code c. -/
theorem is_code (g : Nat) (c c' : Int) (w : World) (h2 : w.cell? ⟨g, 2, none⟩ = some (.iface 61 (.int .i64 c))) :
    Calls Try.prog 22 #[.iface 96 (.pointer (some ⟨g, 0, none⟩)), .iface 61 (.int .i64 c')] w fun e w' => e = .returned (.bool (c == c')) ∧ w = w' := by
  have h8 := @run_callFunc_extern Try.prog 46 _ Extern.ReflectliteType.typeOf Try.func46 (by kernel_rfl) (by kernel_rfl) (by kernel_rfl) (by kernel_rfl)
  have h32 := @run_callFunc_extern Try.prog 95 _ (Extern.ReflectliteType.method fun t => do Extern.Rtype.noPackHeld "Comparable" t; pure (.bool (← typeInfo t).comparable)) Try.func95 (by kernel_rfl) (by kernel_rfl) (by kernel_rfl) (by kernel_rfl)
  have tT := isTypeOf
  have cT := isComparable
  have mR := methodComparable
  have n1 := noIsE
  have n2 := hasUnwrap
  have n3 := noIsC
  have n4 := noUnwrapC
  have n5 := noUnwrapsC
  have mU := methodUnwrap
  have heq := eql_codes c c' w
  have hty := run_eql_iface_types (P := Try.prog) 96 61 (.pointer (some ⟨g, 0, none⟩)) (.int .i64 c') Try.underlying40 (by decide) w
  generalize (c == c') = x at heq ⊢
  cases x
  all_goals
    go_enter Try.func22, Try.ntmps22
    go_wp2
    refine wp_loop_rounds 2 ?_
    rw [rounds_succ]
    go_wp2
    rw [rounds_succ]
    go_wp2
    go_ret
    exact ⟨rfl, rfl⟩
end Go.Proofs.Ytedkcpncomgboaa.is_
