/- errors.Is over an error of package fail that wraps a code (after the worked SentryIs). -/
import Derived.Test.YtmclmefgddomfaaRows
import Derived.WalkKit
import Derived.LaidEql
import Derived.Stop.Asserts
import Derived.RowKitTokens
namespace Go.Proofs.Ytmclmefgddomfaa.is_
open Go.RowKit Go.Extern.Stop Go.Stop Go.Extern
theorem isTypeOf (v : Value) (w : World) : (Extern.ReflectliteType.typeOf #[.iface 54 v]).run Try.prog w = .ok (.iface 89 (.agg #[.pointer (some ⟨0, 54, none⟩)])) w := by kernel_rfl
theorem isComparable (w : World) : ((Extern.ReflectliteType.method fun t => do Extern.Rtype.noPackHeld "Comparable" t; (fun a => Value.bool a.comparable) <$> typeInfo t) #[.agg #[.pointer (some ⟨0, 54, none⟩)]]).run Try.prog w = .ok (.bool true) w := by kernel_rfl
theorem noIsE (v : Value) (xT : TypeId) (w : World) : (Instr.typeAssert (.iface 101 v) xT 91 true).run Try.prog w = .ok (.tuple #[.nilIface, .bool false]) w := run_typeAssert_lacksB Try.underlying91 (by kernel_rfl) (by kernel_rfl) v xT w
theorem hasUnwrap (v : Value) (xT : TypeId) (w : World) : (Instr.typeAssert (.iface 101 v) xT 94 true).run Try.prog w = .ok (.tuple #[.iface 101 v, .bool true]) w := run_typeAssert_hasB Try.underlying94 (by kernel_rfl) v xT w
theorem noIsC (v : Value) (xT : TypeId) (w : World) : (Instr.typeAssert (.iface 54 v) xT 91 true).run Try.prog w = .ok (.tuple #[.nilIface, .bool false]) w := run_typeAssert_lacksB Try.underlying91 (by kernel_rfl) (by kernel_rfl) v xT w
theorem noUnwrapC (v : Value) (xT : TypeId) (w : World) : (Instr.typeAssert (.iface 54 v) xT 94 true).run Try.prog w = .ok (.tuple #[.nilIface, .bool false]) w := run_typeAssert_lacksB Try.underlying94 (by kernel_rfl) (by kernel_rfl) v xT w
theorem noUnwrapsC (v : Value) (xT : TypeId) (w : World) : (Instr.typeAssert (.iface 54 v) xT 96 true).run Try.prog w = .ok (.tuple #[.nilIface, .bool false]) w := run_typeAssert_lacksB Try.underlying96 (by kernel_rfl) (by kernel_rfl) v xT w
theorem isComp : (Try.prog.info? 54).map (·.comparable) = some true := by kernel_rfl
theorem eql_codes (c c' : Int) (w : World) : (binOp .eql 26 (.iface 54 (.int .i64 c)) (.iface 54 (.int .i64 c'))).run Try.prog w = .ok (.bool (c == c')) w := by
  obtain ⟨i, hi, hcmp⟩ := Option.map_eq_some_iff.1 isComp
  have h : ∀ d : Nat, (Op.equalIn (d + 2) 26 (.iface 54 (.int .i64 c)) (.iface 54 (.int .i64 c'))).run Try.prog w = .ok (c == c') w := fun d => by
    simp [Op.equalIn, run_underlying Try.underlying26, run_underlying Try.underlying54, hi, hcmp, typeInfo]
  simp only [binOp]
  simp [Op.equal, Op.maxDepth, h 9998]
theorem methodUnwrap (v : Value) (w : World) : (Go.method 242 101 v "Unwrap").run Try.prog w = .ok (83, v) w := by kernel_rfl
theorem methodComparable (v : Value) (w : World) : (Go.method 242 89 v "Comparable").run Try.prog w = .ok (73, v) w := by kernel_rfl
set_option maxHeartbeats 1600000 in
/-- errors.Is(e, c'), e of package fail, wraps the code c. -/
theorem is_code (g : Nat) (c c' : Int) (w : World) (h2 : w.cell? ⟨g, 2, none⟩ = some (.iface 54 (.int .i64 c))) :
    Calls Try.prog 20 #[.iface 101 (.pointer (some ⟨g, 0, none⟩)), .iface 54 (.int .i64 c')] w fun e w' => e = .returned (.bool (c == c')) ∧ w = w' := by
  have h8 := @run_callFunc_extern Try.prog 34 _ Extern.ReflectliteType.typeOf Try.func34 (by kernel_rfl) (by kernel_rfl) (by kernel_rfl) (by kernel_rfl)
  have h32 := @run_callFunc_extern Try.prog 73 _ (Extern.ReflectliteType.method fun t => do Extern.Rtype.noPackHeld "Comparable" t; pure (.bool (← typeInfo t).comparable)) Try.func73 (by kernel_rfl) (by kernel_rfl) (by kernel_rfl) (by kernel_rfl)
  have tT := isTypeOf
  have cT := isComparable
  have mR := methodComparable
  have n1 := noIsE
  have n2 := hasUnwrap
  have n3 := noIsC
  have n4 := noUnwrapC
  have n5 := noUnwrapsC
  have mU := methodUnwrap
  have heq := eql_codes c c' w
  have hty := run_eql_iface_types (P := Try.prog) 101 54 (.pointer (some ⟨g, 0, none⟩)) (.int .i64 c') Try.underlying26 (by decide) w
  generalize (c == c') = x at heq ⊢
  cases x
  all_goals
    go_enter Try.func20, Try.ntmps20
    go_wp2
    refine wp_loop_rounds 2 ?_
    rw [rounds_succ]
    go_wp2
    rw [rounds_succ]
    go_wp2
    go_ret
    exact ⟨rfl, rfl⟩
end Go.Proofs.Ytmclmefgddomfaa.is_
