/- errors.Is over an error of package fail that wraps a code (after the worked SentryIs). -/
import Derived.Test.YticlnjfndjnfhaaDoorRows
import Derived.WalkKit
import Derived.LaidEql
import Derived.Stop.Asserts
import Derived.RowKitTokens
namespace Go.Proofs.YticlnjfndjnfhaaDoor.is_
open Go.RowKit Go.Extern.Stop Go.Stop Go.Extern
theorem isTypeOf (v : Value) (w : World) : (Extern.ReflectliteType.typeOf #[.iface 37 v]).run Tryd.prog w = .ok (.iface 73 (.agg #[.pointer (some ⟨6, 37, none⟩)])) w := by kernel_rfl
theorem isComparable (w : World) : ((Extern.ReflectliteType.method fun t => do Extern.Rtype.noPackHeld "Comparable" t; (fun a => Value.bool a.comparable) <$> typeInfo t) #[.agg #[.pointer (some ⟨6, 37, none⟩)]]).run Tryd.prog w = .ok (.bool true) w := by kernel_rfl
theorem noIsE (v : Value) (xT : TypeId) (w : World) : (Instr.typeAssert (.iface 85 v) xT 75 true).run Tryd.prog w = .ok (.tuple #[.nilIface, .bool false]) w := run_typeAssert_lacksB Tryd.underlying75 (by kernel_rfl) (by kernel_rfl) v xT w
theorem hasUnwrap (v : Value) (xT : TypeId) (w : World) : (Instr.typeAssert (.iface 85 v) xT 78 true).run Tryd.prog w = .ok (.tuple #[.iface 85 v, .bool true]) w := run_typeAssert_hasB Tryd.underlying78 (by kernel_rfl) v xT w
theorem noIsC (v : Value) (xT : TypeId) (w : World) : (Instr.typeAssert (.iface 37 v) xT 75 true).run Tryd.prog w = .ok (.tuple #[.nilIface, .bool false]) w := run_typeAssert_lacksB Tryd.underlying75 (by kernel_rfl) (by kernel_rfl) v xT w
theorem noUnwrapC (v : Value) (xT : TypeId) (w : World) : (Instr.typeAssert (.iface 37 v) xT 78 true).run Tryd.prog w = .ok (.tuple #[.nilIface, .bool false]) w := run_typeAssert_lacksB Tryd.underlying78 (by kernel_rfl) (by kernel_rfl) v xT w
theorem noUnwrapsC (v : Value) (xT : TypeId) (w : World) : (Instr.typeAssert (.iface 37 v) xT 80 true).run Tryd.prog w = .ok (.tuple #[.nilIface, .bool false]) w := run_typeAssert_lacksB Tryd.underlying80 (by kernel_rfl) (by kernel_rfl) v xT w
theorem isComp : (Tryd.prog.info? 37).map (·.comparable) = some true := by kernel_rfl
theorem eql_codes (c c' : Int) (w : World) : (binOp .eql 27 (.iface 37 (.int .i64 c)) (.iface 37 (.int .i64 c'))).run Tryd.prog w = .ok (.bool (c == c')) w := by
  obtain ⟨i, hi, hcmp⟩ := Option.map_eq_some_iff.1 isComp
  have h : ∀ d : Nat, (Op.equalIn (d + 2) 27 (.iface 37 (.int .i64 c)) (.iface 37 (.int .i64 c'))).run Tryd.prog w = .ok (c == c') w := fun d => by
    simp [Op.equalIn, run_underlying Tryd.underlying27, run_underlying Tryd.underlying37, hi, hcmp, typeInfo]
  simp only [binOp]
  simp [Op.equal, Op.maxDepth, h 9998]
theorem methodUnwrap (v : Value) (w : World) : (Go.method 247 85 v "Unwrap").run Tryd.prog w = .ok (107, v) w := by kernel_rfl
theorem methodComparable (v : Value) (w : World) : (Go.method 247 73 v "Comparable").run Tryd.prog w = .ok (97, v) w := by kernel_rfl
set_option maxHeartbeats 1600000 in
/-- errors.Is(e, c'), e of package fail, wraps the code c. -/
theorem is_code (g : Nat) (c c' : Int) (w : World) (h2 : w.cell? ⟨g, 2, none⟩ = some (.iface 37 (.int .i64 c))) :
    Calls Tryd.prog 10 #[.iface 85 (.pointer (some ⟨g, 0, none⟩)), .iface 37 (.int .i64 c')] w fun e w' => e = .returned (.bool (c == c')) ∧ w = w' := by
  have h8 := @run_callFunc_extern Tryd.prog 27 _ Extern.ReflectliteType.typeOf Tryd.func27 (by kernel_rfl) (by kernel_rfl) (by kernel_rfl) (by kernel_rfl)
  have h32 := @run_callFunc_extern Tryd.prog 97 _ (Extern.ReflectliteType.method fun t => do Extern.Rtype.noPackHeld "Comparable" t; pure (.bool (← typeInfo t).comparable)) Tryd.func97 (by kernel_rfl) (by kernel_rfl) (by kernel_rfl) (by kernel_rfl)
  have tT := isTypeOf
  have cT := isComparable
  have mR := methodComparable
  have n1 := noIsE
  have n2 := hasUnwrap
  have n3 := noIsC
  have n4 := noUnwrapC
  have n5 := noUnwrapsC
  have mU := methodUnwrap
  have heq := eql_codes c c' w
  have hty := run_eql_iface_types (P := Tryd.prog) 85 37 (.pointer (some ⟨g, 0, none⟩)) (.int .i64 c') Tryd.underlying27 (by decide) w
  generalize (c == c') = x at heq ⊢
  cases x
  all_goals
    go_enter Tryd.func10, Tryd.ntmps10
    go_wp2
    refine wp_loop_rounds 2 ?_
    rw [rounds_succ]
    go_wp2
    rw [rounds_succ]
    go_wp2
    go_ret
    exact ⟨rfl, rfl⟩
end Go.Proofs.YticlnjfndjnfhaaDoor.is_
