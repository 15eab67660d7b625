/- errors.Is over an error of package fail that wraps a code (after the worked SentryIs). -/
import Derived.Test.YtfcgffemdcfiiaaGreatDoorRows
import Derived.WalkKit
import Derived.LaidEql
import Derived.Stop.Asserts
import Derived.RowKitTokens
namespace Go.Proofs.YtfcgffemdcfiiaaGreatDoor.is_
open Go.RowKit Go.Extern.Stop Go.Stop Go.Extern
theorem isTypeOf (v : Value) (w : World) : (Extern.ReflectliteType.typeOf #[.iface 44 v]).run Tryz.prog w = .ok (.iface 98 (.agg #[.pointer (some ⟨4, 44, none⟩)])) w := by kernel_rfl
theorem isComparable (w : World) : ((Extern.ReflectliteType.method fun t => do Extern.Rtype.noPackHeld "Comparable" t; (fun a => Value.bool a.comparable) <$> typeInfo t) #[.agg #[.pointer (some ⟨4, 44, none⟩)]]).run Tryz.prog w = .ok (.bool true) w := by kernel_rfl
theorem noIsE (v : Value) (xT : TypeId) (w : World) : (Instr.typeAssert (.iface 113 v) xT 100 true).run Tryz.prog w = .ok (.tuple #[.nilIface, .bool false]) w := run_typeAssert_lacksB Tryz.underlying100 (by kernel_rfl) (by kernel_rfl) v xT w
theorem hasUnwrap (v : Value) (xT : TypeId) (w : World) : (Instr.typeAssert (.iface 113 v) xT 103 true).run Tryz.prog w = .ok (.tuple #[.iface 113 v, .bool true]) w := run_typeAssert_hasB Tryz.underlying103 (by kernel_rfl) v xT w
theorem noIsC (v : Value) (xT : TypeId) (w : World) : (Instr.typeAssert (.iface 44 v) xT 100 true).run Tryz.prog w = .ok (.tuple #[.nilIface, .bool false]) w := run_typeAssert_lacksB Tryz.underlying100 (by kernel_rfl) (by kernel_rfl) v xT w
theorem noUnwrapC (v : Value) (xT : TypeId) (w : World) : (Instr.typeAssert (.iface 44 v) xT 103 true).run Tryz.prog w = .ok (.tuple #[.nilIface, .bool false]) w := run_typeAssert_lacksB Tryz.underlying103 (by kernel_rfl) (by kernel_rfl) v xT w
theorem noUnwrapsC (v : Value) (xT : TypeId) (w : World) : (Instr.typeAssert (.iface 44 v) xT 105 true).run Tryz.prog w = .ok (.tuple #[.nilIface, .bool false]) w := run_typeAssert_lacksB Tryz.underlying105 (by kernel_rfl) (by kernel_rfl) v xT w
theorem isComp : (Tryz.prog.info? 44).map (·.comparable) = some true := by kernel_rfl
theorem eql_codes (c c' : Int) (w : World) : (binOp .eql 40 (.iface 44 (.int .i64 c)) (.iface 44 (.int .i64 c'))).run Tryz.prog w = .ok (.bool (c == c')) w := by
  obtain ⟨i, hi, hcmp⟩ := Option.map_eq_some_iff.1 isComp
  have h : ∀ d : Nat, (Op.equalIn (d + 2) 40 (.iface 44 (.int .i64 c)) (.iface 44 (.int .i64 c'))).run Tryz.prog w = .ok (c == c') w := fun d => by
    simp [Op.equalIn, run_underlying Tryz.underlying40, run_underlying Tryz.underlying44, hi, hcmp, typeInfo]
  simp only [binOp]
  simp [Op.equal, Op.maxDepth, h 9998]
theorem methodUnwrap (v : Value) (w : World) : (Go.method 291 113 v "Unwrap").run Tryz.prog w = .ok (124, v) w := by kernel_rfl
theorem methodComparable (v : Value) (w : World) : (Go.method 291 98 v "Comparable").run Tryz.prog w = .ok (114, v) w := by kernel_rfl
set_option maxHeartbeats 1600000 in
/-- errors.Is(e, c'), e of package fail, wraps the code c. -/
theorem is_code (g : Nat) (c c' : Int) (w : World) (h2 : w.cell? ⟨g, 2, none⟩ = some (.iface 44 (.int .i64 c))) :
    Calls Tryz.prog 12 #[.iface 113 (.pointer (some ⟨g, 0, none⟩)), .iface 44 (.int .i64 c')] w fun e w' => e = .returned (.bool (c == c')) ∧ w = w' := by
  have h8 := @run_callFunc_extern Tryz.prog 26 _ Extern.ReflectliteType.typeOf Tryz.func26 (by kernel_rfl) (by kernel_rfl) (by kernel_rfl) (by kernel_rfl)
  have h32 := @run_callFunc_extern Tryz.prog 114 _ (Extern.ReflectliteType.method fun t => do Extern.Rtype.noPackHeld "Comparable" t; pure (.bool (← typeInfo t).comparable)) Tryz.func114 (by kernel_rfl) (by kernel_rfl) (by kernel_rfl) (by kernel_rfl)
  have tT := isTypeOf
  have cT := isComparable
  have mR := methodComparable
  have n1 := noIsE
  have n2 := hasUnwrap
  have n3 := noIsC
  have n4 := noUnwrapC
  have n5 := noUnwrapsC
  have mU := methodUnwrap
  have heq := eql_codes c c' w
  have hty := run_eql_iface_types (P := Tryz.prog) 113 44 (.pointer (some ⟨g, 0, none⟩)) (.int .i64 c') Tryz.underlying40 (by decide) w
  generalize (c == c') = x at heq ⊢
  cases x
  all_goals
    go_enter Tryz.func12, Tryz.ntmps12
    go_wp2
    refine wp_loop_rounds 2 ?_
    rw [rounds_succ]
    go_wp2
    rw [rounds_succ]
    go_wp2
    go_ret
    exact ⟨rfl, rfl⟩
end Go.Proofs.YtfcgffemdcfiiaaGreatDoor.is_
