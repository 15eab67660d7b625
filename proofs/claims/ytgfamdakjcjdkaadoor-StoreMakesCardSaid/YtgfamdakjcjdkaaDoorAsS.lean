/- errors.As at a *fail.Error and a **fail.Error (turned from the worked proof ToyasAs); fail.Place. -/
import Derived.Test.YtgfamdakjcjdkaaDoorOfS
import Derived.WalkKit
import Derived.LaidEql
import Derived.Stop.Asserts
import Derived.RowKitTokens
namespace Go.Proofs.YtgfamdakjcjdkaaDoor.store
open Go Go.RowKit Go.Extern.Stop Go.Stop Go.Extern Go.Proofs.YtgfamdakjcjdkaaDoor.base

/-! ### CLOSED FACTS ON THE MODEL's ENTRIES FOR internal/reflectlite, at this program's types: 25: *p.E · 27: **p.E · 23: error · 45: reflectlite's rtype · 1: how many package-level variables the dump has -/
theorem as_valueOf27 (t : Addr) (w : World) : (ReflectliteValue.unpack (.iface 71 (.pointer (some t)))).run Tryd.prog w
    = .ok (.agg #[.pointer (some ⟨1, 71, none⟩), .pointer (some ⟨w.heap.size, 0, none⟩), .int .u64 150]) (w.alloc (.cells #[.pointer (some t)] 71)) := by kernel_rfl
theorem as_type27 (a : Addr) (w : World) : (ReflectliteValue.methodAny (ReflectliteValue.valueError "reflectlite.Value.Type" 0) (fun t _ _ _ => ReflectliteType.toType t) #[.agg #[.pointer (some ⟨1, 71, none⟩), .pointer (some a), .int .u64 150]]).run Tryd.prog w
    = .ok (.iface 110 (.agg #[.pointer (some ⟨1, 71, none⟩)])) w := by kernel_rfl
theorem as_methodKind (h : Value) (w : World) : (Go.method 292 110 (.agg #[h]) "Kind").run Tryd.prog w = .ok (95, h) w := by kernel_rfl
theorem as_kind27 (w : World) : ((ReflectliteType.abiMethod fun t => (fun a : Nat => Value.int IntKind.u8 (a : Int)) <$> Rtype.kind t) #[.pointer (some ⟨1, 71, none⟩)]).run Tryd.prog w = .ok (.int .u8 22) w := by kernel_rfl
theorem as_kind25 (w : World) : ((ReflectliteType.abiMethod fun t => (fun a : Nat => Value.int IntKind.u8 (a : Int)) <$> Rtype.kind t) #[.pointer (some ⟨1, 69, none⟩)]).run Tryd.prog w = .ok (.int .u8 22) w := by kernel_rfl

/-! ### THE ENTRIES THAT READ OR WRITE MEMORY: laws with a premise on the cell (after Derived/Lib/ReflectliteSlice.lean's manner: each unfolding a lemma of its own, by rfl) -/
theorem as_rlm (z : Sem Value) (f : TypeId → Addr → Nat → Nat → Sem Value) (v : Value) :
    ReflectliteValue.method z f #[v] = (do match ← ReflectliteValue.parts v with | none => z | some (t, a, fl) => f t a fl (fl % 32)) := rfl
theorem as_parts27 (a : Addr) (w : World) : (ReflectliteValue.parts (.agg #[.pointer (some ⟨1, 71, none⟩), .pointer (some a), .int .u64 150])).run Tryd.prog w = .ok (some (71, a, 150)) w := by kernel_rfl
/-- (Value).IsNil at the Value of a **p.E that is not nil. -/
theorem as_isNil27 (a p : Addr) (W : World) (ha : W.cell? a = some (.pointer (some p))) :
    (ReflectliteValue.method (ReflectliteValue.valueError "reflectlite.Value.IsNil" 0) ReflectliteValue.isNil #[.agg #[.pointer (some ⟨1, 71, none⟩), .pointer (some a), .int .u64 150]]).run Tryd.prog W = .ok (.bool false) W := by
  rw [as_rlm]
  simp only [Sem.run_bind, as_parts27, Result.andThen]
  simp [ReflectliteValue.isNil, loadVar, isAgg, underlying, Tryd.underlying71, ha, Result.andThen]

theorem as_methodElem (h : Value) (w : World) : (Go.method 292 110 (.agg #[h]) "Elem").run Tryd.prog w = .ok (109, .agg #[h]) w := by kernel_rfl
theorem as_methodImplements (h : Value) (w : World) : (Go.method 292 110 (.agg #[h]) "Implements").run Tryd.prog w = .ok (110, .agg #[h]) w := by kernel_rfl
theorem as_methodAssignableTo (h : Value) (w : World) : (Go.method 292 110 (.agg #[h]) "AssignableTo").run Tryd.prog w = .ok (107, .agg #[h]) w := by kernel_rfl
theorem as_elem27 (w : World) : (ReflectliteType.method ReflectliteType.elem #[.agg #[.pointer (some ⟨1, 71, none⟩)]]).run Tryd.prog w = .ok (.iface 110 (.agg #[.pointer (some ⟨1, 69, none⟩)])) w := by kernel_rfl
theorem as_implements25 (w : World) : (ReflectliteType.relation "Implements" ReflectliteType.implements_ #[.agg #[.pointer (some ⟨1, 69, none⟩)], .iface 110 (.agg #[.pointer (some ⟨1, 38, none⟩)])]).run Tryd.prog w = .ok (.bool true) w := by kernel_rfl
theorem as_typeOf25 (v : Value) (w : World) : (ReflectliteType.typeOf #[.iface 69 v]).run Tryd.prog w = .ok (.iface 110 (.agg #[.pointer (some ⟨1, 69, none⟩)])) w := by kernel_rfl
theorem as_assignable25 (w : World) : (ReflectliteType.relation "AssignableTo" ReflectliteType.assignableTo #[.agg #[.pointer (some ⟨1, 69, none⟩)], .iface 110 (.agg #[.pointer (some ⟨1, 69, none⟩)])]).run Tryd.prog w = .ok (.bool true) w := by kernel_rfl
theorem as_valueOf25 (e : Addr) (w : World) : (ReflectliteValue.unpack (.iface 69 (.pointer (some e)))).run Tryd.prog w
    = .ok (.agg #[.pointer (some ⟨1, 69, none⟩), .pointer (some ⟨w.heap.size, 0, none⟩), .int .u64 150]) (w.alloc (.cells #[.pointer (some e)] 69)) := by kernel_rfl

theorem as_elemOf27 (w : World) : (Rtype.elem? 71).run Tryd.prog w = .ok (some 69) w := by kernel_rfl
theorem as_mk25 (p : Addr) (w : World) : (ReflectliteValue.mk 69 p ReflectliteValue.flagAddr).run Tryd.prog w = .ok (.agg #[.pointer (some ⟨1, 69, none⟩), .pointer (some p), .int .u64 406]) w := by kernel_rfl
/-- (Value).Elem at the Value of a **p.E that is not nil: the Value of the *p.E variable that it points to, addressable. -/
theorem as_elemV27 (a p : Addr) (W : World) (ha : W.cell? a = some (.pointer (some p))) :
    (ReflectliteValue.method (ReflectliteValue.valueError "reflectlite.Value.Elem" 0) ReflectliteValue.elem #[.agg #[.pointer (some ⟨1, 71, none⟩), .pointer (some a), .int .u64 150]]).run Tryd.prog W
      = .ok (.agg #[.pointer (some ⟨1, 69, none⟩), .pointer (some p), .int .u64 406]) W := by
  rw [as_rlm]
  simp only [Sem.run_bind, as_parts27, Result.andThen]
  simp [ReflectliteValue.elem, loadVar, isAgg, underlying, Tryd.underlying71, ha, Result.andThen, as_elemOf27, as_mk25]
theorem as_rls (v x : Value) : ReflectliteValue.set #[v, x] = (do
    let (some (dst, a, fl), some (src, b, _)) := (← ReflectliteValue.parts v, ← ReflectliteValue.parts x)
      | unsupported (.noEntry "extern/(internal/reflectlite.Value).Set.zeroValue")
    if fl / ReflectliteValue.flagAddr % 2 == 0 then unsupported (.noEntry "extern/(internal/reflectlite.Value).Set.unaddressable")
    let val ← loadVar src b
    if ← Rtype.directlyAssignable dst src then storeVar dst a val
    else if ← Rtype.implements dst src then
      if (← Rtype.kind src) == 20 then
        match val with
        | .nilIface => unsupported (.noEntry "extern/reflectlite: a nil value of one interface type handed on as a value of another")
        | _ => storeVar dst a val
      else storeVar dst a (.iface src val)
    else panicString ("reflectlite.Set: value of type " ++ (← Rtype.spelt src) ++ " is not assignable to type " ++ (← Rtype.spelt dst))
    pure (.tuple #[])) := rfl
theorem as_parts25a (a : Addr) (w : World) : (ReflectliteValue.parts (.agg #[.pointer (some ⟨1, 69, none⟩), .pointer (some a), .int .u64 406])).run Tryd.prog w = .ok (some (69, a, 406)) w := by kernel_rfl
theorem as_parts25 (a : Addr) (w : World) : (ReflectliteValue.parts (.agg #[.pointer (some ⟨1, 69, none⟩), .pointer (some a), .int .u64 150])).run Tryd.prog w = .ok (some (69, a, 150)) w := by kernel_rfl
theorem as_direct25 (w : World) : (Rtype.directlyAssignable 69 69).run Tryd.prog w = .ok true w := by kernel_rfl
theorem as_size25 (w : World) : (sizeOf 69).run Tryd.prog w = .ok 1 w := by kernel_rfl
/-- (Value).Set: the *p.E variable at 'ta' gets what the Value's own variable 'b' holds. -/
theorem as_set25 (ta b e : Addr) (old : Value) (W : World) (hb : W.cell? b = some (.pointer (some e))) (ht : W.cell? ta = some old) (hf : W.frozen? ta = false) :
    (ReflectliteValue.set #[.agg #[.pointer (some ⟨1, 69, none⟩), .pointer (some ta), .int .u64 406], .agg #[.pointer (some ⟨1, 69, none⟩), .pointer (some b), .int .u64 150]]).run Tryd.prog W
      = .ok (.tuple #[]) (W.setCell ta (.pointer (some e))) := by
  rw [as_rls]
  simp only [Sem.run_bind, as_parts25a, as_parts25, Result.andThen]
  simp [ReflectliteValue.flagAddr, loadVar, isAgg, underlying, Tryd.underlying69, hb, Result.andThen, as_direct25, storeVar, Value.cells, storeCells, Addr.add]
  rw [run_store Tryd.prog W ta _ _ (by rfl)]
  simp [ht, hf]

set_option maxHeartbeats 4000000 in
theorem as_hit (e t : Addr) (old : Value) (w : World) (hg : w.cell? ⟨0, 0, none⟩ = some (.iface 110 (.agg #[.pointer (some ⟨1, 38, none⟩)]))) (ht0 : w.cell? t = some old) (hf0 : w.frozen? t = false) :
    Calls Tryd.prog 20 #[.iface 69 (.pointer (some e)), .iface 71 (.pointer (some t))] w fun ev w' => ev = .returned (.bool true) ∧ w' = ((((w.alloc (.cells #[.pointer (some t)] 71)).alloc (.cells #[.pointer (some ⟨1, 71, none⟩), .pointer (some ⟨w.heap.size, 0, none⟩), .int .u64 150] 102)).alloc (.cells #[.pointer (some ⟨1, 71, none⟩), .pointer (some ⟨w.heap.size, 0, none⟩), .int .u64 150] 102)).alloc (.cells #[.pointer (some e)] 69)).setCell t (.pointer (some e)) := by
  have h6 := @run_callFunc_extern Tryd.prog 44 _ (fun args => ReflectliteValue.unpack (args.getD 0 (.tuple #[]))) Tryd.func44 (by kernel_rfl) (by kernel_rfl) (by kernel_rfl) (by kernel_rfl)
  have h7 := @run_callFunc_extern Tryd.prog 45 _ (ReflectliteValue.methodAny (ReflectliteValue.valueError "reflectlite.Value.Type" 0) (fun t _ _ _ => ReflectliteType.toType t)) Tryd.func45 (by kernel_rfl) (by kernel_rfl) (by kernel_rfl) (by kernel_rfl)
  have h8 := @run_callFunc_extern Tryd.prog 46 _ (ReflectliteValue.method (ReflectliteValue.valueError "reflectlite.Value.IsNil" 0) ReflectliteValue.isNil) Tryd.func46 (by kernel_rfl) (by kernel_rfl) (by kernel_rfl) (by kernel_rfl)
  have h27 := @run_callFunc_extern Tryd.prog 95 _ (ReflectliteType.abiMethod fun t => do pure (.int .u8 (← Rtype.kind t))) Tryd.func95 (by kernel_rfl) (by kernel_rfl) (by kernel_rfl) (by kernel_rfl)
  have h37 := @run_callFunc_extern Tryd.prog 109 _ (ReflectliteType.method ReflectliteType.elem) Tryd.func109 (by kernel_rfl) (by kernel_rfl) (by kernel_rfl) (by kernel_rfl)
  have h38 := @run_callFunc_extern Tryd.prog 110 _ (ReflectliteType.relation "Implements" ReflectliteType.implements_) Tryd.func110 (by kernel_rfl) (by kernel_rfl) (by kernel_rfl) (by kernel_rfl)
  have h10 := @run_callFunc_extern Tryd.prog 21 _ ReflectliteType.typeOf Tryd.func21 (by kernel_rfl) (by kernel_rfl) (by kernel_rfl) (by kernel_rfl)
  have h35 := @run_callFunc_extern Tryd.prog 107 _ (ReflectliteType.relation "AssignableTo" ReflectliteType.assignableTo) Tryd.func107 (by kernel_rfl) (by kernel_rfl) (by kernel_rfl) (by kernel_rfl)
  have h11 := @run_callFunc_extern Tryd.prog 55 _ (ReflectliteValue.method (ReflectliteValue.valueError "reflectlite.Value.Elem" 0) ReflectliteValue.elem) Tryd.func55 (by kernel_rfl) (by kernel_rfl) (by kernel_rfl) (by kernel_rfl)
  have h12 := @run_callFunc_extern Tryd.prog 56 _ ReflectliteValue.set Tryd.func56 (by kernel_rfl) (by kernel_rfl) (by kernel_rfl) (by kernel_rfl)
  have tO := as_typeOf25
  have mA := as_methodAssignableTo
  have a25 := as_assignable25
  have v25 := as_valueOf25
  have f6 := as_valueOf27
  have f7 := as_type27
  have mK := as_methodKind
  have mE := as_methodElem
  have mI := as_methodImplements
  have k27 := as_kind27
  have k25 := as_kind25
  have e27 := as_elem27
  have i25 := as_implements25
  have n8 := as_isNil27 ⟨w.heap.size, 0, none⟩ t ((w.alloc (.cells #[.pointer (some t)] 71)).alloc (.cells #[.pointer (some ⟨1, 71, none⟩), .pointer (some ⟨w.heap.size, 0, none⟩), .int .u64 150] 102)) (by simp)
  have hlt : 0 < w.heap.size := by
    rcases Nat.eq_zero_or_pos w.heap.size with h0 | h
    · simp [World.cell?, h0] at hg
    · exact h
  have hg2 : ((w.alloc (.cells #[.pointer (some t)] 71)).alloc (.cells #[.pointer (some ⟨1, 71, none⟩), .pointer (some ⟨w.heap.size, 0, none⟩), .int .u64 150] 102)).cell? ⟨0, 0, none⟩ = some (.iface 110 (.agg #[.pointer (some ⟨1, 38, none⟩)])) := by
    rw [World.cell?_alloc_lt _ _ ⟨0, 0, none⟩ (by simp), World.cell?_alloc_lt _ _ ⟨0, 0, none⟩ hlt]; exact hg
  have htl : t.block < w.heap.size := by
    rcases Nat.lt_or_ge t.block w.heap.size with h | h
    · exact h
    · simp [World.cell?, Array.getElem?_eq_none h] at ht0
  have el := as_elemV27 ⟨w.heap.size, 0, none⟩ t (((w.alloc (.cells #[.pointer (some t)] 71)).alloc (.cells #[.pointer (some ⟨1, 71, none⟩), .pointer (some ⟨w.heap.size, 0, none⟩), .int .u64 150] 102)).alloc (.cells #[.pointer (some ⟨1, 71, none⟩), .pointer (some ⟨w.heap.size, 0, none⟩), .int .u64 150] 102)) (by rw [World.cell?_alloc_lt _ _ ⟨w.heap.size, 0, none⟩ (by simp; omega)]; simp)
  have st := as_set25 t ⟨w.heap.size + 1 + 1 + 1, 0, none⟩ e old ((((w.alloc (.cells #[.pointer (some t)] 71)).alloc (.cells #[.pointer (some ⟨1, 71, none⟩), .pointer (some ⟨w.heap.size, 0, none⟩), .int .u64 150] 102)).alloc (.cells #[.pointer (some ⟨1, 71, none⟩), .pointer (some ⟨w.heap.size, 0, none⟩), .int .u64 150] 102)).alloc (.cells #[.pointer (some e)] 69))
    (by rw [World.cell?_alloc_at _ _ _ _ (by simp)]; rfl)
    (by rw [World.cell?_alloc_lt _ _ t (by simp; omega), World.cell?_alloc_lt _ _ t (by simp; omega), World.cell?_alloc_lt _ _ t (by simp; omega), World.cell?_alloc_lt _ _ t htl]; exact ht0)
    (by rw [World.frozen?_alloc_old _ _ t (by simp; omega), World.frozen?_alloc_old _ _ t (by simp; omega), World.frozen?_alloc_old _ _ t (by simp; omega), World.frozen?_alloc_old _ _ t (Nat.ne_of_lt htl)]; exact hf0)
  go_enter Tryd.func20, Tryd.ntmps20
  go_wp2
  refine wp_loop_rounds 1 ?_
  rw [rounds_succ]
  go_wp2
  go_ret
  exact ⟨rfl, rfl⟩
/-- the handle of the type error, as errors.As asks for it -/
def HandleIs (w : World) : Prop := w.cell? ⟨0, 0, none⟩ = some (.iface 110 (.agg #[.pointer (some ⟨1, 38, none⟩)]))
theorem HandleIs.pos {w : World} (h : HandleIs w) : 0 < w.heap.size := by
  rcases Nat.eq_zero_or_pos w.heap.size with h0 | h1
  · unfold HandleIs at h
    simp [World.cell?, h0] at h
  · exact h1
theorem HandleIs.below {w w' : World} (h : HandleIs w) (hb : Below w.heap.size w w') : HandleIs w' := (hb.cell (p := ⟨0, 0, none⟩) h.pos).trans h
theorem as_any (ge bt : Nat) (old : Value) (w : World) (hg : HandleIs w) (ht : Blk w bt 69 #[old]) :
    Calls Tryd.prog 20 #[.iface 69 (.pointer (some ⟨ge, 0, none⟩)), .iface 71 (.pointer (some ⟨bt, 0, none⟩))] w fun e w' => e = .returned (.bool true) ∧ Blk w' bt 69 #[.pointer (some ⟨ge, 0, none⟩)] ∧ Keeps (· = bt) w w' := by
  refine (as_hit ⟨ge, 0, none⟩ ⟨bt, 0, none⟩ old w hg (ht.cell 0) (ht.frozen 0)).mono ?_
  rintro e w' ⟨rfl, rfl⟩
  refine ⟨rfl, ?_, ?_⟩
  · exact ((((ht.alloc _).alloc _).alloc _).alloc _).set_ 0 (.pointer (some ⟨ge, 0, none⟩))
  · exact Keeps.set (X := (· = bt)) (p := ⟨bt, 0, none⟩) (((((Keeps.refl _ w).trans (.alloc _)).trans (.alloc _)).trans (.alloc _)).trans (.alloc _)) (.inl rfl) _
def PlaceR (s : ByteArray) (n : Int) (w : World) (e : Ending) (w' : World) : Prop := e = .returned (.tuple #[.string s, .int .i64 n, .bool true]) ∧ Below w.heap.size w w'
theorem place_any (v : Value) (s : ByteArray) (n c : Int) (w : World) (hg : HandleIs w) (h : ErrAt w v s n c) : Calls Tryd.prog 9 #[v] w (PlaceR s n w) := by
  obtain ⟨ge, rfl, hb⟩ := h
  have HB := Lib.hid hb
  have HG := Lib.hid hg
  have hlt := hb.lt
  have HN := Lib.hid (below_new w (.cells #[.pointer none] 69))
  clear hb hg
  go_enter Tryd.func9, Tryd.ntmps9
  go_wp2_with fail
  refine (as_any ge w.heap.size (.pointer none) _ (HG.out.below HN.out) (Blk.new _ _ _)).mono ?_
  rintro e w1 ⟨rfl, hb1, hk1⟩
  have hB : Below w.heap.size w w1 := below_keeps HN.out (Nat.le_refl _) hk1 (fun i hi e => by omega)
  have HGE := Lib.hid (HB.out.below hB hlt)
  have HB2 := Lib.hid hb1
  have HBB := Lib.hid hB
  have c2 : w1.cell? ⟨w.heap.size, 0, none⟩ = some (.pointer (some ⟨ge, 0, none⟩)) := hb1.cell 0
  have l2 := hb1.lt
  clear hB hb1 hk1
  go_wp2_with fail
  refine wp_region_mono nobody (by kernel_rfl) ?_
  -- 0 Op.load 69 (Operand.tmp 5)
  refine wpMono_take' 0 (v := ?_) rfl (by kernel_rfl) (by kernel_rfl) (by kernel_rfl) (fun _ _ _ h => h) (by rfl) ?_ ?_
  rotate_left
  · (intro W hSw; (have hk := HGE.out.drew.keeps hSw (fun h => h); have hk2 := HB2.out.drew.keeps hSw (fun h => h); have q0 : W.cell? ⟨ge, 0, none⟩ = some (.string s) := hk.cell 0; have q1 : W.cell? ⟨ge, 1, none⟩ = some (.int .i64 n) := hk.cell 1; have q2 : W.cell? ⟨w.heap.size, 0, none⟩ = some (.pointer (some ⟨ge, 0, none⟩)) := hk2.cell 0; have l1 := hk.lt; have l2 := hk2.lt)
     go_simp; first | done | rfl)
  try simp only [Act.put, List.setIfInBounds_toArray, List.set_cons_zero, List.set_cons_succ]
  -- 1 Op.nilCheck (Operand.tmp 14)
  refine wpMono_take' 1 (v := ?_) rfl (by kernel_rfl) (by kernel_rfl) (by kernel_rfl) (fun _ _ _ h => h) (by rfl) ?_ ?_
  rotate_left
  · (intro W hSw; (have hk := HGE.out.drew.keeps hSw (fun h => h); have hk2 := HB2.out.drew.keeps hSw (fun h => h); have q0 : W.cell? ⟨ge, 0, none⟩ = some (.string s) := hk.cell 0; have q1 : W.cell? ⟨ge, 1, none⟩ = some (.int .i64 n) := hk.cell 1; have q2 : W.cell? ⟨w.heap.size, 0, none⟩ = some (.pointer (some ⟨ge, 0, none⟩)) := hk2.cell 0; have l1 := hk.lt; have l2 := hk2.lt)
     go_simp; first | done | rfl)
  try simp only [Act.put, List.setIfInBounds_toArray, List.set_cons_zero, List.set_cons_succ]
  -- 2 Op.fieldAddr 73 (Operand.tmp 15) 0
  refine wpMono_take' 2 (v := ?_) rfl (by kernel_rfl) (by kernel_rfl) (by kernel_rfl) (fun _ _ _ h => h) (by rfl) ?_ ?_
  rotate_left
  · (intro W hSw; (have hk := HGE.out.drew.keeps hSw (fun h => h); have hk2 := HB2.out.drew.keeps hSw (fun h => h); have q0 : W.cell? ⟨ge, 0, none⟩ = some (.string s) := hk.cell 0; have q1 : W.cell? ⟨ge, 1, none⟩ = some (.int .i64 n) := hk.cell 1; have q2 : W.cell? ⟨w.heap.size, 0, none⟩ = some (.pointer (some ⟨ge, 0, none⟩)) := hk2.cell 0; have l1 := hk.lt; have l2 := hk2.lt)
     go_simp; first | done | rfl)
  try simp only [Act.put, List.setIfInBounds_toArray, List.set_cons_zero, List.set_cons_succ]
  -- 3 Op.load 9 (Operand.tmp 16)
  refine wpMono_take' 3 (v := ?_) rfl (by kernel_rfl) (by kernel_rfl) (by kernel_rfl) (fun _ _ _ h => h) (by rfl) ?_ ?_
  rotate_left
  · (intro W hSw; (have hk := HGE.out.drew.keeps hSw (fun h => h); have hk2 := HB2.out.drew.keeps hSw (fun h => h); have q0 : W.cell? ⟨ge, 0, none⟩ = some (.string s) := hk.cell 0; have q1 : W.cell? ⟨ge, 1, none⟩ = some (.int .i64 n) := hk.cell 1; have q2 : W.cell? ⟨w.heap.size, 0, none⟩ = some (.pointer (some ⟨ge, 0, none⟩)) := hk2.cell 0; have l1 := hk.lt; have l2 := hk2.lt)
     go_simp; first | done | rfl)
  try simp only [Act.put, List.setIfInBounds_toArray, List.set_cons_zero, List.set_cons_succ]
  -- 4 Op.load 69 (Operand.tmp 5)
  refine wpMono_take' 4 (v := ?_) rfl (by kernel_rfl) (by kernel_rfl) (by kernel_rfl) (fun _ _ _ h => h) (by rfl) ?_ ?_
  rotate_left
  · (intro W hSw; (have hk := HGE.out.drew.keeps hSw (fun h => h); have hk2 := HB2.out.drew.keeps hSw (fun h => h); have q0 : W.cell? ⟨ge, 0, none⟩ = some (.string s) := hk.cell 0; have q1 : W.cell? ⟨ge, 1, none⟩ = some (.int .i64 n) := hk.cell 1; have q2 : W.cell? ⟨w.heap.size, 0, none⟩ = some (.pointer (some ⟨ge, 0, none⟩)) := hk2.cell 0; have l1 := hk.lt; have l2 := hk2.lt)
     go_simp; first | done | rfl)
  try simp only [Act.put, List.setIfInBounds_toArray, List.set_cons_zero, List.set_cons_succ]
  -- 5 Op.nilCheck (Operand.tmp 18)
  refine wpMono_take' 5 (v := ?_) rfl (by kernel_rfl) (by kernel_rfl) (by kernel_rfl) (fun _ _ _ h => h) (by rfl) ?_ ?_
  rotate_left
  · (intro W hSw; (have hk := HGE.out.drew.keeps hSw (fun h => h); have hk2 := HB2.out.drew.keeps hSw (fun h => h); have q0 : W.cell? ⟨ge, 0, none⟩ = some (.string s) := hk.cell 0; have q1 : W.cell? ⟨ge, 1, none⟩ = some (.int .i64 n) := hk.cell 1; have q2 : W.cell? ⟨w.heap.size, 0, none⟩ = some (.pointer (some ⟨ge, 0, none⟩)) := hk2.cell 0; have l1 := hk.lt; have l2 := hk2.lt)
     go_simp; first | done | rfl)
  try simp only [Act.put, List.setIfInBounds_toArray, List.set_cons_zero, List.set_cons_succ]
  -- 6 Op.fieldAddr 73 (Operand.tmp 19) 1
  refine wpMono_take' 6 (v := ?_) rfl (by kernel_rfl) (by kernel_rfl) (by kernel_rfl) (fun _ _ _ h => h) (by rfl) ?_ ?_
  rotate_left
  · (intro W hSw; (have hk := HGE.out.drew.keeps hSw (fun h => h); have hk2 := HB2.out.drew.keeps hSw (fun h => h); have q0 : W.cell? ⟨ge, 0, none⟩ = some (.string s) := hk.cell 0; have q1 : W.cell? ⟨ge, 1, none⟩ = some (.int .i64 n) := hk.cell 1; have q2 : W.cell? ⟨w.heap.size, 0, none⟩ = some (.pointer (some ⟨ge, 0, none⟩)) := hk2.cell 0; have l1 := hk.lt; have l2 := hk2.lt)
     go_simp; first | done | rfl)
  try simp only [Act.put, List.setIfInBounds_toArray, List.set_cons_zero, List.set_cons_succ]
  -- 7 Op.load 3 (Operand.tmp 20)
  refine wpMono_take' 7 (v := ?_) rfl (by kernel_rfl) (by kernel_rfl) (by kernel_rfl) (fun _ _ _ h => h) (by rfl) ?_ ?_
  rotate_left
  · (intro W hSw; (have hk := HGE.out.drew.keeps hSw (fun h => h); have hk2 := HB2.out.drew.keeps hSw (fun h => h); have q0 : W.cell? ⟨ge, 0, none⟩ = some (.string s) := hk.cell 0; have q1 : W.cell? ⟨ge, 1, none⟩ = some (.int .i64 n) := hk.cell 1; have q2 : W.cell? ⟨w.heap.size, 0, none⟩ = some (.pointer (some ⟨ge, 0, none⟩)) := hk2.cell 0; have l1 := hk.lt; have l2 := hk2.lt)
     go_simp; first | done | rfl)
  try simp only [Act.put, List.setIfInBounds_toArray, List.set_cons_zero, List.set_cons_succ]
  -- 8 Op.assign (Operand.tmp 17)
  refine wpMono_take' 8 (v := ?_) rfl (by kernel_rfl) (by kernel_rfl) (by kernel_rfl) (fun _ _ _ h => h) (by rfl) ?_ ?_
  rotate_left
  · (intro W hSw; (have hk := HGE.out.drew.keeps hSw (fun h => h); have hk2 := HB2.out.drew.keeps hSw (fun h => h); have q0 : W.cell? ⟨ge, 0, none⟩ = some (.string s) := hk.cell 0; have q1 : W.cell? ⟨ge, 1, none⟩ = some (.int .i64 n) := hk.cell 1; have q2 : W.cell? ⟨w.heap.size, 0, none⟩ = some (.pointer (some ⟨ge, 0, none⟩)) := hk2.cell 0; have l1 := hk.lt; have l2 := hk2.lt)
     go_simp; first | done | rfl)
  try simp only [Act.put, List.setIfInBounds_toArray, List.set_cons_zero, List.set_cons_succ]
  -- 9 Op.assign (Operand.tmp 21)
  refine wpMono_take' 9 (v := ?_) rfl (by kernel_rfl) (by kernel_rfl) (by kernel_rfl) (fun _ _ _ h => h) (by rfl) ?_ ?_
  rotate_left
  · (intro W hSw; (have hk := HGE.out.drew.keeps hSw (fun h => h); have hk2 := HB2.out.drew.keeps hSw (fun h => h); have q0 : W.cell? ⟨ge, 0, none⟩ = some (.string s) := hk.cell 0; have q1 : W.cell? ⟨ge, 1, none⟩ = some (.int .i64 n) := hk.cell 1; have q2 : W.cell? ⟨w.heap.size, 0, none⟩ = some (.pointer (some ⟨ge, 0, none⟩)) := hk2.cell 0; have l1 := hk.lt; have l2 := hk2.lt)
     go_simp; first | done | rfl)
  try simp only [Act.put, List.setIfInBounds_toArray, List.set_cons_zero, List.set_cons_succ]
  -- 10 Op.assign (Operand.const (Value.bool true))
  refine wpMono_take' 10 (v := ?_) rfl (by kernel_rfl) (by kernel_rfl) (by kernel_rfl) (fun _ _ _ h => h) (by rfl) ?_ ?_
  rotate_left
  · (intro W hSw; (have hk := HGE.out.drew.keeps hSw (fun h => h); have hk2 := HB2.out.drew.keeps hSw (fun h => h); have q0 : W.cell? ⟨ge, 0, none⟩ = some (.string s) := hk.cell 0; have q1 : W.cell? ⟨ge, 1, none⟩ = some (.int .i64 n) := hk.cell 1; have q2 : W.cell? ⟨w.heap.size, 0, none⟩ = some (.pointer (some ⟨ge, 0, none⟩)) := hk2.cell 0; have l1 := hk.lt; have l2 := hk2.lt)
     go_simp; first | done | rfl)
  try simp only [Act.put, List.setIfInBounds_toArray, List.set_cons_zero, List.set_cons_succ]
  refine wpMono_done (by kernel_rfl) ?_ _
  go_wp2
  exact bodyPost_ret (v := .tuple #[.string s, .int .i64 n, .bool true]) (by simp [results, Tryd.results9, go_sem]) rfl ⟨rfl, HBB.out.drew⟩
end Go.Proofs.YtgfamdakjcjdkaaDoor.store
