/- A part of the proof of RegionNone: AppS, TwoS, OfS, LoopS, AsS. -/
import Derived.Test.YtdaphppdmnmicaaGreatDoorA36
import Derived.WalkKit
import Derived.LaidEql
import Derived.Stop.Asserts
import Derived.RowKitTokens
namespace Go.Proofs.YtdaphppdmnmicaaGreatDoor.store
open Go above law merge rows
def Best (o:Option C) (S:C→Prop):Prop:=match o with|none=>∀ c,¬ S c|some m=>S m∧∀ c,S c→above c m=false
theorem Best.take {o:Option C} {S:C→Prop} (h:Best o S) (c:C):Best (some (takeC o c)) (fun d=>S d ∨ d=c):=by
 cases o with
 | none =>
  refine ⟨.inr rfl,fun d hd=>?_⟩
  rcases hd with hd|rfl
  ·exact absurd hd (h d)
  ·exact above_irrefl _
 | some m =>
  show Best (some (if above c m=true then c else m)) _
  by_cases hc:above c m=true
  ·rw [if_pos hc]
   refine ⟨.inr rfl,fun d hd=>?_⟩
   rcases hd with hd|rfl
   ·rw [Bool.eq_false_iff]
    intro hd2
    have:=above_trans hd2 hc
    rw [h.2 d hd] at this;cases this
   ·exact above_irrefl _
  ·rw [if_neg hc]
   refine ⟨.inl h.1,fun d hd=>?_⟩
   rcases hd with hd|rfl
   ·exact h.2 d hd
   ·simpa using hc
theorem Best.congr {o:Option C} {S S':C→Prop} (h:Best o S) (hs:∀ c,S c ↔ S' c):Best o S':=by
 cases o with
 | none=>exact fun c hc=>h c ((hs c).2 hc)
 | some m=>exact ⟨(hs m).1 h.1,fun c hc=>h.2 c ((hs c).2 hc)⟩
end Go.Proofs.YtdaphppdmnmicaaGreatDoor.store
namespace Go.Proofs.YtdaphppdmnmicaaGreatDoor.store
open Go Go.RowKit base above law merge rows
structure Two (w0:World) (g b g' b':Nat) (L L':List R) (w:World):Prop where
 one:StI w g b L
 two:StI w g' b' L'
 ap1:b ≠ b'
 ap2:b ≠ g'
 ap3:b' ≠ g
 lo1:w0.heap.size≤b
 lo2:w0.heap.size≤b'
 bel:Below w0.heap.size w0 w
section
variable {w0 w w':World} {g b g' b':Nat} {L L' M:List R}
theorem Two.below (h:Two w0 g b g' b' L L' w) (hb:Below w.heap.size w w'):Two w0 g b g' b' L L' w' :=
 ⟨h.one.below hb,h.two.below hb,h.ap1,h.ap2,h.ap3,h.lo1,h.lo2,below_step h.bel hb⟩
end
theorem own_reads {w:World} {base:Nat} {e:TypeId} {v:Value} {n:Nat} {L:List R} (h:w.ownsRow base e 7 v n (L.flatMap rcells)):∃ A c,v=.slice A n c∧Reads w w.heap.size 7 A n (L.flatMap rcells):=by
 obtain ⟨A,c,rfl⟩:=ownsRow_slice h
 exact ⟨A,c,rfl,Reads.of_own h⟩
theorem wt_mem {L:List Wt} {P:Wt→Prop} (h:∀ x ∈ L,P x) {k:Nat} (hk:k < L.length):P (L.getD k wtZ):=by
 rw [List.getD_eq_getElem?_getD,List.getElem?_eq_getElem hk]
 exact h _ (List.getElem_mem hk)
end Go.Proofs.YtdaphppdmnmicaaGreatDoor.store
namespace Go.Proofs.YtdaphppdmnmicaaGreatDoor.store
open Go Go.RowKit base err cmp above law merge rows rowe monoj
def ErrAt (w:World) (v:Value) (s:ByteArray) (n c:Int):Prop:=∃ g,v=.iface 167 (.pointer (some ⟨g,0,none⟩))∧Blk w g 169 #[.string s,.int .i64 n,.iface 74 (.int .i64 c)]
theorem ErrAt.below {w w':World} {v:Value} {s:ByteArray} {n c:Int} (h:ErrAt w v s n c) (hb:Below w.heap.size w w'):ErrAt w' v s n c:=by
 obtain ⟨g,rfl,h⟩:=h
 exact ⟨g,rfl,h.below hb h.lt⟩
theorem Grown.below {w w':World} (h:Grown w w'):Below w.heap.size w w':=by
 obtain ⟨q,os,rfl⟩:=h
 refine ⟨rfl,rfl,rfl,by simp [World.drewN],fun k hk=>?_⟩
 unfold Go.Sort.grow
 rw [Array.getElem?_append_left (by exact hk)]
 rfl
theorem row_at' {w:World} {m B b off:Nat} {L:List R} (h:Reads w B 7 (some ⟨b,off,none⟩) m (L.flatMap rcells)) (hl:L.length=m) {k:Nat} (hk:k < m):∀ q v,(rcells (L.getD k rZ))[q]?=some v→w.cell? ⟨b,off + k * 7 + q,none⟩=some v:=by
 obtain ⟨b',off',e,_,hc⟩:=row_at h hl hk
 injection e with e;injection e with e1 e2 _
 subst e1 e2
 exact hc
end Go.Proofs.YtdaphppdmnmicaaGreatDoor.store
namespace Go.Proofs.YtdaphppdmnmicaaGreatDoor.store
open Go Go.RowKit base err above law merge rows
structure Lst (w:World) (A:Option Addr) (m c:Nat) (l:List Wt):Prop where
 len:l.length=m
 reads:Reads w w.heap.size 10 A m (l.flatMap Wt.cells)
 ok:∀ x ∈ l,x.ss.size≤maxLen∧x.ky.size≤maxLen
theorem Lst.cells {w w':World} {A:Option Addr} {m c:Nat} {l:List Wt} (h:Lst w A m c l) (hb:Below w.heap.size w w') {k:Nat} (hk:k < m) :
  ∃ b off,A=some ⟨b,off,none⟩∧b < w'.heap.size∧(∀ q v,(l.getD k wtZ).cells[q]?=some v→w'.cell? ⟨b,off + k * 10 + q,none⟩=some v)∧(l.getD k wtZ).ss.size≤maxLen∧(l.getD k wtZ).ky.size≤maxLen:=by
 obtain ⟨b,off,e,h1,h2⟩:=wt_at (h.reads.below hb) h.len hk
 exact ⟨b,off,e,Nat.lt_of_lt_of_le h1 hb.size,h2,wt_mem h.ok (by rw [h.len];exact hk)⟩
end Go.Proofs.YtdaphppdmnmicaaGreatDoor.store
namespace Go.Proofs.YtdaphppdmnmicaaGreatDoor.store
open Go Go.RowKit Go.Extern.Stop Go.Stop Go.Extern base
theorem as_valueOf27 (t:Addr) (w:World):(ReflectliteValue.unpack (.iface 241 (.pointer (some t)))).run Tryz.prog w
  = .ok (.agg #[.pointer (some ⟨5,241,none⟩),.pointer (some ⟨w.heap.size,0,none⟩),.int .u64 150]) (w.alloc (.cells #[.pointer (some t)] 241)):=by kernel_rfl
theorem as_type27 (a : Addr) (w : World) : (ReflectliteValue.methodAny (ReflectliteValue.valueError "reflectlite.Value.Type" 0) (fun t _ _ _ => ReflectliteType.toType t) #[.agg #[.pointer (some ⟨5, 241, none⟩), .pointer (some a), .int .u64 150]]).run Tryz.prog w
  = .ok (.iface 292 (.agg #[.pointer (some ⟨5,241,none⟩)])) w:=by kernel_rfl
theorem as_methodKind (h : Value) (w : World) : (Go.method 614 292 (.agg #[h]) "Kind").run Tryz.prog w = .ok (362, h) w := by kernel_rfl
theorem as_kind27 (w:World):((ReflectliteType.abiMethod fun t=>Functor.map (fun a:Nat=>Value.int IntKind.u8 (a:Int)) (Rtype.kind t)) #[.pointer (some ⟨5,241,none⟩)]).run Tryz.prog w=.ok (.int .u8 22) w:=by kernel_rfl
theorem as_kind25 (w:World):((ReflectliteType.abiMethod fun t=>Functor.map (fun a:Nat=>Value.int IntKind.u8 (a:Int)) (Rtype.kind t)) #[.pointer (some ⟨5,167,none⟩)]).run Tryz.prog w=.ok (.int .u8 22) w:=by kernel_rfl
theorem as_rlm (z:Sem Value) (f:TypeId→Addr→Nat→Nat→Sem Value) (v:Value) :
  ReflectliteValue.method z f #[v]=(do match ← ReflectliteValue.parts v with|none=>z|some (t,a,fl)=>f t a fl (fl % 32)):=rfl
theorem as_parts27 (a:Addr) (w:World):(ReflectliteValue.parts (.agg #[.pointer (some ⟨5,241,none⟩),.pointer (some a),.int .u64 150])).run Tryz.prog w=.ok (some (241,a,150)) w:=by kernel_rfl
theorem as_isNil27 (a p:Addr) (W:World) (ha:W.cell? a=some (.pointer (some p))) :
  (ReflectliteValue.method (ReflectliteValue.valueError "reflectlite.Value.IsNil" 0) ReflectliteValue.isNil #[.agg #[.pointer (some ⟨5, 241, none⟩), .pointer (some a), .int .u64 150]]).run Tryz.prog W = .ok (.bool false) W := by
 rw [as_rlm]
 simp only [Sem.run_bind,as_parts27,Result.andThen]
 simp [ReflectliteValue.isNil,loadVar,isAgg,underlying,Tryz.underlying241,ha,Result.andThen]
theorem as_methodElem (h : Value) (w : World) : (Go.method 614 292 (.agg #[h]) "Elem").run Tryz.prog w = .ok (378, .agg #[h]) w := by kernel_rfl
theorem as_methodImplements (h : Value) (w : World) : (Go.method 614 292 (.agg #[h]) "Implements").run Tryz.prog w = .ok (379, .agg #[h]) w := by kernel_rfl
theorem as_methodAssignableTo (h : Value) (w : World) : (Go.method 614 292 (.agg #[h]) "AssignableTo").run Tryz.prog w = .ok (376, .agg #[h]) w := by kernel_rfl
theorem as_elem27 (w:World):(ReflectliteType.method ReflectliteType.elem #[.agg #[.pointer (some ⟨5,241,none⟩)]]).run Tryz.prog w=.ok (.iface 292 (.agg #[.pointer (some ⟨5,167,none⟩)])) w:=by kernel_rfl
theorem as_implements25 (w : World) : (ReflectliteType.relation "Implements" ReflectliteType.implements_ #[.agg #[.pointer (some ⟨5, 167, none⟩)], .iface 292 (.agg #[.pointer (some ⟨5, 56, none⟩)])]).run Tryz.prog w = .ok (.bool true) w := by kernel_rfl
theorem as_typeOf25 (v:Value) (w:World):(ReflectliteType.typeOf #[.iface 167 v]).run Tryz.prog w=.ok (.iface 292 (.agg #[.pointer (some ⟨5,167,none⟩)])) w:=by kernel_rfl
theorem as_assignable25 (w : World) : (ReflectliteType.relation "AssignableTo" ReflectliteType.assignableTo #[.agg #[.pointer (some ⟨5, 167, none⟩)], .iface 292 (.agg #[.pointer (some ⟨5, 167, none⟩)])]).run Tryz.prog w = .ok (.bool true) w := by kernel_rfl
theorem as_valueOf25 (e:Addr) (w:World):(ReflectliteValue.unpack (.iface 167 (.pointer (some e)))).run Tryz.prog w
  = .ok (.agg #[.pointer (some ⟨5,167,none⟩),.pointer (some ⟨w.heap.size,0,none⟩),.int .u64 150]) (w.alloc (.cells #[.pointer (some e)] 167)):=by kernel_rfl
theorem as_elemOf27 (w:World):(Rtype.elem? 241).run Tryz.prog w=.ok (some 167) w:=by kernel_rfl
theorem as_mk25 (p:Addr) (w:World):(ReflectliteValue.mk 167 p ReflectliteValue.flagAddr).run Tryz.prog w=.ok (.agg #[.pointer (some ⟨5,167,none⟩),.pointer (some p),.int .u64 406]) w:=by kernel_rfl
theorem as_elemV27 (a p:Addr) (W:World) (ha:W.cell? a=some (.pointer (some p))) :
  (ReflectliteValue.method (ReflectliteValue.valueError "reflectlite.Value.Elem" 0) ReflectliteValue.elem #[.agg #[.pointer (some ⟨5, 241, none⟩), .pointer (some a), .int .u64 150]]).run Tryz.prog W
   = .ok (.agg #[.pointer (some ⟨5,167,none⟩),.pointer (some p),.int .u64 406]) W:=by
 rw [as_rlm]
 simp only [Sem.run_bind,as_parts27,Result.andThen]
 simp [ReflectliteValue.elem,loadVar,isAgg,underlying,Tryz.underlying241,ha,Result.andThen,as_elemOf27,as_mk25]
theorem as_rls (v x:Value):ReflectliteValue.set #[v,x]=(do
  let (some (dst,a,fl),some (src,b,_)):=(← ReflectliteValue.parts v,← ReflectliteValue.parts x)
   | unsupported (.noEntry "extern/(internal/reflectlite.Value).Set.zeroValue")
  if fl / ReflectliteValue.flagAddr % 2 == 0 then unsupported (.noEntry "extern/(internal/reflectlite.Value).Set.unaddressable")
  let val ← loadVar src b
  if ← Rtype.directlyAssignable dst src then storeVar dst a val
  else if ← Rtype.implements dst src then
   if (← Rtype.kind src) == 20 then
    match val with
    | .nilIface => unsupported (.noEntry "extern/reflectlite: a nil value of one interface type handed on as a value of another")
    | _=>storeVar dst a val
   else storeVar dst a (.iface src val)
  else panicString ("reflectlite.Set: value of type " ++ (← Rtype.spelt src) ++ " is not assignable to type " ++ (← Rtype.spelt dst))
  pure (.tuple #[])):=rfl
theorem as_parts25a (a:Addr) (w:World):(ReflectliteValue.parts (.agg #[.pointer (some ⟨5,167,none⟩),.pointer (some a),.int .u64 406])).run Tryz.prog w=.ok (some (167,a,406)) w:=by kernel_rfl
theorem as_parts25 (a:Addr) (w:World):(ReflectliteValue.parts (.agg #[.pointer (some ⟨5,167,none⟩),.pointer (some a),.int .u64 150])).run Tryz.prog w=.ok (some (167,a,150)) w:=by kernel_rfl
theorem as_direct25 (w:World):(Rtype.directlyAssignable 167 167).run Tryz.prog w=.ok true w:=by kernel_rfl
theorem as_set25 (ta b e:Addr) (old:Value) (W:World) (hb:W.cell? b=some (.pointer (some e))) (ht:W.cell? ta=some old) (hf:W.frozen? ta=false) :
  (ReflectliteValue.set #[.agg #[.pointer (some ⟨5,167,none⟩),.pointer (some ta),.int .u64 406],.agg #[.pointer (some ⟨5,167,none⟩),.pointer (some b),.int .u64 150]]).run Tryz.prog W
   = .ok (.tuple #[]) (W.setCell ta (.pointer (some e))):=by
 rw [as_rls]
 simp only [Sem.run_bind,as_parts25a,as_parts25,Result.andThen]
 simp [ReflectliteValue.flagAddr,loadVar,isAgg,underlying,Tryz.underlying167,hb,Result.andThen,as_direct25,storeVar,Value.cells,storeCells,Addr.add]
 rw [run_store Tryz.prog W ta _ _ (by rfl)]
 simp [ht,hf]
set_option maxHeartbeats 4000000 in
theorem as_hit (e t:Addr) (old:Value) (w:World) (hg:w.cell? ⟨0,0,none⟩=some (.iface 292 (.agg #[.pointer (some ⟨5,56,none⟩)]))) (ht0:w.cell? t=some old) (hf0:w.frozen? t=false) :
  Calls Tryz.prog 110 #[.iface 167 (.pointer (some e)),.iface 241 (.pointer (some t))] w fun ev w'=>ev=.returned (.bool true)∧w'=((((w.alloc (.cells #[.pointer (some t)] 241)).alloc (.cells #[.pointer (some ⟨5,241,none⟩),.pointer (some ⟨w.heap.size,0,none⟩),.int .u64 150] 351)).alloc (.cells #[.pointer (some ⟨5,241,none⟩),.pointer (some ⟨w.heap.size,0,none⟩),.int .u64 150] 351)).alloc (.cells #[.pointer (some e)] 167)).setCell t (.pointer (some e)):=by
 have h6:=@run_callFunc_extern Tryz.prog 199 _ (fun args=>ReflectliteValue.unpack (args.getD 0 (.tuple #[]))) Tryz.func199 (by kernel_rfl) (by kernel_rfl) (by kernel_rfl) (by kernel_rfl)
 have h7 := @run_callFunc_extern Tryz.prog 200 _ (ReflectliteValue.methodAny (ReflectliteValue.valueError "reflectlite.Value.Type" 0) (fun t _ _ _ => ReflectliteType.toType t)) Tryz.func200 (by kernel_rfl) (by kernel_rfl) (by kernel_rfl) (by kernel_rfl)
 have h8 := @run_callFunc_extern Tryz.prog 201 _ (ReflectliteValue.method (ReflectliteValue.valueError "reflectlite.Value.IsNil" 0) ReflectliteValue.isNil) Tryz.func201 (by kernel_rfl) (by kernel_rfl) (by kernel_rfl) (by kernel_rfl)
 have h27:=@run_callFunc_extern Tryz.prog 362 _ (ReflectliteType.abiMethod fun t=>do pure (.int .u8 (← Rtype.kind t))) Tryz.func362 (by kernel_rfl) (by kernel_rfl) (by kernel_rfl) (by kernel_rfl)
 have h37:=@run_callFunc_extern Tryz.prog 378 _ (ReflectliteType.method ReflectliteType.elem) Tryz.func378 (by kernel_rfl) (by kernel_rfl) (by kernel_rfl) (by kernel_rfl)
 have h38 := @run_callFunc_extern Tryz.prog 379 _ (ReflectliteType.relation "Implements" ReflectliteType.implements_) Tryz.func379 (by kernel_rfl) (by kernel_rfl) (by kernel_rfl) (by kernel_rfl)
 have h10:=@run_callFunc_extern Tryz.prog 60 _ ReflectliteType.typeOf Tryz.func60 (by kernel_rfl) (by kernel_rfl) (by kernel_rfl) (by kernel_rfl)
 have h35 := @run_callFunc_extern Tryz.prog 376 _ (ReflectliteType.relation "AssignableTo" ReflectliteType.assignableTo) Tryz.func376 (by kernel_rfl) (by kernel_rfl) (by kernel_rfl) (by kernel_rfl)
 have h11 := @run_callFunc_extern Tryz.prog 268 _ (ReflectliteValue.method (ReflectliteValue.valueError "reflectlite.Value.Elem" 0) ReflectliteValue.elem) Tryz.func268 (by kernel_rfl) (by kernel_rfl) (by kernel_rfl) (by kernel_rfl)
 have h12:=@run_callFunc_extern Tryz.prog 269 _ ReflectliteValue.set Tryz.func269 (by kernel_rfl) (by kernel_rfl) (by kernel_rfl) (by kernel_rfl)
 have tO:=as_typeOf25
 have mA:=as_methodAssignableTo
 have a25:=as_assignable25
 have v25:=as_valueOf25
 have f6:=as_valueOf27
 have f7:=as_type27
 have mK:=as_methodKind
 have mE:=as_methodElem
 have mI:=as_methodImplements
 have k27:=as_kind27
 have k25:=as_kind25
 have e27:=as_elem27
 have i25:=as_implements25
 have n8:=as_isNil27 ⟨w.heap.size,0,none⟩ t ((w.alloc (.cells #[.pointer (some t)] 241)).alloc (.cells #[.pointer (some ⟨5,241,none⟩),.pointer (some ⟨w.heap.size,0,none⟩),.int .u64 150] 351)) (by simp)
 have hlt:0 < w.heap.size:=by
  rcases Nat.eq_zero_or_pos w.heap.size with h0|h
  ·simp [World.cell?,h0] at hg
  ·exact h
 have hg2:((w.alloc (.cells #[.pointer (some t)] 241)).alloc (.cells #[.pointer (some ⟨5,241,none⟩),.pointer (some ⟨w.heap.size,0,none⟩),.int .u64 150] 351)).cell? ⟨0,0,none⟩=some (.iface 292 (.agg #[.pointer (some ⟨5,56,none⟩)])):=by
  rw [World.cell?_alloc_lt _ _ ⟨0,0,none⟩ (by simp),World.cell?_alloc_lt _ _ ⟨0,0,none⟩ hlt];exact hg
 have htl:t.block < w.heap.size:=by
  rcases Nat.lt_or_ge t.block w.heap.size with h|h
  ·exact h
  ·simp [World.cell?,Array.getElem?_eq_none h] at ht0
 have el:=as_elemV27 ⟨w.heap.size,0,none⟩ t (((w.alloc (.cells #[.pointer (some t)] 241)).alloc (.cells #[.pointer (some ⟨5,241,none⟩),.pointer (some ⟨w.heap.size,0,none⟩),.int .u64 150] 351)).alloc (.cells #[.pointer (some ⟨5,241,none⟩),.pointer (some ⟨w.heap.size,0,none⟩),.int .u64 150] 351)) (by rw [World.cell?_alloc_lt _ _ ⟨w.heap.size,0,none⟩ (by simp;omega)];simp)
 have st:=as_set25 t ⟨w.heap.size + 1 + 1 + 1,0,none⟩ e old ((((w.alloc (.cells #[.pointer (some t)] 241)).alloc (.cells #[.pointer (some ⟨5,241,none⟩),.pointer (some ⟨w.heap.size,0,none⟩),.int .u64 150] 351)).alloc (.cells #[.pointer (some ⟨5,241,none⟩),.pointer (some ⟨w.heap.size,0,none⟩),.int .u64 150] 351)).alloc (.cells #[.pointer (some e)] 167))
  (by rw [World.cell?_alloc_at _ _ _ _ (by simp)];rfl)
  (by rw [World.cell?_alloc_lt _ _ t (by simp;omega),World.cell?_alloc_lt _ _ t (by simp;omega),World.cell?_alloc_lt _ _ t (by simp;omega),World.cell?_alloc_lt _ _ t htl];exact ht0)
  (by rw [World.frozen?_alloc_old _ _ t (by simp;omega),World.frozen?_alloc_old _ _ t (by simp;omega),World.frozen?_alloc_old _ _ t (by simp;omega),World.frozen?_alloc_old _ _ t (Nat.ne_of_lt htl)];exact hf0)
 go_enter Tryz.func110,Tryz.ntmps110
 go_wp2
 refine wp_loop_rounds 1 ?_
 rw [rounds_succ]
 go_wp2
 go_ret
 exact ⟨rfl,rfl⟩
def HandleIs (w:World):Prop:=w.cell? ⟨0,0,none⟩=some (.iface 292 (.agg #[.pointer (some ⟨5,56,none⟩)]))
theorem HandleIs.pos {w:World} (h:HandleIs w):0 < w.heap.size:=by
 rcases Nat.eq_zero_or_pos w.heap.size with h0|h1
 ·unfold HandleIs at h
  simp [World.cell?,h0] at h
 ·exact h1
theorem HandleIs.below {w w':World} (h:HandleIs w) (hb:Below w.heap.size w w'):HandleIs w':=(hb.cell (p:=⟨0,0,none⟩) h.pos).trans h
theorem as_any (ge bt:Nat) (old:Value) (w:World) (hg:HandleIs w) (ht:Blk w bt 167 #[old]) :
  Calls Tryz.prog 110 #[.iface 167 (.pointer (some ⟨ge,0,none⟩)),.iface 241 (.pointer (some ⟨bt,0,none⟩))] w fun e w'=>e=.returned (.bool true)∧Blk w' bt 167 #[.pointer (some ⟨ge,0,none⟩)]∧Keeps (· = bt) w w':=by
 refine (as_hit ⟨ge,0,none⟩ ⟨bt,0,none⟩ old w hg (ht.cell 0) (ht.frozen 0)).mono ?_
 rintro e w' ⟨rfl,rfl⟩
 refine ⟨rfl,?_,?_⟩
 ·exact ((((ht.alloc _).alloc _).alloc _).alloc _).set_ 0 (.pointer (some ⟨ge,0,none⟩))
 ·exact Keeps.set (X:=(· = bt)) (p:=⟨bt,0,none⟩) (((((Keeps.refl _ w).trans (.alloc _)).trans (.alloc _)).trans (.alloc _)).trans (.alloc _)) (.inl rfl) _
def PlaceR (s:ByteArray) (n:Int) (w:World) (e:Ending) (w':World):Prop:=e=.returned (.tuple #[.string s,.int .i64 n,.bool true])∧Below w.heap.size w w'
end Go.Proofs.YtdaphppdmnmicaaGreatDoor.store
