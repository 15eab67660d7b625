/- A part of the proof of RegionNone: DelS, ShowS, SweepS, KeysS, AsC, ToldW. -/
import Derived.Test.YtdaphppdmnmicaaGreatDoorA40
import Derived.Test.YtdaphppdmnmicaaGreatDoorA01
import Derived.Test.YtdaphppdmnmicaaGreatDoorA41
namespace Go.Proofs.YtdaphppdmnmicaaGreatDoor.store
open Go Go.RowKit base err above law merge rows rowe rowops
def IndexR (L:List R) (P:R→Bool) (w:World) (e:Ending) (w':World):Prop :=
 ((∃ k:Nat,k < L.length∧(∀ x ∈ L.take k,P x=false)∧P (L.getD k rZ)=true∧e=.returned (.int .i64 k)) ∨ ((∀ x ∈ L,P x=false)∧e=.returned (.int .i64 (-1))))∧Below w.heap.size w w'
theorem getD_mem {L:List R} {k:Nat} (hk:k < L.length):L.getD k rZ ∈ L:=by
 rw [List.getD_eq_getElem?_getD,List.getElem?_eq_getElem hk]
 exact List.getElem_mem hk
theorem take_snocR {L:List R} {k:Nat} (hk:k < L.length):L.take (k + 1)=L.take k ++ [L.getD k rZ]:=by
 rw [List.take_succ_eq_append_getElem hk,List.getD_eq_getElem?_getD,List.getElem?_eq_getElem hk];rfl
end Go.Proofs.YtdaphppdmnmicaaGreatDoor.store
namespace Go.Proofs.YtdaphppdmnmicaaGreatDoor.store
open Go Go.RowKit base err above law merge rows rowe
def ListR (L:List R) (w:World) (e:Ending) (w':World):Prop :=
 ∃ v,e=.returned v∧w'.ownsRow w.heap.size rowT 7 v L.length (L.flatMap rcells)∧Below w.heap.size w w'
end Go.Proofs.YtdaphppdmnmicaaGreatDoor.store
namespace Go.Proofs.YtdaphppdmnmicaaGreatDoor.range_
open Go.RowKit base map_ Go.Maps Go.ChangeMaps Go.MapKept
section
variable {P:Program} {K T E:TypeId} {κ:Type} [DecidableEq κ] {Em:Emb P K κ} {w w':World} {r b:Nat} {m left:List (κ × Value)}
omit [DecidableEq κ] in
end
end Go.Proofs.YtdaphppdmnmicaaGreatDoor.range_
namespace Go.Proofs.YtdaphppdmnmicaaGreatDoor.store
open Go Go.RowKit base map_ range_ above law merge rows rowe Go.Maps
def goneB (fl:Int) (c:C):Bool:=c.g && decide (c.t≤fl)
def keepL (fl:Int) (L:List R):List R:=L.filter fun x=>!goneB fl x.2
theorem map_len {m:List (Nm × Value)} {L:List R} (hr:Rising L) (ha:Apart m) (he:∀ x,getM m x=(getL L x).map cval):m.length=L.length:=by
 have hall:=map_rows ha he
 have:∃ out:List R,m=out.map enR:=by
  clear ha he
  induction m with
  | nil=>exact ⟨[],rfl⟩
  | cons p m ih =>
   obtain ⟨x,e,_⟩:=hall p (by simp)
   obtain ⟨out,e2⟩:=ih (fun q hq=>hall q (by simp [hq]))
   exact ⟨x :: out,by rw [e,e2];rfl⟩
 obtain ⟨out,e⟩:=this
 have hp:=rows_perm hr ha he (out:=out) (by rw [e])
 rw [e,List.length_map]
 exact hp.length_eq
structure Part (fl:Int) (L:List R) (m left:List (Nm × Value)):Prop where
 got:∀ x,getM m x=(getL L x).map cval ∨ (getM m x=none∧∃ c,getL L x=some c∧goneB fl c=true)
 todo:∀ x c,getM m x=some (cval c)→goneB fl c=true→(x,cval c) ∈ left
theorem Part.start {fl:Int} {L:List R} {m:List (Nm × Value)} (he:∀ x,getM m x=(getL L x).map cval):Part fl L m m:=⟨fun x=>.inl (he x),fun _ _ h _=>get_mem h⟩
theorem Part.done {fl:Int} {L:List R} {m:List (Nm × Value)} (hr:Rising L) (h:Part fl L m []):∀ x,getM m x=(getL (keepL fl L) x).map cval:=by
 intro x
 unfold keepL
 rw [getL_filter hr]
 rcases h.got x with h1|⟨h1,c,h2,h3⟩
 ·rw [h1]
  cases hg:getL L x with
  | none=>rfl
  | some c =>
   rw [hg] at h1
   cases hb:goneB fl c with
   | true=>exact absurd (h.todo x c h1 hb) (by simp)
   | false=>simp [hb]
 ·rw [h1,h2]
  simp [h3]
theorem Part.row {fl:Int} {L:List R} {m left:List (Nm × Value)} (ha:Apart m) (h:Part fl L m left) {p:Nm × Value} (hp:p ∈ m):∃ x:R,p=enR x:=by
 obtain ⟨x,v⟩:=p
 have h1:=get_mem' ha hp
 rcases h.got x with h2|⟨h2,_⟩
 ·rw [h2] at h1
  cases hg:getL L x with
  | none=>rw [hg] at h1;cases h1
  | some c =>
   rw [hg] at h1
   injection h1 with h1
   exact ⟨(x,c),by rw [← h1];rfl⟩
 ·rw [h2] at h1;cases h1
theorem Part.skip {fl:Int} {L:List R} {m l1 l2:List (Nm × Value)} {x:R} (h:Part fl L m (l1 ++ enR x :: l2)) (hx:goneB fl x.2=false):Part fl L m (l1 ++ l2):=by
 refine ⟨h.got,fun y c h1 h2=>?_⟩
 have h3:=h.todo y c h1 h2
 simp only [List.mem_append,List.mem_cons] at h3 ⊢
 rcases h3 with h3|h3|h3
 ·exact .inl h3
 ·have:(y,c)=x:=enR_inj h3
  rw [← this] at hx
  simp only at hx
  rw [h2] at hx;cases hx
 ·exact .inr h3
theorem Part.drop {fl:Int} {L:List R} {m l1 l2:List (Nm × Value)} {x:R} (ha:Apart m) (hm:enR x ∈ m) (h:Part fl L m (l1 ++ enR x :: l2)) (hx:goneB fl x.2=true):Part fl L (delM m x.1) (l1 ++ l2):=by
 have hg:=get_mem' ha (x:=x.1) (v:=cval x.2) hm
 refine ⟨fun y=>?_,fun y c h1 h2=>?_⟩
 ·rw [get_del]
  by_cases e:y=x.1
  ·rw [if_pos e,e]
   right
   refine ⟨rfl,x.2,?_,hx⟩
   rcases h.got x.1 with h1|⟨h1,_⟩
   ·rw [hg] at h1
    cases hq:getL L x.1 with
    | none=>rw [hq] at h1;cases h1
    | some d =>
     rw [hq] at h1
     injection h1 with h1
     rw [cval_inj h1]
   ·rw [hg] at h1;cases h1
  ·rw [if_neg e];exact h.got y
 ·rw [get_del] at h1
  by_cases e:y=x.1
  ·rw [if_pos e] at h1;cases h1
  ·rw [if_neg e] at h1
   have h3:=h.todo y c h1 h2
   simp only [List.mem_append,List.mem_cons] at h3 ⊢
   rcases h3 with h3|h3|h3
   ·exact .inl h3
   ·exact absurd (congrArg Prod.fst h3) e
   ·exact .inr h3
theorem StI.len {w:World} {g bm:Nat} {L:List R} (h:StI w g bm L) (ty:TypeId):(Builtin.len_ #[mapT] ty #[.map (some bm)]).run Tryz.prog w=.ok (.int .i64 L.length) w:=by
 obtain ⟨m,hm,he⟩:=h.map
 rw [hm.len Tryz.underlying286 ty,map_len h.up hm.apart he]
end Go.Proofs.YtdaphppdmnmicaaGreatDoor.store
namespace Go.Proofs.YtdaphppdmnmicaaGreatDoor.store
open Go Go.RowKit base err above law merge rows rowe
def liveB (x:R):Bool:=x.1.2.toList.isEmpty && visC x.2
def livesL (L:List R):List ByteArray:=(L.filter liveB).map (·.1.1)
theorem str_info:(Tryz.prog.info? 9).map (fun i=>(i.zero,i.size,i.bytes))=some (some (.string ⟨#[]⟩),1,16):=by kernel_rfl
def TextsR (L:List ByteArray) (w:World) (e:Ending) (w':World):Prop :=
 ∃ v,e=.returned v∧w'.ownsRow w.heap.size 9 1 v L.length (L.map Value.string)∧Below w.heap.size w w'
set_option maxRecDepth 100000 in
set_option maxHeartbeats 2000000 in
theorem lives_any (g bm:Nat) (L:List R) (w:World) (h:StI w g bm L) (hl:L.length≤1000000) :
  Calls Tryz.prog 132 #[.pointer (some ⟨g,0,none⟩)] w (TextsR (livesL L) w):=by
 obtain ⟨i0,hi0,hz0,hz1,hz2⟩:=info_parts str_info
 have Hi0:=Lib.hid hi0
 have Hz0:=Lib.hid hz0
 have Hz1:=Lib.hid hz1
 have Hz2:=Lib.hid hz2
 have H:=Lib.hid h
 clear hi0 hz0 hz1 hz2 h
 go_enter Tryz.func132,Tryz.ntmps132
 go_wp2_with fail
 refine (rows_any g bm L w H.out hl).mono ?_
 rintro e w1 ⟨vr,rfl,hvr,hb1⟩
 have HB1:=Lib.hid hb1
 have hws:=hb1.size
 obtain ⟨A,c,rfl,hrd⟩:=own_reads hvr
 have HRD:=Lib.hid hrd
 clear hvr hb1 hrd
 generalize hB:w1.heap.size=B at *
 go_wp2
 go_loopw [3,9] (fun so si wr=>∃ k:Nat,k≤L.length∧si=.int .i64 k∧wr.ownsRow B 9 1 so ((L.take k).filter liveB).length (((L.take k).filter liveB).map fun x=>Value.string x.1.1)∧Below B w1 wr) (fun _ si _=>L.length - (intOf si).toNat)
 case atStart=>exact ⟨0,by omega,rfl,⟨by simp,.inl ⟨rfl,by simp⟩⟩,Below.refl _ _⟩
 case round =>
  obtain ⟨k,hk,rfl,i3,i4⟩:=hrel
  have hmle:((L.take k).filter liveB).length≤k:=by have:=List.length_filter_le liveB (L.take k);have:=List.length_take_le k L;omega
  obtain ⟨Ao,co,rfl⟩:=ownsRow_slice i3
  by_cases hlt:k < L.length
  ·obtain ⟨gr,off,rfl,hgr⟩:=HRD.out.at_some (by omega)
   have htk:=take_snocR (L:=L) (k:=k) hlt
   have hc:=row_at' (HRD.out.below i4) rfl hlt
   have hsz:=i4.size
   have hbl:gr < wr.heap.size:=by omega
   obtain ⟨x,hx⟩:∃ x,L.getD k rZ=x:=⟨_,rfl⟩
   rw [hx] at hc htk
   obtain ⟨e0,e1,e2,e3,e4,e5,e6⟩:=seven_of hc
   obtain ⟨⟨x1,x2⟩,⟨t,r,v,gn,l⟩⟩:=x
   dsimp only at e0 e1 e2 e3 e4 e5 e6
   have hbx:=below_new wr (.cells #[.string x1,.string x2,.int .i64 t,.int .i64 r,.string v,.bool gn,.int .i64 l] 274)
   have HTK:=Lib.hid htk
   have I3:=Lib.hid (own_below i3 hbx)
   have I4:=Lib.hid (i4.trans (hbx.mono (by omega)))
   have HBX:=Lib.hid (Blk.new wr 274 #[.string x1,.string x2,.int .i64 t,.int .i64 r,.string v,.bool gn,.int .i64 l])
   have hz:B≤(wr.alloc (.cells #[.string x1,.string x2,.int .i64 t,.int .i64 r,.string v,.bool gn,.int .i64 l] 274)).heap.size:=by simp;omega
   clear hx hc htk i3 i4 hbx
   cases q2:x2.toList.isEmpty with
   | false =>
    have HPB:=Lib.hid (show liveB ((x1,x2),⟨t,r,v,gn,l⟩)=false by unfold liveB;dsimp only;rw [q2];rfl)
    have HNO:=Lib.hid (show ((L.take (k + 1)).filter liveB)=((L.take k).filter liveB) by rw [HTK.out,List.filter_append,show [((x1,x2),(⟨t,r,v,gn,l⟩:C))].filter liveB=[] by simp only [List.filter_cons,HPB.out];rfl,List.append_nil])
    clear HBX
    go_wp2
    go_roundw
    case rel=>exact ⟨k + 1,by omega,by go_num,by rw [HNO.out];exact I3.out,I4.out⟩
    case measure=>simp [intOf];omega
   | true =>
    cases q3:(decide (0 < t) && !gn) with
    | false =>
     have HPB:=Lib.hid (show liveB ((x1,x2),⟨t,r,v,gn,l⟩)=false by unfold liveB visC;dsimp only;rw [q2,q3];rfl)
     have HQ3:=Lib.hid q3
     clear q3
     have HNO:=Lib.hid (show ((L.take (k + 1)).filter liveB)=((L.take k).filter liveB) by rw [HTK.out,List.filter_append,show [((x1,x2),(⟨t,r,v,gn,l⟩:C))].filter liveB=[] by simp only [List.filter_cons,HPB.out];rfl,List.append_nil])
     clear HBX
     go_wp2_with fail
     refine (visible_any t r v gn l _).mono ?_
     rintro e w5 ⟨rfl,hb5⟩
     rw [HQ3.out]
     have I35:=Lib.hid (own_below I3.out hb5)
     have I45:=Lib.hid (I4.out.trans (hb5.mono hz))
     clear hb5
     go_wp2
     go_roundw
     case rel=>exact ⟨k + 1,by omega,by go_num,by rw [HNO.out];exact I35.out,I45.out⟩
     case measure=>simp [intOf];omega
    | true =>
     have HPB:=Lib.hid (show liveB ((x1,x2),⟨t,r,v,gn,l⟩)=true by unfold liveB visC;dsimp only;rw [q2,q3];rfl)
     have HQ3:=Lib.hid q3
     clear q3
     have HYES:=Lib.hid (show ((L.take (k + 1)).filter liveB)=((L.take k).filter liveB) ++ [((x1,x2),(⟨t,r,v,gn,l⟩:C))] by rw [HTK.out,List.filter_append,show [((x1,x2),(⟨t,r,v,gn,l⟩:C))].filter liveB=[((x1,x2),(⟨t,r,v,gn,l⟩:C))] by simp only [List.filter_cons,HPB.out];rfl])
     go_wp2_with fail
     refine (visible_any t r v gn l _).mono ?_
     rintro e w5 ⟨rfl,hb5⟩
     rw [HQ3.out]
     have I35:=Lib.hid (own_below I3.out hb5)
     have I45:=Lib.hid (I4.out.trans (hb5.mono hz))
     have hx5:=HBX.out.below hb5 (by simp)
     have d1:w5.cell? ⟨wr.heap.size,0,none⟩=some (.string x1):=hx5.cell 0
     have dl:=hx5.lt
     have hz5:=hb5.size
     clear hb5 hx5 HBX
     go_wp2_with (at_builtin;refine wpList_append_new rfl (.tmp 21) (.tmp 24) _ rfl B 9 i0 _ 1 16 Tryz.underlying78 Hi0.out Hz0.out Hz1.out Hz2.out rfl (by decide) _ _ _ rfl I35.out 1 1 [.string x1] rfl rfl (by simp [Value.oneCell']) (by unfold maxLen;omega) (by omega) (by omega) ?_;intro v1 w6 hown1 hbw1 hgr1 hwh1;obtain ⟨A',c',rfl⟩:=ownsRow_slice hown1;have Hown1:=Lib.hid hown1;have Hbw1:=Lib.hid hbw1;clear hown1 hbw1 hgr1 hwh1)
     go_roundw
     case rel =>
      refine ⟨k + 1,by omega,by go_num,?_,I45.out.trans Hbw1.out⟩
      have:=Hown1.out
      rw [HYES.out]
      simpa using this
     case measure=>simp [intOf];omega
  ·obtain rfl:L.length=k:=by omega
   have HR:=Lib.hid (show TextsR (livesL L) w (.returned (.slice Ao ((L.take L.length).filter liveB).length co)) wr from by
    rw [List.take_length] at i3 ⊢
    refine ⟨_,rfl,?_,?_⟩
    ·unfold livesL
     rw [List.length_map,List.map_map]
     exact own_upR i3 hws
    ·exact HB1.out.trans (i4.mono hws))
   clear i3 i4
   go_wp2
   go_ret
   exact HR.out
end Go.Proofs.YtdaphppdmnmicaaGreatDoor.store
namespace Go.Proofs.YtdaphppdmnmicaaGreatDoor.store
open Go Go.RowKit Go.Extern.Stop Go.Stop Go.Extern base err is_
theorem ac_valueOf (t:Addr) (w:World):(ReflectliteValue.unpack (.iface 242 (.pointer (some t)))).run Tryz.prog w
  = .ok (.agg #[.pointer (some ⟨5,242,none⟩),.pointer (some ⟨w.heap.size,0,none⟩),.int .u64 150]) (w.alloc (.cells #[.pointer (some t)] 242)):=by kernel_rfl
theorem ac_type (a : Addr) (w : World) : (ReflectliteValue.methodAny (ReflectliteValue.valueError "reflectlite.Value.Type" 0) (fun t _ _ _ => ReflectliteType.toType t) #[.agg #[.pointer (some ⟨5, 242, none⟩), .pointer (some a), .int .u64 150]]).run Tryz.prog w
  = .ok (.iface 292 (.agg #[.pointer (some ⟨5,242,none⟩)])) w:=by kernel_rfl
theorem ac_kindp (w:World):((ReflectliteType.abiMethod fun t=>Functor.map (fun a:Nat=>Value.int IntKind.u8 (a:Int)) (Rtype.kind t)) #[.pointer (some ⟨5,242,none⟩)]).run Tryz.prog w=.ok (.int .u8 22) w:=by kernel_rfl
theorem ac_kind (w:World):((ReflectliteType.abiMethod fun t=>Functor.map (fun a:Nat=>Value.int IntKind.u8 (a:Int)) (Rtype.kind t)) #[.pointer (some ⟨5,74,none⟩)]).run Tryz.prog w=.ok (.int .u8 2) w:=by kernel_rfl
theorem ac_parts (a:Addr) (w:World):(ReflectliteValue.parts (.agg #[.pointer (some ⟨5,242,none⟩),.pointer (some a),.int .u64 150])).run Tryz.prog w=.ok (some (242,a,150)) w:=by kernel_rfl
theorem ac_isNil (a p:Addr) (W:World) (ha:W.cell? a=some (.pointer (some p))) :
  (ReflectliteValue.method (ReflectliteValue.valueError "reflectlite.Value.IsNil" 0) ReflectliteValue.isNil #[.agg #[.pointer (some ⟨5, 242, none⟩), .pointer (some a), .int .u64 150]]).run Tryz.prog W = .ok (.bool false) W := by
 rw [as_rlm]
 simp only [Sem.run_bind,ac_parts,Result.andThen]
 simp [ReflectliteValue.isNil,loadVar,isAgg,underlying,Tryz.underlying242,ha,Result.andThen]
theorem ac_elem (w:World):(ReflectliteType.method ReflectliteType.elem #[.agg #[.pointer (some ⟨5,242,none⟩)]]).run Tryz.prog w=.ok (.iface 292 (.agg #[.pointer (some ⟨5,74,none⟩)])) w:=by kernel_rfl
theorem ac_implements (w : World) : (ReflectliteType.relation "Implements" ReflectliteType.implements_ #[.agg #[.pointer (some ⟨5, 74, none⟩)], .iface 292 (.agg #[.pointer (some ⟨5, 56, none⟩)])]).run Tryz.prog w = .ok (.bool true) w := by kernel_rfl
theorem ac_typeOf (v:Value) (w:World):(ReflectliteType.typeOf #[.iface 74 v]).run Tryz.prog w=.ok (.iface 292 (.agg #[.pointer (some ⟨5,74,none⟩)])) w:=by kernel_rfl
theorem ac_assignE (w : World) : (ReflectliteType.relation "AssignableTo" ReflectliteType.assignableTo #[.agg #[.pointer (some ⟨5, 167, none⟩)], .iface 292 (.agg #[.pointer (some ⟨5, 74, none⟩)])]).run Tryz.prog w = .ok (.bool false) w := by kernel_rfl
theorem ac_assignC (w : World) : (ReflectliteType.relation "AssignableTo" ReflectliteType.assignableTo #[.agg #[.pointer (some ⟨5, 74, none⟩)], .iface 292 (.agg #[.pointer (some ⟨5, 74, none⟩)])]).run Tryz.prog w = .ok (.bool true) w := by kernel_rfl
theorem ac_valueOfC (c:Int) (w:World):(ReflectliteValue.unpack (.iface 74 (.int .i64 c))).run Tryz.prog w
  = .ok (.agg #[.pointer (some ⟨5,74,none⟩),.pointer (some ⟨w.heap.size,0,none⟩),.int .u64 130]) (w.alloc (.cells #[.int .i64 c] 74)):=by kernel_rfl
theorem ac_elemOf (w:World):(Rtype.elem? 242).run Tryz.prog w=.ok (some 74) w:=by kernel_rfl
theorem ac_mk (p:Addr) (w:World):(ReflectliteValue.mk 74 p ReflectliteValue.flagAddr).run Tryz.prog w=.ok (.agg #[.pointer (some ⟨5,74,none⟩),.pointer (some p),.int .u64 386]) w:=by kernel_rfl
theorem ac_elemV (a p:Addr) (W:World) (ha:W.cell? a=some (.pointer (some p))) :
  (ReflectliteValue.method (ReflectliteValue.valueError "reflectlite.Value.Elem" 0) ReflectliteValue.elem #[.agg #[.pointer (some ⟨5, 242, none⟩), .pointer (some a), .int .u64 150]]).run Tryz.prog W
   = .ok (.agg #[.pointer (some ⟨5,74,none⟩),.pointer (some p),.int .u64 386]) W:=by
 rw [as_rlm]
 simp only [Sem.run_bind,ac_parts,Result.andThen]
 simp [ReflectliteValue.elem,loadVar,isAgg,underlying,Tryz.underlying242,ha,Result.andThen,ac_elemOf,ac_mk]
theorem ac_partsCa (a:Addr) (w:World):(ReflectliteValue.parts (.agg #[.pointer (some ⟨5,74,none⟩),.pointer (some a),.int .u64 386])).run Tryz.prog w=.ok (some (74,a,386)) w:=by kernel_rfl
theorem ac_partsC (a:Addr) (w:World):(ReflectliteValue.parts (.agg #[.pointer (some ⟨5,74,none⟩),.pointer (some a),.int .u64 130])).run Tryz.prog w=.ok (some (74,a,130)) w:=by kernel_rfl
theorem ac_direct (w:World):(Rtype.directlyAssignable 74 74).run Tryz.prog w=.ok true w:=by kernel_rfl
theorem ac_set (ta b:Addr) (c:Int) (old:Value) (W:World) (hb:W.cell? b=some (.int .i64 c)) (ht:W.cell? ta=some old) (hf:W.frozen? ta=false) :
  (ReflectliteValue.set #[.agg #[.pointer (some ⟨5,74,none⟩),.pointer (some ta),.int .u64 386],.agg #[.pointer (some ⟨5,74,none⟩),.pointer (some b),.int .u64 130]]).run Tryz.prog W
   = .ok (.tuple #[]) (W.setCell ta (.int .i64 c)):=by
 rw [as_rls]
 simp only [Sem.run_bind,ac_partsCa,ac_partsC,Result.andThen]
 simp [ReflectliteValue.flagAddr,loadVar,isAgg,underlying,Tryz.underlying74,hb,Result.andThen,ac_direct,storeVar,Value.cells,storeCells,Addr.add]
 rw [run_store Tryz.prog W ta _ _ (by rfl)]
 simp [ht,hf]
theorem noAsE (v:Value) (xT:TypeId) (w:World):(Instr.typeAssert (.iface 167 v) xT 420 true).run Tryz.prog w=.ok (.tuple #[.nilIface,.bool false]) w:=run_typeAssert_lacksB Tryz.underlying420 (by kernel_rfl) (by kernel_rfl) v xT w
set_option maxHeartbeats 8000000 in
theorem as_chain (g g2:Nat) (t:Addr) (old:Value) (c:Int) (w:World) (hg:w.cell? ⟨0,0,none⟩=some (.iface 292 (.agg #[.pointer (some ⟨5,56,none⟩)])))
  (h2:w.cell? ⟨g,2,none⟩=some (.iface 167 (.pointer (some ⟨g2,0,none⟩)))) (h3:w.cell? ⟨g2,2,none⟩=some (.iface 74 (.int .i64 c))) (ht0:w.cell? t=some old) (hf0:w.frozen? t=false) :
  Calls Tryz.prog 110 #[.iface 167 (.pointer (some ⟨g,0,none⟩)),.iface 242 (.pointer (some t))] w fun ev w'=>ev=.returned (.bool true)∧w'=((((w.alloc (.cells #[.pointer (some t)] 242)).alloc (.cells #[.pointer (some ⟨5,242,none⟩),.pointer (some ⟨w.heap.size,0,none⟩),.int .u64 150] 351)).alloc (.cells #[.pointer (some ⟨5,242,none⟩),.pointer (some ⟨w.heap.size,0,none⟩),.int .u64 150] 351)).alloc (.cells #[.int .i64 c] 74)).setCell t (.int .i64 c):=by
 have h6:=@run_callFunc_extern Tryz.prog 199 _ (fun args=>ReflectliteValue.unpack (args.getD 0 (.tuple #[]))) Tryz.func199 (by kernel_rfl) (by kernel_rfl) (by kernel_rfl) (by kernel_rfl)
 have h7 := @run_callFunc_extern Tryz.prog 200 _ (ReflectliteValue.methodAny (ReflectliteValue.valueError "reflectlite.Value.Type" 0) (fun t _ _ _ => ReflectliteType.toType t)) Tryz.func200 (by kernel_rfl) (by kernel_rfl) (by kernel_rfl) (by kernel_rfl)
 have h8 := @run_callFunc_extern Tryz.prog 201 _ (ReflectliteValue.method (ReflectliteValue.valueError "reflectlite.Value.IsNil" 0) ReflectliteValue.isNil) Tryz.func201 (by kernel_rfl) (by kernel_rfl) (by kernel_rfl) (by kernel_rfl)
 have h27:=@run_callFunc_extern Tryz.prog 362 _ (ReflectliteType.abiMethod fun t=>do pure (.int .u8 (← Rtype.kind t))) Tryz.func362 (by kernel_rfl) (by kernel_rfl) (by kernel_rfl) (by kernel_rfl)
 have h37:=@run_callFunc_extern Tryz.prog 378 _ (ReflectliteType.method ReflectliteType.elem) Tryz.func378 (by kernel_rfl) (by kernel_rfl) (by kernel_rfl) (by kernel_rfl)
 have h38 := @run_callFunc_extern Tryz.prog 379 _ (ReflectliteType.relation "Implements" ReflectliteType.implements_) Tryz.func379 (by kernel_rfl) (by kernel_rfl) (by kernel_rfl) (by kernel_rfl)
 have h10:=@run_callFunc_extern Tryz.prog 60 _ ReflectliteType.typeOf Tryz.func60 (by kernel_rfl) (by kernel_rfl) (by kernel_rfl) (by kernel_rfl)
 have h35 := @run_callFunc_extern Tryz.prog 376 _ (ReflectliteType.relation "AssignableTo" ReflectliteType.assignableTo) Tryz.func376 (by kernel_rfl) (by kernel_rfl) (by kernel_rfl) (by kernel_rfl)
 have h11 := @run_callFunc_extern Tryz.prog 268 _ (ReflectliteValue.method (ReflectliteValue.valueError "reflectlite.Value.Elem" 0) ReflectliteValue.elem) Tryz.func268 (by kernel_rfl) (by kernel_rfl) (by kernel_rfl) (by kernel_rfl)
 have h12:=@run_callFunc_extern Tryz.prog 269 _ ReflectliteValue.set Tryz.func269 (by kernel_rfl) (by kernel_rfl) (by kernel_rfl) (by kernel_rfl)
 have tO:=as_typeOf25
 have tC:=ac_typeOf
 have mA:=as_methodAssignableTo
 have aE:=ac_assignE
 have aC:=ac_assignC
 have vC:=ac_valueOfC
 have f6:=ac_valueOf
 have f7:=ac_type
 have mK:=as_methodKind
 have mE:=as_methodElem
 have mI:=as_methodImplements
 have k27:=ac_kindp
 have k25:=ac_kind
 have e27:=ac_elem
 have i25:=ac_implements
 have n1:=noAsE
 have n2:=is_.hasUnwrap
 have mU:=is_.methodUnwrap
 have n8:=ac_isNil ⟨w.heap.size,0,none⟩ t ((w.alloc (.cells #[.pointer (some t)] 242)).alloc (.cells #[.pointer (some ⟨5,242,none⟩),.pointer (some ⟨w.heap.size,0,none⟩),.int .u64 150] 351)) (by simp)
 have hlt:0 < w.heap.size:=cell_lt hg
 have hg2:((w.alloc (.cells #[.pointer (some t)] 242)).alloc (.cells #[.pointer (some ⟨5,242,none⟩),.pointer (some ⟨w.heap.size,0,none⟩),.int .u64 150] 351)).cell? ⟨0,0,none⟩=some (.iface 292 (.agg #[.pointer (some ⟨5,56,none⟩)])):=by
  rw [World.cell?_alloc_lt _ _ ⟨0,0,none⟩ (by simp),World.cell?_alloc_lt _ _ ⟨0,0,none⟩ hlt];exact hg
 have hgl:=cell_lt h2
 have hgl2:=cell_lt h3
 have q2:(((w.alloc (.cells #[.pointer (some t)] 242)).alloc (.cells #[.pointer (some ⟨5,242,none⟩),.pointer (some ⟨w.heap.size,0,none⟩),.int .u64 150] 351)).alloc (.cells #[.pointer (some ⟨5,242,none⟩),.pointer (some ⟨w.heap.size,0,none⟩),.int .u64 150] 351)).cell? ⟨g,2,none⟩=some (.iface 167 (.pointer (some ⟨g2,0,none⟩))):=by
  rw [World.cell?_alloc_lt _ _ ⟨g,2,none⟩ (by simp;omega),World.cell?_alloc_lt _ _ ⟨g,2,none⟩ (by simp;omega),World.cell?_alloc_lt _ _ ⟨g,2,none⟩ hgl];exact h2
 have q3:(((w.alloc (.cells #[.pointer (some t)] 242)).alloc (.cells #[.pointer (some ⟨5,242,none⟩),.pointer (some ⟨w.heap.size,0,none⟩),.int .u64 150] 351)).alloc (.cells #[.pointer (some ⟨5,242,none⟩),.pointer (some ⟨w.heap.size,0,none⟩),.int .u64 150] 351)).cell? ⟨g2,2,none⟩=some (.iface 74 (.int .i64 c)):=by
  rw [World.cell?_alloc_lt _ _ ⟨g2,2,none⟩ (by simp;omega),World.cell?_alloc_lt _ _ ⟨g2,2,none⟩ (by simp;omega),World.cell?_alloc_lt _ _ ⟨g2,2,none⟩ hgl2];exact h3
 have htl:t.block < w.heap.size:=by
  rcases Nat.lt_or_ge t.block w.heap.size with h|h
  ·exact h
  ·simp [World.cell?,Array.getElem?_eq_none h] at ht0
 have el:=ac_elemV ⟨w.heap.size,0,none⟩ t (((w.alloc (.cells #[.pointer (some t)] 242)).alloc (.cells #[.pointer (some ⟨5,242,none⟩),.pointer (some ⟨w.heap.size,0,none⟩),.int .u64 150] 351)).alloc (.cells #[.pointer (some ⟨5,242,none⟩),.pointer (some ⟨w.heap.size,0,none⟩),.int .u64 150] 351)) (by rw [World.cell?_alloc_lt _ _ ⟨w.heap.size,0,none⟩ (by simp;omega)];simp)
 have st:=ac_set t ⟨w.heap.size + 1 + 1 + 1,0,none⟩ c old ((((w.alloc (.cells #[.pointer (some t)] 242)).alloc (.cells #[.pointer (some ⟨5,242,none⟩),.pointer (some ⟨w.heap.size,0,none⟩),.int .u64 150] 351)).alloc (.cells #[.pointer (some ⟨5,242,none⟩),.pointer (some ⟨w.heap.size,0,none⟩),.int .u64 150] 351)).alloc (.cells #[.int .i64 c] 74))
  (by rw [World.cell?_alloc_at _ _ _ _ (by simp)];rfl)
  (by rw [World.cell?_alloc_lt _ _ t (by simp;omega),World.cell?_alloc_lt _ _ t (by simp;omega),World.cell?_alloc_lt _ _ t (by simp;omega),World.cell?_alloc_lt _ _ t htl];exact ht0)
  (by rw [World.frozen?_alloc_old _ _ t (by simp;omega),World.frozen?_alloc_old _ _ t (by simp;omega),World.frozen?_alloc_old _ _ t (by simp;omega),World.frozen?_alloc_old _ _ t (Nat.ne_of_lt htl)];exact hf0)
 go_enter Tryz.func110,Tryz.ntmps110
 go_wp2
 refine wp_loop_rounds 3 ?_
 rw [rounds_succ]
 go_wp2
 rw [rounds_succ]
 go_wp2
 rw [rounds_succ]
 go_wp2
 go_ret
 exact ⟨rfl,rfl⟩
theorem as_code (g g2 bt:Nat) (c:Int) (w:World) (hg:HandleIs w) (h2:w.cell? ⟨g,2,none⟩=some (.iface 167 (.pointer (some ⟨g2,0,none⟩)))) (h3:w.cell? ⟨g2,2,none⟩=some (.iface 74 (.int .i64 c))) (ht:Blk w bt 74 #[.int .i64 0]) :
  Calls Tryz.prog 110 #[.iface 167 (.pointer (some ⟨g,0,none⟩)),.iface 242 (.pointer (some ⟨bt,0,none⟩))] w fun e w'=>e=.returned (.bool true)∧Blk w' bt 74 #[.int .i64 c]∧Keeps (· = bt) w w':=by
 refine (as_chain g g2 ⟨bt,0,none⟩ (.int .i64 0) c w hg h2 h3 (ht.cell 0) (ht.frozen 0)).mono ?_
 rintro e w' ⟨rfl,rfl⟩
 refine ⟨rfl,?_,?_⟩
 ·exact ((((ht.alloc _).alloc _).alloc _).alloc _).set_ 0 (.int .i64 c)
 ·exact Keeps.set (X:=(· = bt)) (p:=⟨bt,0,none⟩) (((((Keeps.refl _ w).trans (.alloc _)).trans (.alloc _)).trans (.alloc _)).trans (.alloc _)) (.inl rfl) _
end Go.Proofs.YtdaphppdmnmicaaGreatDoor.store
namespace Go.Proofs.YtdaphppdmnmicaaGreatDoor.store
open Go Go.RowKit base err
theorem place_w (ge:Nat) (v':Value) (s:ByteArray) (n:Int) (w:World) (hg:HandleIs w) (hb:Blk w ge 169 #[.string s,.int .i64 n,v']):Calls Tryz.prog 39 #[.iface 167 (.pointer (some ⟨ge,0,none⟩))] w (PlaceR s n w):=by
 have HB:=Lib.hid hb
 have HG:=Lib.hid hg
 have hlt:=hb.lt
 have HN:=Lib.hid (below_new w (.cells #[.pointer none] 167))
 clear hb hg
 go_enter Tryz.func39,Tryz.ntmps39
 go_wp2_with fail
 refine (as_any ge w.heap.size (.pointer none) _ (HG.out.below HN.out) (Blk.new _ _ _)).mono ?_
 rintro e w1 ⟨rfl,hb1,hk1⟩
 have hB:Below w.heap.size w w1:=below_keeps HN.out (Nat.le_refl _) hk1 (fun i hi e=>by omega)
 have HGE:=Lib.hid (HB.out.below hB hlt)
 have HB2:=Lib.hid hb1
 have HBB:=Lib.hid hB
 have c2:w1.cell? ⟨w.heap.size,0,none⟩=some (.pointer (some ⟨ge,0,none⟩)):=hb1.cell 0
 have l2:=hb1.lt
 clear hB hb1 hk1
 go_wp2_with fail
 refine wp_region_mono nobody (by kernel_rfl) ?_
 iterate 11
  first|refine qT 0 (v:=?_) ?_ ?_|refine qT 1 (v:=?_) ?_ ?_|refine qT 2 (v:=?_) ?_ ?_|refine qT 3 (v:=?_) ?_ ?_|refine qT 4 (v:=?_) ?_ ?_|refine qT 5 (v:=?_) ?_ ?_|refine qT 6 (v:=?_) ?_ ?_|refine qT 7 (v:=?_) ?_ ?_|refine qT 8 (v:=?_) ?_ ?_|refine qT 9 (v:=?_) ?_ ?_|refine qT 10 (v:=?_) ?_ ?_
  rotate_left
  ·(intro W hSw;((have hk:=HGE.out.drew.keeps hSw (fun h=>h);have hk2:=HB2.out.drew.keeps hSw (fun h=>h);have q0:W.cell? ⟨ge,0,none⟩=some (.string s):=hk.cell 0;have q1:W.cell? ⟨ge,1,none⟩=some (.int .i64 n):=hk.cell 1;have q2:W.cell? ⟨w.heap.size,0,none⟩=some (.pointer (some ⟨ge,0,none⟩)):=hk2.cell 0;have l1:=hk.lt;have l2:=hk2.lt));go_simp <;> rfl)
  try simp only [qPA]
 refine wpMono_done (by kernel_rfl) ?_ _
 go_wp2
 exact bodyPost_ret (v:=.tuple #[.string s,.int .i64 n,.bool true]) (by simp [results,Tryz.results39,go_sem]) rfl ⟨rfl,HBB.out.drew⟩
theorem number_w {v:Value} {c:Int} (w:World) (hg:HandleIs w) (h:ErrD w 2 v c):Calls Tryz.prog 40 #[v] w fun e w'=>e=.returned (.int .i64 c)∧Below w.heap.size w w':=by
 obtain ⟨g,v1,rfl,hl,hc1,g2,v2,rfl,hl2,hc2,h0⟩:=h
 have h0:v2=_:=h0
 subst h0
 have HG:=Lib.hid hg
 have HC1:=Lib.hid hc1
 have HC2:=Lib.hid hc2
 have HN:=Lib.hid (below_new w (.cells #[.int .i64 0] 74))
 clear hg hc1 hc2
 go_enter Tryz.func40,Tryz.ntmps40
 go_wp2_with fail
 refine (as_code g g2 w.heap.size c _ (HG.out.below HN.out) ((HN.out.cell (p:=⟨g,2,none⟩) hl).trans HC1.out) ((HN.out.cell (p:=⟨g2,2,none⟩) hl2).trans HC2.out) (Blk.new _ _ _)).mono ?_
 rintro e w1 ⟨rfl,hb1,hk1⟩
 have HB:=Lib.hid (show Below w.heap.size w w1 from below_keeps HN.out (Nat.le_refl _) hk1 (fun i hi e=>by omega))
 have c2:w1.cell? ⟨w.heap.size,0,none⟩=some (.int .i64 c):=hb1.cell 0
 have l2:=hb1.lt
 clear hb1 hk1
 go_wp2_with fail
 go_ret
 exact ⟨rfl,HB.out⟩
theorem told_nil (w:World):Calls Tryz.prog 10 #[.nilIface,.int .i64 0] w fun e w'=>e=.returned (.bool true)∧w'=w:=by
 go_enter Tryz.func10,Tryz.ntmps10
 go_wp2_with fail
 go_ret
 exact ⟨rfl,rfl⟩
theorem told_one (g:Nat) (n:Int) (v':Value) (w:World) (hg:HandleIs w) (h:ErrD w 2 (.iface 167 (.pointer (some ⟨g,0,none⟩))) 1) (hb:Blk w g 169 #[.string ⟨#[114,101,103,105,111,110]⟩,.int .i64 n,v']) :
  Calls Tryz.prog 10 #[.iface 167 (.pointer (some ⟨g,0,none⟩)),.int .i64 1] w fun e w'=>e=.returned (.bool true)∧Below w.heap.size w w':=by
 have HG:=Lib.hid hg
 have HE:=Lib.hid h
 have HB:=Lib.hid hb
 clear hg h hb
 go_enter Tryz.func10,Tryz.ntmps10
 go_wp2_with fail
 refine (place_w g v' _ n w HG.out HB.out).mono ?_
 rintro e w1 ⟨rfl,hb1⟩
 have HG1:=Lib.hid (HG.out.below hb1)
 have HE1:=Lib.hid (HE.out.below hb1)
 have HB1:=Lib.hid hb1
 have hs1:=hb1.size
 clear hb1 HB HE HG
 go_wp2_with fail
 refine (is_chain 1 HE1.out (by omega) (by omega)).mono ?_
 rintro e w2 ⟨rfl,hw⟩
 subst hw
 go_wp2_with fail
 refine (number_w _ HG1.out HE1.out).mono ?_
 rintro e w3 ⟨rfl,hb3⟩
 have HB3:=Lib.hid (HB1.out.trans (hb3.mono hs1))
 clear hb3
 go_wp2_with fail
 go_ret
 exact ⟨rfl,HB3.out⟩
end Go.Proofs.YtdaphppdmnmicaaGreatDoor.store
