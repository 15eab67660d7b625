/- A part of the proof of GateLapsed: DelS, ShowS, SweepS, KeysS, OpenP. -/
import Derived.Test.YthlahcnglacekaaGreatDoorA39
import Derived.Test.YthlahcnglacekaaGreatDoorA01
import Derived.Test.YthlahcnglacekaaGreatDoorA22
set_option maxRecDepth 100000
set_option maxHeartbeats 16000000
namespace Go.Proofs.YthlahcnglacekaaGreatDoor
namespace store
open Go Go.RowKit base err above law merge rows rowe rowops
def IndexR (L:List R) (P:R→Bool) (w:World) (e:Ending) (w':World):Prop :=
 ((∃ k:Nat,k<L.length∧(∀ x ∈ L.take k,P x=false)∧P (L.getD k rZ)=true∧e=.returned (.int .i64 k))∨((∀ x ∈ L,P x=false)∧e=.returned (.int .i64 (-1))))∧Below w.heap.size w w'
theorem getD_mem {L:List R} {k:Nat} (hk:k<L.length):L.getD k rZ ∈ L:=by
 rw [List.getD_eq_getElem?_getD,List.getElem?_eq_getElem hk];exact List.getElem_mem hk
theorem take_snocR {L:List R} {k:Nat} (hk:k<L.length):L.take (k+1)=L.take k++[L.getD k rZ]:=by
 rw [List.take_succ_eq_append_getElem hk,List.getD_eq_getElem?_getD,List.getElem?_eq_getElem hk];rfl
end store
namespace store
open Go Go.RowKit base err above law merge rows rowe
def ListR (L:List R) (w:World) (e:Ending) (w':World):Prop :=
 ∃ v,e=.returned v∧w'.ownsRow w.heap.size rowT 7 v L.length (L.flatMap rcells)∧Below w.heap.size w w'
end store
namespace range_
open Go.RowKit base map_ Go.Maps Go.ChangeMaps Go.MapKept
section
variable {P:Program} {K T E:TypeId} {κ:Type} [DecidableEq κ] {Em:Emb P K κ} {w w':World} {r b:Nat} {m left:List (κ × Value)}
omit [DecidableEq κ] in
end
end range_
namespace store
open Go Go.RowKit base map_ range_ above law merge rows rowe Go.Maps
def goneB (fl:Int) (c:C):Bool:=c.g&&decide (c.t≤fl)
def keepL (fl:Int) (L:List R):List R:=L.filter fun x=>!goneB fl x.2
theorem map_len {m:List (Nm × Value)} {L:List R} (hr:Rising L) (ha:Apart m) (he:∀ x,getM m x=(getL L x).map cval):m.length=L.length:=by
 have hall:=map_rows ha he
 have:∃ out:List R,m=out.map enR:=by
  clear ha he
  induction m with
  | nil=>exact ⟨[],rfl⟩
  | cons p m ih =>
   obtain ⟨x,e,_⟩:=hall p (by simp);obtain ⟨out,e2⟩:=ih (fun q hq=>hall q (by simp [hq]));exact ⟨x :: out,by rw [e,e2];rfl⟩
 obtain ⟨out,e⟩:=this;have hp:=rows_perm hr ha he (out:=out) (by rw [e]);rw [e,List.length_map];exact hp.length_eq
structure Part (fl:Int) (L:List R) (m left:List (Nm × Value)):Prop where
 got:∀ x,getM m x=(getL L x).map cval∨(getM m x=none∧∃ c,getL L x=some c∧goneB fl c=true)
 todo:∀ x c,getM m x=some (cval c)→goneB fl c=true→(x,cval c) ∈ left
theorem Part.start {fl:Int} {L:List R} {m:List (Nm × Value)} (he:∀ x,getM m x=(getL L x).map cval):Part fl L m m:=⟨fun x=>.inl (he x),fun _ _ h _=>get_mem h⟩
theorem Part.done {fl:Int} {L:List R} {m:List (Nm × Value)} (hr:Rising L) (h:Part fl L m []):∀ x,getM m x=(getL (keepL fl L) x).map cval:=by
 intro x;unfold keepL;rw [getL_filter hr]
 rcases h.got x with h1|⟨h1,c,h2,h3⟩
 ·rw [h1]
  cases hg:getL L x with
  | none=>rfl
  | some c =>
   rw [hg] at h1
   cases hb:goneB fl c with
   | true=>exact absurd (h.todo x c h1 hb) (by simp)
   | false=>simp [hb]
 ·rw [h1,h2]
  simp [h3]
theorem Part.row {fl:Int} {L:List R} {m left:List (Nm × Value)} (ha:Apart m) (h:Part fl L m left) {p:Nm × Value} (hp:p ∈ m):∃ x:R,p=enR x:=by
 obtain ⟨x,v⟩:=p;have h1:=get_mem' ha hp
 rcases h.got x with h2|⟨h2,_⟩
 ·rw [h2] at h1
  cases hg:getL L x with
  | none=>rw [hg] at h1;cases h1
  | some c =>
   rw [hg] at h1;injection h1 with h1;exact ⟨(x,c),by rw [←h1];rfl⟩
 ·rw [h2] at h1;cases h1
theorem Part.skip {fl:Int} {L:List R} {m l1 l2:List (Nm × Value)} {x:R} (h:Part fl L m (l1++enR x :: l2)) (hx:goneB fl x.2=false):Part fl L m (l1++l2):=by
 refine ⟨h.got,fun y c h1 h2=>?_⟩;have h3:=h.todo y c h1 h2;simp only [List.mem_append,List.mem_cons] at h3 ⊢
 rcases h3 with h3|h3|h3
 ·exact .inl h3
 ·have:(y,c)=x:=enR_inj h3
  rw [←this] at hx;simp only at hx;rw [h2] at hx;cases hx
 ·exact .inr h3
theorem Part.drop {fl:Int} {L:List R} {m l1 l2:List (Nm × Value)} {x:R} (ha:Apart m) (hm:enR x ∈ m) (h:Part fl L m (l1++enR x :: l2)) (hx:goneB fl x.2=true):Part fl L (delM m x.1) (l1++l2):=by
 have hg:=get_mem' ha (x:=x.1) (v:=cval x.2) hm;refine ⟨fun y=>?_,fun y c h1 h2=>?_⟩
 ·rw [get_del]
  by_cases e:y=x.1
  ·rw [if_pos e,e]
   right
   refine ⟨rfl,x.2,?_,hx⟩
   rcases h.got x.1 with h1|⟨h1,_⟩
   ·rw [hg] at h1
    cases hq:getL L x.1 with
    | none=>rw [hq] at h1;cases h1
    | some d =>
     rw [hq] at h1;injection h1 with h1;rw [cval_inj h1]
   ·rw [hg] at h1;cases h1
  ·rw [if_neg e];exact h.got y
 ·rw [get_del] at h1
  by_cases e:y=x.1
  ·rw [if_pos e] at h1;cases h1
  ·rw [if_neg e] at h1
   have h3:=h.todo y c h1 h2;simp only [List.mem_append,List.mem_cons] at h3 ⊢
   rcases h3 with h3|h3|h3
   ·exact .inl h3
   ·exact absurd (congrArg Prod.fst h3) e
   ·exact .inr h3
theorem StI.len {w:World} {g bm:Nat} {L:List R} (h:StI w g bm L) (ty:TypeId):(Builtin.len_ #[mapT] ty #[.map (some bm)]).run Tryz.prog w=.ok (.int .i64 L.length) w:=by
 obtain ⟨m,hm,he⟩:=h.map;rw [hm.len Tryz.underlying252 ty,map_len h.up hm.apart he]
end store
namespace store
open Go Go.RowKit base err above law merge rows rowe
def keyB (s:ByteArray) (x:R):Bool:=(x.1.1.toList==s.toList)&&(!x.1.2.toList.isEmpty&&visC x.2)
def liveB (x:R):Bool:=x.1.2.toList.isEmpty&&visC x.2
def keysL (L:List R) (s:ByteArray):List ByteArray:=(L.filter (keyB s)).map (·.1.2)
def livesL (L:List R):List ByteArray:=(L.filter liveB).map (·.1.1)
theorem str_info:(Tryz.prog.info? 9).map (fun i=>(i.zero,i.size,i.bytes))=some (some (.string ⟨#[]⟩),1,16):=by kernel_rfl
def TextsR (L:List ByteArray) (w:World) (e:Ending) (w':World):Prop :=
 ∃ v,e=.returned v∧w'.ownsRow w.heap.size 9 1 v L.length (L.map Value.string)∧Below w.heap.size w w'
theorem keys_any (g bm:Nat) (L:List R) (s:ByteArray) (w:World) (h:StI w g bm L) (hl:L.length≤1000000) :
  Calls Tryz.prog 170 #[.pointer (some ⟨g,0,none⟩),.string s] w (TextsR (keysL L s) w):=by
 obtain ⟨i0,hi0,hz0,hz1,hz2⟩:=info_parts str_info;have Hi0:=qH hi0;have Hz0:=qH hz0;have Hz1:=qH hz1;have Hz2:=qH hz2;have H:=qH h;clear hi0 hz0 hz1 hz2 h;go_enter Tryz.func170,Tryz.ntmps170;go_wp2_with fail;refine (rows_any g bm L w H.out hl).mono ?_;rintro e w1 ⟨vr,rfl,hvr,hb1⟩;have HB1:=qH hb1;have hws:=hb1.size;obtain ⟨A,c,rfl,hrd⟩:=own_reads hvr;have HRD:=qH hrd;clear hvr hb1 hrd;generalize hB:w1.heap.size=B at *;go_wp2
 go_loopw [5,11] (fun so si wr=>∃ k:Nat,k≤L.length∧si=.int .i64 k∧wr.ownsRow B 9 1 so ((L.take k).filter (keyB s)).length (((L.take k).filter (keyB s)).map fun x=>Value.string x.1.2)∧Below B w1 wr) (fun _ si _=>L.length-(intOf si).toNat)
 case atStart=>exact ⟨0,by omega,rfl,⟨by simp,.inl ⟨rfl,by simp⟩⟩,Below.refl _ _⟩
 case round =>
  obtain ⟨k,hk,rfl,i3,i4⟩:=hrel;have hmle:((L.take k).filter (keyB s)).length≤k:=by have:=List.length_filter_le (keyB s) (L.take k);have:=List.length_take_le k L;omega
  obtain ⟨Ao,co,rfl⟩:=ownsRow_slice i3
  by_cases hlt:k<L.length
  ·obtain ⟨gr,off,rfl,hgr⟩:=HRD.out.at_some (by omega)
   have htk:=take_snocR (L:=L) (k:=k) hlt;have hc:=row_at' (HRD.out.below i4) rfl hlt;have hsz:=i4.size;have hbl:gr<wr.heap.size:=by omega
   obtain ⟨x,hx⟩:∃ x,L.getD k rZ=x:=⟨_,rfl⟩;rw [hx] at hc htk;obtain ⟨e0,e1,e2,e3,e4,e5,e6⟩:=seven_of hc;obtain ⟨⟨x1,x2⟩,⟨t,r,v,gn,l⟩⟩:=x;dsimp only at e0 e1 e2 e3 e4 e5 e6;have hbx:=below_new wr (.cells #[.string x1,.string x2,.int .i64 t,.int .i64 r,.string v,.bool gn,.int .i64 l] 246);have HTK:=qH htk;have I3:=qH (own_below i3 hbx);have I4:=qH (i4.trans (hbx.mono (by omega)));have HBX:=qH (Blk.new wr 246 #[.string x1,.string x2,.int .i64 t,.int .i64 r,.string v,.bool gn,.int .i64 l]);have hz:B≤(wr.alloc (.cells #[.string x1,.string x2,.int .i64 t,.int .i64 r,.string v,.bool gn,.int .i64 l] 246)).heap.size:=by simp;omega
   clear hx hc htk i3 i4 hbx
   cases q1:(x1.toList==s.toList) with
   | false =>
    have HPB:=qH (show keyB s ((x1,x2),⟨t,r,v,gn,l⟩)=false by unfold keyB;rw [q1];rfl);have HNO:=qH (show ((L.take (k+1)).filter (keyB s))=((L.take k).filter (keyB s)) by rw [HTK.out,List.filter_append,show [((x1,x2),(⟨t,r,v,gn,l⟩:C))].filter (keyB s)=[] by simp only [List.filter_cons,HPB.out];rfl,List.append_nil]);clear HBX;go_wp2;go_roundw
    case rel=>exact ⟨k+1,by omega,by go_num,by rw [HNO.out];exact I3.out,I4.out⟩
    case measure=>simp [intOf];omega
   | true =>
    cases q2:x2.toList.isEmpty with
    | true =>
     have HPB:=qH (show keyB s ((x1,x2),⟨t,r,v,gn,l⟩)=false by unfold keyB;dsimp only;rw [q1,q2];rfl);have HNO:=qH (show ((L.take (k+1)).filter (keyB s))=((L.take k).filter (keyB s)) by rw [HTK.out,List.filter_append,show [((x1,x2),(⟨t,r,v,gn,l⟩:C))].filter (keyB s)=[] by simp only [List.filter_cons,HPB.out];rfl,List.append_nil]);clear HBX;go_wp2;go_roundw
     case rel=>exact ⟨k+1,by omega,by go_num,by rw [HNO.out];exact I3.out,I4.out⟩
     case measure=>simp [intOf];omega
    | false =>
     cases q3:(decide (0<t)&&!gn) with
     | false =>
      have HPB:=qH (show keyB s ((x1,x2),⟨t,r,v,gn,l⟩)=false by unfold keyB visC;dsimp only;rw [q1,q2,q3];rfl);have HQ3:=qH q3;clear q3;have HNO:=qH (show ((L.take (k+1)).filter (keyB s))=((L.take k).filter (keyB s)) by rw [HTK.out,List.filter_append,show [((x1,x2),(⟨t,r,v,gn,l⟩:C))].filter (keyB s)=[] by simp only [List.filter_cons,HPB.out];rfl,List.append_nil]);clear HBX;go_wp2_with fail;refine (visible_any t r v gn l _).mono ?_;rintro e w5 ⟨rfl,hb5⟩;rw [HQ3.out];have I35:=qH (own_below I3.out hb5);have I45:=qH (I4.out.trans (hb5.mono hz));clear hb5;go_wp2;go_roundw
      case rel=>exact ⟨k+1,by omega,by go_num,by rw [HNO.out];exact I35.out,I45.out⟩
      case measure=>simp [intOf];omega
     | true =>
      have HPB:=qH (show keyB s ((x1,x2),⟨t,r,v,gn,l⟩)=true by unfold keyB visC;dsimp only;rw [q1,q2,q3];rfl);have HQ3:=qH q3;clear q3;have HYES:=qH (show ((L.take (k+1)).filter (keyB s))=((L.take k).filter (keyB s))++[((x1,x2),(⟨t,r,v,gn,l⟩:C))] by rw [HTK.out,List.filter_append,show [((x1,x2),(⟨t,r,v,gn,l⟩:C))].filter (keyB s)=[((x1,x2),(⟨t,r,v,gn,l⟩:C))] by simp only [List.filter_cons,HPB.out];rfl]);go_wp2_with fail;refine (visible_any t r v gn l _).mono ?_;rintro e w5 ⟨rfl,hb5⟩;rw [HQ3.out];have I35:=qH (own_below I3.out hb5);have I45:=qH (I4.out.trans (hb5.mono hz));have hx5:=HBX.out.below hb5 (by simp);have d1:w5.cell? ⟨wr.heap.size,1,none⟩=some (.string x2):=hx5.cell 1;have dl:=hx5.lt;have hz5:=hb5.size;clear hb5 hx5 HBX
      go_wp2_with (at_builtin;refine wpList_append_new rfl (.tmp 29) (.tmp 32) _ rfl B 9 i0 _ 1 16 Tryz.underlying75 Hi0.out Hz0.out Hz1.out Hz2.out rfl (by decide) _ _ _ rfl I35.out 1 1 [.string x2] rfl rfl (by simp [Value.oneCell']) (by unfold maxLen;omega) (by omega) (by omega) ?_;intro v1 w6 hown1 hbw1 hgr1 hwh1;obtain ⟨A',c',rfl⟩:=ownsRow_slice hown1;have Hown1:=qH hown1;have Hbw1:=qH hbw1;clear hown1 hbw1 hgr1 hwh1)
      go_roundw
      case rel =>
       refine ⟨k+1,by omega,by go_num,?_,I45.out.trans Hbw1.out⟩;have:=Hown1.out;rw [HYES.out]
       simpa using this
      case measure=>simp [intOf];omega
  ·obtain rfl:L.length=k:=by omega
   have HR:=qH (show TextsR (keysL L s) w (.returned (.slice Ao ((L.take L.length).filter (keyB s)).length co)) wr from by
    rw [List.take_length] at i3 ⊢;refine ⟨_,rfl,?_,?_⟩
    ·unfold keysL
     rw [List.length_map,List.map_map];exact own_upR i3 hws
    ·exact HB1.out.trans (i4.mono hws))
   clear i3 i4;go_wp2;go_ret
   exact HR.out
theorem lives_any (g bm:Nat) (L:List R) (w:World) (h:StI w g bm L) (hl:L.length≤1000000) :
  Calls Tryz.prog 195 #[.pointer (some ⟨g,0,none⟩)] w (TextsR (livesL L) w):=by
 obtain ⟨i0,hi0,hz0,hz1,hz2⟩:=info_parts str_info;have Hi0:=qH hi0;have Hz0:=qH hz0;have Hz1:=qH hz1;have Hz2:=qH hz2;have H:=qH h;clear hi0 hz0 hz1 hz2 h;go_enter Tryz.func195,Tryz.ntmps195;go_wp2_with fail;refine (rows_any g bm L w H.out hl).mono ?_;rintro e w1 ⟨vr,rfl,hvr,hb1⟩;have HB1:=qH hb1;have hws:=hb1.size;obtain ⟨A,c,rfl,hrd⟩:=own_reads hvr;have HRD:=qH hrd;clear hvr hb1 hrd;generalize hB:w1.heap.size=B at *;go_wp2
 go_loopw [3,9] (fun so si wr=>∃ k:Nat,k≤L.length∧si=.int .i64 k∧wr.ownsRow B 9 1 so ((L.take k).filter liveB).length (((L.take k).filter liveB).map fun x=>Value.string x.1.1)∧Below B w1 wr) (fun _ si _=>L.length-(intOf si).toNat)
 case atStart=>exact ⟨0,by omega,rfl,⟨by simp,.inl ⟨rfl,by simp⟩⟩,Below.refl _ _⟩
 case round =>
  obtain ⟨k,hk,rfl,i3,i4⟩:=hrel;have hmle:((L.take k).filter liveB).length≤k:=by have:=List.length_filter_le liveB (L.take k);have:=List.length_take_le k L;omega
  obtain ⟨Ao,co,rfl⟩:=ownsRow_slice i3
  by_cases hlt:k<L.length
  ·obtain ⟨gr,off,rfl,hgr⟩:=HRD.out.at_some (by omega)
   have htk:=take_snocR (L:=L) (k:=k) hlt;have hc:=row_at' (HRD.out.below i4) rfl hlt;have hsz:=i4.size;have hbl:gr<wr.heap.size:=by omega
   obtain ⟨x,hx⟩:∃ x,L.getD k rZ=x:=⟨_,rfl⟩;rw [hx] at hc htk;obtain ⟨e0,e1,e2,e3,e4,e5,e6⟩:=seven_of hc;obtain ⟨⟨x1,x2⟩,⟨t,r,v,gn,l⟩⟩:=x;dsimp only at e0 e1 e2 e3 e4 e5 e6;have hbx:=below_new wr (.cells #[.string x1,.string x2,.int .i64 t,.int .i64 r,.string v,.bool gn,.int .i64 l] 246);have HTK:=qH htk;have I3:=qH (own_below i3 hbx);have I4:=qH (i4.trans (hbx.mono (by omega)));have HBX:=qH (Blk.new wr 246 #[.string x1,.string x2,.int .i64 t,.int .i64 r,.string v,.bool gn,.int .i64 l]);have hz:B≤(wr.alloc (.cells #[.string x1,.string x2,.int .i64 t,.int .i64 r,.string v,.bool gn,.int .i64 l] 246)).heap.size:=by simp;omega
   clear hx hc htk i3 i4 hbx
   cases q2:x2.toList.isEmpty with
   | false =>
    have HPB:=qH (show liveB ((x1,x2),⟨t,r,v,gn,l⟩)=false by unfold liveB;dsimp only;rw [q2];rfl);have HNO:=qH (show ((L.take (k+1)).filter liveB)=((L.take k).filter liveB) by rw [HTK.out,List.filter_append,show [((x1,x2),(⟨t,r,v,gn,l⟩:C))].filter liveB=[] by simp only [List.filter_cons,HPB.out];rfl,List.append_nil]);clear HBX;go_wp2;go_roundw
    case rel=>exact ⟨k+1,by omega,by go_num,by rw [HNO.out];exact I3.out,I4.out⟩
    case measure=>simp [intOf];omega
   | true =>
    cases q3:(decide (0<t)&&!gn) with
    | false =>
     have HPB:=qH (show liveB ((x1,x2),⟨t,r,v,gn,l⟩)=false by unfold liveB visC;dsimp only;rw [q2,q3];rfl);have HQ3:=qH q3;clear q3;have HNO:=qH (show ((L.take (k+1)).filter liveB)=((L.take k).filter liveB) by rw [HTK.out,List.filter_append,show [((x1,x2),(⟨t,r,v,gn,l⟩:C))].filter liveB=[] by simp only [List.filter_cons,HPB.out];rfl,List.append_nil]);clear HBX;go_wp2_with fail;refine (visible_any t r v gn l _).mono ?_;rintro e w5 ⟨rfl,hb5⟩;rw [HQ3.out];have I35:=qH (own_below I3.out hb5);have I45:=qH (I4.out.trans (hb5.mono hz));clear hb5;go_wp2;go_roundw
     case rel=>exact ⟨k+1,by omega,by go_num,by rw [HNO.out];exact I35.out,I45.out⟩
     case measure=>simp [intOf];omega
    | true =>
     have HPB:=qH (show liveB ((x1,x2),⟨t,r,v,gn,l⟩)=true by unfold liveB visC;dsimp only;rw [q2,q3];rfl);have HQ3:=qH q3;clear q3;have HYES:=qH (show ((L.take (k+1)).filter liveB)=((L.take k).filter liveB)++[((x1,x2),(⟨t,r,v,gn,l⟩:C))] by rw [HTK.out,List.filter_append,show [((x1,x2),(⟨t,r,v,gn,l⟩:C))].filter liveB=[((x1,x2),(⟨t,r,v,gn,l⟩:C))] by simp only [List.filter_cons,HPB.out];rfl]);go_wp2_with fail;refine (visible_any t r v gn l _).mono ?_;rintro e w5 ⟨rfl,hb5⟩;rw [HQ3.out];have I35:=qH (own_below I3.out hb5);have I45:=qH (I4.out.trans (hb5.mono hz));have hx5:=HBX.out.below hb5 (by simp);have d1:w5.cell? ⟨wr.heap.size,0,none⟩=some (.string x1):=hx5.cell 0;have dl:=hx5.lt;have hz5:=hb5.size;clear hb5 hx5 HBX
     go_wp2_with (at_builtin;refine wpList_append_new rfl (.tmp 21) (.tmp 24) _ rfl B 9 i0 _ 1 16 Tryz.underlying75 Hi0.out Hz0.out Hz1.out Hz2.out rfl (by decide) _ _ _ rfl I35.out 1 1 [.string x1] rfl rfl (by simp [Value.oneCell']) (by unfold maxLen;omega) (by omega) (by omega) ?_;intro v1 w6 hown1 hbw1 hgr1 hwh1;obtain ⟨A',c',rfl⟩:=ownsRow_slice hown1;have Hown1:=qH hown1;have Hbw1:=qH hbw1;clear hown1 hbw1 hgr1 hwh1)
     go_roundw
     case rel =>
      refine ⟨k+1,by omega,by go_num,?_,I45.out.trans Hbw1.out⟩;have:=Hown1.out;rw [HYES.out]
      simpa using this
     case measure=>simp [intOf];omega
  ·obtain rfl:L.length=k:=by omega
   have HR:=qH (show TextsR (livesL L) w (.returned (.slice Ao ((L.take L.length).filter liveB).length co)) wr from by
    rw [List.take_length] at i3 ⊢;refine ⟨_,rfl,?_,?_⟩
    ·unfold livesL
     rw [List.length_map,List.map_map];exact own_upR i3 hws
    ·exact HB1.out.trans (i4.mono hws))
   clear i3 i4;go_wp2;go_ret
   exact HR.out
end store
namespace quota
open Go Go.RowKit base dec err above law merge rows store
def oldN (p:R→Bool) (L:List R) (x:Nm):Nat:=match getL L x with|none=>0|some d=>(p (x,d)).toNat
theorem filter_cons_len (p:R→Bool) (q:R) (L:List R):((q :: L).filter p).length=(p q).toNat+(L.filter p).length:=by
 rw [List.filter_cons]
 cases p q <;> simp <;> omega
theorem cnt_put {L:List R} (hr:Rising L) (p:R→Bool) (x:Nm) (c:C):((putL L x c).filter p).length+oldN p L x=(L.filter p).length+(p (x,c)).toNat:=by
 induction L with
 | nil=>unfold putL oldN getL;simp [List.filter_cons];cases p (x,c) <;> rfl
 | cons q L ih =>
  obtain ⟨h1,h2⟩:=List.pairwise_cons.1 hr;have ih:=ih h2;unfold putL
  by_cases hq:q.1=x
  ·rw [if_pos hq,filter_cons_len,filter_cons_len]
   unfold oldN;rw [getL_cons,if_pos hq];have:(x,q.2)=q:=Prod.ext hq.symm rfl;dsimp only;rw [this];omega
  ·rw [if_neg hq]
   by_cases hlt:ltN x q.1=true
   ·rw [if_pos hlt,filter_cons_len]
    have:getL (q :: L) x=none:=getL_none.2 fun y hy=>by
     rcases List.mem_cons.1 hy with rfl|hy
     ·exact hq
     ·exact (ltN_ne (ltN_trans hlt (h1 y hy))).symm
    unfold oldN;rw [this];dsimp only;omega
   ·rw [if_neg hlt,filter_cons_len,filter_cons_len]
    have:oldN p (q :: L) x=oldN p L x:=by unfold oldN;rw [getL_cons,if_neg hq]
    rw [this];omega
open Classical in
noncomputable def regOf (s:ByteArray):Nat:=if h:∃ a,∃ b,OkN a b∧s.data.toList=nm a b then h.choose else 0
theorem regOf_yes {s:ByteArray} {a b:Nat} (h:OkN a b) (e:s.data.toList=nm a b):regOf s=a:=by
 have hx:∃ a,∃ b,OkN a b∧s.data.toList=nm a b:=⟨a,b,h,e⟩;unfold regOf;rw [dif_pos hx];obtain ⟨b',_,e'⟩:=hx.choose_spec;exact (nm_inj (e.symm.trans e')).1.symm
theorem regOf_no {s:ByteArray} (h:∀ a b,OkN a b→s.data.toList≠nm a b):regOf s=0:=by
 unfold regOf;rw [dif_neg];rintro ⟨a,b,h1,h2⟩;exact h a b h1 h2
noncomputable def ofB (r:Int) (s:ByteArray):Bool:=decide (regOf s≠0)&&decide ((regOf s:Int)=r)
noncomputable def opensL (L:List R) (r:Int):Nat:=((livesL L).filter (ofB r)).length
noncomputable def openB (r:Int) (x:R):Bool:=liveB x&&ofB r x.1.1
theorem opens_eq (L:List R) (r:Int):opensL L r=(L.filter (openB r)).length:=by
 unfold opensL livesL;rw [List.filter_map,List.length_map,List.filter_filter]
 congr 1
 refine List.filter_congr fun x _=>?_;unfold openB;exact Bool.and_comm _ _
theorem opens_le (L:List R) (r:Int):opensL L r≤L.length:=by rw [opens_eq];exact List.length_filter_le _ _
theorem opens_take {L:List R} (hr:Rising L) (r:Int) (x:Nm) (c:C):opensL (takeL L x c) r+oldN (openB r) L x=opensL L r+(openB r (x,takeC (getL L x) c)).toNat:=by
 rw [opens_eq,opens_eq];exact cnt_put hr _ _ _
def nmB (a b:Nat):Nm:=(str (nm a b),⟨#[]⟩)
def beg (a t:Nat) (g:Bool):C:=⟨t,a,⟨#[]⟩,g,0⟩
structure RoomI (i j:Nat) (L:List R):Prop where
 at_:∀ a b,OkN a b→getL L (nmB a b)=if (a=3∧b≤i)∨(a=2∧b≤j) then some (beg a 1 false) else none
 o3:opensL L 3=i
 o2:opensL L 2=j
 len:L.length≤i+j
theorem str_inj {a b:List UInt8} (h:str a=str b):a=b:=by
 have:=congrArg (fun s:ByteArray=>s.data.toList) h;exact this
theorem openB_nm {r:Int} {a b:Nat} (h:OkN a b) (c:C):openB r (nmB a b,c)=(visC c&&decide ((a:Int)=r)):=by
 have e:regOf (str (nm a b))=a:=regOf_yes h rfl;unfold openB liveB ofB nmB;dsimp only;rw [e];have ha:a≠0:=by unfold OkN at h;omega
 simp [ha]
theorem RoomI.nil:RoomI 0 0 []:=⟨fun a b h=>by
 rw [if_neg (by unfold OkN at h;omega)];rfl,rfl,rfl,by simp⟩
theorem vis_beg (a:Nat):visC (beg a 1 false)=true:=rfl
theorem RoomI.over {i j b:Nat} {L:List R} (hr:Rising L) (h:RoomI i j L) (hb:1≤b) (hbi:b≤i) (hi:i≤40):opensL (takeL L (nmB 3 b) (beg 3 2 true)) 3=i-1:=by
 have hok:OkN 3 b:=by unfold OkN;omega
 have hn:getL L (nmB 3 b)=some (beg 3 1 false):=by rw [h.at_ _ _ hok,if_pos (by omega)]
 have hc:takeC (getL L (nmB 3 b)) (beg 3 2 true)=beg 3 2 true:=by
  rw [hn];show (if above (beg 3 2 true) (beg 3 1 false)=true then beg 3 2 true else beg 3 1 false)=_;rw [if_pos (by decide)]
 have h3:=opens_take hr 3 (nmB 3 b) (beg 3 2 true)
 have ho:oldN (openB 3) L (nmB 3 b)=1:=by
  unfold oldN;rw [hn];dsimp only;rw [openB_nm hok,vis_beg];rfl
 have hv:visC (beg 3 2 true)=false:=rfl;rw [hc,openB_nm hok,hv,ho,h.o3] at h3;simp at h3
 omega
end quota
end Go.Proofs.YthlahcnglacekaaGreatDoor
