/- Part of GateRetires. -/
import Derived.Test.YthlahcnglacekaaGreatDoorB40
import Derived.Test.YthlahcnglacekaaGreatDoorB22
set_option maxRecDepth 100000
set_option maxHeartbeats 16000000
namespace Go.Proofs.YthlahcnglacekaaGreatDoor
namespace store
open Go Go.RowKit base err above law merge rows rowe rowops
def IndexR (L:List R) (P:R→Bool) (w:World) (e:Ending) (w':World):Prop :=
 ((∃ k:Nat,k<L.length∧(∀ x ∈ L.take k,P x=false)∧P (L.getD k rZ)=true∧e=.returned (.int .i64 k))∨((∀ x ∈ L,P x=false)∧e=.returned (.int .i64 (-1))))∧Below w.heap.size w w'
theorem getD_mem {L:List R} {k:Nat} (hk:k<L.length):L.getD k rZ ∈ L:=by
 rw [List.getD_eq_getElem?_getD,List.getElem?_eq_getElem hk];exact List.getElem_mem hk
theorem take_snocR {L:List R} {k:Nat} (hk:k<L.length):L.take (k+1)=L.take k++[L.getD k rZ]:=by
 rw [List.take_succ_eq_append_getElem hk,List.getD_eq_getElem?_getD,List.getElem?_eq_getElem hk];rfl
end store
namespace store
open Go Go.RowKit base err above law merge rows rowe
end store
namespace range_
open Go.RowKit base map_ Go.Maps Go.ChangeMaps Go.MapKept
section
variable {P:Program} {K T E:TypeId} {κ:Type} [DecidableEq κ] {Em:Emb P K κ} {w w':World} {r b:Nat} {m left:List (κ × Value)}
omit [DecidableEq κ] in
end
end range_
namespace store
open Go Go.RowKit base map_ range_ above law merge rows rowe Go.Maps
def goneB (fl:Int) (c:C):Bool:=c.g&&decide (c.t≤fl)
structure Part (fl:Int) (L:List R) (m left:List (Nm × Value)):Prop where
 got:∀ x,getM m x=(getL L x).map cval∨(getM m x=none∧∃ c,getL L x=some c∧goneB fl c=true)
 todo:∀ x c,getM m x=some (cval c)→goneB fl c=true→(x,cval c) ∈ left
end store
namespace store
open Go Go.RowKit base err above law merge rows rowe
def keyB (s:ByteArray) (x:R):Bool:=(x.1.1.toList==s.toList)&&(!x.1.2.toList.isEmpty&&visC x.2)
def liveB (x:R):Bool:=x.1.2.toList.isEmpty&&visC x.2
def keysL (L:List R) (s:ByteArray):List ByteArray:=(L.filter (keyB s)).map (·.1.2)
def livesL (L:List R):List ByteArray:=(L.filter liveB).map (·.1.1)
theorem str_info:(Tryz.prog.info? 9).map (fun i=>(i.zero,i.size,i.bytes))=some (some (.string ⟨#[]⟩),1,16):=by kernel_rfl
def TextsR (L:List ByteArray) (w:World) (e:Ending) (w':World):Prop :=
 ∃ v,e=.returned v∧w'.ownsRow w.heap.size 9 1 v L.length (L.map Value.string)∧Below w.heap.size w w'
theorem keys_any (g bm:Nat) (L:List R) (s:ByteArray) (w:World) (h:StI w g bm L) (hl:L.length≤1000000) :
  Calls Tryz.prog 170 #[.pointer (some ⟨g,0,none⟩),.string s] w (TextsR (keysL L s) w):=by
 obtain ⟨i0,hi0,hz0,hz1,hz2⟩:=info_parts str_info;have Hi0:=qH hi0;have Hz0:=qH hz0;have Hz1:=qH hz1;have Hz2:=qH hz2;have H:=qH h;clear hi0 hz0 hz1 hz2 h;go_enter Tryz.func170,Tryz.ntmps170;go_wp2_with fail;refine (rows_any g bm L w H.out hl).mono ?_;rintro e w1 ⟨vr,rfl,hvr,hb1⟩;have HB1:=qH hb1;have hws:=hb1.size;obtain ⟨A,c,rfl,hrd⟩:=own_reads hvr;have HRD:=qH hrd;clear hvr hb1 hrd;generalize hB:w1.heap.size=B at *;go_wp2
 go_loopw [5,11] (fun so si wr=>∃ k:Nat,k≤L.length∧si=.int .i64 k∧wr.ownsRow B 9 1 so ((L.take k).filter (keyB s)).length (((L.take k).filter (keyB s)).map fun x=>Value.string x.1.2)∧Below B w1 wr) (fun _ si _=>L.length-(intOf si).toNat)
 case atStart=>exact ⟨0,by omega,rfl,⟨by simp,.inl ⟨rfl,by simp⟩⟩,Below.refl _ _⟩
 case round =>
  obtain ⟨k,hk,rfl,i3,i4⟩:=hrel;have hmle:((L.take k).filter (keyB s)).length≤k:=by have:=List.length_filter_le (keyB s) (L.take k);have:=List.length_take_le k L;omega
  obtain ⟨Ao,co,rfl⟩:=ownsRow_slice i3
  by_cases hlt:k<L.length
  ·obtain ⟨gr,off,rfl,hgr⟩:=HRD.out.at_some (by omega)
   have htk:=take_snocR (L:=L) (k:=k) hlt;have hc:=row_at' (HRD.out.below i4) rfl hlt;have hsz:=i4.size;have hbl:gr<wr.heap.size:=by omega
   obtain ⟨x,hx⟩:∃ x,L.getD k rZ=x:=⟨_,rfl⟩;rw [hx] at hc htk;obtain ⟨e0,e1,e2,e3,e4,e5,e6⟩:=seven_of hc;obtain ⟨⟨x1,x2⟩,⟨t,r,v,gn,l⟩⟩:=x;dsimp only at e0 e1 e2 e3 e4 e5 e6;have hbx:=below_new wr (.cells #[.string x1,.string x2,.int .i64 t,.int .i64 r,.string v,.bool gn,.int .i64 l] 246);have HTK:=qH htk;have I3:=qH (own_below i3 hbx);have I4:=qH (i4.trans (hbx.mono (by omega)));have HBX:=qH (Blk.new wr 246 #[.string x1,.string x2,.int .i64 t,.int .i64 r,.string v,.bool gn,.int .i64 l]);have hz:B≤(wr.alloc (.cells #[.string x1,.string x2,.int .i64 t,.int .i64 r,.string v,.bool gn,.int .i64 l] 246)).heap.size:=by simp;omega
   clear hx hc htk i3 i4 hbx
   cases q1:(x1.toList==s.toList) with
   | false =>
    have HPB:=qH (show keyB s ((x1,x2),⟨t,r,v,gn,l⟩)=false by unfold keyB;rw [q1];rfl);have HNO:=qH (show ((L.take (k+1)).filter (keyB s))=((L.take k).filter (keyB s)) by rw [HTK.out,List.filter_append,show [((x1,x2),(⟨t,r,v,gn,l⟩:C))].filter (keyB s)=[] by simp only [List.filter_cons,HPB.out];rfl,List.append_nil]);clear HBX;go_wp2;go_roundw
    case rel=>exact ⟨k+1,by omega,by go_num,by rw [HNO.out];exact I3.out,I4.out⟩
    case measure=>simp [intOf];omega
   | true =>
    cases q2:x2.toList.isEmpty with
    | true =>
     have HPB:=qH (show keyB s ((x1,x2),⟨t,r,v,gn,l⟩)=false by unfold keyB;dsimp only;rw [q1,q2];rfl);have HNO:=qH (show ((L.take (k+1)).filter (keyB s))=((L.take k).filter (keyB s)) by rw [HTK.out,List.filter_append,show [((x1,x2),(⟨t,r,v,gn,l⟩:C))].filter (keyB s)=[] by simp only [List.filter_cons,HPB.out];rfl,List.append_nil]);clear HBX;go_wp2;go_roundw
     case rel=>exact ⟨k+1,by omega,by go_num,by rw [HNO.out];exact I3.out,I4.out⟩
     case measure=>simp [intOf];omega
    | false =>
     cases q3:(decide (0<t)&&!gn) with
     | false =>
      have HPB:=qH (show keyB s ((x1,x2),⟨t,r,v,gn,l⟩)=false by unfold keyB visC;dsimp only;rw [q1,q2,q3];rfl);have HQ3:=qH q3;clear q3;have HNO:=qH (show ((L.take (k+1)).filter (keyB s))=((L.take k).filter (keyB s)) by rw [HTK.out,List.filter_append,show [((x1,x2),(⟨t,r,v,gn,l⟩:C))].filter (keyB s)=[] by simp only [List.filter_cons,HPB.out];rfl,List.append_nil]);clear HBX;go_wp2_with fail;refine (visible_any t r v gn l _).mono ?_;rintro e w5 ⟨rfl,hb5⟩;rw [HQ3.out];have I35:=qH (own_below I3.out hb5);have I45:=qH (I4.out.trans (hb5.mono hz));clear hb5;go_wp2;go_roundw
      case rel=>exact ⟨k+1,by omega,by go_num,by rw [HNO.out];exact I35.out,I45.out⟩
      case measure=>simp [intOf];omega
     | true =>
      have HPB:=qH (show keyB s ((x1,x2),⟨t,r,v,gn,l⟩)=true by unfold keyB visC;dsimp only;rw [q1,q2,q3];rfl);have HQ3:=qH q3;clear q3;have HYES:=qH (show ((L.take (k+1)).filter (keyB s))=((L.take k).filter (keyB s))++[((x1,x2),(⟨t,r,v,gn,l⟩:C))] by rw [HTK.out,List.filter_append,show [((x1,x2),(⟨t,r,v,gn,l⟩:C))].filter (keyB s)=[((x1,x2),(⟨t,r,v,gn,l⟩:C))] by simp only [List.filter_cons,HPB.out];rfl]);go_wp2_with fail;refine (visible_any t r v gn l _).mono ?_;rintro e w5 ⟨rfl,hb5⟩;rw [HQ3.out];have I35:=qH (own_below I3.out hb5);have I45:=qH (I4.out.trans (hb5.mono hz));have hx5:=HBX.out.below hb5 (by simp);have d1:w5.cell? ⟨wr.heap.size,1,none⟩=some (.string x2):=hx5.cell 1;have dl:=hx5.lt;have hz5:=hb5.size;clear hb5 hx5 HBX
      go_wp2_with (at_builtin;refine wpList_append_new rfl (.tmp 29) (.tmp 32) _ rfl B 9 i0 _ 1 16 Tryz.underlying75 Hi0.out Hz0.out Hz1.out Hz2.out rfl (by decide) _ _ _ rfl I35.out 1 1 [.string x2] rfl rfl (by simp [Value.oneCell']) (by unfold maxLen;omega) (by omega) (by omega) ?_;intro v1 w6 hown1 hbw1 hgr1 hwh1;obtain ⟨A',c',rfl⟩:=ownsRow_slice hown1;have Hown1:=qH hown1;have Hbw1:=qH hbw1;clear hown1 hbw1 hgr1 hwh1)
      go_roundw
      case rel =>
       refine ⟨k+1,by omega,by go_num,?_,I45.out.trans Hbw1.out⟩;have:=Hown1.out;rw [HYES.out]
       simpa using this
      case measure=>simp [intOf];omega
  ·obtain rfl:L.length=k:=by omega
   have HR:=qH (show TextsR (keysL L s) w (.returned (.slice Ao ((L.take L.length).filter (keyB s)).length co)) wr from by
    rw [List.take_length] at i3 ⊢;refine ⟨_,rfl,?_,?_⟩
    ·unfold keysL
     rw [List.length_map,List.map_map];exact own_upR i3 hws
    ·exact HB1.out.trans (i4.mono hws))
   clear i3 i4;go_wp2;go_ret
   exact HR.out
theorem lives_any (g bm:Nat) (L:List R) (w:World) (h:StI w g bm L) (hl:L.length≤1000000) :
  Calls Tryz.prog 195 #[.pointer (some ⟨g,0,none⟩)] w (TextsR (livesL L) w):=by
 obtain ⟨i0,hi0,hz0,hz1,hz2⟩:=info_parts str_info;have Hi0:=qH hi0;have Hz0:=qH hz0;have Hz1:=qH hz1;have Hz2:=qH hz2;have H:=qH h;clear hi0 hz0 hz1 hz2 h;go_enter Tryz.func195,Tryz.ntmps195;go_wp2_with fail;refine (rows_any g bm L w H.out hl).mono ?_;rintro e w1 ⟨vr,rfl,hvr,hb1⟩;have HB1:=qH hb1;have hws:=hb1.size;obtain ⟨A,c,rfl,hrd⟩:=own_reads hvr;have HRD:=qH hrd;clear hvr hb1 hrd;generalize hB:w1.heap.size=B at *;go_wp2
 go_loopw [3,9] (fun so si wr=>∃ k:Nat,k≤L.length∧si=.int .i64 k∧wr.ownsRow B 9 1 so ((L.take k).filter liveB).length (((L.take k).filter liveB).map fun x=>Value.string x.1.1)∧Below B w1 wr) (fun _ si _=>L.length-(intOf si).toNat)
 case atStart=>exact ⟨0,by omega,rfl,⟨by simp,.inl ⟨rfl,by simp⟩⟩,Below.refl _ _⟩
 case round =>
  obtain ⟨k,hk,rfl,i3,i4⟩:=hrel;have hmle:((L.take k).filter liveB).length≤k:=by have:=List.length_filter_le liveB (L.take k);have:=List.length_take_le k L;omega
  obtain ⟨Ao,co,rfl⟩:=ownsRow_slice i3
  by_cases hlt:k<L.length
  ·obtain ⟨gr,off,rfl,hgr⟩:=HRD.out.at_some (by omega)
   have htk:=take_snocR (L:=L) (k:=k) hlt;have hc:=row_at' (HRD.out.below i4) rfl hlt;have hsz:=i4.size;have hbl:gr<wr.heap.size:=by omega
   obtain ⟨x,hx⟩:∃ x,L.getD k rZ=x:=⟨_,rfl⟩;rw [hx] at hc htk;obtain ⟨e0,e1,e2,e3,e4,e5,e6⟩:=seven_of hc;obtain ⟨⟨x1,x2⟩,⟨t,r,v,gn,l⟩⟩:=x;dsimp only at e0 e1 e2 e3 e4 e5 e6;have hbx:=below_new wr (.cells #[.string x1,.string x2,.int .i64 t,.int .i64 r,.string v,.bool gn,.int .i64 l] 246);have HTK:=qH htk;have I3:=qH (own_below i3 hbx);have I4:=qH (i4.trans (hbx.mono (by omega)));have HBX:=qH (Blk.new wr 246 #[.string x1,.string x2,.int .i64 t,.int .i64 r,.string v,.bool gn,.int .i64 l]);have hz:B≤(wr.alloc (.cells #[.string x1,.string x2,.int .i64 t,.int .i64 r,.string v,.bool gn,.int .i64 l] 246)).heap.size:=by simp;omega
   clear hx hc htk i3 i4 hbx
   cases q2:x2.toList.isEmpty with
   | false =>
    have HPB:=qH (show liveB ((x1,x2),⟨t,r,v,gn,l⟩)=false by unfold liveB;dsimp only;rw [q2];rfl);have HNO:=qH (show ((L.take (k+1)).filter liveB)=((L.take k).filter liveB) by rw [HTK.out,List.filter_append,show [((x1,x2),(⟨t,r,v,gn,l⟩:C))].filter liveB=[] by simp only [List.filter_cons,HPB.out];rfl,List.append_nil]);clear HBX;go_wp2;go_roundw
    case rel=>exact ⟨k+1,by omega,by go_num,by rw [HNO.out];exact I3.out,I4.out⟩
    case measure=>simp [intOf];omega
   | true =>
    cases q3:(decide (0<t)&&!gn) with
    | false =>
     have HPB:=qH (show liveB ((x1,x2),⟨t,r,v,gn,l⟩)=false by unfold liveB visC;dsimp only;rw [q2,q3];rfl);have HQ3:=qH q3;clear q3;have HNO:=qH (show ((L.take (k+1)).filter liveB)=((L.take k).filter liveB) by rw [HTK.out,List.filter_append,show [((x1,x2),(⟨t,r,v,gn,l⟩:C))].filter liveB=[] by simp only [List.filter_cons,HPB.out];rfl,List.append_nil]);clear HBX;go_wp2_with fail;refine (visible_any t r v gn l _).mono ?_;rintro e w5 ⟨rfl,hb5⟩;rw [HQ3.out];have I35:=qH (own_below I3.out hb5);have I45:=qH (I4.out.trans (hb5.mono hz));clear hb5;go_wp2;go_roundw
     case rel=>exact ⟨k+1,by omega,by go_num,by rw [HNO.out];exact I35.out,I45.out⟩
     case measure=>simp [intOf];omega
    | true =>
     have HPB:=qH (show liveB ((x1,x2),⟨t,r,v,gn,l⟩)=true by unfold liveB visC;dsimp only;rw [q2,q3];rfl);have HQ3:=qH q3;clear q3;have HYES:=qH (show ((L.take (k+1)).filter liveB)=((L.take k).filter liveB)++[((x1,x2),(⟨t,r,v,gn,l⟩:C))] by rw [HTK.out,List.filter_append,show [((x1,x2),(⟨t,r,v,gn,l⟩:C))].filter liveB=[((x1,x2),(⟨t,r,v,gn,l⟩:C))] by simp only [List.filter_cons,HPB.out];rfl]);go_wp2_with fail;refine (visible_any t r v gn l _).mono ?_;rintro e w5 ⟨rfl,hb5⟩;rw [HQ3.out];have I35:=qH (own_below I3.out hb5);have I45:=qH (I4.out.trans (hb5.mono hz));have hx5:=HBX.out.below hb5 (by simp);have d1:w5.cell? ⟨wr.heap.size,0,none⟩=some (.string x1):=hx5.cell 0;have dl:=hx5.lt;have hz5:=hb5.size;clear hb5 hx5 HBX
     go_wp2_with (at_builtin;refine wpList_append_new rfl (.tmp 21) (.tmp 24) _ rfl B 9 i0 _ 1 16 Tryz.underlying75 Hi0.out Hz0.out Hz1.out Hz2.out rfl (by decide) _ _ _ rfl I35.out 1 1 [.string x1] rfl rfl (by simp [Value.oneCell']) (by unfold maxLen;omega) (by omega) (by omega) ?_;intro v1 w6 hown1 hbw1 hgr1 hwh1;obtain ⟨A',c',rfl⟩:=ownsRow_slice hown1;have Hown1:=qH hown1;have Hbw1:=qH hbw1;clear hown1 hbw1 hgr1 hwh1)
     go_roundw
     case rel =>
      refine ⟨k+1,by omega,by go_num,?_,I45.out.trans Hbw1.out⟩;have:=Hown1.out;rw [HYES.out]
      simpa using this
     case measure=>simp [intOf];omega
  ·obtain rfl:L.length=k:=by omega
   have HR:=qH (show TextsR (livesL L) w (.returned (.slice Ao ((L.take L.length).filter liveB).length co)) wr from by
    rw [List.take_length] at i3 ⊢;refine ⟨_,rfl,?_,?_⟩
    ·unfold livesL
     rw [List.length_map,List.map_map];exact own_upR i3 hws
    ·exact HB1.out.trans (i4.mono hws))
   clear i3 i4;go_wp2;go_ret
   exact HR.out
end store
namespace quota
open Go Go.RowKit base dec err above law merge rows store
open Classical in
noncomputable def regOf (s:ByteArray):Nat:=if h:∃ a,∃ b,OkN a b∧s.data.toList=nm a b then h.choose else 0
theorem regOf_yes {s:ByteArray} {a b:Nat} (h:OkN a b) (e:s.data.toList=nm a b):regOf s=a:=by
 have hx:∃ a,∃ b,OkN a b∧s.data.toList=nm a b:=⟨a,b,h,e⟩;unfold regOf;rw [dif_pos hx];obtain ⟨b',_,e'⟩:=hx.choose_spec;exact (nm_inj (e.symm.trans e')).1.symm
theorem regOf_no {s:ByteArray} (h:∀ a b,OkN a b→s.data.toList≠nm a b):regOf s=0:=by
 unfold regOf;rw [dif_neg];rintro ⟨a,b,h1,h2⟩;exact h a b h1 h2
noncomputable def ofB (r:Int) (s:ByteArray):Bool:=decide (regOf s≠0)&&decide ((regOf s:Int)=r)
noncomputable def opensL (L:List R) (r:Int):Nat:=((livesL L).filter (ofB r)).length
noncomputable def openB (r:Int) (x:R):Bool:=liveB x&&ofB r x.1.1
theorem opens_eq (L:List R) (r:Int):opensL L r=(L.filter (openB r)).length:=by
 unfold opensL livesL;rw [List.filter_map,List.length_map,List.filter_filter]
 congr 1
 refine List.filter_congr fun x _=>?_;unfold openB;exact Bool.and_comm _ _
theorem opens_le (L:List R) (r:Int):opensL L r≤L.length:=by rw [opens_eq];exact List.length_filter_le _ _
theorem str_inj {a b:List UInt8} (h:str a=str b):a=b:=by
 have:=congrArg (fun s:ByteArray=>s.data.toList) h;exact this
end quota
end Go.Proofs.YthlahcnglacekaaGreatDoor
