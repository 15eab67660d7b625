/- A part of the proof of RegionBeats. -/
import Derived.Test.YtlingaebpfdhgaaGreatDoorA41
import Derived.Test.YtlingaebpfdhgaaGreatDoorA01
namespace Go.Proofs.YtlingaebpfdhgaaGreatDoor.store
open Go Go.RowKit base err above law merge rows rowe rowops
theorem take_snocR {L:List R} {k:Nat} (hk:k < L.length):L.take (k + 1)=L.take k ++ [L.getD k rZ]:=by
 rw [List.take_succ_eq_append_getElem hk,List.getD_eq_getElem?_getD,List.getElem?_eq_getElem hk];rfl
end Go.Proofs.YtlingaebpfdhgaaGreatDoor.store
namespace Go.Proofs.YtlingaebpfdhgaaGreatDoor.store
open Go Go.RowKit base err above law merge rows rowe
end Go.Proofs.YtlingaebpfdhgaaGreatDoor.store
namespace Go.Proofs.YtlingaebpfdhgaaGreatDoor.range_
open Go.RowKit base map_ Go.Maps Go.ChangeMaps Go.MapKept
section
variable {P:Program} {K T E:TypeId} {κ:Type} [DecidableEq κ] {Em:Emb P K κ} {w w':World} {r b:Nat} {m left:List (κ × Value)}
omit [DecidableEq κ] in
end
end Go.Proofs.YtlingaebpfdhgaaGreatDoor.range_
namespace Go.Proofs.YtlingaebpfdhgaaGreatDoor.store
open Go Go.RowKit base map_ range_ above law merge rows rowe Go.Maps
end Go.Proofs.YtlingaebpfdhgaaGreatDoor.store
namespace Go.Proofs.YtlingaebpfdhgaaGreatDoor.store
open Go Go.RowKit base err above law merge rows rowe
def liveB (x:R):Bool:=x.1.2.toList.isEmpty && visC x.2
def livesL (L:List R):List ByteArray:=(L.filter liveB).map (·.1.1)
theorem str_info:(Tryz.prog.info? 9).map (fun i=>(i.zero,i.size,i.bytes))=some (some (.string ⟨#[]⟩),1,16):=by kernel_rfl
def TextsR (L:List ByteArray) (w:World) (e:Ending) (w':World):Prop :=
 ∃ v,e=.returned v∧w'.ownsRow w.heap.size 9 1 v L.length (L.map Value.string)∧Below w.heap.size w w'
set_option maxRecDepth 100000 in
set_option maxHeartbeats 2000000 in
theorem lives_any (g bm:Nat) (L:List R) (w:World) (h:StI w g bm L) (hl:L.length≤1000000) :
  Calls Tryz.prog 158 #[.pointer (some ⟨g,0,none⟩)] w (TextsR (livesL L) w):=by
 obtain ⟨i0,hi0,hz0,hz1,hz2⟩:=info_parts str_info
 have Hi0:=Lib.hid hi0
 have Hz0:=Lib.hid hz0
 have Hz1:=Lib.hid hz1
 have Hz2:=Lib.hid hz2
 have H:=Lib.hid h
 clear hi0 hz0 hz1 hz2 h
 go_enter Tryz.func158,Tryz.ntmps158
 go_wp2_with fail
 refine (rows_any g bm L w H.out hl).mono ?_
 rintro e w1 ⟨vr,rfl,hvr,hb1⟩
 have HB1:=Lib.hid hb1
 have hws:=hb1.size
 obtain ⟨A,c,rfl,hrd⟩:=own_reads hvr
 have HRD:=Lib.hid hrd
 clear hvr hb1 hrd
 generalize hB:w1.heap.size=B at *
 go_wp2
 go_loopw [3,9] (fun so si wr=>∃ k:Nat,k≤L.length∧si=.int .i64 k∧wr.ownsRow B 9 1 so ((L.take k).filter liveB).length (((L.take k).filter liveB).map fun x=>Value.string x.1.1)∧Below B w1 wr) (fun _ si _=>L.length - (intOf si).toNat)
 case atStart=>exact ⟨0,by omega,rfl,⟨by simp,.inl ⟨rfl,by simp⟩⟩,Below.refl _ _⟩
 case round =>
  obtain ⟨k,hk,rfl,i3,i4⟩:=hrel
  have hmle:((L.take k).filter liveB).length≤k:=by have:=List.length_filter_le liveB (L.take k);have:=List.length_take_le k L;omega
  obtain ⟨Ao,co,rfl⟩:=ownsRow_slice i3
  by_cases hlt:k < L.length
  ·obtain ⟨gr,off,rfl,hgr⟩:=HRD.out.at_some (by omega)
   have htk:=take_snocR (L:=L) (k:=k) hlt
   have hc:=row_at' (HRD.out.below i4) rfl hlt
   have hsz:=i4.size
   have hbl:gr < wr.heap.size:=by omega
   obtain ⟨x,hx⟩:∃ x,L.getD k rZ=x:=⟨_,rfl⟩
   rw [hx] at hc htk
   obtain ⟨e0,e1,e2,e3,e4,e5,e6⟩:=seven_of hc
   obtain ⟨⟨x1,x2⟩,⟨t,r,v,gn,l⟩⟩:=x
   dsimp only at e0 e1 e2 e3 e4 e5 e6
   have hbx:=below_new wr (.cells #[.string x1,.string x2,.int .i64 t,.int .i64 r,.string v,.bool gn,.int .i64 l] 239)
   have HTK:=Lib.hid htk
   have I3:=Lib.hid (own_below i3 hbx)
   have I4:=Lib.hid (i4.trans (hbx.mono (by omega)))
   have HBX:=Lib.hid (Blk.new wr 239 #[.string x1,.string x2,.int .i64 t,.int .i64 r,.string v,.bool gn,.int .i64 l])
   have hz:B≤(wr.alloc (.cells #[.string x1,.string x2,.int .i64 t,.int .i64 r,.string v,.bool gn,.int .i64 l] 239)).heap.size:=by simp;omega
   clear hx hc htk i3 i4 hbx
   cases q2:x2.toList.isEmpty with
   | false =>
    have HPB:=Lib.hid (show liveB ((x1,x2),⟨t,r,v,gn,l⟩)=false by unfold liveB;dsimp only;rw [q2];rfl)
    have HNO:=Lib.hid (show ((L.take (k + 1)).filter liveB)=((L.take k).filter liveB) by rw [HTK.out,List.filter_append,show [((x1,x2),(⟨t,r,v,gn,l⟩:C))].filter liveB=[] by simp only [List.filter_cons,HPB.out];rfl,List.append_nil])
    clear HBX
    go_wp2
    go_roundw
    case rel=>exact ⟨k + 1,by omega,by go_num,by rw [HNO.out];exact I3.out,I4.out⟩
    case measure=>simp [intOf];omega
   | true =>
    cases q3:(decide (0 < t) && !gn) with
    | false =>
     have HPB:=Lib.hid (show liveB ((x1,x2),⟨t,r,v,gn,l⟩)=false by unfold liveB visC;dsimp only;rw [q2,q3];rfl)
     have HQ3:=Lib.hid q3
     clear q3
     have HNO:=Lib.hid (show ((L.take (k + 1)).filter liveB)=((L.take k).filter liveB) by rw [HTK.out,List.filter_append,show [((x1,x2),(⟨t,r,v,gn,l⟩:C))].filter liveB=[] by simp only [List.filter_cons,HPB.out];rfl,List.append_nil])
     clear HBX
     go_wp2_with fail
     refine (visible_any t r v gn l _).mono ?_
     rintro e w5 ⟨rfl,hb5⟩
     rw [HQ3.out]
     have I35:=Lib.hid (own_below I3.out hb5)
     have I45:=Lib.hid (I4.out.trans (hb5.mono hz))
     clear hb5
     go_wp2
     go_roundw
     case rel=>exact ⟨k + 1,by omega,by go_num,by rw [HNO.out];exact I35.out,I45.out⟩
     case measure=>simp [intOf];omega
    | true =>
     have HPB:=Lib.hid (show liveB ((x1,x2),⟨t,r,v,gn,l⟩)=true by unfold liveB visC;dsimp only;rw [q2,q3];rfl)
     have HQ3:=Lib.hid q3
     clear q3
     have HYES:=Lib.hid (show ((L.take (k + 1)).filter liveB)=((L.take k).filter liveB) ++ [((x1,x2),(⟨t,r,v,gn,l⟩:C))] by rw [HTK.out,List.filter_append,show [((x1,x2),(⟨t,r,v,gn,l⟩:C))].filter liveB=[((x1,x2),(⟨t,r,v,gn,l⟩:C))] by simp only [List.filter_cons,HPB.out];rfl])
     go_wp2_with fail
     refine (visible_any t r v gn l _).mono ?_
     rintro e w5 ⟨rfl,hb5⟩
     rw [HQ3.out]
     have I35:=Lib.hid (own_below I3.out hb5)
     have I45:=Lib.hid (I4.out.trans (hb5.mono hz))
     have hx5:=HBX.out.below hb5 (by simp)
     have d1:w5.cell? ⟨wr.heap.size,0,none⟩=some (.string x1):=hx5.cell 0
     have dl:=hx5.lt
     have hz5:=hb5.size
     clear hb5 hx5 HBX
     go_wp2_with (at_builtin;refine wpList_append_new rfl (.tmp 21) (.tmp 24) _ rfl B 9 i0 _ 1 16 Tryz.underlying109 Hi0.out Hz0.out Hz1.out Hz2.out rfl (by decide) _ _ _ rfl I35.out 1 1 [.string x1] rfl rfl (by simp [Value.oneCell']) (by unfold maxLen;omega) (by omega) (by omega) ?_;intro v1 w6 hown1 hbw1 hgr1 hwh1;obtain ⟨A',c',rfl⟩:=ownsRow_slice hown1;have Hown1:=Lib.hid hown1;have Hbw1:=Lib.hid hbw1;clear hown1 hbw1 hgr1 hwh1)
     go_roundw
     case rel =>
      refine ⟨k + 1,by omega,by go_num,?_,I45.out.trans Hbw1.out⟩
      have:=Hown1.out
      rw [HYES.out]
      simpa using this
     case measure=>simp [intOf];omega
  ·obtain rfl:L.length=k:=by omega
   have HR:=Lib.hid (show TextsR (livesL L) w (.returned (.slice Ao ((L.take L.length).filter liveB).length co)) wr from by
    rw [List.take_length] at i3 ⊢
    refine ⟨_,rfl,?_,?_⟩
    ·unfold livesL
     rw [List.length_map,List.map_map]
     exact own_upR i3 hws
    ·exact HB1.out.trans (i4.mono hws))
   clear i3 i4
   go_wp2
   go_ret
   exact HR.out
end Go.Proofs.YtlingaebpfdhgaaGreatDoor.store
