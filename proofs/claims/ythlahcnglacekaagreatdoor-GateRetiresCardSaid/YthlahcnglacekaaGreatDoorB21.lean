/- Part of GateRetires. -/
import Derived.Test.YthlahcnglacekaaGreatDoorB02
import Derived.Deep.MidRow
set_option maxRecDepth 100000
set_option maxHeartbeats 16000000
namespace Go.Proofs.YthlahcnglacekaaGreatDoor
namespace appb
open Go Go.RowKit Go.Lib base rowe rowc wireb
theorem wpList_push_b {Q:Exit→Act→World→Prop} {w:World} {ops:Array Oper} {rest:List Oper} {o:Oper} {a:Act} (hgd:o.guard=none) (s x:Operand) (ho:o.op=.call { callee:=.builtin .append,args:=#[s,x],argTypes:=#[86,86] })
  {base:Nat} {v:Value} {l bs:List UInt8} (hs:a.eval s=v) (hown:OwnB w base v l) (m c g:Nat) (hg:g=w.heap.size) (news:List Value) (hx:a.eval x=.slice (some ⟨g,0,none⟩) m c) (hn:news=byt bs) (hm:bs.length=m) (hb:l.length+m≤1000000) (hbase:base≤w.heap.size)
  (h:∀ v' w',OwnB w' base v' (l++bs)→Below base w w'→wpList Tryz.prog ops Q rest (a.put o.dst v') w'):wpList Tryz.prog ops Q (o :: rest) a (w.alloc (.cells news.toArray 5)):=by
 obtain ⟨i0,hi,hz⟩:=Option.map_eq_some_iff.1 byte_info;simp only [Prod.mk.injEq] at hz;obtain ⟨hz0,hz1,hz2⟩:=hz;subst hn;refine wpList_append_newAt hgd s x 86 ho base 5 i0 _ 1 1 Tryz.underlying86 hi hz0 hz1 hz2 rfl (by decide) v l.length (byt l) hs hown m c g hg (byt bs) hx (by rw [byt_len,hm];simp) (byt_one bs) (by unfold maxLen;omega) (by omega) hbase fun v' w' h2 h3 _ _=>?_;refine h v' w' ?_ h3;unfold OwnB;rw [byt_app,List.length_append,hm];exact h2
theorem own_conv {w:World} {base:Nat} {v:Value} {l:List UInt8} (h:OwnB w base v l):(convert 86 9 v).run Tryz.prog w=.ok (.string ⟨l.toArray⟩) w:=by
 have hrow:=RowC.of_own h
 rcases hrow.is with ⟨rfl,rfl⟩|⟨k,cap,cur,rfl,_⟩
 ·exact run_convert_bytes_nil (P:=Tryz.prog) w 86 5 Tryz.underlying86 Tryz.underlying5 0 0 9 Tryz.underlying9
 ·have h:=hrow.text (P:=Tryz.prog) 86 9 Tryz.underlying86 Tryz.underlying5 Tryz.underlying9 0 l.length cap (Nat.zero_le _) (Nat.le_refl _)
  simpa using h
def strLen:Value→Nat|.string b=>b.size|_=>0
end appb
namespace appb
open Go Go.RowKit Go.Lib base rowe rowc wireb
theorem size_cells (b:Nat):∀ (vs:List Value) (o:Nat) (w:World),(w.setCells b o vs).heap.size=w.heap.size
 | [],_,_=>rfl
 | v :: r,o,w=>(size_cells b r (o+1) (w.setCell ⟨b,o,none⟩ v)).trans (by simp [World.setCell])
theorem below_cells_w {B g:Nat} (hg:B≤g):∀ (vs:List Value) (o:Nat) (w:World),Below B w (w.setCells g o vs)
 | [],_,w=>Below.refl B w
 | v :: r,o,w=>((Below.refl B w).setCell (p:=⟨g,o,none⟩) hg v).trans (below_cells_w hg r (o+1) (w.setCell ⟨g,o,none⟩ v))
def BRow (w:World) (base:Nat) (v:Value) (l:List UInt8):Prop:=∃ g cap,v=.slice (some ⟨g,0,none⟩) l.length cap∧base≤g∧g<w.heap.size∧l.length≤cap∧cap≤maxLen ∧
 (∀ j,j<cap→(w.cell? ⟨g,j,none⟩).isSome=true∧w.frozen? ⟨g,j,none⟩=false)∧Lies w g 0 l
theorem BRow.below {w w':World} {base:Nat} {v:Value} {l:List UInt8} (h:BRow w base v l) (hb:Below w.heap.size w w'):BRow w' base v l:=by
 obtain ⟨g,cap,rfl,h1,h2,h3,h4,h5,h6⟩:=h;refine ⟨g,cap,rfl,h1,Nat.lt_of_lt_of_le h2 hb.size,h3,h4,fun j hj=>?_,h6.keeps (X:=nobody) (.of_below hb) (fun h=>h)⟩;rw [(bcell hb).1 g j h2,(bcell hb).2 g j h2];exact h5 j hj
theorem brow_new {s:ByteArray} {w:World} {cap:Nat} {C:Array Value} (hC:bytesRow s cap=C) (hcap:s.size≤cap) (hm:cap≤maxLen) :
  BRow (w.drew.alloc (.cells C 5 (C.size,C.size+1))) w.heap.size (.slice (some ⟨w.heap.size,0,none⟩) s.size cap) s.data.toList:=by
 subst hC
 have hsz:(bytesRow s cap).size=cap:=by
  have h:s.data.size=s.size:=rfl;simp [bytesRow]
  omega
 have hlen:s.data.toList.length=s.size:=rfl;refine ⟨w.heap.size,cap,by rw [hlen],Nat.le_refl _,by simp,by rw [hlen];exact hcap,hm,fun j hj=>⟨?_,?_⟩,fun j v hv=>?_⟩
 ·have:=World.cell?_alloc_mark w.drew (bytesRow s cap) 5 ((bytesRow s cap).size,(bytesRow s cap).size+1) j
  rw [show w.drew.heap.size=w.heap.size from rfl] at this;rw [this,Array.getElem?_eq_getElem (by omega)];rfl
 ·have:=World.frozen?_alloc_mark w.drew (bytesRow s cap) 5 (bytesRow s cap).size ((bytesRow s cap).size+1) j
  rw [show w.drew.heap.size=w.heap.size from rfl] at this;rw [this];simp
  omega
 ·have:=World.cell?_alloc_mark w.drew (bytesRow s cap) 5 ((bytesRow s cap).size,(bytesRow s cap).size+1) j
  rw [show w.drew.heap.size=w.heap.size from rfl] at this;rw [Nat.zero_add,this];obtain ⟨hj,rfl⟩:=List.getElem?_eq_some_iff.1 hv;have hj':j<s.data.size:=by rw [byt_len] at hj;simpa using hj
  unfold bytesRow;rw [Array.getElem?_append_left (by simpa using hj'),Array.getElem?_map,Array.getElem?_eq_getElem hj'];simp [byt]
theorem run_append_brow {w:World} {base:Nat} {v:Value} {l bs:List UInt8} {u ty:TypeId} {xv:Value} (h:BRow w base v l) (hs:Src Tryz.prog 1 u xv bs.length (byt bs) w) (hb:l.length+bs.length≤1000000) (hbase:base≤w.heap.size) :
  ∃ v' w',(Builtin.append_ #[86,u] ty #[v,xv]).run Tryz.prog w=.ok v' w'∧BRow w' base v' (l++bs)∧Below base w w':=by
 obtain ⟨i0,hi,hz⟩:=Option.map_eq_some_iff.1 byte_info;simp only [Prod.mk.injEq] at hz;obtain ⟨hz0,hz1,hz2⟩:=hz;obtain ⟨g,cap,rfl,h1,h2,h3,h4,h5,h6⟩:=h;have hll:(l++bs).length=l.length+bs.length:=List.length_append;have hbl:=byt_len bs
 by_cases hroom:l.length+bs.length≤cap
 ·have hin:∀ j,j<(byt bs).length→(w.cell? ⟨g,(l.length)+j,none⟩).isSome=true:=fun j hj=>(h5 (l.length+j) (by omega)).1
  have hr:=run_append_room_src (P:=Tryz.prog) w 86 u ty 5 i0 Tryz.underlying86 hi g 0 l.length cap xv bs.length (byt bs) (by rw [hz1];exact hs) hroom (fun j hj=>by rw [hz1,Nat.zero_add,Nat.mul_one];exact hin j hj)
   (fun j hj=>by rw [hz1,Nat.zero_add,Nat.mul_one];exact (h5 (l.length+j) (by omega)).2)
  rw [hz1,Nat.zero_add,Nat.mul_one] at hr;have hhs:=size_cells g (byt bs) l.length w;refine ⟨_,_,hr,⟨g,cap,by rw [hll],h1,by rw [hhs];exact h2,by rw [hll];exact hroom,h4,fun j hj=>⟨World.isSome_setCells g (byt bs) l.length w _ (h5 j hj).1,by rw [World.frozen?_setCells];exact (h5 j hj).2⟩,fun j v hv=>?_⟩,?_⟩
  ·rw [Nat.zero_add]
   rw [byt_app] at hv
   rcases Nat.lt_or_ge j l.length with hj|hj
   ·rw [List.getElem?_append_left (by rw [byt_len];exact hj)] at hv
    rw [World.cell?_setCells_out g (byt bs) l.length w _ (fun _ _=>.inl hj)];have:=h6 j v hv
    rwa [Nat.zero_add] at this
   ·rw [List.getElem?_append_right (by rw [byt_len];exact hj),byt_len] at hv
    obtain ⟨hj2,rfl⟩:=List.getElem?_eq_some_iff.1 hv;have:=World.cell?_setCells_in g (byt bs) l.length w hin (j-l.length) hj2;rw [show l.length+(j-l.length)=j by omega] at this;exact this
  ·exact below_cells_w h1 (byt bs) l.length w
 ·have hold:(Builtin.firstCells i0.size l.length (.slice (some ⟨g,0,none⟩) l.length cap)).run Tryz.prog w.drew=.ok (byt l).toArray w.drew:=by
   rw [hz1];exact run_firstCells_some w.drew 1 l.length ⟨g,0,none⟩ l.length cap (byt l) (by simp [byt_len]) (fun j v hv=>by rw [add_plain'];exact h6 j v hv)
  have hfit:Builtin.nextslicecap (l.length+bs.length) cap*i0.bytes≤281474976710656:=by rw [hz2];exact growslice_fits (by omega) (by omega)
  have hr:=run_append_grow_src (P:=Tryz.prog) w 86 u ty 5 i0 (.int .u8 0) Tryz.underlying86 hi hz0 (some ⟨g,0,none⟩) l.length cap (byt l) hold xv bs.length (byt bs) (by rw [hz1];exact hs) (by omega) (by omega) hfit;have hge:=grownCap_ge w (l.length+bs.length) cap 5;have hcm:=grownCap_le_maxLen w (l.length+bs.length) cap 5 (by unfold maxLen;omega);generalize grownCap w (l.length+bs.length) cap 5=c2 at *;have hz1':(Value.int IntKind.u8 0).cells.size=1:=rfl;have hlen:(byt l++byt bs).length=l.length+bs.length:=by simp [byt_len]
  have hcs:((byt l++byt bs).toArray++Builtin.zeroCells (Value.int IntKind.u8 0).cells (c2-(l.length+bs.length))).size=c2:=by
   simp only [Array.size_append,List.size_toArray,size_zeroCells,hz1',hlen];omega
  refine ⟨_,_,hr,⟨w.heap.size,c2,by rw [hll],hbase,by simp,by rw [hll];exact hge,hcm,fun j hj=>?_,fun j v hv=>?_⟩,(Below.refl _ _).drew.alloc (by simpa using hbase) _⟩
  ·have e1:=cell_new w.drew ((byt l++byt bs).toArray++Builtin.zeroCells (Value.int IntKind.u8 0).cells (c2-(l.length+bs.length))) 5 (0,0) j
   have e2:=World.frozen?_alloc_mark w.drew ((byt l++byt bs).toArray++Builtin.zeroCells (Value.int IntKind.u8 0).cells (c2-(l.length+bs.length))) 5 0 0 j;rw [show w.drew.heap.size=w.heap.size from rfl] at e1 e2;rw [e1,e2,Array.getElem?_eq_getElem (by rw [hcs];exact hj)];simp
  ·have e1:=cell_new w.drew ((byt l++byt bs).toArray++Builtin.zeroCells (Value.int IntKind.u8 0).cells (c2-(l.length+bs.length))) 5 (0,0) j
   rw [show w.drew.heap.size=w.heap.size from rfl] at e1;rw [Nat.zero_add,e1];rw [byt_app] at hv;obtain ⟨hj,rfl⟩:=List.getElem?_eq_some_iff.1 hv;rw [Array.getElem?_append_left (by simpa using hj)];simp
theorem wpList_append_brow {Q:Exit→Act→World→Prop} {w:World} {ops:Array Oper} {rest:List Oper} {o:Oper} {a:Act} (hgd:o.guard=none) (s x:Operand) (u:TypeId) (ho:o.op=.call { callee:=.builtin .append,args:=#[s,x],argTypes:=#[86,u] })
  {base:Nat} {v xv:Value} {l bs:List UInt8} (hs:a.eval s=v) (hown:BRow w base v l) (hx:a.eval x=xv) (hsr:Src Tryz.prog 1 u xv bs.length (byt bs) w) (hb:l.length+bs.length≤1000000) (hbase:base≤w.heap.size)
  (h:∀ v' w',BRow w' base v' (l++bs)→Below base w w'→wpList Tryz.prog ops Q rest (a.put o.dst v') w'):wpList Tryz.prog ops Q (o :: rest) a w:=by
 refine wpList_plain hgd fun K hK=>?_;obtain ⟨v',w',hr,h2,h3⟩:=run_append_brow (ty:=o.type) hown hsr hb hbase;unfold Oper.wp execOp;simp only [ho,resolve,invoke,builtin,Sem.run_bind,Sem.run_pure,Result.andThen_ok,List.map_toArray,List.map_cons,List.map_nil,hs,hx,hr];exact hK _ _ (h v' w' h2 h3)
theorem src_built {w:World} {g m c:Nat} {bs:List UInt8} {news:List Value} (hn:news=byt bs) (hm:bs.length=m) (hg:g=w.heap.size):Src Tryz.prog 1 86 (.slice (some ⟨g,0,none⟩) m c) bs.length (byt bs) (w.alloc (.cells news.toArray 5)):=by
 subst hg hn;rw [←hm];refine Src.ofSlice _ Tryz.underlying86 ⟨w.heap.size,0,none⟩ bs.length c (byt bs) (by simp [byt_len]) (fun j v hv=>?_) (byt_one bs);rw [add_plain',Nat.zero_add,cell_new]
 simpa using hv
end appb
namespace textw
open Go Go.RowKit Go.Lib base rowe rowc wireb appb encp
theorem ext_list (t:ByteArray) (a b:Nat):(t.extract a b).data.toList=(t.data.toList.take b).drop a:=by
 rw [ByteArray.data_extract,Array.toList_extract,List.extract_eq_take_drop,List.drop_take]
theorem letters_b:∀ n:Fin 64,((⟨letters.toArray⟩:ByteArray)[n.val]'(by have:=n.isLt;show n.val<64;exact this)).toNat=(lett n.val).toNat:=by decide +kernel
theorem enc_any (s : ByteArray) (w : World) (hs : s.size ≤ 100000) : Calls Tryz.prog 162 #[.string s] w fun e w' => e = .returned (.string ⟨(enc s.data.toList).toArray⟩) ∧ Below w.heap.size w w' := by
  go_enter Tryz.func162, Tryz.ntmps162;go_wp2_with fail
  go_loopw [0, 3] (fun sv ov wr => ∃ (t : ByteArray) (o : List UInt8), sv = .string t ∧ t.size ≤ s.size ∧ o++enc t.data.toList = enc s.data.toList ∧ OwnB wr w.heap.size ov o ∧ Below w.heap.size w wr) (fun sv _ _ => strLen sv)
  case atStart => exact ⟨s, [], rfl, Nat.le_refl _, rfl, OwnB.none _ _, Below.refl _ _⟩
  case round =>
    obtain ⟨t, o, rfl, ht, ho, hv, hbw⟩ := hrel;have htl : t.data.toList.length = t.size := rfl
    have hol : o.length ≤ 200000 := by
      have h1 := congrArg List.length ho;rw [List.length_append, enc_len, enc_len] at h1;have h2 : s.data.toList.length = s.size := rfl;omega
    by_cases hp : 0<t.size
    · by_cases h3 : (t.size : Int) ≤ 3
      ·
        have HV := qH hv;have HBW := qH hbw;have HO := qH ho;clear hv hbw ho;go_wp2_with fail
        go_loopw [4, 6] (fun nv iv wr' => ∃ i : Nat, i ≤ 3 ∧ iv = .int .i64 i ∧ nv = .int .u32 (nb t.data.toList i : Nat) ∧ wr' = wr) (fun _ iv _ => 3-(intOf iv).toNat)
        case atStart => exact ⟨0, by omega, rfl, rfl, rfl⟩
        case round =>
          obtain ⟨i, hi, rfl, rfl, hwr⟩ := hrel;subst hwr
          by_cases h3i : i = 3
          · subst h3i
            go_wp2_with fail;obtain ⟨N, hN⟩ : ∃ N, nb t.data.toList 3 = N := ⟨_, rfl⟩;have hNl : N<16777216 := by rw [←hN]; exact Nat.lt_of_lt_of_le (nb_lt _ 3) (by decide)
            rw [hN]
            go_loopw [3, 4, 7] (fun ov nv iv wr' => ∃ j : Nat, j ≤ t.size+1 ∧ iv = .int .i64 j ∧ nv = .int .u32 (shl N j : Nat) ∧ OwnB wr' w.heap.size ov (o++lets t.data.toList j) ∧ Below w.heap.size w wr') (fun _ _ iv _ => t.size+1-(intOf iv).toNat)
            case atStart => exact ⟨0, by omega, rfl, by rw [shl_0 (by omega)], by simpa [lets] using HV.out, HBW.out⟩
            case round =>
              obtain ⟨j, hj, rfl, rfl, hv, hbw⟩ := hrel
              by_cases hjk : j = t.size+1
              · subst hjk
                have e1 : min t.data.toList.length 3 = t.size := by omega
                have e2 : t.data.toList.drop 3 = (ByteArray.empty).data.toList := by
                  exact List.drop_eq_nil_of_le (by omega)
                have HX := qH (show (o++lets t.data.toList (t.size+1))++enc (ByteArray.empty).data.toList = enc s.data.toList from by
                  rw [←HO.out, List.append_assoc, ← enc_step t.data.toList (by intro h0; rw [h0] at htl; simp at htl; omega), e1, e2])
                have HV := qH hv;have HBW := qH hbw
                have hts : (ByteArray.empty).size<t.size ∧ (ByteArray.empty).size ≤ s.size := by
                  exact ⟨hp, Nat.zero_le _⟩
                clear hv hbw e1 e2;go_wp2_with fail;go_roundw
                case rel => exact ⟨ByteArray.empty, _, rfl, hts.2, HX.out, HV.out, HBW.out⟩
                case measure => exact hts.1
              · have hl := shl_lt N j
                have hnx := shl_next N j;have hdl := digitN_lt N j;have hlet := letters_b ⟨digitN N j, hdl⟩;have hjz : (j : Int) ≤ (t.size : Nat) := by omega
                have hd1 : bits .and .u32 (((shl N j : Nat) : Int) / 262144) 63 = ((digitN N j : Nat) : Int) := by
                  have h1 := u32_and_nat (shl N j / 262144) 63 (by omega) (by omega);rw [Nat.and_two_pow_sub_one_eq_mod (shl N j / 262144) 6] at h1;rw [show ((shl N j : Nat) : Int) / 262144 = ((shl N j / 262144 : Nat) : Int) by omega];exact h1
                have hdz : ((digitN N j : Nat) : Int)<64 := by omega
                have hlo : (o++lets t.data.toList j).length ≤ 300000 := by rw [List.length_append]; unfold lets; simp; omega
                have HL := qH (lets_next t.data.toList j);rw [hN] at HL;have HNX := qH hnx;have HV := qH hv;have HBW := qH hbw;have hws := hbw.size;have HLT := qH hlet;clear hv hbw hnx hlet;generalize digitN N j = d at *;generalize shl N j = y at *
                go_wp2_with (at_builtin; refine wpList_push_b rfl (.tmp 34) (.tmp 39) rfl (bs := [lett d]) rfl HV.out 1 1 wr.heap.size rfl [_] rfl (congrArg (fun x => [x]) (val_int (congrArg Int.ofNat HLT.out))) rfl (by omega) hws ?_; intro v5 w5 hv5 hb5)
                have HV5 := qH hv5;have HB5 := qH (HBW.out.trans hb5);clear hv5 hb5;go_wp2_with fail;go_roundw
                case rel =>
                  have hrel5 : ∃ j' : Nat, j' ≤ t.size+1 ∧ Value.int .i64 ((j : Int)+1) = .int .i64 j' ∧ Value.int .u32 ((y : Int)*64 % 4294967296) = .int .u32 (shl N j' : Nat) ∧ OwnB w5 w.heap.size v5 (o++lets t.data.toList j') ∧ Below w.heap.size w w5 :=
                    ⟨j+1, by omega, by go_num, val_int (by have := HNX.out; omega), by rw [←HL.out, ← List.append_assoc]; exact HV5.out, HB5.out⟩
                  first | exact hrel5 | exact ⟨_, _, _, hrel5, rfl, rfl, rfl⟩
                case measure => simp [intOf]; omega
          · have hn : nb t.data.toList i < 65536 := Nat.lt_of_lt_of_le (nb_lt _ i) (by obtain rfl | rfl | rfl : i = 0 ∨ i = 1 ∨ i = 2 := by omega
                                                                                       all_goals decide)
            have hlt : (i : Int)<3 := by omega
            have hor := nb_or (r := t.data.toList) (i := i)
            by_cases hik : i<t.size
            · have hg : t.data.toList.getD i 0 = t[i] := by
                rw [List.getD_eq_getElem?_getD, List.getElem?_eq_getElem hik]; rfl
              have hb := (t[i]).toNat_lt;have hiz : (i : Int)<(t.size : Int) := by omega
              have hsp := u32_or_nat (nb t.data.toList i*256) (t[i]).toNat (by omega) (by omega);rw [hg] at hor;rw [hor] at hsp;have HS := qH hsp;clear hor hsp;generalize nb t.data.toList i = n at *;go_wp2_with fail;go_roundw
              case rel => exact ⟨i+1, by omega, by go_num, val_int HS.out, trivial⟩
              case measure => simp [intOf]; omega
            ·
              have hg : t.data.toList.getD i 0 = 0 := by
                rw [List.getD_eq_getElem?_getD, List.getElem?_eq_none (by omega)]; rfl
              have HNX := qH (show nb t.data.toList (i+1) = nb t.data.toList i*256 from by rw [nb, hg]; rfl);clear hor;generalize nb t.data.toList i = n at *;go_wp2_with fail;go_roundw
              case rel => exact ⟨i+1, by omega, by go_num, by rw [HNX.out]; exact val_int (by omega), trivial⟩
              case measure => simp [intOf]; omega
      ·
        have HV := qH hv;have HBW := qH hbw;have HO := qH ho;clear hv hbw ho;go_wp2_with fail
        go_loopw [4, 6] (fun nv iv wr' => ∃ i : Nat, i ≤ 3 ∧ iv = .int .i64 i ∧ nv = .int .u32 (nb t.data.toList i : Nat) ∧ wr' = wr) (fun _ iv _ => 3-(intOf iv).toNat)
        case atStart => exact ⟨0, by omega, rfl, rfl, rfl⟩
        case round =>
          obtain ⟨i, hi, rfl, rfl, hwr⟩ := hrel;subst hwr
          by_cases h3i : i = 3
          · subst h3i
            go_wp2_with fail;obtain ⟨N, hN⟩ : ∃ N, nb t.data.toList 3 = N := ⟨_, rfl⟩;have hNl : N<16777216 := by rw [←hN]; exact Nat.lt_of_lt_of_le (nb_lt _ 3) (by decide)
            rw [hN]
            go_loopw [3, 4, 7] (fun ov nv iv wr' => ∃ j : Nat, j ≤ 3+1 ∧ iv = .int .i64 j ∧ nv = .int .u32 (shl N j : Nat) ∧ OwnB wr' w.heap.size ov (o++lets t.data.toList j) ∧ Below w.heap.size w wr') (fun _ _ iv _ => 3+1-(intOf iv).toNat)
            case atStart => exact ⟨0, by omega, rfl, by rw [shl_0 (by omega)], by simpa [lets] using HV.out, HBW.out⟩
            case round =>
              obtain ⟨j, hj, rfl, rfl, hv, hbw⟩ := hrel
              by_cases hjk : j = 3+1
              · subst hjk
                have e1 : min t.data.toList.length 3 = 3 := by omega
                have e2 : t.data.toList.drop 3 = (t.extract 3 t.size).data.toList := by
                  rw [ext_list, ← htl, List.take_length]
                have HX := qH (show (o++lets t.data.toList (3+1))++enc (t.extract 3 t.size).data.toList = enc s.data.toList from by
                  rw [←HO.out, List.append_assoc, ← enc_step t.data.toList (by intro h0; rw [h0] at htl; simp at htl; omega), e1, e2])
                have HV := qH hv;have HBW := qH hbw
                have hts : (t.extract 3 t.size).size<t.size ∧ (t.extract 3 t.size).size ≤ s.size := by
                  simp only [ByteArray.size_extract];omega
                clear hv hbw e1 e2;go_wp2_with fail;go_roundw
                case rel => exact ⟨t.extract 3 t.size, _, rfl, hts.2, HX.out, HV.out, HBW.out⟩
                case measure => exact hts.1
              · have hl := shl_lt N j
                have hnx := shl_next N j;have hdl := digitN_lt N j;have hlet := letters_b ⟨digitN N j, hdl⟩;have hjz : (j : Int) ≤ (3 : Nat) := by omega
                have hd1 : bits .and .u32 (((shl N j : Nat) : Int) / 262144) 63 = ((digitN N j : Nat) : Int) := by
                  have h1 := u32_and_nat (shl N j / 262144) 63 (by omega) (by omega);rw [Nat.and_two_pow_sub_one_eq_mod (shl N j / 262144) 6] at h1;rw [show ((shl N j : Nat) : Int) / 262144 = ((shl N j / 262144 : Nat) : Int) by omega];exact h1
                have hdz : ((digitN N j : Nat) : Int)<64 := by omega
                have hlo : (o++lets t.data.toList j).length ≤ 300000 := by rw [List.length_append]; unfold lets; simp; omega
                have HL := qH (lets_next t.data.toList j);rw [hN] at HL;have HNX := qH hnx;have HV := qH hv;have HBW := qH hbw;have hws := hbw.size;have HLT := qH hlet;clear hv hbw hnx hlet;generalize digitN N j = d at *;generalize shl N j = y at *
                go_wp2_with (at_builtin; refine wpList_push_b rfl (.tmp 34) (.tmp 39) rfl (bs := [lett d]) rfl HV.out 1 1 wr.heap.size rfl [_] rfl (congrArg (fun x => [x]) (val_int (congrArg Int.ofNat HLT.out))) rfl (by omega) hws ?_; intro v5 w5 hv5 hb5)
                have HV5 := qH hv5;have HB5 := qH (HBW.out.trans hb5);clear hv5 hb5;go_wp2_with fail;go_roundw
                case rel =>
                  have hrel5 : ∃ j' : Nat, j' ≤ 3+1 ∧ Value.int .i64 ((j : Int)+1) = .int .i64 j' ∧ Value.int .u32 ((y : Int)*64 % 4294967296) = .int .u32 (shl N j' : Nat) ∧ OwnB w5 w.heap.size v5 (o++lets t.data.toList j') ∧ Below w.heap.size w w5 :=
                    ⟨j+1, by omega, by go_num, val_int (by have := HNX.out; omega), by rw [←HL.out, ← List.append_assoc]; exact HV5.out, HB5.out⟩
                  first | exact hrel5 | exact ⟨_, _, _, hrel5, rfl, rfl, rfl⟩
                case measure => simp [intOf]; omega
          · have hn : nb t.data.toList i < 65536 := Nat.lt_of_lt_of_le (nb_lt _ i) (by obtain rfl | rfl | rfl : i = 0 ∨ i = 1 ∨ i = 2 := by omega
                                                                                       all_goals decide)
            have hlt : (i : Int)<3 := by omega
            have hor := nb_or (r := t.data.toList) (i := i)
            by_cases hik : i<t.size
            · have hg : t.data.toList.getD i 0 = t[i] := by
                rw [List.getD_eq_getElem?_getD, List.getElem?_eq_getElem hik]; rfl
              have hb := (t[i]).toNat_lt;have hiz : (i : Int)<(t.size : Int) := by omega
              have hsp := u32_or_nat (nb t.data.toList i*256) (t[i]).toNat (by omega) (by omega);rw [hg] at hor;rw [hor] at hsp;have HS := qH hsp;clear hor hsp;generalize nb t.data.toList i = n at *;go_wp2_with fail;go_roundw
              case rel => exact ⟨i+1, by omega, by go_num, val_int HS.out, trivial⟩
              case measure => simp [intOf]; omega
            ·
              exfalso;omega
    · have he : t.data.toList = [] := List.eq_nil_of_length_eq_zero (by omega)
      have HO := qH (show o = enc s.data.toList from by rw [←ho, he]; exact (List.append_nil o).symm);have hcv := own_conv hv;have HBW := qH hbw;have HV := qH hv;clear hv hbw ho;go_wp2_with fail;rw [HO.out];go_ret
      exact ⟨rfl, HBW.out⟩
end textw
end Go.Proofs.YthlahcnglacekaaGreatDoor
