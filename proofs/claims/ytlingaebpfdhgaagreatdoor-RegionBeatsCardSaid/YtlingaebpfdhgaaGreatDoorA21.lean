/- A part of the proof of RegionBeats: AppB, OutK. -/
import Derived.Test.YtlingaebpfdhgaaGreatDoorA02
import Derived.Deep.AppendSrc
import Derived.Laws.IdiomStrings
namespace Go.Proofs.YtlingaebpfdhgaaGreatDoor.appb
open Go Go.RowKit Go.Lib base rowe rowc wireb
section
variable {w w':World} {k off n:Nat} {l1 l2:List UInt8}
theorem _root_.Go.Proofs.YtlingaebpfdhgaaGreatDoor.base.Keeps.lo {B:Nat} {X:Nat→Prop} (h:Below B w w') (hx:∀ i,B≤i→X i):Keeps X w w':=⟨h.os,h.tape,h.output,h.size,fun i _ hX=>h.block i (Nat.lt_of_not_le fun hle=>hX (hx i hle))⟩
def Lies (w:World) (k off:Nat) (l:List UInt8):Prop:=∀ j v,(byt l)[j]?=some v→w.cell? ⟨k,off + j,none⟩=some v
theorem Lies.blk {t:TypeId} {l:List UInt8} (h:Blk w k t (byt l).toArray):Lies w k 0 l:=fun j v hv=>by
 rw [Nat.zero_add,h.cell j]
 simpa using hv
theorem Lies.cut {l:List UInt8} (h:Lies w k off l) (a m:Nat):Lies w k (off + a) ((l.drop a).take m):=fun j v hv=>by
 rw [Nat.add_assoc]
 refine h (a + j) v ?_
 simp only [byt,List.getElem?_map,List.getElem?_take,List.getElem?_drop] at hv ⊢
 split at hv
 ·exact hv
 ·cases hv
theorem Lies.keeps {X:Nat→Prop} {l:List UInt8} (h:Lies w k off l) (hk:Keeps X w w') (hx:¬ X k):Lies w' k off l:=fun j v hv=>by
 have:=h j v hv
 exact (hk.cell (off + j) (cell_lt this) hx).trans this
theorem Lies.src {l:List UInt8} (h:Lies w k off l) (u:TypeId) (hu:Tryz.prog.underlying u=some (.slice 5)) (c:Nat):Src Tryz.prog 1 u (.slice (some ⟨k,off,none⟩) l.length c) l.length (byt l) w :=
 Src.ofSlice w hu ⟨k,off,none⟩ l.length c (byt l) (by simp [byt_len]) (fun j v hv=>by rw [add_plain'];exact h j v hv) (byt_one l)
theorem src_str (s:ByteArray):Src Tryz.prog 1 9 (.string s) s.data.toList.length (byt s.data.toList) w:=by
 have:=Src.ofString (P:=Tryz.prog) w (tx:=9) Tryz.underlying9 s
 exact this
theorem Lies.reads {l:List UInt8} (h:Lies w k off l):Reads w w.heap.size 1 (some ⟨k,off,none⟩) l.length (byt l) :=
 ⟨by simp [byt_len],fun hp=>⟨k,off,rfl,by
  have hp':0 < (byt l).length:=by rw [byt_len];exact hp
  exact cell_lt (h 0 _ (List.getElem?_eq_getElem hp')),fun j hj=>by rw [List.getElem?_eq_getElem hj];exact h j _ (List.getElem?_eq_getElem hj)⟩⟩
theorem Lies.text {l:List UInt8} (h:Lies w k off l) (c:Nat):(convert 79 9 (.slice (some ⟨k,off,none⟩) l.length c)).run Tryz.prog w=.ok (.string ⟨l.toArray⟩) w :=
 run_convert_bytes_back w 79 9 5 ⟨k,off,none⟩ c l Tryz.underlying79 Tryz.underlying5 Tryz.underlying9 fun j hj=>by
  rw [add_plain']
  refine h j _ ?_
  simp only [byt,List.getElem?_map,List.getElem?_eq_getElem hj,Option.map_some]
theorem run_append_new {u ty:TypeId} {xv:Value} (hn:l1.length=n) (h1:Lies w k off l1) (hs:Src Tryz.prog 1 u xv l2.length (byt l2) w) (hp:0 < l2.length) (hb:n + l2.length≤1000000) :
  ∃ v' w',(Builtin.append_ #[79,u] ty #[.slice (some ⟨k,off,none⟩) n n,xv]).run Tryz.prog w=.ok v' w'∧OwnB w' w.heap.size v' (l1 ++ l2)∧Below w.heap.size w w':=by
 obtain ⟨i0,hi,hz⟩:=Option.map_eq_some_iff.1 byte_info
 simp only [Prod.mk.injEq] at hz
 obtain ⟨hz0,hz1,hz2⟩:=hz
 have hold:(Builtin.firstCells i0.size n (.slice (some ⟨k,off,none⟩) n n)).run Tryz.prog w.drew=.ok (byt l1).toArray w.drew:=by
  rw [hz1]
  exact run_firstCells_some w.drew 1 n ⟨k,off,none⟩ n n (byt l1) (by simp [byt_len,hn]) (fun j v hv=>by rw [add_plain'];exact h1 j v hv)
 have hfit:Builtin.nextslicecap (n + l2.length) n * i0.bytes≤281474976710656:=by rw [hz2];exact growslice_fits (by omega) (by omega)
 have hr:=run_append_grow_src (P:=Tryz.prog) w 79 u ty 5 i0 (.int .u8 0) Tryz.underlying79 hi hz0 (some ⟨k,off,none⟩) n n (byt l1) hold xv l2.length (byt l2) (by rw [hz1];exact hs) (by omega) (by omega) hfit
 have hge:=grownCap_ge w (n + l2.length) n 5
 have hcm:=grownCap_le_maxLen w (n + l2.length) n 5 (by unfold maxLen;omega)
 refine ⟨_,_,hr,?_,(Below.refl _ _).drew.alloc (by simp) _⟩
 have hlen:(byt l1 ++ byt l2).length=n + l2.length:=by simp [byt_len,hn]
 refine ⟨by simp [byt_len],.inr ⟨w.heap.size,_,_,by rw [List.length_append,hn],Nat.le_refl _,heap_alloc_new w.drew _,by rw [List.length_append,hn];exact hge,hcm,?_,?_⟩⟩
 ·have hz1':(Value.int IntKind.u8 0).cells.size=1:=rfl
  simp only [Array.size_append,List.size_toArray,size_zeroCells,hz1',hlen]
  omega
 ·simp only [Array.toList_append]
  rw [Nat.mul_one,List.length_append,hn,← hlen,byt_app]
  exact List.take_left
theorem wp_append_new {o:Oper} {a:Act} {K:Act→World→Prop} {Q:Exit→Act→World→Prop} (s x:Operand) (u:TypeId) (ho:o.op=.call { callee:=.builtin .append,args:=#[s,x],argTypes:=#[79,u] }) {xv:Value}
  (hs:a.eval s=.slice (some ⟨k,off,none⟩) n n) (hx:a.eval x=xv) (hn:l1.length=n) (h1:Lies w k off l1) (hsr:Src Tryz.prog 1 u xv l2.length (byt l2) w) (hp:0 < l2.length) (hb:n + l2.length≤1000000)
  (h:∀ v' w',OwnB w' w.heap.size v' (l1 ++ l2)→Below w.heap.size w w'→K (a.put o.dst v') w'):o.wp Tryz.prog a w K Q:=by
 obtain ⟨v',w',hr,h2,h3⟩:=run_append_new (ty:=o.type) hn h1 hsr hp hb
 unfold Oper.wp execOp
 simp only [ho,resolve,invoke,builtin,Sem.run_bind,Sem.run_pure,Result.andThen_ok,List.map_toArray,List.map_cons,List.map_nil,hs,hx,hr]
 exact h v' w' h2 h3
theorem wp_append_cut {o:Oper} {a:Act} {K:Act→World→Prop} {Q:Exit→Act→World→Prop} (s x:Operand) (u:TypeId) (ho:o.op=.call { callee:=.builtin .append,args:=#[s,x],argTypes:=#[79,u] }) {xv:Value}
  (hs:a.eval s=.slice (some ⟨k,off,none⟩) n n) (hx:a.eval x=xv) (hn:l1.length=n) (h1:Lies w k off l1) (hsr:Src Tryz.prog 1 u xv l2.length (byt l2) w) (hb:n + l2.length≤1000000) (l3:List UInt8) (m:Nat) (h3:l1 ++ l2=l3) (hm:l3.length=m)
  (h:∀ k' off' c w',Lies w' k' off' l3→Below w.heap.size w w'→K (a.put o.dst (.slice (some ⟨k',off',none⟩) m c)) w'):o.wp Tryz.prog a w K Q:=by
 subst h3 hm
 by_cases hp:0 < l2.length
 ·refine wp_append_new s x u ho hs hx hn h1 hsr hp hb fun v' w' hv hbw=>?_
  rcases hv.2 with ⟨_,h0⟩|⟨g,cap,cur,rfl,_,hg,hle,_,hcs,htk⟩
  ·exfalso;rw [List.length_append] at h0;omega
  ·refine h g 0 cap w' (fun j v hj=>?_) hbw
   rw [Nat.zero_add]
   have:=hv.cells (g:=g) rfl j v hj
   rwa [add_plain',Nat.zero_add] at this
 ·have hl2:l2=[]:=List.eq_nil_of_length_eq_zero (by omega)
  subst hl2
  obtain ⟨i0,hi,hz⟩:=Option.map_eq_some_iff.1 byte_info
  simp only [Prod.mk.injEq] at hz
  obtain ⟨hz0,hz1,hz2⟩:=hz
  have hr:=run_append_room_src (P:=Tryz.prog) w 79 u o.type 5 i0 Tryz.underlying79 hi k off n n xv 0 [] (by rw [hz1];exact hsr) (by omega) (fun j hj=>by simp at hj) (fun j hj=>by simp at hj)
  have e0:∀ b o',w.setCells b o' []=w:=fun b o'=>rfl
  rw [e0] at hr
  unfold Oper.wp execOp
  simp only [ho,resolve,invoke,builtin,Sem.run_bind,Sem.run_pure,Result.andThen_ok,List.map_toArray,List.map_cons,List.map_nil,hs,hx,hr]
  have hh:=h k off n w (by rw [List.append_nil];exact h1) (Below.refl _ _)
  rw [List.append_nil,hn] at hh
  exact hh
theorem lies_of_own {v:Value} {B:Nat} (h:OwnB w B v l1) (hp:0 < l1.length):∃ g c,v=.slice (some ⟨g,0,none⟩) l1.length c∧B≤g∧g < w.heap.size∧Lies w g 0 l1:=by
 have hlt:=h.lt
 rcases h.2 with ⟨_,h0⟩|⟨g,cap,cur,rfl,hb,hg,hle,_,hcs,htk⟩
 ·omega
 ·refine ⟨g,cap,rfl,hb,(hlt g rfl).2,fun j v hj=>?_⟩
  rw [Nat.zero_add]
  have:=h.cells (g:=g) rfl j v hj
  rwa [add_plain',Nat.zero_add] at this
theorem wp_append_str {o:Oper} {a:Act} {K:Act→World→Prop} {Q:Exit→Act→World→Prop} (s x:Operand) (ho:o.op=.call { callee:=.builtin .append,args:=#[s,x],argTypes:=#[79,9] }) {v:Value} {base:Nat} (p:ByteArray)
  (hs:a.eval s=v) (hx:a.eval x=.string p) (hown:OwnB w base v l1) (hb:l1.length + p.size≤1000000) (hbase:base≤w.heap.size)
  (h:∀ v' w',OwnB w' base v' (l1 ++ p.data.toList)→Below base w w'→K (a.put o.dst v') w'):o.wp Tryz.prog a w K Q:=by
 obtain ⟨i0,hi,hz⟩:=Option.map_eq_some_iff.1 byte_info
 simp only [Prod.mk.injEq] at hz
 obtain ⟨hz0,hz1,hz2⟩:=hz
 obtain ⟨v',w',hr,h2,h3,_⟩:=run_append_own_string (P:=Tryz.prog) w base 79 9 o.type 5 i0 Tryz.underlying79 Tryz.underlying9 hi hz0 hz1 hz2 v l1.length (byt l1) hown p (by unfold maxLen;omega) (by omega) hbase
 unfold Oper.wp execOp
 simp only [ho,resolve,invoke,builtin,Sem.run_bind,Sem.run_pure,Result.andThen_ok,List.map_toArray,List.map_cons,List.map_nil,hs,hx,hr]
 refine h v' w' ?_ ((Keeps.grown (X:=fun i=>base≤i) h3 fun i hi=>.inl (hown.lt i hi).1).below (fun i hi e=>by omega) hbase)
 rw [strCells_byt,← byt_app] at h2
 unfold OwnB
 rw [List.length_append]
 exact h2
theorem wp_append_row {o:Oper} {a:Act} {K:Act→World→Prop} {Q:Exit→Act→World→Prop} (s x:Operand) (ho:o.op=.call { callee:=.builtin .append,args:=#[s,x],argTypes:=#[79,79] }) {v:Value} {base c:Nat} {A:Option Addr}
  (hs:a.eval s=v) (hx:a.eval x=.slice A l2.length c) (hown:OwnB w base v l1) (hr:Reads w w.heap.size 1 A l2.length (byt l2)) (hb:l1.length + l2.length≤1000000) (hbase:base≤w.heap.size)
  (h:∀ v' w',OwnB w' base v' (l1 ++ l2)→Below base w w'→K (a.put o.dst v') w'):o.wp Tryz.prog a w K Q:=by
 obtain ⟨i0,hi,hz⟩:=Option.map_eq_some_iff.1 byte_info
 simp only [Prod.mk.injEq] at hz
 obtain ⟨hz0,hz1,hz2⟩:=hz
 refine wp_append_any w s x 79 ho base 5 i0 _ 1 1 Tryz.underlying79 hi hz0 hz1 hz2 rfl (by decide) v l1.length (byt l1) hs hown w.heap.size A l2.length c (byt l2) hx hr (byt_one l2) (by unfold maxLen;omega) (by omega) hbase fun v' w' h2 h3 _=>?_
 refine h v' w' ?_ ((Keeps.grown (X:=fun i=>base≤i) h3 fun i hi=>.inl (hown.lt i hi).1).below (fun i hi e=>by omega) hbase)
 unfold OwnB
 rw [byt_app,List.length_append]
 exact h2
end
end Go.Proofs.YtlingaebpfdhgaaGreatDoor.appb
namespace Go.Proofs.YtlingaebpfdhgaaGreatDoor.wireb
open Go Go.RowKit base rowe err rowc wirep
def PutK (g:Nat) (v0:Value) (l:List UInt8) (w:World) (e:Ending) (w':World):Prop:=e=.returned noResult∧OutB w' g l∧Keeps (fun i=>i=g ∨ v0.ownBlock=some i) w w'
set_option maxRecDepth 10000 in
theorem put_k (v0:Value) (g:Nat) (l k:List UInt8) (A:Option Addr) (c:Nat) (w:World) (h:OutB w g l) (hv0:w.cell? ⟨g,0,none⟩=some v0) (hm:OwnB w (g + 1) (.slice A k.length c) k) (hr:l.length + k.length≤65536) :
  Calls Tryz.prog 59 #[.pointer (some ⟨g,0,none⟩),.slice A k.length c] w (PutK g v0 (l ++ k) w):=by
 obtain ⟨i0,hi,hz⟩:=Option.map_eq_some_iff.1 byte_info
 simp only [Prod.mk.injEq] at hz
 obtain ⟨hz0,hz1,hz2⟩:=hz
 obtain ⟨v,t,hb,hx⟩:=h
 obtain ⟨A',c',rfl⟩:=hx.form
 have c0:w.cell? ⟨g,0,none⟩=_:=hb.cell 0
 have c1:w.cell? ⟨g,1,none⟩=_:=hb.cell 1
 have hlt:=hb.lt
 simp at c0 c1
 obtain rfl:v0=.slice A' l.length c':=by rw [c0] at hv0;exact (Option.some.inj hv0).symm
 have d1:decide ((65536:Int) - (l.length:Int) < (k.length:Int))=false:=by simp;omega
 have hy:=hm
 have Hb:=Lib.hid hb
 have Hx:=Lib.hid hx
 have Hy:=Lib.hid hy
 clear hb hx hy
 go_enter Tryz.func59,Tryz.ntmps59
 go_wp2_with (at_builtin;refine wpList_append_any _ rfl (.tmp 8) (.tmp 9) _ rfl (g + 1) 5 i0 _ 1 1 Tryz.underlying79 hi hz0 hz1 hz2 rfl (by decide) (.slice A' l.length c') l.length _ rfl Hx.out _ A k.length c _ rfl (Reads.of_own Hy.out) (byt_one k) (by unfold maxLen;omega) (by omega) hlt ?_;intro v1 w5 hown1 hg1 ho1;obtain ⟨A1,c9,rfl⟩:=ownsRow_slice hown1;have hb5:=Hb.out.grown hg1 (fun e=>by have:=(Hx.out.lt _ e.symm).1;omega);have k0:w5.cell? ⟨g,0,none⟩=some (.slice A' l.length c'):=hb5.cell 0;have k1:=hb5.frozen 0;have k2:=hb5.lt;have Hb5:=Lib.hid hb5;have Hown1:=Lib.hid hown1;have Hg1:=Lib.hid hg1;clear hb5 hown1 hg1 ho1)
 refine bodyPost_end (v:=.tuple #[]) (by simp [results,Tryz.results59,go_sem]) rfl ?_
 have hk:Keeps (fun i=>i=g ∨ (Value.slice A' l.length c').ownBlock=some i) w w5:=.grown Hg1.out fun i hi=>.inl (.inr hi)
 refine ⟨rfl,⟨_,_,Hb5.out.set_ 0 _,?_⟩,hk.trans ((Keeps.set1 w5 g 0 _).more fun i _ hi=>.inl hi)⟩
 have ho:=own_keeps Hown1.out (Keeps.set1 w5 g 0 (.slice A1 (l.length + k.length) c9)) (fun i hi e=>by omega)
 unfold OwnB
 rw [byt_app,List.length_append]
 exact ho
set_option maxRecDepth 10000 in
theorem num_k (v0:Value) (g n:Nat) (l:List UInt8) (w:World) (h:OutB w g l) (hv0:w.cell? ⟨g,0,none⟩=some v0) (hn:n≤4611686018427387903) (hr:l.length + 9≤65536) :
  Calls Tryz.prog 21 #[.pointer (some ⟨g,0,none⟩),.int .i64 n] w (PutK g v0 (l ++ numW n) w):=by
 obtain ⟨v,t,hb,hv⟩:=id h
 have c1:w.cell? ⟨g,1,none⟩=_:=hb.cell 1
 have hlt:=hb.lt
 simp at c1
 have d1:decide ((n:Int) < 0)=false:=by simp
 have d2:decide ((4611686018427387903:Int) < (n:Int))=false:=by simp;omega
 have d3:¬ (n:Int) < 0:=by omega
 have hlen:=numW_len 8 n (by omega)
 have HV0:=Lib.hid hv0
 clear hv0
 have H:=Lib.hid h
 clear h
 clear hb hv
 go_enter Tryz.func21,Tryz.ntmps21
 go_wp2_with fail
 refine (number_b (.slice none 0 0) [] n w.heap.size _ (OwnB.none _ _) (by omega) (by simp) (Nat.le_refl _)).mono ?_
 rintro e w1 ⟨v1,rfl,h3,h4⟩
 rw [List.nil_append] at h3
 obtain ⟨A1,c1',rfl⟩:=h3.form
 have H2:=Lib.hid (H.out.below h4)
 have H3:=Lib.hid h3
 have H4:=Lib.hid h4
 clear h3 h4
 go_wp2_with fail
 refine (put_k v0 g l (numW n) A1 c1' _ H2.out ((H4.out.cell (p:=⟨g,0,none⟩) hlt).trans HV0.out) (H3.out.base_ (by omega)) (by omega)).mono ?_
 rintro e w2 ⟨rfl,h5,h6⟩
 have HR:=Lib.hid (show PutK g v0 (l ++ numW n) w (.returned (.tuple #[])) w2 from ⟨rfl,h5,(Keeps.of_below H4.out).trans h6⟩)
 clear h5 h6
 go_wp2
 exact bodyPost_end (v:=.tuple #[]) (by simp [results,Tryz.results21,go_sem]) rfl HR.out
set_option maxRecDepth 10000 in
theorem text_k (v0:Value) (g:Nat) (s:ByteArray) (l:List UInt8) (w:World) (h:OutB w g l) (hv0:w.cell? ⟨g,0,none⟩=some v0) (hs:s.size≤8192) (hr:l.length + s.size + 9≤65536) :
  Calls Tryz.prog 23 #[.pointer (some ⟨g,0,none⟩),.string s] w (PutK g v0 (l ++ textW s.data.toList) w):=by
 obtain ⟨i0,hi,hz⟩:=Option.map_eq_some_iff.1 byte_info
 simp only [Prod.mk.injEq] at hz
 obtain ⟨hz0,hz1,hz2⟩:=hz
 have hlt:=h.lt
 have hlen:=numW_len 8 s.size (by omega)
 have HV0:=Lib.hid hv0
 clear hv0
 have H:=Lib.hid h
 clear h
 go_enter Tryz.func23,Tryz.ntmps23
 go_wp2_with fail
 refine (number_b (.slice none 0 0) [] s.size w.heap.size _ (OwnB.none _ _) (by omega) (by simp) (Nat.le_refl _)).mono ?_
 rintro e w1 ⟨v1,rfl,h3,h4⟩
 rw [List.nil_append] at h3
 obtain ⟨A1,c1',rfl⟩:=h3.form
 have H2:=Lib.hid (H.out.below h4)
 have hsz:=h4.size
 have hlt2:=H2.out.lt
 have H3:=Lib.hid h3
 have H4:=Lib.hid h4
 clear h3 h4
 go_wp2_with (at_builtin;refine Lib.wpList_append_own_string _ rfl (.tmp 7) (.tmp 8) _ _ rfl w.heap.size 5 i0 Tryz.underlying79 Tryz.underlying9 hi hz0 hz1 hz2 (.slice A1 (numW s.size).length c1') (numW s.size).length _ rfl H3.out s rfl (by unfold maxLen;omega) (by omega) hsz ?_;intro v5 w5 hown5 hg5 _;obtain ⟨A5,c5,rfl⟩:=ownsRow_slice hown5;have Hown5:=Lib.hid hown5;have Hg5:=Lib.hid hg5;clear hown5 hg5)
 have hk5:Keeps (fun i=>w.heap.size≤i) w1 w5:=.grown Hg5.out fun i hi=>.inl (H3.out.lt _ hi).1
 have hb5:Below w.heap.size w w5:=H4.out.trans (hk5.below (fun i hi e=>by omega) hsz)
 have ht:(textW s.data.toList).length=(numW s.size).length + s.size:=by unfold textW;rw [List.length_append];rfl
 have h5:OwnB w5 w.heap.size (.slice A5 (textW s.data.toList).length c5) (textW s.data.toList):=by
  have:=Hown5.out
  rw [strCells_byt,← byt_app] at this
  unfold OwnB
  rw [ht]
  exact this
 rw [← ht]
 have Hb5:=Lib.hid hb5
 have H5:=Lib.hid h5
 clear hb5 h5
 clear hk5
 refine (put_k v0 g l (textW s.data.toList) A5 c5 _ (H.out.below Hb5.out) ((Hb5.out.cell (p:=⟨g,0,none⟩) hlt).trans HV0.out) (H5.out.base_ (by omega)) (by rw [ht];omega)).mono ?_
 rintro e w2 ⟨rfl,h5,h6⟩
 have HR:=Lib.hid (show PutK g v0 (l ++ textW s.data.toList) w (.returned (.tuple #[])) w2 from ⟨rfl,h5,(Keeps.of_below Hb5.out).trans h6⟩)
 clear h5 h6
 go_wp2
 exact bodyPost_end (v:=.tuple #[]) (by simp [results,Tryz.results23,go_sem]) rfl HR.out
end Go.Proofs.YtlingaebpfdhgaaGreatDoor.wireb
