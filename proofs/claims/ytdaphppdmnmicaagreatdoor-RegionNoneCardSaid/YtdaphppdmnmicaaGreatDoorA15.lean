/- A part of the proof of RegionNone: AppB, RefN, RefG, RefJ. -/
import Derived.Test.YtdaphppdmnmicaaGreatDoorA02
import Derived.Deep.AppendSrc
import Derived.Laws.IdiomStrings
import Derived.Test.YtdaphppdmnmicaaGreatDoorA01
namespace Go.Proofs.YtdaphppdmnmicaaGreatDoor.appb
open Go Go.RowKit Go.Lib base rowe rowc wireb
section
variable {w w':World} {k off n:Nat} {l1 l2:List UInt8}
theorem _root_.Go.Proofs.YtdaphppdmnmicaaGreatDoor.base.Keeps.lo {B:Nat} {X:Nat→Prop} (h:Below B w w') (hx:∀ i,B≤i→X i):Keeps X w w':=⟨h.os,h.tape,h.output,h.size,fun i _ hX=>h.block i (Nat.lt_of_not_le fun hle=>hX (hx i hle))⟩
def Lies (w:World) (k off:Nat) (l:List UInt8):Prop:=∀ j v,(byt l)[j]?=some v→w.cell? ⟨k,off + j,none⟩=some v
theorem Lies.blk {t:TypeId} {l:List UInt8} (h:Blk w k t (byt l).toArray):Lies w k 0 l:=fun j v hv=>by
 rw [Nat.zero_add,h.cell j]
 simpa using hv
theorem Lies.cut {l:List UInt8} (h:Lies w k off l) (a m:Nat):Lies w k (off + a) ((l.drop a).take m):=fun j v hv=>by
 rw [Nat.add_assoc]
 refine h (a + j) v ?_
 simp only [byt,List.getElem?_map,List.getElem?_take,List.getElem?_drop] at hv ⊢
 split at hv
 ·exact hv
 ·cases hv
theorem Lies.keeps {X:Nat→Prop} {l:List UInt8} (h:Lies w k off l) (hk:Keeps X w w') (hx:¬ X k):Lies w' k off l:=fun j v hv=>by
 have:=h j v hv
 exact (hk.cell (off + j) (cell_lt this) hx).trans this
theorem Lies.src {l:List UInt8} (h:Lies w k off l) (u:TypeId) (hu:Tryz.prog.underlying u=some (.slice 5)) (c:Nat):Src Tryz.prog 1 u (.slice (some ⟨k,off,none⟩) l.length c) l.length (byt l) w :=
 Src.ofSlice w hu ⟨k,off,none⟩ l.length c (byt l) (by simp [byt_len]) (fun j v hv=>by rw [add_plain'];exact h j v hv) (byt_one l)
theorem src_str (s:ByteArray):Src Tryz.prog 1 9 (.string s) s.data.toList.length (byt s.data.toList) w:=by
 have:=Src.ofString (P:=Tryz.prog) w (tx:=9) Tryz.underlying9 s
 exact this
theorem Lies.reads {l:List UInt8} (h:Lies w k off l):Reads w w.heap.size 1 (some ⟨k,off,none⟩) l.length (byt l) :=
 ⟨by simp [byt_len],fun hp=>⟨k,off,rfl,by
  have hp':0 < (byt l).length:=by rw [byt_len];exact hp
  exact cell_lt (h 0 _ (List.getElem?_eq_getElem hp')),fun j hj=>by rw [List.getElem?_eq_getElem hj];exact h j _ (List.getElem?_eq_getElem hj)⟩⟩
theorem Lies.text {l:List UInt8} (h:Lies w k off l) (c:Nat):(convert 163 9 (.slice (some ⟨k,off,none⟩) l.length c)).run Tryz.prog w=.ok (.string ⟨l.toArray⟩) w :=
 run_convert_bytes_back w 163 9 5 ⟨k,off,none⟩ c l Tryz.underlying163 Tryz.underlying5 Tryz.underlying9 fun j hj=>by
  rw [add_plain']
  refine h j _ ?_
  simp only [byt,List.getElem?_map,List.getElem?_eq_getElem hj,Option.map_some]
theorem run_append_new {u ty:TypeId} {xv:Value} (hn:l1.length=n) (h1:Lies w k off l1) (hs:Src Tryz.prog 1 u xv l2.length (byt l2) w) (hp:0 < l2.length) (hb:n + l2.length≤1000000) :
  ∃ v' w',(Builtin.append_ #[163,u] ty #[.slice (some ⟨k,off,none⟩) n n,xv]).run Tryz.prog w=.ok v' w'∧OwnB w' w.heap.size v' (l1 ++ l2)∧Below w.heap.size w w':=by
 obtain ⟨i0,hi,hz⟩:=Option.map_eq_some_iff.1 byte_info
 simp only [Prod.mk.injEq] at hz
 obtain ⟨hz0,hz1,hz2⟩:=hz
 have hold:(Builtin.firstCells i0.size n (.slice (some ⟨k,off,none⟩) n n)).run Tryz.prog w.drew=.ok (byt l1).toArray w.drew:=by
  rw [hz1]
  exact run_firstCells_some w.drew 1 n ⟨k,off,none⟩ n n (byt l1) (by simp [byt_len,hn]) (fun j v hv=>by rw [add_plain'];exact h1 j v hv)
 have hfit:Builtin.nextslicecap (n + l2.length) n * i0.bytes≤281474976710656:=by rw [hz2];exact growslice_fits (by omega) (by omega)
 have hr:=run_append_grow_src (P:=Tryz.prog) w 163 u ty 5 i0 (.int .u8 0) Tryz.underlying163 hi hz0 (some ⟨k,off,none⟩) n n (byt l1) hold xv l2.length (byt l2) (by rw [hz1];exact hs) (by omega) (by omega) hfit
 have hge:=grownCap_ge w (n + l2.length) n 5
 have hcm:=grownCap_le_maxLen w (n + l2.length) n 5 (by unfold maxLen;omega)
 refine ⟨_,_,hr,?_,(Below.refl _ _).drew.alloc (by simp) _⟩
 have hlen:(byt l1 ++ byt l2).length=n + l2.length:=by simp [byt_len,hn]
 refine ⟨by simp [byt_len],.inr ⟨w.heap.size,_,_,by rw [List.length_append,hn],Nat.le_refl _,heap_alloc_new w.drew _,by rw [List.length_append,hn];exact hge,hcm,?_,?_⟩⟩
 ·have hz1':(Value.int IntKind.u8 0).cells.size=1:=rfl
  simp only [Array.size_append,List.size_toArray,size_zeroCells,hz1',hlen]
  omega
 ·simp only [Array.toList_append]
  rw [Nat.mul_one,List.length_append,hn,← hlen,byt_app]
  exact List.take_left
theorem wp_append_new {o:Oper} {a:Act} {K:Act→World→Prop} {Q:Exit→Act→World→Prop} (s x:Operand) (u:TypeId) (ho:o.op=.call { callee:=.builtin .append,args:=#[s,x],argTypes:=#[163,u] }) {xv:Value}
  (hs:a.eval s=.slice (some ⟨k,off,none⟩) n n) (hx:a.eval x=xv) (hn:l1.length=n) (h1:Lies w k off l1) (hsr:Src Tryz.prog 1 u xv l2.length (byt l2) w) (hp:0 < l2.length) (hb:n + l2.length≤1000000)
  (h:∀ v' w',OwnB w' w.heap.size v' (l1 ++ l2)→Below w.heap.size w w'→K (a.put o.dst v') w'):o.wp Tryz.prog a w K Q:=by
 obtain ⟨v',w',hr,h2,h3⟩:=run_append_new (ty:=o.type) hn h1 hsr hp hb
 unfold Oper.wp execOp
 simp only [ho,resolve,invoke,builtin,Sem.run_bind,Sem.run_pure,Result.andThen_ok,List.map_toArray,List.map_cons,List.map_nil,hs,hx,hr]
 exact h v' w' h2 h3
theorem wp_append_cut {o:Oper} {a:Act} {K:Act→World→Prop} {Q:Exit→Act→World→Prop} (s x:Operand) (u:TypeId) (ho:o.op=.call { callee:=.builtin .append,args:=#[s,x],argTypes:=#[163,u] }) {xv:Value}
  (hs:a.eval s=.slice (some ⟨k,off,none⟩) n n) (hx:a.eval x=xv) (hn:l1.length=n) (h1:Lies w k off l1) (hsr:Src Tryz.prog 1 u xv l2.length (byt l2) w) (hb:n + l2.length≤1000000) (l3:List UInt8) (m:Nat) (h3:l1 ++ l2=l3) (hm:l3.length=m)
  (h:∀ k' off' c w',Lies w' k' off' l3→Below w.heap.size w w'→K (a.put o.dst (.slice (some ⟨k',off',none⟩) m c)) w'):o.wp Tryz.prog a w K Q:=by
 subst h3 hm
 by_cases hp:0 < l2.length
 ·refine wp_append_new s x u ho hs hx hn h1 hsr hp hb fun v' w' hv hbw=>?_
  rcases hv.2 with ⟨_,h0⟩|⟨g,cap,cur,rfl,_,hg,hle,_,hcs,htk⟩
  ·exfalso;rw [List.length_append] at h0;omega
  ·refine h g 0 cap w' (fun j v hj=>?_) hbw
   rw [Nat.zero_add]
   have:=hv.cells (g:=g) rfl j v hj
   rwa [add_plain',Nat.zero_add] at this
 ·have hl2:l2=[]:=List.eq_nil_of_length_eq_zero (by omega)
  subst hl2
  obtain ⟨i0,hi,hz⟩:=Option.map_eq_some_iff.1 byte_info
  simp only [Prod.mk.injEq] at hz
  obtain ⟨hz0,hz1,hz2⟩:=hz
  have hr:=run_append_room_src (P:=Tryz.prog) w 163 u o.type 5 i0 Tryz.underlying163 hi k off n n xv 0 [] (by rw [hz1];exact hsr) (by omega) (fun j hj=>by simp at hj) (fun j hj=>by simp at hj)
  have e0:∀ b o',w.setCells b o' []=w:=fun b o'=>rfl
  rw [e0] at hr
  unfold Oper.wp execOp
  simp only [ho,resolve,invoke,builtin,Sem.run_bind,Sem.run_pure,Result.andThen_ok,List.map_toArray,List.map_cons,List.map_nil,hs,hx,hr]
  have hh:=h k off n w (by rw [List.append_nil];exact h1) (Below.refl _ _)
  rw [List.append_nil,hn] at hh
  exact hh
theorem lies_of_own {v:Value} {B:Nat} (h:OwnB w B v l1) (hp:0 < l1.length):∃ g c,v=.slice (some ⟨g,0,none⟩) l1.length c∧B≤g∧g < w.heap.size∧Lies w g 0 l1:=by
 have hlt:=h.lt
 rcases h.2 with ⟨_,h0⟩|⟨g,cap,cur,rfl,hb,hg,hle,_,hcs,htk⟩
 ·omega
 ·refine ⟨g,cap,rfl,hb,(hlt g rfl).2,fun j v hj=>?_⟩
  rw [Nat.zero_add]
  have:=h.cells (g:=g) rfl j v hj
  rwa [add_plain',Nat.zero_add] at this
theorem wp_append_str {o:Oper} {a:Act} {K:Act→World→Prop} {Q:Exit→Act→World→Prop} (s x:Operand) (ho:o.op=.call { callee:=.builtin .append,args:=#[s,x],argTypes:=#[163,9] }) {v:Value} {base:Nat} (p:ByteArray)
  (hs:a.eval s=v) (hx:a.eval x=.string p) (hown:OwnB w base v l1) (hb:l1.length + p.size≤1000000) (hbase:base≤w.heap.size)
  (h:∀ v' w',OwnB w' base v' (l1 ++ p.data.toList)→Below base w w'→K (a.put o.dst v') w'):o.wp Tryz.prog a w K Q:=by
 obtain ⟨i0,hi,hz⟩:=Option.map_eq_some_iff.1 byte_info
 simp only [Prod.mk.injEq] at hz
 obtain ⟨hz0,hz1,hz2⟩:=hz
 obtain ⟨v',w',hr,h2,h3,_⟩:=run_append_own_string (P:=Tryz.prog) w base 163 9 o.type 5 i0 Tryz.underlying163 Tryz.underlying9 hi hz0 hz1 hz2 v l1.length (byt l1) hown p (by unfold maxLen;omega) (by omega) hbase
 unfold Oper.wp execOp
 simp only [ho,resolve,invoke,builtin,Sem.run_bind,Sem.run_pure,Result.andThen_ok,List.map_toArray,List.map_cons,List.map_nil,hs,hx,hr]
 refine h v' w' ?_ ((Keeps.grown (X:=fun i=>base≤i) h3 fun i hi=>.inl (hown.lt i hi).1).below (fun i hi e=>by omega) hbase)
 rw [strCells_byt,← byt_app] at h2
 unfold OwnB
 rw [List.length_append]
 exact h2
theorem wp_append_row {o:Oper} {a:Act} {K:Act→World→Prop} {Q:Exit→Act→World→Prop} (s x:Operand) (ho:o.op=.call { callee:=.builtin .append,args:=#[s,x],argTypes:=#[163,163] }) {v:Value} {base c:Nat} {A:Option Addr}
  (hs:a.eval s=v) (hx:a.eval x=.slice A l2.length c) (hown:OwnB w base v l1) (hr:Reads w w.heap.size 1 A l2.length (byt l2)) (hb:l1.length + l2.length≤1000000) (hbase:base≤w.heap.size)
  (h:∀ v' w',OwnB w' base v' (l1 ++ l2)→Below base w w'→K (a.put o.dst v') w'):o.wp Tryz.prog a w K Q:=by
 obtain ⟨i0,hi,hz⟩:=Option.map_eq_some_iff.1 byte_info
 simp only [Prod.mk.injEq] at hz
 obtain ⟨hz0,hz1,hz2⟩:=hz
 refine wp_append_any w s x 163 ho base 5 i0 _ 1 1 Tryz.underlying163 hi hz0 hz1 hz2 rfl (by decide) v l1.length (byt l1) hs hown w.heap.size A l2.length c (byt l2) hx hr (byt_one l2) (by unfold maxLen;omega) (by omega) hbase fun v' w' h2 h3 _=>?_
 refine h v' w' ?_ ((Keeps.grown (X:=fun i=>base≤i) h3 fun i hi=>.inl (hown.lt i hi).1).below (fun i hi e=>by omega) hbase)
 unfold OwnB
 rw [byt_app,List.length_append]
 exact h2
end
end Go.Proofs.YtdaphppdmnmicaaGreatDoor.appb
namespace Go.Proofs.YtdaphppdmnmicaaGreatDoor.regn
open Go Go.RowKit Go.Lib base rowe rowc wireb appb
def StrR (k:Nat) (w:World) (e:Ending) (w':World):Prop:=∃ s:ByteArray,e=.returned (.string s)∧s.size=k∧Below w.heap.size w w'
theorem one_text (n:Nat) (hn:n < 128) (w:World):(convert 163 9 (.slice (some ⟨w.heap.size,0,none⟩) 1 1)).run Tryz.prog (w.alloc (.cells #[.int .u8 n] 5))=.ok (.string ⟨#[UInt8.ofNat n]⟩) (w.alloc (.cells #[.int .u8 n] 5)):=by
 have h:Lies (w.alloc (.cells #[.int .u8 n] 5)) w.heap.size 0 [UInt8.ofNat n]:=Lies.blk (t:=5) (by
  have e:(byt [UInt8.ofNat n]).toArray=#[.int .u8 n]:=by
   simp [byt]
   omega
  rw [e]
  exact Blk.new w _ _)
 exact h.text 1
set_option maxRecDepth 10000 in
theorem number_r (n:Nat) (hn:n < 128) (w:World):Calls Tryz.prog 329 #[.int .i64 n] w (StrR 1 w):=by
 have d1:decide ((128:Int)≤(n:Int))=false:=decide_eq_false (by omega)
 have hm:(n:Int) % 256=(n:Int):=by omega
 have hcv:=one_text n hn w
 go_enter Tryz.func329,Tryz.ntmps329
 go_wp2_with fail
 go_loop [0,3] (fun a s=>a=.int .i64 n∧s=.string ⟨#[]⟩) (fun _ _=>0)
 case atStart=>exact ⟨rfl,rfl⟩
 case round =>
  obtain ⟨rfl,rfl⟩:=hrel
  go_wp2_with fail
  go_ret
  exact ⟨_,rfl,rfl,below_new _ _⟩
def ItemR (w:World) (e:Ending) (w':World):Prop:=∃ s:ByteArray,e=.returned (.tuple #[.string s,.bool true])∧s.size=1∧Below w.heap.size w w'
set_option maxRecDepth 10000 in
theorem item_num (n:Nat) (hn:n < 128) (w:World):Calls Tryz.prog 298 #[.agg #[.int .i64 0,.int .i64 n,.string ⟨#[]⟩,.bool false,.slice none 0 0]] w (ItemR w):=by
 have d1:decide ((n:Int) < 0)=false:=decide_eq_false (by omega)
 have d2:decide ((4611686018427387903:Int) < (n:Int))=false:=decide_eq_false (by omega)
 have hb:=below_new w (.cells #[.int .i64 0,.int .i64 n,.string ⟨#[]⟩,.bool false,.slice none 0 0] 408)
 have HB:=Lib.hid hb
 clear hb
 go_enter Tryz.func298,Tryz.ntmps298
 go_wp2_with fail
 refine (number_r n hn _).mono ?_
 rintro e w1 ⟨s,rfl,hs,hb1⟩
 have HR:=Lib.hid (And.intro hs (HB.out.trans (hb1.mono HB.out.size)))
 clear hs hb1
 go_wp2_with fail
 go_ret2
 exact ⟨s,rfl,HR.out.1,HR.out.2⟩
set_option maxRecDepth 10000 in
theorem item_text (w:World):Calls Tryz.prog 298 #[.agg #[.int .i64 1,.int .i64 0,.string ⟨#[]⟩,.bool false,.slice none 0 0]] w (ItemR w):=by
 have hb:=below_new w (.cells #[.int .i64 1,.int .i64 0,.string ⟨#[]⟩,.bool false,.slice none 0 0] 408)
 have hk:=Blk.new w 408 #[.int .i64 1,.int .i64 0,.string ⟨#[]⟩,.bool false,.slice none 0 0]
 have HB:=Lib.hid hb
 have HK:=Lib.hid hk
 clear hb hk
 go_enter Tryz.func298,Tryz.ntmps298
 go_wp2_with fail
 have hlt:=HK.out.lt
 generalize w.alloc (.cells #[.int .i64 1,.int .i64 0,.string ⟨#[]⟩,.bool false,.slice none 0 0] 408)=w0 at *
 refine wp_region_mono (nobody) (by kernel_rfl) ?_
 iterate 5
  first|refine qT 0 (v:=?_) ?_ ?_|refine qT 1 (v:=?_) ?_ ?_|refine qT 2 (v:=?_) ?_ ?_|refine qT 4 (v:=?_) ?_ ?_|refine qT 5 (v:=?_) ?_ ?_
  rotate_left
  ·(intro W hSw;((first|(have hk:=Blk.keeps HK.out.drew hSw (fun h=>h);have q2:W.cell? ⟨w.heap.size,2,none⟩=some (.string ⟨#[]⟩):=hk.cell 2;have l1:=hk.lt)|(have q2:W.cell? ⟨w.heap.size,2,none⟩=some (.string ⟨#[]⟩):=(Blk.keeps HK1.out hSw (fun h=>h)).cell 2;have l1:=(Blk.keeps HK1.out hSw (fun h=>h)).lt)|skip));go_simp <;> rfl)
  try simp only [qPA]
 refine wpMono_one' 3 (by kernel_rfl) rfl (by rfl) (fun K hK=>?_)
 go_simp
 refine (number_r 0 (by omega) _).mono ?_
 rintro e w1 ⟨s,rfl,hs,hb1⟩
 have HK1:=Lib.hid (Blk.below HK.out.drew hb1 hlt)
 have HR:=Lib.hid (And.intro hs ((HB.out.drew).trans (hb1.mono (by have:=HB.out.size;simpa using this))))
 have HB1:=Lib.hid hb1
 have hn:¬ 9223372036854775807 < s.size:=by omega
 clear hb1
 refine hK.out _ _ ?_ ?_
 ·exact .of_below HB1.out
 clear hK K
 try simp only [qPA]
 iterate 3
  first|refine qT 6 (v:=?_) ?_ ?_|refine qT 7 (v:=?_) ?_ ?_|refine qT 8 (v:=?_) ?_ ?_
  rotate_left
  ·(intro W hSw;((first|(have hk:=Blk.keeps HK.out.drew hSw (fun h=>h);have q2:W.cell? ⟨w.heap.size,2,none⟩=some (.string ⟨#[]⟩):=hk.cell 2;have l1:=hk.lt)|(have q2:W.cell? ⟨w.heap.size,2,none⟩=some (.string ⟨#[]⟩):=(Blk.keeps HK1.out hSw (fun h=>h)).cell 2;have l1:=(Blk.keeps HK1.out hSw (fun h=>h)).lt)|skip));go_simp <;> rfl)
  try simp only [qPA]
 refine wpMono_done (by kernel_rfl) ?_ _
 go_wp2_with fail
 go_ret2
 exact ⟨_,rfl,by rw [ByteArray.size_append];exact HR.out.1,HR.out.2⟩
def FourR (w:World) (e:Ending) (w':World):Prop:=∃ s:ByteArray,e=.returned (.tuple #[.string s,.int .i64 0,.int .i64 0])∧s.size=4∧Below w.heap.size w w'
def its (a b c:Nat):Array Value:=#[.int .i64 0,.int .i64 a,.string ⟨#[]⟩,.bool false,.slice none 0 0,.int .i64 0,.int .i64 b,.string ⟨#[]⟩,.bool false,.slice none 0 0,.int .i64 0,.int .i64 c,.string ⟨#[]⟩,.bool false,.slice none 0 0,.int .i64 1,.int .i64 0,.string ⟨#[]⟩,.bool false,.slice none 0 0]
def itK (a b c:Nat):Nat→List Value
 | 0=>[.int .i64 0,.int .i64 a,.string ⟨#[]⟩,.bool false,.slice none 0 0]
 | 1=>[.int .i64 0,.int .i64 b,.string ⟨#[]⟩,.bool false,.slice none 0 0]
 | 2=>[.int .i64 0,.int .i64 c,.string ⟨#[]⟩,.bool false,.slice none 0 0]
 | _=>[.int .i64 1,.int .i64 0,.string ⟨#[]⟩,.bool false,.slice none 0 0]
theorem itK_len {a b c k:Nat}:(itK a b c k).length=5:=by unfold itK;split <;> rfl
theorem itK_at {a b c k j:Nat} {v:Value} (hk:k < 4) (hv:(itK a b c k)[j]?=some v):(its a b c)[k * 5 + j]?=some v:=by
 have hj:j < 5:=by have:=(List.getElem?_eq_some_iff.1 hv).1;rwa [itK_len] at this
 match k,hk,j,hj,hv with
 | 0,_,0,_,hv|0,_,1,_,hv|0,_,2,_,hv|0,_,3,_,hv|0,_,4,_,hv=>exact hv
 | 1,_,0,_,hv|1,_,1,_,hv|1,_,2,_,hv|1,_,3,_,hv|1,_,4,_,hv=>exact hv
 | 2,_,0,_,hv|2,_,1,_,hv|2,_,2,_,hv|2,_,3,_,hv|2,_,4,_,hv=>exact hv
 | 3,_,0,_,hv|3,_,1,_,hv|3,_,2,_,hv|3,_,3,_,hv|3,_,4,_,hv=>exact hv
theorem itK_call {a b c k:Nat} (ha:a < 128) (hb:b < 128) (hc:c < 128) (hk:k < 4) (w:World):Calls Tryz.prog 298 #[.agg (itK a b c k).toArray] w (ItemR w):=by
 match k,hk with
 | 0,_=>exact item_num a ha w
 | 1,_=>exact item_num b hb w
 | 2,_=>exact item_num c hc w
 | 3,_=>exact item_text w
set_option maxRecDepth 20000 in
set_option maxHeartbeats 2000000 in
theorem written_r (g a b c:Nat) (ha:a < 128) (hb:b < 128) (hc:c < 128) (w:World) (h:Blk w g 408 (its a b c)):Calls Tryz.prog 257 #[.slice (some ⟨g,0,none⟩) 4 4] w (FourR w):=by
 have H:=Lib.hid h
 clear h
 go_enter Tryz.func257,Tryz.ntmps257
 go_wp2_with fail
 have HO:=Lib.hid (show OwnB (w.alloc (.cells #[] 5)) w.heap.size (.slice (some ⟨w.heap.size,0,none⟩) 0 0) [] from ownsRow_new0 w 5 1 #[])
 have HB0:=Lib.hid (below_new w (.cells #[] 5))
 go_loopw [5,6,7,8] (fun o i _ _ wr=>∃ (k:Nat) (l:List UInt8),i=.int .i64 k∧k≤4∧l.length=k∧OwnB wr w.heap.size o l∧Below w.heap.size w wr) (fun _ i _ _ _=>4 - (intOf i).toNat)
 case atStart=>exact ⟨0,[],rfl,by omega,rfl,HO.out,HB0.out⟩
 case round =>
  clear HO HB0
  obtain ⟨k,l,rfl,hk,hl,hown,hbw⟩:=hrel
  have hsz:=hbw.size
  have hg:=H.out.lt
  have HK:=Lib.hid (Blk.below H.out hbw hg)
  have HB:=Lib.hid hbw
  obtain ⟨A0,c0,rfl⟩:=hown.form
  rw [hl] at hown
  have HO:=Lib.hid hown
  rw [hl]
  clear hown hbw
  by_cases hk4:k < 4
  ·have dk:decide ((k:Int) < 4)=true:=decide_eq_true (by omega)
   have HC:=Lib.hid (fun w=>itK_call ha hb hc hk4 w)
   have HV:=Lib.hid (fun j v hv=>(HK.out.cell (k * 5 + j)).trans (itK_at (a:=a) (b:=b) (c:=c) (j:=j) (v:=v) hk4 hv))
   have hl5:(itK a b c k).length=5:=itK_len
   obtain ⟨cs,hcs⟩:∃ cs,itK a b c k=cs:=⟨_,rfl⟩
   rw [hcs] at HC HV hl5
   have d2:decide ((65536:Int) - (k:Int) < 1)=false:=decide_eq_false (by omega)
   clear hcs
   go_wp2_with (refine wpList_load_at rfl 408 (.tmp 19) rfl g (k * 5) cs rfl Tryz.underlying408 rfl (by rw [hl5];kernel_rfl) HV.out ?_)
   refine (HC.out _).mono ?_
   rintro e w1 ⟨s,rfl,hs,hb1⟩
   have HO1:=Lib.hid (OwnB.below HO.out hb1)
   have HB1:=Lib.hid (HB.out.trans (hb1.mono hsz))
   have hs1:=Nat.le_trans hsz hb1.size
   clear hb1
   go_wp2_with (at_builtin;refine wpList_plain rfl fun K hK=>wp_append_str (l1:=l) (.tmp 36) (.tmp 37) rfl s rfl rfl HO1.out (by omega) hs1 (fun v4 w4 hv4 hb4=>hK _ _ ?_);have HO4:=Lib.hid hv4;have HB4:=Lib.hid (HB1.out.trans hb4);clear hv4 hb4 hK K)
   go_roundw
   case rel=>exact ⟨k + 1,l ++ s.data.toList,by go_num,by omega,by rw [List.length_append,hl,show s.data.toList.length=1 from hs],HO4.out,HB4.out⟩
   case measure=>simp [intOf];omega
  ·obtain rfl:k=4:=by omega
   obtain ⟨g1,c1,hv,_,hg1,hli⟩:=lies_of_own HO.out (by omega)
   obtain rfl:A0=some ⟨g1,0,none⟩:=by injection hv
   have hcv:=hli.text c0
   rw [hl] at hcv
   have hl4:(⟨l.toArray⟩:ByteArray).size=4:=hl
   clear hli hv
   go_wp2_with fail
   exact bodyPost_ret (v:=.tuple #[.string ⟨l.toArray⟩,.int .i64 0,.int .i64 0]) (by simp [results,Tryz.results257,go_sem]) rfl ⟨_,rfl,hl4,HB.out⟩
end Go.Proofs.YtdaphppdmnmicaaGreatDoor.regn
namespace Go.Proofs.YtdaphppdmnmicaaGreatDoor.regn
open Go Go.RowKit Go.Lib base rowe rowc wireb appb
def FourB (w:World) (e:Ending) (w':World):Prop:=∃ l:List UInt8,l.length=4∧e=.returned (.slice (some ⟨w.heap.size,0,none⟩) 4 4)∧Blk w' w.heap.size 5 (byt l).toArray∧Below w.heap.size w w'
theorem four_r (s:Nat) (w:World) (hs:s < 4294967296):Calls Tryz.prog 327 #[.int .u32 s] w (FourB w):=by
 have hq:#[.int .u8 (s % 256:Nat),.int .u8 (s / 256 % 256:Nat),.int .u8 (s / 65536 % 256:Nat),.int .u8 (s / 16777216:Nat)]=(byt [UInt8.ofNat s,UInt8.ofNat (s / 256),UInt8.ofNat (s / 65536),UInt8.ofNat (s / 16777216)]).toArray:=by
  simp [byt]
  omega
 have HQ:=Lib.hid hq
 clear hq
 go_enter Tryz.func327,Tryz.ntmps327
 go_wp2
 go_ret
 refine ⟨_,?_,rfl,by rw [← HQ.out];exact Blk.new _ _ _,below_new _ _⟩
 rfl
theorem byt_nat (l:List UInt8):(l.map UInt8.toNat).map (fun (c:Nat)=>Value.int .u8 (c:Int))=byt l:=by simp [byt]
theorem folds_lt:∀ (cs:List Nat) (s:Nat),s < 4294967296→(∀ c ∈ cs,c < 256)→cs.foldl num.stepN s < 4294967296
 | [],_,h,_=>h
 | c :: cs,s,h,hc=>folds_lt cs _ (num.stepN_lt h (hc c (by simp))) (fun x hx=>hc x (by simp [hx]))
theorem sum_r {A:Option Addr} {n cap:Nat} {l:List UInt8} (w:World) (hl:l.length=n) (hn:n≤2000) (hr:Reads w w.heap.size 1 A n (byt l)):Calls Tryz.prog 328 #[.slice A n cap] w fun e w'=>∃ s:Nat,s < 4294967296∧e=.returned (.int .u32 s)∧Below w.heap.size w w':=by
 have h:=refsum.sum_any A n cap (l.map UInt8.toNat) w (by rw [List.length_map];exact hl) hn (by rw [byt_nat];exact hr) (fun c hc=>by
  obtain ⟨b,_,rfl⟩:=List.mem_map.1 hc
  exact b.toNat_lt)
 refine h.mono ?_
 rintro e w1 ⟨rfl,hb⟩
 exact ⟨_,folds_lt _ _ (by omega) (fun c hc=>by
  obtain ⟨b,_,rfl⟩:=List.mem_map.1 hc
  exact b.toNat_lt),rfl,hb⟩
theorem wrap_u8 (z:Int):∃ b:UInt8,IntKind.u8.wrap z=(b.toNat:Int):=by
 refine ⟨UInt8.ofNat (IntKind.u8.wrap z).toNat,?_⟩
 have h:0≤IntKind.u8.wrap z∧IntKind.u8.wrap z < 256:=by
  rw [IntKind.wrap_u8]
  omega
 rw [UInt8.toNat_ofNat']
 omega
def RawB (n:Nat) (w:World) (e:Ending) (w':World):Prop:=∃ v l,e=.returned v∧l.length=n∧OwnB w' w.heap.size v l∧Below w.heap.size w w'
set_option maxRecDepth 20000 in
set_option maxHeartbeats 2000000 in
theorem raw_r (p : ByteArray) (hp : p.size = 4) (w : World) : Calls Tryz.prog 297 #[.string p] w (RawB 14 w) := by
  have hh : (byt [0, 4]).toArray = #[.int .u8 0, .int .u8 4] := rfl
  have hpl : p.data.toList.length = 4 := hp
  obtain ⟨hd, hhd⟩ : ∃ g, w.heap.size = g := ⟨_, rfl⟩
  have HD := Lib.hid (Lies.blk (show Blk (w.alloc (.cells #[.int .u8 0, .int .u8 4] 5)) hd 5 (byt [0, 4]).toArray from by rw [hh, ← hhd]; exact Blk.new w _ _))
  have HB0 := Lib.hid (below_new w (.cells #[.int .u8 0, .int .u8 4] 5))
  have hs0 : (w.alloc (.cells #[.int .u8 0, .int .u8 4] 5)).heap.size = hd + 1 := by simp [hhd]
  have HO := Lib.hid (show OwnB ((w.alloc (.cells #[.int .u8 0, .int .u8 4] 5)).alloc (.cells #[] 5)) (hd + 1) (.slice (some ⟨hd + 1, 0, none⟩) 0 0) [] from by rw [← hs0]; exact ownsRow_new0 _ 5 1 #[])
  have HD1 := Lib.hid (show Lies ((w.alloc (.cells #[.int .u8 0, .int .u8 4] 5)).alloc (.cells #[] 5)) hd 0 [0, 4] from HD.out.keeps (X := nobody) (.alloc _) (fun h => h))
  have HB1 := Lib.hid (show Below w.heap.size w ((w.alloc (.cells #[.int .u8 0, .int .u8 4] 5)).alloc (.cells #[] 5)) from below_alloc HB0.out _)
  have hs1 : hd + 1 ≤ ((w.alloc (.cells #[.int .u8 0, .int .u8 4] 5)).alloc (.cells #[] 5)).heap.size := by simp [hhd]
  clear hh HD HB0 hs0
  go_enter Tryz.func297, Tryz.ntmps297
  go_wp2_with (at_builtin; first | (refine wpList_plain rfl fun K hK => wp_append_row (l1 := []) (l2 := [0, 4]) (c := 2) (A := some ⟨hd, 0, none⟩) (.tmp 15) (.tmp 16) rfl rfl (by rw [← hhd]; rfl) HO.out HD1.out.reads (by simp) hs1 (fun v2 w2 hv2 hb2 => hK _ _ ?_)
                                    have HO2 := Lib.hid hv2
                                    have HD2 := Lib.hid (HD1.out.keeps (Keeps.lo (X := fun i => hd + 1 ≤ i) hb2 (fun i h => h)) (by omega))
                                    have HB2 := Lib.hid (HB1.out.trans (hb2.mono (by omega)))
                                    have hs2 := Nat.le_trans hs1 hb2.size
                                    clear hv2 hb2 hK K) | fail)
  refine (sum_r _ (l := [0, 4]) rfl (by decide) HD2.out.reads).mono ?_
  rintro e w3 ⟨s3, hs3, rfl, hb3⟩
  have HO3 := Lib.hid (OwnB.below HO2.out hb3)
  have HD3 := Lib.hid (HD2.out.keeps (Keeps.of_below (X := nobody) hb3) (fun h => h))
  have HB3 := Lib.hid (HB2.out.trans (hb3.mono (by omega)))
  have hz3 := Nat.le_trans hs2 hb3.size
  clear hb3
  go_wp2_with fail
  refine (four_r s3 _ hs3).mono ?_
  rintro e w4 ⟨l4, hl4, rfl, hk4, hb4⟩
  have HO4 := Lib.hid (OwnB.below HO3.out hb4)
  have HK4 := Lib.hid (Lies.blk hk4)
  have HD4 := Lib.hid (HD3.out.keeps (Keeps.of_below (X := nobody) hb4) (fun h => h))
  have HB4 := Lib.hid (HB3.out.trans (hb4.mono (by omega)))
  have hz4 := Nat.le_trans hz3 hb4.size
  clear hb4 hk4 HO HD1 HB1 HO2 HD2 HB2 HO3 HD3 HB3
  go_wp2_with (at_builtin; first
    | (refine wpList_plain rfl fun K hK => wp_append_row (l1 := [0, 4]) (l2 := l4) (c := 4) (A := some ⟨w3.heap.size, 0, none⟩) (.tmp 18) (.tmp 21) rfl rfl (by rw [hl4]; rfl) HO4.out HK4.out.reads (by simp [hl4]) hz4 (fun v5 w5 hv5 hb5 => hK _ _ ?_)
       have HO5 := Lib.hid hv5
       have HD5 := Lib.hid (HD4.out.keeps (Keeps.lo (X := fun i => hd + 1 ≤ i) hb5 (fun i h => h)) (by omega))
       have HB5 := Lib.hid (HB4.out.trans (hb5.mono (by omega)))
       have hs5 := Nat.le_trans hz4 hb5.size
       clear hv5 hb5 hK K)
    | (refine wpList_plain rfl fun K hK => wp_append_str (l1 := [0, 4] ++ l4) (.tmp 23) (.tmp 24) rfl p rfl rfl HO5.out (by simp [hl4, hp]) hs5 (fun v6 w6 hv6 hb6 => hK _ _ ?_)
       have HO6 := Lib.hid (OwnB.below hv6 (below_new w6 (.cells #[] 5)))
       have HD6 := Lib.hid (show Lies (w6.alloc (.cells #[] 5)) hd 0 [0, 4] from (HD5.out.keeps (Keeps.lo (X := fun i => hd + 1 ≤ i) hb6 (fun i h => h)) (by omega)).keeps (X := nobody) (.alloc _) (fun h => h))
       have HN6 := Lib.hid (show OwnB (w6.alloc (.cells #[] 5)) w6.heap.size (.slice (some ⟨w6.heap.size, 0, none⟩) 0 0) [] from ownsRow_new0 _ 5 1 #[])
       have HB6 := Lib.hid (HB5.out.trans (hb6.mono (by omega)))
       have HV6 := Lib.hid hv6
       have hs6 := hb6.size
       have hn6 : w6.heap.size ≤ (w6.alloc (.cells #[] 5)).heap.size := by simp
       clear hv6 hb6 hK K)
    | (refine wpList_plain rfl fun K hK => wp_append_row (l1 := []) (l2 := [0, 4]) (c := 2) (A := some ⟨hd, 0, none⟩) (.tmp 26) (.tmp 27) rfl rfl rfl HN6.out HD6.out.reads (by simp) hn6 (fun v7 w7 hv7 hb7 => hK _ _ ?_)
       have HN7 := Lib.hid hv7
       have HQ7 := Lib.hid ((below_new w6 (.cells #[] 5)).trans hb7)
       have HB7 := Lib.hid (HB6.out.trans (((below_new w6 _).trans hb7).mono (by omega)))
       have hs7 := Nat.le_trans hn6 hb7.size
       clear hv7 hb7 hK K)
    | (refine wpList_plain rfl fun K hK => wp_append_str (l1 := [] ++ [0, 4]) (.tmp 28) (.tmp 29) rfl p rfl rfl HN7.out (by simp [hp]) hs7 (fun v8 w8 hv8 hb8 => hK _ _ ?_)
       obtain ⟨l8, hl8⟩ : ∃ l8, ([] ++ [0, 4] : List UInt8) ++ p.data.toList = l8 := ⟨_, rfl⟩
       have hl86 : l8.length = 6 := by rw [← hl8]; simp only [List.length_append, hpl]; rfl
       rw [hl8] at hv8
       obtain ⟨A8, c8, rfl⟩ := hv8.form
       rw [hl86] at hv8 ⊢
       have HN8 := Lib.hid (Reads.of_own (show w8.ownsRow w6.heap.size 5 1 (.slice A8 6 c8) 6 (byt l8) from by have h := hv8; unfold OwnB at h; rw [hl86] at h; exact h))
       have HB8 := Lib.hid (HB7.out.trans (hb8.mono (by omega)))
       have HO8 := Lib.hid (OwnB.below HV6.out (HQ7.out.trans hb8))
       have hs8 := hb8.size
       clear hv8 hb8 hK K hl8)
    | fail)
  clear HO4 HK4 HD4 HB4 HO5 HD5 HB5 HO6 HD6 HN6 HB6 HV6 HN7 HQ7 HB7
  refine (sum_r _ hl86 (by omega) HN8.out).mono ?_
  rintro e w9 ⟨s9, hs9, rfl, hb9⟩
  have HO9 := Lib.hid (OwnB.below HO8.out hb9)
  have hz8 : hd + 1 ≤ w8.heap.size := by omega
  have HB9 := Lib.hid (HB8.out.trans (hb9.mono (by omega)))
  have hz9 := Nat.le_trans hz8 hb9.size
  clear hb9 HO8 HB8 HN8
  go_wp2_with fail
  refine (four_r s9 _ hs9).mono ?_
  rintro e w10 ⟨l10, hl10, rfl, hk10, hb10⟩
  have HO10 := Lib.hid (OwnB.below HO9.out hb10)
  have HK10 := Lib.hid (Lies.blk hk10)
  have HB10 := Lib.hid (HB9.out.trans (hb10.mono (by omega)))
  have hz10 := Nat.le_trans hz9 hb10.size
  clear hb10 hk10 HO9 HB9
  go_wp2_with (at_builtin; first
    | (refine wpList_plain rfl fun K hK => wp_append_row (l1 := [0, 4] ++ l4 ++ p.data.toList) (l2 := l10) (c := 4) (A := some ⟨w9.heap.size, 0, none⟩) (.tmp 31) (.tmp 34) rfl rfl (by rw [hl10]; rfl) HO10.out HK10.out.reads (by simp [hl10, hl4, hp]) hz10 (fun v11 w11 hv11 hb11 => hK _ _ ?_)
       have HR := Lib.hid (show RawB 14 w (.returned v11) w11 from ⟨v11, _, rfl, by simp only [List.length_append, hl10, hl4, hpl]; rfl, hv11.base_ (by omega), HB10.out.trans (hb11.mono (by omega))⟩)
       clear hv11 hb11 hK K)
    | fail)
  go_ret
  exact HR.out
set_option maxRecDepth 20000 in
set_option maxHeartbeats 2000000 in
theorem seal9_r (p:ByteArray) (hp:p.size=4) (w:World):Calls Tryz.prog 258 #[.string p] w (StrR 29 w):=by
 go_enter Tryz.func258,Tryz.ntmps258
 go_wp2_with fail
 refine (raw_r p hp w).mono ?_
 rintro e w1 ⟨v,lr,rfl,hlr,hown,hb1⟩
 obtain ⟨g,c,rfl,_,hg,hli⟩:=lies_of_own hown (by omega)
 rw [hlr]
 have HL:=Lib.hid hli
 have HB:=Lib.hid hb1
 clear hown hli hb1
 go_wp2_with fail
 obtain ⟨B,hB⟩:∃ B,w1.heap.size=B:=⟨_,rfl⟩
 have HO:=Lib.hid (show OwnB (w1.alloc (.cells #[.int .u8 1] 5)) B (.slice (some ⟨B,0,none⟩) 1 1) [1] from by rw [← hB];exact ownsRow_new0 w1 5 1 #[.int .u8 1])
 have HN:=Lib.hid (show Below B w1 (w1.alloc (.cells #[.int .u8 1] 5)) from by rw [← hB];exact below_new _ _)
 rw [hB]
 go_loopw [4,5] (fun o i wr=>∃ (k:Nat) (l:List UInt8),i=.int .i64 k∧k≤14∧l.length=1 + 2 * k∧OwnB wr B o l∧Below B w1 wr) (fun _ i _=>14 - (intOf i).toNat)
 case atStart=>exact ⟨0,[1],rfl,by omega,rfl,HO.out,HN.out⟩
 case round =>
  clear HO HN
  obtain ⟨k,l,rfl,hk,hl,hown,hbw⟩:=hrel
  have hsz:=hbw.size
  by_cases hk4:k < 14
  ·have dk:decide ((k:Int) < 14)=true:=decide_eq_true (by omega)
   have hkl:k < lr.length:=by omega
   have HW:=Lib.hid (fun (W:World) (h:Keeps (fun i=>B≤i) wr.drew W)=>(show W.cell? ⟨g,k,none⟩=some (.int .u8 (lr[k].toNat:Nat))∧g < W.heap.size from by
    have h1:Keeps (fun i=>B≤i) w1 wr:=Keeps.lo hbw (fun i h=>h)
    have h2:=(HL.out.keeps h1 (by omega)) k (.int .u8 (lr[k].toNat:Nat)) (by simp [byt,List.getElem?_eq_getElem hkl])
    rw [Nat.zero_add] at h2
    have h3:wr.drew.cell? ⟨g,k,none⟩=some (.int .u8 (lr[k].toNat:Nat)):=h2
    exact ⟨(h.cell k (cell_lt h3) (show ¬ B≤g by omega)).trans h3,Nat.lt_of_lt_of_le (cell_lt h3) h.size⟩))
   have hcb:=lr[k].toNat_lt
   generalize lr[k].toNat=cn at *
   have hq1:(cn:Int) / 16 < 16:=by omega
   have dk2:(k:Int) < 14:=by omega
   obtain ⟨b1,hb1⟩:=wrap_u8 (64 + IntKind.u8.wrap ((cn:Int) / 16))
   obtain ⟨b2,hb2⟩:=wrap_u8 (64 + ((cn:Int).tmod 16))
   obtain ⟨A0,c0,rfl⟩:=hown.form
   rw [hl] at hown ⊢
   have HO:=Lib.hid hown
   have HBW:=Lib.hid hbw
   clear hown hbw
   go_wp2_with fail
   refine wp_region_mono (fun i=>B≤i) (by kernel_rfl) ?_
   have HO:=Lib.hid (show OwnB wr.drew B (.slice A0 (1 + 2 * k) c0) l from HO.out)
   have HBW:=Lib.hid (show Below B w1 wr.drew from HBW.out.drew)
   have hsc:B≤wr.drew.heap.size:=by rw [← hB];exact hsz
   generalize wr.drew=Wc at *
   iterate 13
    first|refine qT 0 (v:=?_) ?_ ?_|refine qT 1 (v:=?_) ?_ ?_|refine qT 2 (v:=?_) ?_ ?_|refine qT 3 (v:=?_) ?_ ?_|refine qT 4 (v:=?_) ?_ ?_|refine qT 5 (v:=?_) ?_ ?_|refine qT 6 (v:=?_) ?_ ?_|refine qT 7 (v:=?_) ?_ ?_|refine qT 8 (v:=?_) ?_ ?_|refine qT 9 (v:=?_) ?_ ?_|refine qT 10 (v:=?_) ?_ ?_|refine qT 11 (v:=?_) ?_ ?_|refine qT 12 (v:=?_) ?_ ?_
    rotate_left
    ·(intro W hSw;((first|(have hx:=HW.out W hSw;obtain ⟨hc,hgl⟩:=hx)|skip));go_simp <;> rfl)
    try simp only [qPA]
   refine wpMono_one' 13 (by kernel_rfl) rfl (by rfl) (fun K hK=>?_)
   go_simp
   have hq:=below_new Wc (.cells (byt [b1,b2]).toArray 5)
   have HA:=Lib.hid (Lies.blk (Blk.new Wc 5 (byt [b1,b2]).toArray))
   have HO:=Lib.hid (OwnB.below HO.out hq)
   have HBW:=Lib.hid (HBW.out.trans (hq.mono hsc))
   have HK:=Lib.hid (Keeps.of_below (X:=fun i=>B≤i) hq)
   have hsn:B≤(Wc.alloc (.cells (byt [b1,b2]).toArray 5)).heap.size:=Nat.le_trans hsc hq.size
   clear hq
   refine hK.out _ _ ?_ ?_
   ·exact HK.out
   clear hK K
   try simp only [qPA]
   refine wpMono_one' 14 (by kernel_rfl) rfl (by rfl) (fun K hK=>?_)
   refine wp_append_row (l1:=l) (l2:=[b1,b2]) (c:=2) (A:=some ⟨Wc.heap.size,0,none⟩) (.tmp 15) (.tmp 28) rfl rfl rfl HO.out HA.out.reads (by simp [hl];omega) hsn (fun v5 w5 hv5 hb5=>?_)
   have HV:=Lib.hid hv5
   have HB5:=Lib.hid (HBW.out.trans hb5)
   have HK5:=Lib.hid (Keeps.lo (X:=fun i=>B≤i) hb5 (fun i h=>h))
   clear hv5 hb5
   refine hK.out _ _ ?_ ?_
   ·exact HK5.out
   clear hK K
   try simp only [qPA]
   refine qT 15 (v:=?_) ?_ ?_;rotate_left
   ·(intro W hSw;((first|(have hx:=HW.out W hSw;obtain ⟨hc,hgl⟩:=hx)|skip));go_simp <;> rfl)
   try simp only [qPA]
   refine wpMono_done (by kernel_rfl) ?_ _
   go_wp2_with fail
   go_roundw
   case rel=>exact ⟨k + 1,l ++ [b1,b2],by go_num,by omega,by rw [List.length_append,hl];simp;omega,HV.out,HB5.out⟩
   case measure=>simp [intOf];omega
  ·obtain rfl:k=14:=by omega
   obtain ⟨g2,c2,hv,_,hg2,hl2⟩:=lies_of_own hown (by omega)
   obtain ⟨A0,c0,rfl⟩:=hown.form
   obtain rfl:A0=some ⟨g2,0,none⟩:=by injection hv
   have hcv:=hl2.text c0
   have hl29:(⟨l.toArray⟩:ByteArray).size=29:=hl
   have hl2:l.length=29:=hl
   rw [hl2] at hcv ⊢
   have HR:=Lib.hid (show Below w.heap.size w wr from HB.out.trans (hbw.mono (by rw [← hB];exact HB.out.size)))
   clear hv hown hbw hl
   go_wp2_with fail
   go_ret
   exact ⟨_,rfl,hl29,HR.out⟩
end Go.Proofs.YtdaphppdmnmicaaGreatDoor.regn
namespace Go.Proofs.YtdaphppdmnmicaaGreatDoor.regn
open Go Go.RowKit Go.Lib base rowe rowc wireb appb
set_option maxRecDepth 20000 in
theorem seal10_r (k g p:Nat) (hk:k < 128) (hg:g < 128) (hp:p < 128) (w:World):Calls Tryz.prog 181 #[.agg #[.int .i64 k,.int .i64 g,.int .i64 p,.string ⟨#[]⟩]] w (StrR 29 w):=by
 have HB:=Lib.hid (below_alloc (below_new w (.cells #[.int .i64 k,.int .i64 g,.int .i64 p,.string ⟨#[]⟩] 227)) (.cells (its k g p) 408))
 have HI:=Lib.hid (Blk.newAt (w.alloc (.cells #[.int .i64 k,.int .i64 g,.int .i64 p,.string ⟨#[]⟩] 227)) 408 (its k g p) (g:=w.heap.size + 1) (by simp))
 have hs:=HB.out.size
 unfold its at HB HI hs
 go_enter Tryz.func181,Tryz.ntmps181
 go_wp2_with fail
 refine (written_r (w.heap.size + 1) k g p hk hg hp _ HI.out).mono ?_
 rintro e w1 ⟨s,rfl,hs4,hb1⟩
 have HB1:=Lib.hid (HB.out.trans (hb1.mono hs))
 have hs1:=HB1.out.size
 clear hb1 HB HI
 go_wp2_with fail
 refine (seal9_r s hs4 _).mono ?_
 rintro e w2 ⟨s2,rfl,hs2,hb2⟩
 have HR:=Lib.hid (show StrR 29 w (.returned (.string s2)) w2 from ⟨s2,rfl,hs2,HB1.out.trans (hb2.mono hs1)⟩)
 clear hb2
 go_wp2_with fail
 go_ret
 exact HR.out
theorem ends_r (g:Nat) (x y:Int) (a b:Value) (w:World) (h:Blk w g 224 #[a,b,.int .i64 x,.int .i64 y,.bool false]):Calls Tryz.prog 179 #[.pointer (some ⟨g,0,none⟩),.int .i64 0] w fun e w'=>e=.returned (.int .i64 0)∧Keeps (· = g) w w':=by
 have q4:w.cell? ⟨g,4,none⟩=some (.bool false):=h.cell 4
 have z4:=h.frozen 4
 have hl:=h.lt
 go_enter Tryz.func179,Tryz.ntmps179
 go_wp2_with fail
 go_ret
 exact ⟨rfl,Keeps.set1 w g 4 _⟩
theorem long_r (w:World):Calls Tryz.prog 178 #[.slice none 0 0] w fun e w'=>e=.returned (.bool false)∧w'=w:=by
 go_enter Tryz.func178,Tryz.ntmps178
 go_wp2_with fail
 go_loopw [3] (fun i wr=>i=.int .i64 0∧wr=w) (fun _ _=>0)
 case atStart=>exact ⟨rfl,rfl⟩
 case round =>
  obtain ⟨rfl,rfl⟩:=hrel
  go_wp2_with fail
  go_ret
  exact ⟨rfl,rfl⟩
theorem text_r (g p:Int) (w:World):Calls Tryz.prog 182 #[.slice none 0 0,.int .i64 g,.int .i64 p] w fun e w'=>e=.returned (.string ⟨#[]⟩)∧w'=w:=by
 go_enter Tryz.func182,Tryz.ntmps182
 go_wp2_with fail
 go_loopw [7,8] (fun s i wr=>s=.string ⟨#[]⟩∧i=.int .i64 0∧wr=w) (fun _ _ _=>0)
 case atStart=>exact ⟨rfl,rfl,rfl⟩
 case round =>
  obtain ⟨rfl,rfl,rfl⟩:=hrel
  go_wp2_with fail
  go_ret
  exact ⟨rfl,rfl⟩
theorem no_size:(⟨#[]⟩:ByteArray).size=0:=rfl
def DoneR (g n:Nat) (w:World) (e:Ending) (w':World):Prop:=∃ d:ByteArray,e=.returned (.int .i64 0)∧d.size=n∧RD w' g d ⟨#[]⟩ 1000∧Keeps (· = g) w w'
set_option maxRecDepth 10000 in
theorem marks_r (g:Nat) (d l:ByteArray) (n:Nat) (w:World) (h:RD w g d l 1000) (hn:d.size + l.size=n) (h1:n < 128):Calls Tryz.prog 102 #[.pointer (some ⟨g,0,none⟩),.int .i64 1] w (DoneR g (n + 29) w):=by
 have H:=Lib.hid h
 clear h
 go_enter Tryz.func102,Tryz.ntmps102
 go_wp2_with fail
 refine (sync_r w H.out (by omega)).mono ?_
 rintro e w1 ⟨rfl,hd1,hk1⟩
 obtain ⟨D,hD⟩:∃ D,d ++ l=D:=⟨_,rfl⟩
 have hDn:D.size=n:=by rw [← hD,ByteArray.size_append];exact hn
 rw [hD] at hd1
 have H1:=Lib.hid hd1
 have HK1:=Lib.hid hk1
 have q0:w1.cell? ⟨g,0,none⟩=some (.string D):=hd1.cell 0
 have hl1:=hd1.lt
 clear hd1 hk1 hD H hn
 go_wp2_with fail
 refine (seal10_r 4 1 n (by omega) (by omega) h1 _).mono ?_
 rintro e w2 ⟨s,rfl,hs,hb2⟩
 have H2:=Lib.hid (Blk.below H1.out hb2 hl1)
 have HK2:=Lib.hid (HK1.out.trans (Keeps.of_below (X:=(· = g)) hb2))
 clear hb2 q0
 go_wp2_with fail
 refine (append_r s w2 H2.out (by rw [no_size];omega) (by rw [no_size];omega) (by omega) (by omega)).mono ?_
 rintro e w3 ⟨rfl,hd3,hk3⟩
 obtain ⟨E,hE⟩:∃ E,(⟨#[]⟩:ByteArray) ++ s=E:=⟨_,rfl⟩
 have hEn:E.size=29:=by rw [← hE,ByteArray.size_append,no_size];omega
 rw [hE] at hd3
 have H3:=Lib.hid hd3
 have HK3:=Lib.hid (HK2.out.trans hk3)
 clear hd3 hk3 hE H1 H2 HK1 HK2
 go_wp2_with fail
 refine (sync_r w3 H3.out (by omega)).mono ?_
 rintro e w4 ⟨rfl,hd4,hk4⟩
 have HR:=Lib.hid (show DoneR g (n + 29) w (.returned (.int .i64 0)) w4 from ⟨_,rfl,by rw [ByteArray.size_append];omega,hd4,HK3.out.trans hk4⟩)
 clear hd4 hk4
 go_wp2_with fail
 go_ret
 exact HR.out
set_option maxRecDepth 10000 in
theorem write_r (g:Nat) (s:ByteArray) (w:World) (h:RD w g ⟨#[]⟩ ⟨#[]⟩ 1000) (hs:s.size=58):Calls Tryz.prog 180 #[.pointer (some ⟨g,0,none⟩),.int .i64 1,.int .i64 0,.string s] w (DoneR g 87 w):=by
 have H:=Lib.hid h
 clear h
 go_enter Tryz.func180,Tryz.ntmps180
 go_wp2_with fail
 refine (append_r s w H.out (by rw [no_size];omega) (by rw [no_size];omega) (by omega) (by omega)).mono ?_
 rintro e w3 ⟨rfl,hd3,hk3⟩
 obtain ⟨E,hE⟩:∃ E,(⟨#[]⟩:ByteArray) ++ s=E:=⟨_,rfl⟩
 have hEn:E.size=58:=by rw [← hE,ByteArray.size_append,no_size];omega
 rw [hE] at hd3
 have H3:=Lib.hid hd3
 have HK3:=Lib.hid hk3
 clear hd3 hk3 hE H
 go_wp2_with fail
 refine (marks_r g _ E 58 w3 H3.out (by rw [no_size];omega) (by omega)).mono ?_
 rintro e w4 ⟨d,rfl,hd,hd4,hk4⟩
 have HR:=Lib.hid (show DoneR g 87 w (.returned (.int .i64 0)) w4 from ⟨d,rfl,hd,hd4,HK3.out.trans hk4⟩)
 clear hd4 hk4
 go_wp2_with fail
 go_ret
 exact HR.out
set_option maxRecDepth 10000 in
theorem start_r (g a b:Nat) (w:World) (h:Blk w g 224 #[.pointer (some ⟨a,0,none⟩),.pointer (some ⟨b,0,none⟩),.int .i64 0,.int .i64 0,.bool false]) (hb:RD w b ⟨#[]⟩ ⟨#[]⟩ 1000) (hne:b < g):Calls Tryz.prog 100 #[.pointer (some ⟨g,0,none⟩),.slice none 0 0] w fun e w'=>e=.returned (.int .i64 0)∧Keeps (fun i=>i=g ∨ i=b) w w':=by
 have H:=Lib.hid h
 have HB:=Lib.hid hb
 have q0:w.cell? ⟨g,0,none⟩=some (.pointer (some ⟨a,0,none⟩)):=h.cell 0
 have q1:w.cell? ⟨g,1,none⟩=some (.pointer (some ⟨b,0,none⟩)):=h.cell 1
 have q2:w.cell? ⟨g,2,none⟩=some (.int .i64 0):=h.cell 2
 have q3:w.cell? ⟨g,3,none⟩=some (.int .i64 0):=h.cell 3
 have q4:w.cell? ⟨g,4,none⟩=some (.bool false):=h.cell 4
 have hl:=h.lt
 have hw1:IntKind.i64.wrap 1=1:=by decide
 clear h hb
 go_enter Tryz.func100,Tryz.ntmps100
 go_wp2_with fail
 refine (long_r w).mono ?_
 rintro e w1 ⟨rfl,hw⟩
 subst hw
 go_wp2_with fail
 refine wp_region_mono nobody (by kernel_rfl) ?_
 iterate 11
  first|refine qT 0 (v:=?_) ?_ ?_|refine qT 1 (v:=?_) ?_ ?_|refine qT 2 (v:=?_) ?_ ?_|refine qT 3 (v:=?_) ?_ ?_|refine qT 4 (v:=?_) ?_ ?_|refine qT 5 (v:=?_) ?_ ?_|refine qT 6 (v:=?_) ?_ ?_|refine qT 7 (v:=?_) ?_ ?_|refine qT 8 (v:=?_) ?_ ?_|refine qT 9 (v:=?_) ?_ ?_|refine qT 10 (v:=?_) ?_ ?_
  rotate_left
  ·(intro W hSw;((have hk:=Blk.keeps H.out.drew hSw (fun h=>h);have q1:W.cell? ⟨g,1,none⟩=some (.pointer (some ⟨b,0,none⟩)):=hk.cell 1;have q2:W.cell? ⟨g,2,none⟩=some (.int .i64 0):=hk.cell 2;have l1:=hk.lt));go_simp <;> rfl)
  try simp only [qPA]
 refine wpMono_done (by kernel_rfl) ?_ _
 have HB0:=Lib.hid (show RD w1.drew b ⟨#[]⟩ ⟨#[]⟩ 1000 from HB.out.drew)
 have HH0:=Lib.hid (show Blk w1.drew g 224 #[.pointer (some ⟨a,0,none⟩),.pointer (some ⟨b,0,none⟩),.int .i64 0,.int .i64 0,.bool false] from H.out.drew)
 have HK0:=Lib.hid (show Keeps (fun i=>i=g ∨ i=b) w1 w1.drew from (Keeps.of_below (Below.refl _ _).drew))
 generalize w1.drew=w2 at *
 clear q0 q1 q2 q3 q4
 go_wp2_with fail
 refine (cut_r w2 HB0.out (by rw [no_size];omega)).mono ?_
 rintro e w3 ⟨rfl,hb3,hk3⟩
 have HB3:=Lib.hid hb3
 have HH3:=Lib.hid (Blk.keeps HH0.out hk3 (show ¬ g=b by omega))
 have HK3:=Lib.hid (HK0.out.trans (hk3.more fun _ _ h=>.inr h))
 have q3:w3.cell? ⟨g,3,none⟩=some (.int .i64 0):=HH3.out.cell 3
 have hl3:=HH3.out.lt
 clear hb3 hk3 HB0 HH0 HK0 H HB
 go_wp2_with fail
 refine (seal10_r 1 1 0 (by omega) (by omega) (by omega) _).mono ?_
 rintro e w4 ⟨s4,rfl,hs4,hb4⟩
 have HB4:=Lib.hid (Blk.below HB3.out hb4 HB3.out.lt)
 have HH4:=Lib.hid (Blk.below HH3.out hb4 HH3.out.lt)
 have HK4:=Lib.hid (HK3.out.trans (Keeps.of_below (X:=fun i=>i=g ∨ i=b) hb4))
 clear hb4 HB3 HH3 HK3 q3
 go_wp2_with fail
 refine (text_r 1 0 w4).mono ?_
 rintro e w5 ⟨rfl,hw⟩
 subst hw
 have hn1:¬ 9223372036854775807 < s4.size:=by omega
 go_wp2_with fail
 refine (seal10_r 3 1 0 (by omega) (by omega) (by omega) _).mono ?_
 rintro e w6 ⟨s6,rfl,hs6,hb6⟩
 have HB6:=Lib.hid (Blk.below HB4.out hb6 HB4.out.lt)
 have HH6:=Lib.hid (Blk.below HH4.out hb6 HH4.out.lt)
 have HK6:=Lib.hid (HK4.out.trans (Keeps.of_below (X:=fun i=>i=g ∨ i=b) hb6))
 have hn2:¬ 9223372036854775807 < s4.size + s6.size:=by omega
 clear hb6 HB4 HH4 HK4
 go_wp2_with fail
 refine (write_r b _ w6 HB6.out (by simp only [ByteArray.size_append,no_size];omega)).mono ?_
 rintro e w7 ⟨d7,rfl,hd7,hb7,hk7⟩
 have HH7:=Lib.hid (Blk.keeps HH6.out hk7 (show ¬ g=b by omega))
 have HK7:=Lib.hid (HK6.out.trans (hk7.more fun _ _ h=>.inr h))
 have q2:w7.cell? ⟨g,2,none⟩=some (.int .i64 0):=HH7.out.cell 2
 have z2:=HH7.out.frozen 2
 have q3:w7.cell? ⟨g,3,none⟩=some (.int .i64 0):=HH7.out.cell 3
 have z3:=HH7.out.frozen 3
 have hl7:=HH7.out.lt
 clear hb7 hk7 HB6 HH6 HK6
 go_wp2_with fail
 refine (ends_r g 1 1 _ _ _ ((HH7.out.set_ 2 (.int .i64 1)).set_ 3 (.int .i64 1))).mono ?_
 rintro e w8 ⟨rfl,hk8⟩
 have HR:=Lib.hid (show Keeps (fun i=>i=g ∨ i=b) w1 w8 from ((HK7.out.trans ((Keeps.set1 w7 g 2 (.int .i64 1)).more fun _ _ h=>.inl h)).trans ((Keeps.set1 _ g 3 (.int .i64 1)).more fun _ _ h=>.inl h)).trans (hk8.more fun _ _ h=>.inl h))
 clear hk8 HK7 HH7 q2 q3 z2 z3
 go_wp2_with fail
 go_ret
 exact ⟨rfl,HR.out⟩
end Go.Proofs.YtdaphppdmnmicaaGreatDoor.regn
