/- Part of GateRetires. -/
import Derived.WalkKit
import Derived.ProofKit
import Derived.OpenShut
import Derived.Deep.Draws
import Derived.Deep.Slices
import Derived.Deep.AppendLies
import Derived.Deep.RegionHeld3
import Derived.Lib.Hide
import Derived.WideKeyEntry
import Derived.Deep.AppendSrc
import Derived.Test.YthlahcnglacekaaGreatDoorProg
import Derived.Test.YthlahcnglacekaaGreatDoorB08
import Derived.Lib.SlBytesConst
import Derived.Lib.AppendStr
import Derived.Lib.QuoteBits
import Derived.Maps.OwnSet
import Derived.Maps.RangeRun
set_option maxRecDepth 100000
set_option maxHeartbeats 16000000
namespace Go.Proofs.YthlahcnglacekaaGreatDoor
theorem qH {p:Prop} (h:p):Go.RowKit.Hid p:=h

namespace base
open Go.RowKit Go.ChangeShapes Go.WideShapes
def Sees (P:Program) (w:World) (t:TypeId) (cs:List Value):Prop :=
 ∃ (H:Type) (enc:TypeId × Value→H) (fuel:Nat) (x:DataW H × List MemPlace),DataW.trod enc P w 0 (fun _=>true) true fuel t cs=some x
def Arg (P:Program) (w:World) (t:TypeId) (v:Value):Prop:=(∃ r b0,Value.okWide P w r b0 t v)∧Sees P w t v.cells.toList
section
variable {P:Program} {w:World} {t e:TypeId} {cs:List Value} {v:Value}
theorem Arg.of {H:Type} {enc:TypeId × Value→H} {r:Reach} {b0:Nat} {d:DataW H} {ps:List MemPlace} (hv:Value.okWide P w r b0 t v) (h:DataW.Trod enc P w 0 (fun _=>true) true t v d ps):Arg P w t v :=
 ⟨⟨r,b0,hv⟩,H,enc,h.choose,(d,ps),h.choose_spec⟩
theorem Sees.int {k:IntKind} (ht:P.underlying t=some (.int k)) (h:Sees P w t cs):∃ n,cs=[.int k n]∧(Lit.int k n).wf=true:=by
 obtain ⟨H,enc,fuel,x,h⟩:=h
 cases fuel with
 | zero=>simp [DataW.trod] at h
 | succ m =>
  unfold DataW.trod at h;rw [ht] at h
  split at h <;> simp_all
theorem Arg.int {k:IntKind} (ht:P.underlying t=some (.int k)) (h:Arg P w t v):∃ n,v=.int k n∧(Lit.int k n).wf=true:=by
 obtain ⟨⟨r,b0,hv⟩,hs⟩:=h;obtain ⟨n,rfl⟩:=okWide_int ht hv;obtain ⟨m,hm,hw⟩:=hs.int ht;simp [Value.cells] at hm
 exact ⟨n,rfl,hm ▸ hw⟩
end
def Reads (w:World) (B size:Nat) (A:Option Addr) (n:Nat) (xs:List Value):Prop :=
 xs.length=n*size∧(0<n→∃ b off,A=some ⟨b,off,none⟩∧b<B∧∀ j,j<xs.length→w.cell? ⟨b,off+j,none⟩=xs[j]?)
theorem cell_lt {w:World} {b off:Nat} {s:Option Nat} {v:Value} (h:w.cell? ⟨b,off,s⟩=some v):b<w.heap.size:=by
 rcases Nat.lt_or_ge b w.heap.size with h'|h'
 ·exact h'
 ·simp [World.cell?,Array.getElem?_eq_none h'] at h
section
variable {w w':World} {B B' size n:Nat} {A:Option Addr} {xs:List Value}
theorem Reads.none_:Reads w B size A 0 []:=⟨by simp,fun h=>absurd h (by omega)⟩
theorem Reads.keep (h:Reads w B size A n xs) (hk:∀ b o,b<B→w'.cell? ⟨b,o,none⟩=w.cell? ⟨b,o,none⟩):Reads w' B size A n xs :=
 ⟨h.1,fun hn=>by
  obtain ⟨b,off,e,hb,hc⟩:=h.2 hn;exact ⟨b,off,e,hb,fun j hj=>(hk _ _ hb).trans (hc j hj)⟩⟩
theorem Reads.more (h:Reads w B size A n xs) (hB:B≤B'):Reads w B' size A n xs :=
 ⟨h.1,fun hn=>by
  obtain ⟨b,off,e,hb,hc⟩:=h.2 hn;exact ⟨b,off,e,by omega,hc⟩⟩
theorem Reads.below (h:Reads w B size A n xs) (hb:Below B w w'):Reads w' B size A n xs:=h.keep fun b o hp=>hb.cell (p:=⟨b,o,none⟩) hp
theorem Reads.alloc (h:Reads w B size A n xs) (hB:B≤w.heap.size) (o:Obj):Reads (w.alloc o) B size A n xs:=h.keep fun b o' hp=>World.cell?_alloc_lt w o ⟨b,o',none⟩ (by simpa using Nat.lt_of_lt_of_le hp hB)
theorem Reads.new (w:World) (cs:Array Value) (t:TypeId) (fr:Nat × Nat) {n size:Nat} (h:cs.size=n*size):Reads (w.alloc (.cells cs t fr)) (w.alloc (.cells cs t fr)).heap.size size (some ⟨w.heap.size,0,none⟩) n cs.toList :=
 ⟨by simpa using h,fun _=>⟨w.heap.size,0,rfl,by simp,fun j hj=>by
  rw [cell_of_row _ w.heap.size (0+j) cs t fr (heap_alloc_new w _)];simp⟩⟩
theorem Reads.newAt (w:World) (cs:Array Value) (t:TypeId) (fr:Nat × Nat) {g n size:Nat} (hg:g=w.heap.size) (h:cs.size=n*size):Reads (w.alloc (.cells cs t fr)) (w.alloc (.cells cs t fr)).heap.size size (some ⟨g,0,none⟩) n cs.toList:=by subst hg;exact Reads.new w cs t fr h
theorem Reads.newAtD (w:World) (cs:Array Value) (t:TypeId) (fr:Nat × Nat) {g n size:Nat} (hg:g=w.heap.size) (h:cs.size=n*size):Reads (w.alloc (.cells cs t fr)).drew (w.alloc (.cells cs t fr)).drew.heap.size size (some ⟨g,0,none⟩) n cs.toList:=by subst hg;exact Reads.new w cs t fr h
theorem Reads.of_own {base:Nat} {e:TypeId} {c:Nat} (h:w.ownsRow base e size (.slice A n c) n xs):Reads w w.heap.size size A n xs:=by
 refine ⟨h.1,fun hn=>?_⟩;obtain ⟨g,cap,hv,_,hlt⟩:=h.form hn;have hA:A=some ⟨g,0,none⟩:=by injection hv
 subst hA;refine ⟨g,0,rfl,hlt,fun j hj=>?_⟩;have:=h.cells (g:=g) rfl j _ (List.getElem?_eq_getElem hj);rw [List.getElem?_eq_getElem hj,←this];simp only [Addr.add]
 split <;> simp_all
end
theorem add_plain' (b off i:Nat):(⟨b,off,none⟩:Addr).add i=⟨b,off+i,none⟩:=by
 unfold Addr.add;split <;> simp_all
theorem Reads.int_at {w:World} {n:Nat} {b off:Nat} {k:IntKind} {zs:List Int} (hc:∀ j,j<(zs.map (Value.int k)).length→w.cell? ⟨b,off+j,none⟩=(zs.map (Value.int k))[j]?) (hn:n<zs.length) :
  w.cell? ⟨b,off+n,none⟩=some (.int k (zs.getD n 0)):=by
 rw [hc n (by simpa using hn)];simp [List.getD_eq_getElem?_getD,List.getElem?_eq_getElem hn]
theorem bcell {W w1:World} (hb:Below W.heap.size W w1):(∀ b o,b<W.heap.size→w1.cell? ⟨b,o,none⟩=W.cell? ⟨b,o,none⟩)∧(∀ b o,b<W.heap.size→w1.frozen? ⟨b,o,none⟩=W.frozen? ⟨b,o,none⟩) :=
 ⟨fun b o h=>hb.cell (p:=⟨b,o,none⟩) h,fun b o h=>hb.frozen (p:=⟨b,o,none⟩) h⟩
theorem ret_int {k:IntKind} {a b:Int} (h:a=b):Ending.returned (.int k a)=.returned (.int k b):=by rw [h]
theorem ret_bool {a b:Bool} (h:a=b):Ending.returned (.bool a)=.returned (.bool b):=by rw [h]
theorem val_int {k:IntKind} {a b:Int} (h:a=b):Value.int k a=.int k b:=by rw [h]
theorem below_drewN {B:Nat} {a w:World} (h:Below B a w) (n:Nat):Below B a (w.drewN n):=⟨h.os,h.tape,h.output,h.size,h.block⟩
theorem cell_new (w:World) (cs:Array Value) (t:TypeId) (fr:Nat × Nat) (i:Nat):(w.alloc (.cells cs t fr)).cell? ⟨w.heap.size,i,none⟩=cs[i]?:=cell_of_row _ _ _ _ t fr (heap_alloc_new w _)
section
variable {P:Program} (w:World)
theorem run_append_of_nil (base:Nat) (t ty e:TypeId) (i:TypeInfo) (size:Nat) (ht:P.underlying t=some (.slice e)) (hi:P.info? e=some i)
  (v:Value) (n:Nat) (xs:List Value) (hown:w.ownsRow base e size v n xs) (c:Nat):(Builtin.append_ #[t,t] ty #[v,.slice none 0 c]).run P w=.ok v w:=by
 rcases hown.2 with ⟨rfl,rfl⟩|⟨g,cap,cur,rfl,_,_,hnc,_⟩
 ·simp [Builtin.append_,run_underlying ht,sizeOf,typeInfo,hi,Builtin.lenOf,Builtin.firstCells]
 ·simp [Builtin.append_,run_underlying ht,sizeOf,typeInfo,hi,Builtin.lenOf,Builtin.firstCells,hnc,storeCells]
theorem run_append_any (base:Nat) (t ty e:TypeId) (i:TypeInfo) (z:Value) (size bytes:Nat) (ht:P.underlying t=some (.slice e)) (hi:P.info? e=some i) (hz:i.zero=some z)
  (hsize:i.size=size) (hby:i.bytes=bytes) (hzs:z.cells.size=size) (hsz:0<size)
  (v:Value) (n:Nat) (xs:List Value) (hown:w.ownsRow base e size v n xs)
  (B:Nat) (A:Option Addr) (m c:Nat) (news:List Value) (hr:Reads w B size A m news) (h1:∀ u ∈ news,u.oneCell'=true)
  (h63:n+m≤maxLen) (hbytes:(n+m)*bytes≤140737488355328) (hbase:base≤w.heap.size) :
  ∃ v' w',(Builtin.append_ #[t,t] ty #[v,.slice A m c]).run P w=.ok v' w'∧w'.ownsRow base e size v' (n+m) (xs++news)∧w.grownBy w' v.ownBlock ∧
   (v'.ownBlock=v.ownBlock∨v'.ownBlock=some w.heap.size):=by
 rcases A with _|ad
 ·have hm:m=0:=by
   rcases Nat.eq_zero_or_pos m with h0|h0
   ·exact h0
   ·obtain ⟨_,_,h,_⟩:=hr.2 h0
    cases h
  subst hm;have hn:news=[]:=List.eq_nil_of_length_eq_zero (by simpa using hr.1);subst hn;exact ⟨v,w,run_append_of_nil w base t ty e i size ht hi v n xs hown c,by simpa using hown,World.grownBy.refl w _,.inl rfl⟩
 ·have hcells:∀ j u,news[j]?=some u→w.cell? (ad.add j)=some u:=by
   intro j u hu
   rcases Nat.eq_zero_or_pos m with h0|h0
   ·subst h0
    have hn:news=[]:=List.eq_nil_of_length_eq_zero (by simpa using hr.1);subst hn;simp at hu
   ·obtain ⟨b,off,h,_,hc⟩:=hr.2 h0
    injection h with h;subst h;rw [add_plain',hc j (List.getElem?_eq_some_iff.1 hu).1];exact hu
  obtain ⟨v',w',hrun,h2,h3,_,h5⟩:=run_append_own_at (P:=P) w base t ty e i z size bytes ht hi hz hsize hby hzs hsz v n xs hown ad m c news hr.1 hcells h1 h63 hbytes hbase;exact ⟨v',w',hrun,h2,h3,h5⟩
theorem wp_append_any {o:Oper} {a:Act} {K:Act→World→Prop} {Q:Exit→Act→World→Prop} (s x:Operand) (t:TypeId)
  (ho:o.op=.call { callee:=.builtin .append,args:=#[s,x],argTypes:=#[t,t] })
  (base:Nat) (e:TypeId) (i:TypeInfo) (z:Value) (size bytes:Nat) (ht:P.underlying t=some (.slice e)) (hi:P.info? e=some i) (hz:i.zero=some z)
  (hsize:i.size=size) (hby:i.bytes=bytes) (hzs:z.cells.size=size) (hsz:0<size)
  (v:Value) (n:Nat) (xs:List Value) (hs:a.eval s=v) (hown:w.ownsRow base e size v n xs)
  (B:Nat) (A:Option Addr) (m c:Nat) (news:List Value) (hx:a.eval x=.slice A m c) (hr:Reads w B size A m news) (h1:∀ u ∈ news,u.oneCell'=true)
  (h63:n+m≤maxLen) (hbytes:(n+m)*bytes≤140737488355328) (hbase:base≤w.heap.size)
  (h:∀ v' w',w'.ownsRow base e size v' (n+m) (xs++news)→w.grownBy w' v.ownBlock→(v'.ownBlock=v.ownBlock∨v'.ownBlock=some w.heap.size)→K (a.put o.dst v') w'):o.wp P a w K Q:=by
 obtain ⟨v',w',hrun,h2,h3,h4⟩:=run_append_any (P:=P) w base t o.type e i z size bytes ht hi hz hsize hby hzs hsz v n xs hown B A m c news hr h1 h63 hbytes hbase;unfold Oper.wp execOp;simp only [ho,resolve,invoke,builtin,Sem.run_bind,Sem.run_pure,Result.andThen_ok,List.map_toArray,List.map_cons,List.map_nil,hs,hx,hrun];exact h v' w' h2 h3 h4
theorem wpList_append_any {ops:Array Oper} {rest:List Oper} {o:Oper} {a:Act} {Q:Exit→Act→World→Prop} (hgd:o.guard=none) (s x:Operand) (t:TypeId)
  (ho:o.op=.call { callee:=.builtin .append,args:=#[s,x],argTypes:=#[t,t] })
  (base:Nat) (e:TypeId) (i:TypeInfo) (z:Value) (size bytes:Nat) (ht:P.underlying t=some (.slice e)) (hi:P.info? e=some i) (hz:i.zero=some z)
  (hsize:i.size=size) (hby:i.bytes=bytes) (hzs:z.cells.size=size) (hsz:0<size)
  (v:Value) (n:Nat) (xs:List Value) (hs:a.eval s=v) (hown:w.ownsRow base e size v n xs)
  (B:Nat) (A:Option Addr) (m c:Nat) (news:List Value) (hx:a.eval x=.slice A m c) (hr:Reads w B size A m news) (h1:∀ u ∈ news,u.oneCell'=true)
  (h63:n+m≤maxLen) (hbytes:(n+m)*bytes≤140737488355328) (hbase:base≤w.heap.size)
  (h:∀ v' w',w'.ownsRow base e size v' (n+m) (xs++news)→w.grownBy w' v.ownBlock→(v'.ownBlock=v.ownBlock∨v'.ownBlock=some w.heap.size)→wpList P ops Q rest (a.put o.dst v') w'):wpList P ops Q (o :: rest) a w :=
 wpList_plain hgd fun _ hK=>wp_append_any w s x t ho base e i z size bytes ht hi hz hsize hby hzs hsz v n xs hs hown B A m c news hx hr h1 h63 hbytes hbase fun v' w' h2 h3 h4=>hK _ _ (h v' w' h2 h3 h4)
end
theorem ownsRow_new0 (w:World) (e:TypeId) (size:Nat) (cs:Array Value) {n:Nat} (h:cs.size=n*size:=by simp) (hn:n≤maxLen:=by decide):(w.alloc (.cells cs e)).ownsRow w.heap.size e size (.slice (some ⟨w.heap.size,0,none⟩) n n) n cs.toList :=
 ⟨by simpa using h,.inr ⟨w.heap.size,n,cs,rfl,Nat.le_refl _,heap_alloc_new w _,Nat.le_refl _,hn,h,by rw [List.take_of_length_le (by simp [h])]⟩⟩
structure Keeps (X:Nat→Prop) (w w':World):Prop where
 os:w'.os=w.os
 tape:w'.tape=w.tape
 output:w'.output=w.output
 size:w.heap.size≤w'.heap.size
 block:∀ i,i<w.heap.size→¬ X i→w'.heap[i]?=w.heap[i]?
def nobody:Nat→Prop:=fun _=>False
section
variable {X Y:Nat→Prop} {w w' w'':World}
theorem Keeps.refl (X:Nat→Prop) (w:World):Keeps X w w:=⟨rfl,rfl,rfl,Nat.le_refl _,fun _ _ _=>rfl⟩
theorem Keeps.trans (h:Keeps X w w') (h':Keeps X w' w''):Keeps X w w'' :=
 ⟨h'.os.trans h.os,h'.tape.trans h.tape,h'.output.trans h.output,Nat.le_trans h.size h'.size,fun i hi hx=>(h'.block i (Nat.lt_of_lt_of_le hi h.size) hx).trans (h.block i hi hx)⟩
theorem Keeps.more (h:Keeps X w w') (hxy:∀ i,i<w.heap.size→X i→Y i):Keeps Y w w':=⟨h.os,h.tape,h.output,h.size,fun i hi hy=>h.block i hi (fun hx=>hy (hxy i hi hx))⟩
theorem Keeps.of_below (h:Below w.heap.size w w'):Keeps X w w':=⟨h.os,h.tape,h.output,h.size,fun i hi _=>h.block i hi⟩
theorem Keeps.below {B:Nat} (h:Keeps X w w') (hx:∀ i,i<B→¬ X i) (hB:B≤w.heap.size):Below B w w':=⟨h.os,h.tape,h.output,h.size,fun i hi=>h.block i (Nat.lt_of_lt_of_le hi hB) (hx i hi)⟩
theorem Keeps.below' (h:Keeps nobody w w'):Below w.heap.size w w':=h.below (fun _ _ h=>h) (Nat.le_refl _)
theorem Keeps.cell (h:Keeps X w w') {b:Nat} (o:Nat) (hb:b<w.heap.size) (hx:¬ X b):w'.cell? ⟨b,o,none⟩=w.cell? ⟨b,o,none⟩:=World.cell?_of_block (a:=⟨b,o,none⟩) (h.block b hb hx)
theorem Keeps.drewN (n:Nat):Keeps X w (w.drewN n):=⟨rfl,rfl,rfl,Nat.le_refl _,fun _ _ _=>rfl⟩
theorem Keeps.drew:Keeps X w w.drew:=⟨rfl,rfl,rfl,Nat.le_refl _,fun _ _ _=>rfl⟩
theorem Keeps.alloc (o:Obj):Keeps X w (w.alloc o):=⟨rfl,rfl,rfl,by simp,fun i hi _=>Below.heap_alloc w o i hi⟩
theorem Keeps.setCell {p:Addr} (hp:X p.block∨w.heap.size≤p.block) (u:Value):Keeps X w (w.setCell p u) :=
 ⟨rfl,rfl,rfl,by simp [World.setCell],fun i hi hx=>Below.heap_setCell w p u i (by
  rintro rfl
  rcases hp with hp|hp
  ·exact hx hp
  ·omega)⟩
theorem Keeps.grown {row:Option Nat} (h:w.grownBy w' row) (hr:∀ g,row=some g→X g∨w.heap.size≤g):Keeps X w w' :=
 ⟨h.os,h.tape,h.output,h.size,fun i hi hx=>h.block i hi (fun e=>by
  rcases hr i e.symm with h1|h1
  ·exact hx h1
  ·omega)⟩
theorem Keeps.cells (h:Keeps nobody w w'):∀ b o,b<w.heap.size→w'.cell? ⟨b,o,none⟩=w.cell? ⟨b,o,none⟩:=fun _ o hb=>h.cell o hb (fun h=>h)
end
section
variable {P:Program} {ops:Array Oper} {Q:Exit→Act→World→Prop} {md:Region.Mode} {X:Nat→Prop}
def wpMono (P:Program) (md:Region.Mode) (ops:Array Oper) (Q:Exit→Act→World→Prop) (X:Nat→Prop):Nat→Array Bool→Act→World→Prop
 | 0,listed,a,w=>Region.ready md ops listed=[]∧Q .normal a w
 | fuel+1,listed,a,w =>
  (Region.ready md ops listed=[]→Q .normal a w) ∧
  ∀ i ∈ Region.ready md ops listed,wpOp P ops Q i (fun a' w'=>Keeps X w w'∧wpMono P md ops Q X fuel (listed.setIfInBounds i true) a' w') a w
theorem wpAny_of_mono:∀ (fuel:Nat) (listed:Array Bool) (a:Act) (w:World),wpMono P md ops Q X fuel listed a w→wpAny P md ops Q fuel listed a w
 | 0,_,_,_,h=>h
 | fuel+1,_,_,_,h=>⟨h.1,fun i hi=>wpOp_mono (fun a' w' h'=>wpAny_of_mono fuel _ a' w' h'.2) (h.2 i hi)⟩
theorem YieldsIf.weaken {S S':World→Prop} {o:Oper} {v:Value} {a:Act} (h:YieldsIf P ops S o v a) (hs:∀ w,S' w→S w):YieldsIf P ops S' o v a :=
 h.imp (fun ⟨h1,h2⟩=>⟨h1,fun w hw=>h2 w (hs w hw)⟩) id
theorem wpMono_first {i:Nat} {oi:Oper} {v:Value} (hi:ops[i]?=some oi) (hsel:∀ (j:Nat) (o:Oper) cs b,ops[j]?=some o→o.op≠.select cs b)
  (hQ:∀ c a w,Q (.panic c) (a.put oi.dst v) w→Q (.panic c) a w) :
  ∀ (fuel:Nat) (listed:Array Bool) (a:Act) (w:World),
   (∀ j oj,ops[j]?=some oj→j≠i→listed.getD j true=false→(∀ e ∈ oj.after,Region.binds md e=true→e.on≠i)→oi.apart ops oj=true) →
   i ∈ Region.ready md ops listed→YieldsIf P ops (Keeps X w) oi v a →
   wpMono P md ops Q X fuel (listed.setIfInBounds i true) (a.put oi.dst v) w→wpMono P md ops Q X (fuel+1) listed a w:=by
 intro fuel
 induction fuel with
 | zero =>
  intro listed a w _ hr hy H;refine ⟨fun h=>(by rw [h] at hr;cases hr),fun j hj=>?_⟩
  by_cases hji:j=i
  ·subst hji;exact hy.wpOp hi (Keeps.refl _ _) ⟨Keeps.refl _ _,H⟩
  ·have:=ready_mono hj hji
   rw [H.1] at this
   cases this
 | succ fuel ih =>
  intro listed a w hfree hr hy H;refine ⟨fun h=>(by rw [h] at hr;cases hr),fun j hj=>?_⟩
  by_cases hji:j=i
  ·subst hji;exact hy.wpOp hi (Keeps.refl _ _) ⟨Keeps.refl _ _,H⟩
  ·have h1:=H.2 j (ready_mono hj hji)
   obtain ⟨hjun,oj,hoj,hall⟩:=mem_ready.1 hj
   have hnot:∀ e ∈ oj.after,Region.binds md e=true→e.on≠i:=fun e he hb heq=>by
    have h1:=hall e he hb;have h0:=(mem_ready.1 hr).1;rw [heq] at h1
    rcases Nat.lt_or_ge i listed.size with h'|h'
    ·simp [h'] at h0 h1;rw [h0] at h1;cases h1
    ·simp [Array.getElem?_eq_none h'] at h1
   have h2:=wpOp_putIf hoj (hfree j oj hoj hji hjun hnot) (fun cs b=>hsel i oi cs b hi) (fun cs b=>hsel j oj cs b hoj) hQ hy h1
   have hfree':∀ k ok,ops[k]?=some ok→k≠i→(listed.setIfInBounds j true).getD k true=false →
     (∀ e ∈ ok.after,Region.binds md e=true→e.on≠i)→oi.apart ops ok=true:=fun k ok hk hki hun hno=>by
    refine hfree k ok hk hki ?_ hno
    by_cases hjk:j=k
    ·subst hjk;exact hjun
    ·rw [getD_set_ne true hjk] at hun;exact hun
   refine wpOp_mono (fun a' w' h3=>⟨h3.2.1,ih (listed.setIfInBounds j true) a' w' hfree' (ready_mono hr (Ne.symm hji)) (YieldsIf.weaken h3.1 (fun u hu=>h3.2.1.trans hu)) ?_⟩) h2;rw [Array.setIfInBounds_comm _ _ hji];exact h3.2.2
theorem wpMono_take {i:Nat} {oi:Oper} {v:Value} {fuel:Nat} {listed:Array Bool} {a:Act} {w:World} (hi:ops[i]?=some oi)
  (hs:Region.noSelect ops=true) (hf:Region.free md ops listed i=true) (hr:(Region.ready md ops listed).contains i=true)
  (hQ:∀ c a w,Q (.panic c) (a.put oi.dst v) w→Q (.panic c) a w) (hy:YieldsIf P ops (Keeps X w) oi v a)
  (h:wpMono P md ops Q X fuel (listed.setIfInBounds i true) (a.put oi.dst v) w):wpMono P md ops Q X (fuel+1) listed a w :=
 wpMono_first hi (Region.noSelect_spec hs) hQ fuel listed a w (Region.free_spec hi hf) (by simpa using hr) hy h
theorem wpMono_one {i:Nat} {o:Oper} {fuel:Nat} {listed:Array Bool} {a:Act} {w:World} (hr:Region.ready md ops listed=[i]) (ho:ops[i]?=some o)
  (h:∀ K':Act→World→Prop,Shut (∀ a w',Keeps X w w'→wpMono P md ops Q X fuel (listed.setIfInBounds i true) a w'→K' a w')→if Region.wanted o (yielded ops a.tmps)=true then Oper.wp P o a w K' Q else K' (a.put o.dst undef) w):wpMono P md ops Q X (fuel+1) listed a w :=
 ⟨fun h0=>(by rw [hr] at h0;cases h0),fun j hj=>(by
  rw [hr,List.mem_singleton] at hj;subst hj;exact wpOp_step ho (fun K' hK=>h K' (fun a w' h1 h2=>hK a w' ⟨h1,h2⟩)))⟩
theorem wpMono_done {listed:Array Bool} {a:Act} {w:World} (hr:Region.ready md ops listed=[]) (h:Q .normal a w):∀ fuel,wpMono P md ops Q X fuel listed a w
 | 0=>⟨hr,h⟩
 | _+1=>⟨fun _=>h,by rw [hr];simp⟩
theorem wpMono_take' (i:Nat) {oi:Oper} {v:Value} {fuel:Nat} {listed:Array Bool} {a:Act} {w:World} (hi:ops.toList[i]?=some oi)
  (hs:Region.noSelect ops=true) (hf:Region.free md ops listed i=true) (hr:(Region.ready md ops listed).contains i=true)
  (hQ:∀ c a w,Q (.panic c) (a.put oi.dst v) w→Q (.panic c) a w) (hg:Region.wanted oi (yielded ops a.tmps)=true) (hy:∀ w',Keeps X w w'→(execOp a.eval oi).run P w'=.ok (.value v) w')
  (h:wpMono P md ops Q X fuel (listed.setIfInBounds i true) (a.put oi.dst v) w):wpMono P md ops Q X (fuel+1) listed a w :=
 wpMono_take (by simpa using hi) hs hf hr hQ (.inl ⟨hg,hy⟩) h
theorem wpMono_skip' (i:Nat) {oi:Oper} {fuel:Nat} {listed:Array Bool} {a:Act} {w:World} (hi:ops.toList[i]?=some oi)
  (hs:Region.noSelect ops=true) (hf:Region.free md ops listed i=true) (hr:(Region.ready md ops listed).contains i=true)
  (hQ:∀ c a w,Q (.panic c) (a.put oi.dst undef) w→Q (.panic c) a w) (hg:Region.wanted oi (yielded ops a.tmps)=false)
  (h:wpMono P md ops Q X fuel (listed.setIfInBounds i true) (a.put oi.dst undef) w):wpMono P md ops Q X (fuel+1) listed a w :=
 wpMono_take (by simpa using hi) hs hf hr hQ (.inr ⟨hg,rfl⟩) h
theorem wpMono_one' (i:Nat) {o:Oper} {fuel:Nat} {listed:Array Bool} {a:Act} {w:World} (hr:Region.ready md ops listed=[i]) (ho:ops.toList[i]?=some o) (hg:Region.wanted o (yielded ops a.tmps)=true)
  (h:∀ K':Act→World→Prop,Shut (∀ a w',Keeps X w w'→wpMono P md ops Q X fuel (listed.setIfInBounds i true) a w'→K' a w')→Oper.wp P o a w K' Q):wpMono P md ops Q X (fuel+1) listed a w :=
 wpMono_one hr (by simpa using ho) (fun K hK=>by rw [if_pos hg];exact h K hK)
theorem qPA:(∀ (a:Act) (i:Nat) (v:Value),a.put (some i) v={ a with tmps:=a.tmps.setIfInBounds i v })∧(∀ (a:Act) (v:Value),a.put none v=a)∧(∀ (l:List Value) (i:Nat) (x:Value),l.toArray.setIfInBounds i x=(l.set i x).toArray)∧(∀ (a b:Value) (l:List Value),(a :: l).set 0 b=b :: l)∧∀ (a b:Value) (l:List Value) (n:Nat),(a :: l).set (n+1) b=a :: l.set n b :=
 ⟨fun _ _ _=>rfl,fun _ _=>rfl,fun l i x=>List.setIfInBounds_toArray l i x,fun _ _ _=>rfl,fun _ _ _ _=>rfl⟩
theorem qSd:(∀ w:World,w.drew.heap.size=w.heap.size)∧∀ (w:World) (a:Addr),w.drew.cell? a=w.cell? a:=⟨fun _=>rfl,fun _ _=>rfl⟩
theorem qT (i:Nat) {P:Program} {md:Region.Mode} {ops:Array Oper} {Q:Exit→Act→World→Prop} {X:Nat→Prop} {oi:Oper} {v:Value} {fuel:Nat} {listed:Array Bool} {a:Act} {w:World} (hy:∀ w',Keeps X w w'→(execOp a.eval oi).run P w'=.ok (.value v) w')
  (h:wpMono P md ops Q X fuel (listed.setIfInBounds i true) (a.put oi.dst v) w) (hi:ops.toList[i]?=some oi:=by exact rfl)
  (hs:Region.noSelect ops=true:=by kernel_rfl) (hf:Region.free md ops listed i=true:=by decide +kernel) (hr:(Region.ready md ops listed).contains i=true:=by decide +kernel)
  (hQ:∀ c a w,Q (.panic c) (a.put oi.dst v) w→Q (.panic c) a w:=by exact fun _ _ _ h=>h) (hg:Region.wanted oi (yielded ops a.tmps)=true:=by rfl):wpMono P md ops Q X (fuel+1) listed a w:=wpMono_take' i hi hs hf hr hQ hg hy h
theorem wp_region_mono (X:Nat→Prop) {id:Nat} {a:Act} {w:World} (hm:P.follows .mixedOrders=true)
  (h:wpMono P .any ops Q X ops.size (Array.replicate ops.size false) a w.drew):(Code.region id ops true).wp P Q a w:=wp_region_any hm (wpAny_of_mono _ _ _ _ h)
end
section
variable {P:Program} {Q:Exit→Act→World→Prop}
theorem wpList_append_new {w:World} {ops:Array Oper} {rest:List Oper} {o:Oper} {a:Act} (hgd:o.guard=none) (s x:Operand) (t:TypeId)
  (ho:o.op=.call { callee:=.builtin .append,args:=#[s,x],argTypes:=#[t,t] })
  (base:Nat) (e:TypeId) (i:TypeInfo) (z:Value) (size bytes:Nat) (ht:P.underlying t=some (.slice e)) (hi:P.info? e=some i) (hz:i.zero=some z)
  (hsize:i.size=size) (hby:i.bytes=bytes) (hzs:z.cells.size=size) (hsz:0<size)
  (v:Value) (n:Nat) (xs:List Value) (hs:a.eval s=v) (hown:w.ownsRow base e size v n xs)
  (m c:Nat) (news:List Value) (hx:a.eval x=.slice (some ⟨w.heap.size,0,none⟩) m c) (hl:news.length=m*size) (h1:∀ u ∈ news,u.oneCell'=true)
  (h63:n+m≤maxLen) (hbytes:(n+m)*bytes≤140737488355328) (hbase:base≤w.heap.size)
  (h:∀ v' w',w'.ownsRow base e size v' (n+m) (xs++news)→Below base w w'→w.grownBy w' v.ownBlock→(v'.ownBlock=v.ownBlock∨∃ g,v'.ownBlock=some g∧w.heap.size≤g)→wpList P ops Q rest (a.put o.dst v') w') :
  wpList P ops Q (o :: rest) a (w.alloc (.cells news.toArray e)):=by
 refine wpList_plain hgd fun _ hK=>?_
 have hr:Reads (w.alloc (.cells news.toArray e)) (w.alloc (.cells news.toArray e)).heap.size size (some ⟨w.heap.size,0,none⟩) m news:=by
  have:=Reads.new w news.toArray e (0,0) (n:=m) (size:=size) (by simpa using hl)
  simpa using this
 refine wp_append_any (w.alloc (.cells news.toArray e)) s x t ho base e i z size bytes ht hi hz hsize hby hzs hsz v n xs hs (hown.alloc _) _ _ m c news hx hr h1 h63 hbytes (by simp;omega) fun v' w' h2 h3 h4=>hK _ _ ?_;have hg:w.grownBy w' v.ownBlock:=⟨h3.os,h3.tape,h3.output,Nat.le_trans (by simp) h3.size,fun i hi hne=>(h3.block i (by simp;omega) hne).trans (Below.heap_alloc w _ i hi)⟩;refine h v' w' h2 ⟨hg.os,hg.tape,hg.output,hg.size,fun i hi=>hg.block i (by omega) (fun e'=>?_)⟩ hg ?_
 ·have:=hown.lt i e'.symm;omega
 ·rcases h4 with h4|h4
  ·exact .inl h4
  ·exact .inr ⟨_,h4,by simp⟩
end
def Blk (w:World) (g:Nat) (t:TypeId) (cs:Array Value):Prop:=w.heap[g]?=some (.cells cs t (0,0))
section
variable {w w':World} {g:Nat} {t:TypeId} {cs:Array Value}
theorem Blk.lt (h:Blk w g t cs):g<w.heap.size:=by
 rcases Nat.lt_or_ge g w.heap.size with hlt|hge
 ·exact hlt
 ·unfold Blk at h;rw [Array.getElem?_eq_none hge] at h;cases h
theorem Blk.cell (h:Blk w g t cs) (i:Nat):w.cell? ⟨g,i,none⟩=cs[i]?:=cell_of_row w g i cs t (0,0) h
theorem Blk.frozen (h:Blk w g t cs) (i:Nat):w.frozen? ⟨g,i,none⟩=false:=by
 unfold Blk at h;simp [World.frozen?,h]
theorem Blk.new (w:World) (t:TypeId) (cs:Array Value):Blk (w.alloc (.cells cs t)) w.heap.size t cs:=heap_alloc_new w _
theorem Blk.drew (h:Blk w g t cs):Blk w.drew g t cs:=h
theorem Blk.drewN (h:Blk w g t cs) (n:Nat):Blk (w.drewN n) g t cs:=h
theorem Blk.alloc (h:Blk w g t cs) (o:Obj):Blk (w.alloc o) g t cs:=(Below.heap_alloc w o g h.lt).trans h
theorem Blk.set_ (h:Blk w g t cs) (i:Nat) (u:Value):Blk (w.setCell ⟨g,i,none⟩ u) g t (cs.setIfInBounds i u):=by
 unfold Blk at h ⊢;simp [World.setCell,Array.getElem?_modify,h]
theorem Blk.far (h:Blk w g t cs) {p:Addr} (hp:g≠p.block) (u:Value):Blk (w.setCell p u) g t cs:=(Below.heap_setCell w p u g hp).trans h
theorem Blk.below {B:Nat} (h:Blk w g t cs) (hb:Below B w w') (hg:g<B):Blk w' g t cs:=(hb.block g hg).trans h
theorem Blk.grown {row:Option Nat} (h:Blk w g t cs) (hb:w.grownBy w' row) (hg:some g≠row):Blk w' g t cs:=(hb.block g h.lt hg).trans h
theorem Blk.ne_ {g':Nat} {t':TypeId} {cs':Array Value} (h:Blk w g t cs) (h':Blk w g' t' cs') (hne:t≠t'):g≠g':=by
 rintro rfl;unfold Blk at h h';rw [h] at h';injection h' with h';injection h' with _ ht;exact hne ht
theorem own_blk_ne {base:Nat} {e:TypeId} {size n:Nat} {v:Value} {xs:List Value} (h:w.ownsRow base e size v n xs) (hg:Blk w g t cs) (hne:e≠t):v.ownBlock≠some g:=by
 rcases h.2 with ⟨rfl,_⟩|⟨g',cap,cur,rfl,_,hh,_⟩
 ·simp [Value.ownBlock]
 ·intro he
  have:g'=g:=by simpa [Value.ownBlock] using he
  subst this;exact Blk.ne_ (t:=e) hh hg hne rfl
end
theorem Blk.keeps {X:Nat→Prop} {w w':World} {g:Nat} {t:TypeId} {cs:Array Value} (h:Blk w g t cs) (hk:Keeps X w w') (hg:¬ X g):Blk w' g t cs:=(hk.block g h.lt hg).trans h
theorem Blk.newAt (w:World) (t:TypeId) (cs:Array Value) {g:Nat} (hg:g=w.heap.size):Blk (w.alloc (.cells cs t)) g t cs:=by subst hg;exact Blk.new w t cs
section
variable {α:Type} (f:α→List Value) {size:Nat} (hf:∀ c,(f c).length=size)
include hf
theorem len_flat (l:List α):(l.flatMap f).length=l.length*size:=by
 induction l with
 | nil=>simp
 | cons c l ih=>rw [List.flatMap_cons,List.length_append,ih,hf,List.length_cons,Nat.add_mul];omega
theorem get_flat (l:List α):∀ (n j:Nat) (hn:n<l.length),j<size→(l.flatMap f)[n*size+j]?=(f l[n])[j]?:=by
 induction l with
 | nil=>intro n j hn;simp at hn
 | cons c l ih =>
  intro n j hn hj;rw [List.flatMap_cons]
  cases n with
  | zero=>rw [Nat.zero_mul,Nat.zero_add,List.getElem?_append_left (by rw [hf];exact hj)];rfl
  | succ n =>
   rw [List.getElem?_append_right (by rw [hf,Nat.add_mul];omega),hf,show (n+1)*size+j-size=n*size+j by rw [Nat.add_mul];omega];exact ih n j (by simpa using hn) hj
theorem Reads.row_at {w:World} {b off:Nat} {l:List α} (hc:∀ j,j<(l.flatMap f).length→w.cell? ⟨b,off+j,none⟩=(l.flatMap f)[j]?) {n:Nat} (hn:n<l.length) (j:Nat) (hj:j<size) :
  w.cell? ⟨b,off+n*size+j,none⟩=(f l[n])[j]?:=by
 have h1:n*size+j<l.length*size:=by
  have:(n+1)*size≤l.length*size:=Nat.mul_le_mul_right _ hn;rw [Nat.add_mul] at this;omega
 rw [Nat.add_assoc,hc _ (by rw [len_flat f hf];exact h1),get_flat f hf l n j hn hj]
end
theorem ownsRow_slice {w:World} {base:Nat} {e:TypeId} {size:Nat} {v:Value} {n:Nat} {xs:List Value} (h:w.ownsRow base e size v n xs):∃ A c,v=.slice A n c:=by
 rcases h.2 with ⟨rfl,rfl⟩|⟨g,cap,_,rfl,_⟩
 ·exact ⟨none,0,rfl⟩
 ·exact ⟨_,cap,rfl⟩
theorem wpList_append_newAt {P:Program} {Q:Exit→Act→World→Prop} {w:World} {ops:Array Oper} {rest:List Oper} {o:Oper} {a:Act} (hgd:o.guard=none) (s x:Operand) (t:TypeId)
  (ho:o.op=.call { callee:=.builtin .append,args:=#[s,x],argTypes:=#[t,t] })
  (base:Nat) (e:TypeId) (i:TypeInfo) (z:Value) (size bytes:Nat) (ht:P.underlying t=some (.slice e)) (hi:P.info? e=some i) (hz:i.zero=some z)
  (hsize:i.size=size) (hby:i.bytes=bytes) (hzs:z.cells.size=size) (hsz:0<size)
  (v:Value) (n:Nat) (xs:List Value) (hs:a.eval s=v) (hown:w.ownsRow base e size v n xs)
  (m c g:Nat) (hg:g=w.heap.size) (news:List Value) (hx:a.eval x=.slice (some ⟨g,0,none⟩) m c) (hl:news.length=m*size) (h1:∀ u ∈ news,u.oneCell'=true)
  (h63:n+m≤maxLen) (hbytes:(n+m)*bytes≤140737488355328) (hbase:base≤w.heap.size)
  (h:∀ v' w',w'.ownsRow base e size v' (n+m) (xs++news)→Below base w w'→w.grownBy w' v.ownBlock→(v'.ownBlock=v.ownBlock∨∃ g,v'.ownBlock=some g∧w.heap.size≤g)→wpList P ops Q rest (a.put o.dst v') w') :
  wpList P ops Q (o :: rest) a (w.alloc (.cells news.toArray e)):=by
 subst hg;exact wpList_append_new hgd s x t ho base e i z size bytes ht hi hz hsize hby hzs hsz v n xs hs hown m c news hx hl h1 h63 hbytes hbase h
section
variable {α:Type} (f:α→List Value) {size:Nat} (hf:∀ c,(f c).length=size)
include hf
end
theorem Keeps.set1 (w:World) (g i:Nat) (v:Value):Keeps (· = g) w (w.setCell ⟨g,i,none⟩ v):=Keeps.setCell (X:=(· = g)) (p:=⟨g,i,none⟩) (.inl rfl) v
theorem two (w1:World) (g:Nat) (t:TypeId) (a0 a1 b0 b1:Value) (h:Blk w1 g t #[a0,a1]) :
  Blk ((w1.setCell ⟨g,0,none⟩ b0).setCell ⟨g,1,none⟩ b1) g t #[b0,b1]∧Keeps (· = g) w1 ((w1.setCell ⟨g,0,none⟩ b0).setCell ⟨g,1,none⟩ b1) :=
 ⟨by have:=(h.set_ 0 b0).set_ 1 b1;simpa using this,(Keeps.set1 _ _ _ _).trans (Keeps.set1 _ _ _ _)⟩
theorem below_keeps {B:Nat} {w w1 w2:World} {X:Nat→Prop} (h:Below B w w1) (hB:B≤w.heap.size) (k:Keeps X w1 w2) (hX:∀ i,i<B→¬ X i):Below B w w2:=h.trans (k.below hX (Nat.le_trans hB h.size))
theorem below_new (w:World) (o:Obj):Below w.heap.size w (w.alloc o):=(Below.refl _ _).alloc (Nat.le_refl _) _
theorem below_step {w w1 w2:World} (h:Below w.heap.size w w1) (h2:Below w1.heap.size w1 w2):Below w.heap.size w w2:=h.trans (h2.mono h.size)
theorem below_alloc {w w1:World} (h:Below w.heap.size w w1) (o:Obj):Below w.heap.size w (w1.alloc o):=h.alloc h.size o
theorem below_kept {w w1 w2:World} {X:Nat→Prop} (h:Below w.heap.size w w1) (k:Keeps X w1 w2) (hX:∀ i,X i→w.heap.size≤i):Below w.heap.size w w2:=below_keeps h (Nat.le_refl _) k (fun i hi hx=>by have:=hX i hx;omega)
theorem Reads.at_some {w:World} {B size n:Nat} {A:Option Addr} {xs:List Value} (h:Reads w B size A n xs) (hn:0<n):∃ b off,A=some ⟨b,off,none⟩∧b<B:=by
 obtain ⟨b,off,e,hb,_⟩:=h.2 hn;exact ⟨b,off,e,hb⟩
theorem Reads.get {w:World} {B size n b off j:Nat} {xs:List Value} {v:Value} (h:Reads w B size (some ⟨b,off,none⟩) n xs) (hn:0<n) (hj:xs[j]?=some v):w.cell? ⟨b,off+j,none⟩=some v:=by
 obtain ⟨b',off',e,_,hc⟩:=h.2 hn;injection e with e;injection e with e1 e2 _;subst e1 e2;rw [hc j (List.getElem?_eq_some_iff.1 hj).1,hj]
theorem Reads.int {w:World} {B n b off k:Nat} {kd:IntKind} {zs:List Int} (h:Reads w B 1 (some ⟨b,off,none⟩) n (zs.map (Value.int kd))) (hk:k<n):w.cell? ⟨b,off+k,none⟩=some (.int kd (zs.getD k 0)):=by
 have hl:=h.1;simp at hl
 refine h.get (by omega) ?_;simp [List.getD_eq_getElem?_getD,List.getElem?_eq_getElem (show k<zs.length by omega)]
theorem Reads.thing {α:Type} (f:α→List Value) {size:Nat} (hf:∀ c,(f c).length=size) {w:World} {B b off n:Nat} {l:List α} (h:Reads w B size (some ⟨b,off,none⟩) n (l.flatMap f)) {k:Nat} {x:α} (hk:k<n) (hx:l[k]?=some x) (j:Nat) (hj:j<size) :
  w.cell? ⟨b,off+k*size+j,none⟩=(f x)[j]?:=by
 obtain ⟨b',off',e,_,hc⟩:=h.2 (by omega);injection e with e;injection e with e1 e2 _;subst e1 e2;obtain ⟨hk',rfl⟩:=List.getElem?_eq_some_iff.1 hx;exact Reads.row_at f hf hc hk' j hj
theorem heap_lt {w:World} {g:Nat} {o:Obj} (h:w.heap[g]?=some o):g<w.heap.size:=by
 rcases Nat.lt_or_ge g w.heap.size with hlt|hge
 ·exact hlt
 ·rw [Array.getElem?_eq_none hge] at h;cases h
theorem own_keeps {X:Nat→Prop} {w w':World} {base:Nat} {e:TypeId} {size n:Nat} {v:Value} {xs:List Value} (h:w.ownsRow base e size v n xs) (hk:Keeps X w w') (hx:∀ g,base≤g→¬ X g):w'.ownsRow base e size v n xs :=
 ⟨h.1,h.2.imp id fun ⟨g,cap,cur,e,h1,h2,r⟩=>⟨g,cap,cur,e,h1,(hk.block g (heap_lt h2) (hx g h1)).trans h2,r⟩⟩
theorem own_below {w w':World} {base:Nat} {e:TypeId} {size n:Nat} {v:Value} {xs:List Value} (h:w.ownsRow base e size v n xs) (hb:Below w.heap.size w w'):w'.ownsRow base e size v n xs :=
 own_keeps h (X:=nobody) (.of_below hb) (fun _ _ h=>h)
theorem below_ofDrew {w w1:World} (h:Below w.drew.heap.size w.drew w1):Below w.heap.size w w1:=⟨h.os,h.tape,h.output,h.size,h.block⟩
end base
namespace map_
open Go.RowKit base Go.Maps Go.ChangeMaps Go.MapKept Go.WideElems
structure Emb (P:Program) (K:TypeId) (κ:Type) where
 en:κ→Value
 inj:∀ {x y},en x=en y→x=y
 ok:κ→Prop
 key:∀ x,ok x→∃ l,keyOf P K (en x)=some l
section
variable {P:Program} {K T E:TypeId} {κ:Type} {Em:Emb P K κ} {w w':World} {b:Nat} {m:List (κ × Value)}
def Apart (m:List (κ × Value)):Prop:=(m.map (·.1)).Nodup
def MapM (Em:Emb P K κ) (w:World) (b:Nat) (m:List (κ × Value)):Prop :=
 ∃ es clock,w.heap[b]?=some (.map es clock)∧Stamped es clock∧es.toList.map (fun e=>(e.key,e.val))=m.map (fun p=>(Em.en p.1,p.2))∧∀ p ∈ m,Em.ok p.1
theorem keeps_block (w:World) (b:Nat) (o:Obj):Keeps (· = b) w (setBlock w b o) :=
 ⟨rfl,rfl,rfl,by simp [setBlock],fun i _ hx=>by
  have hx:i≠b:=hx;simp [setBlock,Ne.symm hx]⟩
theorem MapM.lt (h:MapM Em w b m):b<w.heap.size:=by obtain ⟨es,clock,hb,_⟩:=h;exact heap_lt hb
theorem MapM.keeps {X:Nat→Prop} (h:MapM Em w b m) (hk:Keeps X w w') (hx:¬ X b):MapM Em w' b m:=by
 obtain ⟨es,clock,hb,r⟩:=h;exact ⟨es,clock,(hk.block b (heap_lt hb) hx).trans hb,r⟩
theorem MapM.below (h:MapM Em w b m) (hk:Below w.heap.size w w'):MapM Em w' b m:=h.keeps (X:=nobody) (.of_below hk) (fun h=>h)
theorem MapM.new (Em:Emb P K κ) (w:World):MapM Em (w.alloc (.map #[] 0)) w.heap.size [] :=
 ⟨#[],0,(MapKept.heap_alloc w _).1,stamped_empty 0,by simp,by simp⟩
theorem MapM.not_blk {t:TypeId} {cs:Array Value} (h:MapM Em w b m) {g:Nat} (hg:Blk w g t cs):g≠b:=fun e=>by
 subst e;obtain ⟨es,clock,hb,_⟩:=h;unfold Blk at hg;rw [hb] at hg;cases hg
theorem apart_of {es:Array MapEntry} {clock:Nat} (hs:Stamped es clock) (hm:es.toList.map (fun e=>(e.key,e.val))=m.map (fun p=>(Em.en p.1,p.2))):Apart m:=by
 have h1:es.toList.map (·.key)=m.map (fun p=>Em.en p.1):=by
  have:=congrArg (List.map Prod.fst) hm
  simpa [List.map_map,Function.comp_def] using this
 have h2:=hs.2.2;rw [h1] at h2;unfold Apart;exact List.pairwise_map.2 ((List.pairwise_map.1 h2).imp fun h e=>h (congrArg Em.en e))
theorem MapM.apart (h:MapM Em w b m):Apart m:=by obtain ⟨es,clock,_,hs,hm,_⟩:=h;exact apart_of hs hm
theorem at_of {es:Array MapEntry} (hm:es.toList.map (fun e=>(e.key,e.val))=m.map (fun p=>(Em.en p.1,p.2))) (j:Nat) {e:MapEntry} (hj:es.toList[j]?=some e):∃ p,m[j]?=some p∧e.key=Em.en p.1∧e.val=p.2:=by
 have:=congrArg (fun l=>l[j]?) hm;simp only [List.getElem?_map,hj,Option.map_some] at this
 cases hp:m[j]? with
 | none=>rw [hp] at this;cases this
 | some p=>rw [hp] at this;simp at this;exact ⟨p,rfl,this.1,this.2⟩
end
section
variable {κ:Type} [DecidableEq κ]
def getM (m:List (κ × Value)) (x:κ):Option Value:=(m.find? fun p=>decide (p.1=x)).map (·.2)
def setM (m:List (κ × Value)) (x:κ) (v:Value):List (κ × Value):=m.map fun p=>if p.1=x then (x,v) else p
def putM (m:List (κ × Value)) (x:κ) (v:Value):List (κ × Value):=if (getM m x).isSome then setM m x v else m++[(x,v)]
theorem get_none {m:List (κ × Value)} {x:κ}:getM m x=none↔∀ p ∈ m,p.1≠x:=by
 unfold getM;rw [Option.map_eq_none_iff,List.find?_eq_none];simp
theorem get_at {m:List (κ × Value)} (h:Apart m) {j:Nat} {x:κ} {v:Value} (hj:m[j]?=some (x,v)):getM m x=some v:=by
 induction m generalizing j with
 | nil=>simp at hj
 | cons p m ih =>
  unfold Apart at h;simp only [List.map_cons,List.nodup_cons] at h;unfold getM;rw [List.find?_cons]
  cases j with
  | zero=>simp at hj;subst hj;simp
  | succ j =>
   simp at hj
   have hne:p.1≠x:=fun e=>h.1 (by rw [e];exact List.mem_map.2 ⟨(x,v),List.mem_of_getElem? hj,rfl⟩);rw [decide_eq_false hne];exact ih h.2 hj
theorem get_mem {m:List (κ × Value)} {x:κ} {v:Value} (h:getM m x=some v):(x,v) ∈ m:=by
 unfold getM at h;obtain ⟨p,hp,rfl⟩:=Option.map_eq_some_iff.1 h;have h1:=List.find?_some hp;have h2:=List.mem_of_find?_eq_some hp;simp at h1
 subst h1;exact h2
theorem get_put (m:List (κ × Value)) (x y:κ) (v:Value):getM (putM m x v) y=if y=x then some v else getM m y:=by
 unfold putM
 cases hx:getM m x with
 | none =>
  simp only [Option.isSome_none,Bool.false_eq_true,if_false];unfold getM;rw [List.find?_append]
  by_cases hy:y=x
  ·subst hy
   have:m.find? (fun p=>decide (p.1=y))=none:=by
    unfold getM at hx;exact Option.map_eq_none_iff.1 hx
   rw [this];simp
  ·rw [if_neg hy]
   have h2:[(x,v)].find? (fun p=>decide (p.1=y))=none:=by simp [Ne.symm hy]
   rw [h2];simp
 | some u =>
  simp only [Option.isSome_some,if_true];unfold setM getM;rw [List.find?_map]
  by_cases hy:y=x
  ·subst hy
   rw [if_pos rfl]
   have h1:((fun p:κ × Value=>decide (p.1=y)) ∘ fun p=>if p.1=y then (y,v) else p)=fun p=>decide (p.1=y):=by
    funext p;simp only [Function.comp];split <;> simp_all
   rw [h1];unfold getM at hx;obtain ⟨p,hp,_⟩:=Option.map_eq_some_iff.1 hx;rw [hp];have:=List.find?_some hp;simp at this
   simp [this]
  ·rw [if_neg hy]
   have h1:((fun p:κ × Value=>decide (p.1=y)) ∘ fun p=>if p.1=x then (x,v) else p)=fun p=>decide (p.1=y):=by
    funext p;simp only [Function.comp];split
    ·simp_all [Ne.symm hy]
    ·rfl
   rw [h1]
   cases hf:m.find? (fun p=>decide (p.1=y)) with
   | none=>rfl
   | some p =>
    have:=List.find?_some hf;simp at this
    simp [this,hy]
theorem set_at {m:List (κ × Value)} (h:Apart m) {j:Nat} {x:κ} {u v:Value} (hj:m[j]?=some (x,u)):setM m x v=m.set j (x,v):=by
 induction m generalizing j with
 | nil=>simp at hj
 | cons p m ih =>
  unfold Apart at h;simp only [List.map_cons,List.nodup_cons] at h
  cases j with
  | zero =>
   simp at hj;subst hj
   simp only [setM,List.map_cons,if_true,List.set_cons_zero]
   congr 1
   refine (List.map_congr_left fun q hq=>?_).trans (List.map_id _);rw [if_neg];rfl;intro e;exact h.1 (by rw [←e];exact List.mem_map.2 ⟨q,hq,rfl⟩)
  | succ j =>
   simp at hj
   have hne:p.1≠x:=fun e=>h.1 (by rw [e];exact List.mem_map.2 ⟨(x,u),List.mem_of_getElem? hj,rfl⟩);simp only [setM,List.map_cons,if_neg hne,List.set_cons_succ]
   congr 1
   exact ih h.2 hj
section
variable {P:Program} {K T E:TypeId} {Em:Emb P K κ} {w:World} {b:Nat} {m:List (κ × Value)}
theorem find_of (Kd:Keyed P K) {es:Array MapEntry} {clock:Nat} (hs:Stamped es clock) (hm:es.toList.map (fun e=>(e.key,e.val))=m.map (fun p=>(Em.en p.1,p.2))) (hok:∀ p ∈ m,Em.ok p.1) (w:World) {x:κ} (hx:Em.ok x) :
  ((Instr.findKey K (Em.en x) es.toList).run P w=.ok none w∧getM m x=none∧∀ e ∈ es.toList,e.key≠Em.en x) ∨
  ∃ j e,(Instr.findKey K (Em.en x) es.toList).run P w=.ok (some (j,e.val)) w∧es.toList[j]?=some e∧e.key=Em.en x∧m[j]?=some (x,e.val)∧getM m x=some e.val:=by
 obtain ⟨lx,hlx⟩:=Em.key x hx
 have hkeys:∀ e ∈ es.toList,∃ l,keyOf P K e.key=some l:=by
  intro e he;obtain ⟨j,hj,rfl⟩:=List.getElem_of_mem he;obtain ⟨p,hp,h1,_⟩:=at_of hm j (List.getElem?_eq_getElem hj);rw [h1];exact Em.key p.1 (hok p (List.mem_of_getElem? hp))
 rcases Kd.find w hlx es.toList hkeys with ⟨h1,h2⟩|⟨j,e,h1,h2,h3⟩
 ·refine .inl ⟨h1,get_none.2 fun p hp hpx=>?_,h2⟩
  have hmem:(Em.en p.1,p.2) ∈ es.toList.map (fun e=>(e.key,e.val)):=by rw [hm];exact List.mem_map.2 ⟨p,hp,rfl⟩
  obtain ⟨e,he,hee⟩:=List.mem_map.1 hmem;simp at hee
  exact h2 e he (by rw [hee.1,hpx])
 ·obtain ⟨⟨px,pv⟩,hp,h4,h5⟩:=at_of hm j h2
  have hpx:px=x:=Em.inj (by rw [←h4,h3]);simp only at h5;subst hpx h5;exact .inr ⟨j,e,h1,h2,h3,hp,get_at (apart_of hs hm) hp⟩
theorem MapM.look (h:MapM Em w b m) (Kd:Keyed P K) (ht:P.underlying T=some (.map K E)) {z:Value} (hz:(zeroValue E).run P w=.ok z w) {x:κ} (hx:Em.ok x) :
  (Instr.lookup T (.map (some b)) (Em.en x) false).run P w=.ok ((getM m x).getD z) w:=by
 obtain ⟨es,clock,hb,hs,hm,hok⟩:=h;obtain ⟨lx,hlx⟩:=Em.key x hx
 rcases find_of Kd hs hm hok w hx with ⟨h1,h2,_⟩|⟨j,e,h1,h2,h3,h4,h5⟩
 ·simp [Instr.lookup,run_underlying ht,MapKept.run_getObj_map hb,Kd.check w _ hlx,h1,hz,Result.andThen,h2]
 ·simp [Instr.lookup,run_underlying ht,MapKept.run_getObj_map hb,Kd.check w _ hlx,h1,Result.andThen,h5]
theorem MapM.look_ok (h:MapM Em w b m) (Kd:Keyed P K) (ht:P.underlying T=some (.map K E)) {z:Value} (hz:(zeroValue E).run P w=.ok z w) {x:κ} (hx:Em.ok x) :
  (Instr.lookup T (.map (some b)) (Em.en x) true).run P w=.ok (.tuple #[(getM m x).getD z,.bool (getM m x).isSome]) w:=by
 obtain ⟨es,clock,hb,hs,hm,hok⟩:=h;obtain ⟨lx,hlx⟩:=Em.key x hx
 rcases find_of Kd hs hm hok w hx with ⟨h1,h2,_⟩|⟨j,e,h1,h2,h3,h4,h5⟩
 ·simp [Instr.lookup,run_underlying ht,MapKept.run_getObj_map hb,Kd.check w _ hlx,h1,hz,Result.andThen,h2]
 ·simp [Instr.lookup,run_underlying ht,MapKept.run_getObj_map hb,Kd.check w _ hlx,h1,Result.andThen,h5]
theorem MapM.put (h:MapM Em w b m) (Kd:Keyed P K) (ht:P.underlying T=some (.map K E)) {x:κ} (hx:Em.ok x) (v:Value) :
  ∃ w',(Instr.mapUpdate T (.map (some b)) (Em.en x) v).run P w=.ok () w'∧MapM Em w' b (putM m x v)∧Keeps (· = b) w w':=by
 obtain ⟨es,clock,hb,hs,hm,hok⟩:=h;obtain ⟨lx,hlx⟩:=Em.key x hx
 rcases find_of Kd hs hm hok w hx with ⟨h1,h2,h3⟩|⟨j,e,h1,h2,h3,h4,h5⟩
 ·refine ⟨setBlock w b (.map (es.push ⟨Em.en x,v,clock⟩) (clock+1)),?_,⟨_,_,heap_setBlock_same hb _,stamped_push hs h3,?_,?_⟩,keeps_block w b _⟩
  ·simp [Instr.mapUpdate,run_underlying ht,MapKept.run_getObj_map hb,Kd.check w false hlx,h1,MapKept.run_setObj_map _ hb,Result.andThen,setBlock]
  ·unfold putM
   rw [h2];simp [hm]
  ·unfold putM
   rw [h2];intro p hp;simp at hp
   rcases hp with hp|rfl
   ·exact hok p hp
   ·exact hx
 ·have hj:es[j]?=some e:=by simpa using h2
  have hset:putM m x v=m.set j (x,v):=by
   unfold putM;rw [h5];exact set_at (apart_of hs hm) h4
  have hlist:(es.modify j (fun e'=>{ e' with key:=Em.en x,val:=v })).toList=es.toList.set j { e with key:=Em.en x,val:=v }:=by rw [Array.toList_modify,modify_eq_set _ _ _ _ h2]
  refine ⟨setBlock w b (.map (es.modify j (fun e'=>{ e' with key:=Em.en x,val:=v })) clock),?_,⟨_,_,heap_setBlock_same hb _,stamped_modify hs _ _ (fun _ _=>rfl) (fun e' _ he'=>by rw [hj] at he';cases he';exact h3.symm),?_,?_⟩,keeps_block w b _⟩
  ·simp [Instr.mapUpdate,run_underlying ht,MapKept.run_getObj_map hb,Kd.check w false hlx,h1,hj,h3,Kd.stays w hlx,MapKept.run_setObj_map _ hb,Result.andThen,setBlock]
  ·rw [hset,hlist,List.map_set,List.map_set,hm]
  ·rw [hset]
   intro p hp
   rcases List.mem_or_eq_of_mem_set hp with hp|rfl
   ·exact hok p hp
   ·exact hx
theorem block_set {w2:World} {b:Nat} {o:Obj} (hb:b<w2.heap.size):(setBlock w2 b o).heap[b]?=some o:=by
 simp [setBlock,hb]
end
end
end map_
namespace rowe
open Go.RowKit base
section
variable {P:Program} {w:World}
theorem setRow_keeps (w:World) (g:Nat) (cs:Array Value):Keeps (· = g) w (w.setRow g cs) :=
 ⟨rfl,rfl,rfl,by simp,fun i _ hi=>setRow_other w g i cs hi⟩
theorem setRow_blk {g:Nat} {t:TypeId} {old:Array Value} (cs:Array Value) (h:Blk w g t old):Blk (w.setRow g cs) g t cs:=setRow_heap w g old cs t (0,0) h
def putAt (cur:List Value) (o:Nat) (vs:List Value):List Value:=cur.take o++vs++cur.drop (o+vs.length)
theorem putAt_len {cur vs:List Value} {o:Nat} (h:o+vs.length≤cur.length):(putAt cur o vs).length=cur.length:=by
 unfold putAt;simp;omega
theorem run_loadVar_at {ty:TypeId} {d:TypeDesc} {b o:Nat} {cs:List Value} (hu:P.underlying ty=some d) (hd:(match d with|.struct _|.array _ _=>true|_=>false)=true)
  (hi:(P.info? ty).map (·.size)=some cs.length) (hc:∀ j v,cs[j]?=some v→w.cell? ⟨b,o+j,none⟩=some v):(loadVar ty ⟨b,o,none⟩).run P w=.ok (.agg ⟨cs⟩) w:=by
 have hl:(loadCells ⟨b,o,none⟩ cs.length).run P w=.ok cs.toArray w :=
  run_loadCells_list (P:=P) w ⟨b,o,none⟩ cs (fun j v hv=>by rw [add_plain'];exact hc j v hv)
 cases hq:P.info? ty with
 | none=>simp [hq] at hi
 | some i =>
  have hs:i.size=cs.length:=by simpa [hq] using hi
  have hagg:(isAgg ty).run P w=.ok true w:=by
   unfold isAgg;rw [Sem.run_bind,run_underlying hu w]
   cases d <;> simp_all
  simp [loadVar,Sem.run_bind,hagg,sizeOf,typeInfo,hq,hs,hl]
theorem wp_load_at {o:Oper} {a:Act} {K:Act→World→Prop} {Q:Exit→Act→World→Prop} (ty:TypeId) (x:Operand) (ho:o.op=.load ty x) (b off:Nat) (cs:List Value)
  (hx:a.eval x=.pointer (some ⟨b,off,none⟩)) {d:TypeDesc} (hu:P.underlying ty=some d) (hd:(match d with|.struct _|.array _ _=>true|_=>false)=true)
  (hi:(P.info? ty).map (·.size)=some cs.length) (hc:∀ j v,cs[j]?=some v→w.cell? ⟨b,off+j,none⟩=some v) (h:K (a.put o.dst (.agg ⟨cs⟩)) w):o.wp P a w K Q:=by
 unfold Oper.wp execOp;simp only [ho,hx,Instr.loadAt,Instr.sureAddr,Sem.run_bind,Sem.run_pure,Result.andThen_ok,run_loadVar_at hu hd hi hc];exact h
theorem wpList_load_at {ops:Array Oper} {rest:List Oper} {o:Oper} {a:Act} {Q:Exit→Act→World→Prop} (hgd:o.guard=none) (ty:TypeId) (x:Operand) (ho:o.op=.load ty x) (b off:Nat) (cs:List Value)
  (hx:a.eval x=.pointer (some ⟨b,off,none⟩)) {d:TypeDesc} (hu:P.underlying ty=some d) (hd:(match d with|.struct _|.array _ _=>true|_=>false)=true)
  (hi:(P.info? ty).map (·.size)=some cs.length) (hc:∀ j v,cs[j]?=some v→w.cell? ⟨b,off+j,none⟩=some v) (h:wpList P ops Q rest (a.put o.dst (.agg ⟨cs⟩)) w):wpList P ops Q (o :: rest) a w :=
 wpList_plain hgd fun _ hK=>wp_load_at ty x ho b off cs hx hu hd hi hc (hK _ _ h)
theorem run_storeVar_at {ty t:TypeId} {g o:Nat} {old:Array Value} {vs:List Value} (hg:Blk w g t old) (hi:(P.info? ty).map (·.size)=some vs.length) (ho:o+vs.length≤old.size) (h1:vs.all (·.oneCell')=true) :
  (storeVar ty ⟨g,o,none⟩ (.agg ⟨vs⟩)).run P w=.ok () (w.setRow g (putAt old.toList o vs).toArray):=by
 have:=run_storeCells_at P g o t vs 0 old w hg (by simpa using ho) (fun v hv=>(List.all_eq_true.1 h1) v hv)
 cases hq:P.info? ty with
 | none=>simp [hq] at hi
 | some i =>
  have hs:vs.length=i.size:=by simp [hq] at hi;omega
  simp [storeVar,sizeOf,typeInfo,hq,Value.cells,hs,this,putAt]
theorem wp_store_at {o:Oper} {a:Act} {K:Act→World→Prop} {Q:Exit→Act→World→Prop} (ty:TypeId) (x y:Operand) (ho:o.op=.store ty x y) (g off:Nat) (vs:List Value)
  (hx:a.eval x=.pointer (some ⟨g,off,none⟩)) (hy:a.eval y=.agg ⟨vs⟩) {t:TypeId} {old:Array Value} (hg:Blk w g t old) (hi:(P.info? ty).map (·.size)=some vs.length)
  (hold:off+vs.length≤old.size) (h1:vs.all (·.oneCell')=true) (h:∀ w',Blk w' g t (putAt old.toList off vs).toArray→Keeps (· = g) w w'→w'.heap.size=w.heap.size→K (a.put o.dst undef) w'):o.wp P a w K Q:=by
 unfold Oper.wp execOp;simp only [ho,hx,hy,Instr.storeAt,Instr.sureAddr,Sem.run_bind,Sem.run_pure,Result.andThen_ok,run_storeVar_at hg hi hold h1];exact h _ (setRow_blk _ hg) (setRow_keeps _ _ _) (by simp)
theorem wpList_store_at {ops:Array Oper} {rest:List Oper} {o:Oper} {a:Act} {Q:Exit→Act→World→Prop} (hgd:o.guard=none) (ty:TypeId) (x y:Operand) (ho:o.op=.store ty x y) (g off:Nat) (vs:List Value)
  (hx:a.eval x=.pointer (some ⟨g,off,none⟩)) (hy:a.eval y=.agg ⟨vs⟩) {t:TypeId} {old:Array Value} (hg:Blk w g t old) (hi:(P.info? ty).map (·.size)=some vs.length)
  (hold:off+vs.length≤old.size) (h1:vs.all (·.oneCell')=true) (h:∀ w',Blk w' g t (putAt old.toList off vs).toArray→Keeps (· = g) w w'→w'.heap.size=w.heap.size→wpList P ops Q rest (a.put o.dst undef) w'):wpList P ops Q (o :: rest) a w :=
 wpList_plain hgd fun _ hK=>wp_store_at ty x y ho g off vs hx hy hg hi hold h1 (fun w' h2 h3 h4=>hK _ _ (h w' h2 h3 h4))
theorem putAt_all {cur vs:List Value} (h:vs.length=cur.length):putAt cur 0 vs=vs:=by
 unfold putAt;rw [List.drop_eq_nil_of_le (by omega)];simp
theorem wpList_store_blk {ops:Array Oper} {rest:List Oper} {o:Oper} {a:Act} {Q:Exit→Act→World→Prop} (hgd:o.guard=none) (ty:TypeId) (x y:Operand) (ho:o.op=.store ty x y) (g:Nat) (vs:List Value)
  (hx:a.eval x=.pointer (some ⟨g,0,none⟩)) (hy:a.eval y=.agg ⟨vs⟩) {t:TypeId} {old:Array Value} (hg:Blk w g t old) (hi:(P.info? ty).map (·.size)=some vs.length)
  (hold:old.size=vs.length) (h1:vs.all (·.oneCell')=true) (h:∀ w',Blk w' g t vs.toArray→Keeps (· = g) w w'→w'.heap.size=w.heap.size→wpList P ops Q rest (a.put o.dst undef) w'):wpList P ops Q (o :: rest) a w :=
 wpList_store_at hgd ty x y ho g 0 vs hx hy hg hi (by omega) h1 fun w' h2 h3 h4=>h w' (by rwa [putAt_all (by simpa using hold.symm)] at h2) h3 h4
end
end rowe
namespace monoj
open base
section
variable {P:Program} {ops:Array Oper} {Q:Exit→Act→World→Prop} {md:Region.Mode} {X:Nat→Prop} {mv:List Nat}
def moves (X:Nat→Prop) (mv:List Nat) (i:Nat):Nat→Prop:=fun b=>i ∈ mv∧X b
def wpMonoJ (P:Program) (md:Region.Mode) (ops:Array Oper) (Q:Exit→Act→World→Prop) (X:Nat→Prop) (mv:List Nat):Nat→Array Bool→Act→World→Prop
 | 0,listed,a,w=>Region.ready md ops listed=[]∧Q .normal a w
 | fuel+1,listed,a,w =>
  (Region.ready md ops listed=[]→Q .normal a w) ∧
  ∀ i ∈ Region.ready md ops listed,wpOp P ops Q i (fun a' w'=>Keeps (moves X mv i) w w'∧wpMonoJ P md ops Q X mv fuel (listed.setIfInBounds i true) a' w') a w
theorem wpAny_of_monoJ:∀ (fuel:Nat) (listed:Array Bool) (a:Act) (w:World),wpMonoJ P md ops Q X mv fuel listed a w→wpAny P md ops Q fuel listed a w
 | 0,_,_,_,h=>h
 | fuel+1,_,_,_,h=>⟨h.1,fun i hi=>wpOp_mono (fun a' w' h'=>wpAny_of_monoJ fuel _ a' w' h'.2) (h.2 i hi)⟩
theorem wpMonoJ_first {i:Nat} {oi:Oper} {v:Value} {D:List Nat} {Y:Nat→Prop} (hi:ops[i]?=some oi) (hsel:∀ (j:Nat) (o:Oper) cs b,ops[j]?=some o→o.op≠.select cs b)
  (hQ:∀ c a w,Q (.panic c) (a.put oi.dst v) w→Q (.panic c) a w)
  (hD:∀ d od,d ∈ D→ops[d]?=some od→∃ e ∈ od.after,Region.binds md e=true∧(e.on=i∨e.on ∈ D))
  (hX:∀ j,j ∉ D→j≠i→∀ b,moves X mv j b→Y b) :
  ∀ (fuel:Nat) (listed:Array Bool) (a:Act) (w:World),
   (∀ j oj,ops[j]?=some oj→j≠i→listed.getD j true=false→(∀ e ∈ oj.after,Region.binds md e=true→e.on≠i)→oi.apart ops oj=true) →
   (∀ d ∈ D,listed.getD d false=false) →
   i ∈ Region.ready md ops listed→YieldsIf P ops (Keeps Y w) oi v a→(i ∉ mv) →
   wpMonoJ P md ops Q X mv fuel (listed.setIfInBounds i true) (a.put oi.dst v) w→wpMonoJ P md ops Q X mv (fuel+1) listed a w:=by
 intro fuel
 induction fuel with
 | zero =>
  intro listed a w _ _ hr hy _ H;refine ⟨fun h=>(by rw [h] at hr;cases hr),fun j hj=>?_⟩
  by_cases hji:j=i
  ·subst hji;exact hy.wpOp hi (Keeps.refl _ _) ⟨Keeps.refl _ _,H⟩
  ·have:=ready_mono hj hji
   rw [H.1] at this
   cases this
 | succ fuel ih =>
  intro listed a w hfree hun hr hy him H;refine ⟨fun h=>(by rw [h] at hr;cases hr),fun j hj=>?_⟩
  by_cases hji:j=i
  ·subst hji;exact hy.wpOp hi (Keeps.refl _ _) ⟨Keeps.refl _ _,H⟩
  ·have h1:=H.2 j (ready_mono hj hji)
   obtain ⟨hjun,oj,hoj,hall⟩:=mem_ready.1 hj;have hi0:=(mem_ready.1 hr).1
   have hoff:∀ e ∈ oj.after,Region.binds md e=true→e.on≠i∧e.on ∉ D:=fun e he hb=>by
    have h1:=hall e he hb;refine ⟨fun heq=>?_,fun hd=>?_⟩
    ·rw [heq] at h1
     rcases Nat.lt_or_ge i listed.size with h'|h'
     ·simp [h'] at hi0 h1;rw [hi0] at h1;cases h1
     ·simp [Array.getElem?_eq_none h'] at h1
    ·rw [hun _ hd] at h1;cases h1
   have hjD:j ∉ D:=fun hd=>by
    obtain ⟨e,he,hb,h2⟩:=hD j oj hd hoj
    rcases h2 with h2|h2
    ·exact (hoff e he hb).1 h2
    ·exact (hoff e he hb).2 h2
   have hnot:∀ e ∈ oj.after,Region.binds md e=true→e.on≠i:=fun e he hb=>(hoff e he hb).1;have h2:=wpOp_putIf hoj (hfree j oj hoj hji hjun hnot) (fun cs b=>hsel i oi cs b hi) (fun cs b=>hsel j oj cs b hoj) hQ hy h1
   have hfree':∀ k ok,ops[k]?=some ok→k≠i→(listed.setIfInBounds j true).getD k true=false →
     (∀ e ∈ ok.after,Region.binds md e=true→e.on≠i)→oi.apart ops ok=true:=fun k ok hk hki hun hno=>by
    refine hfree k ok hk hki ?_ hno
    by_cases hjk:j=k
    ·subst hjk;exact hjun
    ·rw [getD_set_ne true hjk] at hun;exact hun
   have hun':∀ d ∈ D,(listed.setIfInBounds j true).getD d false=false:=fun d hd=>by
    rw [getD_set_ne false (fun e=>hjD (by rw [e];exact hd))];exact hun d hd
   refine wpOp_mono (fun a' w' h3=>⟨h3.2.1,ih (listed.setIfInBounds j true) a' w' hfree' hun' (ready_mono hr (Ne.symm hji)) (YieldsIf.weaken h3.1 (fun u hu=>?_)) him ?_⟩) h2
   ·exact Keeps.trans ⟨h3.2.1.os,h3.2.1.tape,h3.2.1.output,h3.2.1.size,fun b hb hx=>h3.2.1.block b hb (fun hm=>hx (hX j hjD hji b hm))⟩ hu
   ·rw [Array.setIfInBounds_comm _ _ hji]
    exact h3.2.2
def behind (md:Region.Mode) (ops:Array Oper) (i:Nat) (D:List Nat) (listed:Array Bool):Bool :=
 D.all fun d=>!listed.getD d false&&match ops[d]? with|some o=>o.after.any (fun e=>Region.binds md e&&(e.on==i || D.contains e.on))|none=>true
theorem wpMonoJ_takeD {i:Nat} {D:List Nat} {Y:Nat→Prop} {oi:Oper} {v:Value} {fuel:Nat} {listed:Array Bool} {a:Act} {w:World} (hi:ops[i]?=some oi)
  (hs:Region.noSelect ops=true) (hf:Region.free md ops listed i=true) (hr:(Region.ready md ops listed).contains i=true)
  (hQ:∀ c a w,Q (.panic c) (a.put oi.dst v) w→Q (.panic c) a w) (hb:behind md ops i D listed=true) (hmv:mv.contains i=false)
  (hX:∀ j,j ∉ D→j≠i→∀ b,moves X mv j b→Y b) (hy:YieldsIf P ops (Keeps Y w) oi v a)
  (h:wpMonoJ P md ops Q X mv fuel (listed.setIfInBounds i true) (a.put oi.dst v) w):wpMonoJ P md ops Q X mv (fuel+1) listed a w:=by
 have hb':=List.all_eq_true.1 hb;refine wpMonoJ_first hi (Region.noSelect_spec hs) hQ (D:=D) (fun d od hd hod=>?_) hX fuel listed a w (Region.free_spec hi hf) (fun d hd=>?_) (by simpa using hr) hy (by simpa using hmv) h
 ·have h1:=hb' d hd
  rw [hod] at h1;simp only [Bool.and_eq_true] at h1;obtain ⟨e,he,h2⟩:=Array.any_eq_true'.1 h1.2;simp only [Bool.and_eq_true,Bool.or_eq_true,beq_iff_eq,List.contains_iff_mem] at h2;exact ⟨e,he,h2.1,h2.2⟩
 ·have h1:=hb' d hd
  simp only [Bool.and_eq_true,Bool.not_eq_true'] at h1;exact h1.1
theorem wpMonoJ_take' (i:Nat) {oi:Oper} {v:Value} {fuel:Nat} {listed:Array Bool} {a:Act} {w:World} (hi:ops.toList[i]?=some oi)
  (hs:Region.noSelect ops=true) (hf:Region.free md ops listed i=true) (hr:(Region.ready md ops listed).contains i=true) (hmv:mv.contains i=false)
  (hQ:∀ c a w,Q (.panic c) (a.put oi.dst v) w→Q (.panic c) a w) (hg:Region.wanted oi (yielded ops a.tmps)=true) (hy:∀ w',Keeps X w w'→(execOp a.eval oi).run P w'=.ok (.value v) w')
  (h:wpMonoJ P md ops Q X mv fuel (listed.setIfInBounds i true) (a.put oi.dst v) w):wpMonoJ P md ops Q X mv (fuel+1) listed a w :=
 wpMonoJ_takeD (D:=[]) (Y:=X) (by simpa using hi) hs hf hr hQ rfl hmv (fun _ _ _ _ h=>h.2) (.inl ⟨hg,hy⟩) h
theorem wpMonoJ_read' (i:Nat) (D:List Nat) {oi:Oper} {v:Value} {fuel:Nat} {listed:Array Bool} {a:Act} {w:World} (hi:ops.toList[i]?=some oi)
  (hs:Region.noSelect ops=true) (hf:Region.free md ops listed i=true) (hr:(Region.ready md ops listed).contains i=true) (hmv:mv.contains i=false)
  (hb:behind md ops i D listed=true) (hall:mv.all (fun j=>D.contains j)=true)
  (hQ:∀ c a w,Q (.panic c) (a.put oi.dst v) w→Q (.panic c) a w) (hg:Region.wanted oi (yielded ops a.tmps)=true) (hy:∀ w',Keeps nobody w w'→(execOp a.eval oi).run P w'=.ok (.value v) w')
  (h:wpMonoJ P md ops Q X mv fuel (listed.setIfInBounds i true) (a.put oi.dst v) w):wpMonoJ P md ops Q X mv (fuel+1) listed a w :=
 wpMonoJ_takeD (D:=D) (Y:=nobody) (by simpa using hi) hs hf hr hQ hb hmv (fun j hj _ b hm=>by
  have:=List.all_eq_true.1 hall j hm.1;exact absurd (by simpa using this) hj) (.inl ⟨hg,hy⟩) h
theorem qJ (i:Nat) {P:Program} {md:Region.Mode} {ops:Array Oper} {Q:Exit→Act→World→Prop} {X:Nat→Prop} {mv:List Nat} {oi:Oper} {v:Value} {fuel:Nat} {listed:Array Bool} {a:Act} {w:World} (hy:∀ w',Keeps X w w'→(execOp a.eval oi).run P w'=.ok (.value v) w')
  (h:wpMonoJ P md ops Q X mv fuel (listed.setIfInBounds i true) (a.put oi.dst v) w) (hi:ops.toList[i]?=some oi:=by exact rfl)
  (hs:Region.noSelect ops=true:=by kernel_rfl) (hf:Region.free md ops listed i=true:=by decide +kernel) (hr:(Region.ready md ops listed).contains i=true:=by decide +kernel) (hmv:mv.contains i=false:=by rfl)
  (hQ:∀ c a w,Q (.panic c) (a.put oi.dst v) w→Q (.panic c) a w:=by exact fun _ _ _ h=>h) (hg:Region.wanted oi (yielded ops a.tmps)=true:=by rfl):wpMonoJ P md ops Q X mv (fuel+1) listed a w:=wpMonoJ_take' i hi hs hf hr hmv hQ hg hy h
theorem wpMonoJ_one' (i:Nat) {o:Oper} {fuel:Nat} {listed:Array Bool} {a:Act} {w:World} (hr:Region.ready md ops listed=[i]) (ho:ops.toList[i]?=some o) (hg:Region.wanted o (yielded ops a.tmps)=true)
  (h:∀ K':Act→World→Prop,Shut (∀ a w',Keeps (moves X mv i) w w'→wpMonoJ P md ops Q X mv fuel (listed.setIfInBounds i true) a w'→K' a w')→Oper.wp P o a w K' Q):wpMonoJ P md ops Q X mv (fuel+1) listed a w :=
 ⟨fun h0=>(by rw [hr] at h0;cases h0),fun j hj=>(by
  rw [hr,List.mem_singleton] at hj;subst hj;exact wpOp_step (by simpa using ho) (fun K' hK=>by rw [if_pos hg];exact h K' (fun a w' h1 h2=>hK a w' ⟨h1,h2⟩)))⟩
theorem wpMonoJ_two' (i j:Nat) {o o2:Oper} {fuel:Nat} {listed:Array Bool} {a:Act} {w:World} (hr:Region.ready md ops listed=[i,j]) (ho:ops.toList[i]?=some o) (hg:Region.wanted o (yielded ops a.tmps)=true) (ho2:ops.toList[j]?=some o2) (hg2:Region.wanted o2 (yielded ops a.tmps)=true)
  (h:∀ K':Act→World→Prop,Shut (∀ a w',Keeps (moves X mv i) w w'→wpMonoJ P md ops Q X mv fuel (listed.setIfInBounds i true) a w'→K' a w')→Oper.wp P o a w K' Q)
  (h2:∀ K':Act→World→Prop,Shut (∀ a w',Keeps (moves X mv j) w w'→wpMonoJ P md ops Q X mv fuel (listed.setIfInBounds j true) a w'→K' a w')→Oper.wp P o2 a w K' Q):wpMonoJ P md ops Q X mv (fuel+1) listed a w :=
 ⟨fun h0=>(by rw [hr] at h0;cases h0),fun k hk=>(by
  rw [hr] at hk
  rcases List.mem_cons.1 hk with hk|hk
  ·subst hk
   exact wpOp_step (by simpa using ho) (fun K' hK=>by rw [if_pos hg];exact h K' (fun a w' h1 h2=>hK a w' ⟨h1,h2⟩))
  ·rw [List.mem_singleton] at hk
   subst hk;exact wpOp_step (by simpa using ho2) (fun K' hK=>by rw [if_pos hg2];exact h2 K' (fun a w' h1 h2=>hK a w' ⟨h1,h2⟩)))⟩
theorem wpMonoJ_done {listed:Array Bool} {a:Act} {w:World} (hr:Region.ready md ops listed=[]) (h:Q .normal a w):∀ fuel,wpMonoJ P md ops Q X mv fuel listed a w
 | 0=>⟨hr,h⟩
 | _+1=>⟨fun _=>h,by rw [hr];simp⟩
theorem wp_region_monoJ (X:Nat→Prop) (mv:List Nat) {id:Nat} {a:Act} {w:World} (hm:P.follows .mixedOrders=true)
  (h:wpMonoJ P .any ops Q X mv ops.size (Array.replicate ops.size false) a w.drew):(Code.region id ops true).wp P Q a w:=wp_region_any hm (wpAny_of_monoJ _ _ _ _ h)
theorem moved {w w':World} {i:Nat} (h:Keeps X w w') (hi:i ∈ mv):Keeps (moves X mv i) w w':=⟨h.os,h.tape,h.output,h.size,fun b hb hx=>h.block b hb (fun h=>hx ⟨hi,h⟩)⟩
end
end monoj
namespace rowops
open Go.RowKit base rowe
section
variable {P:Program} {w:World}
theorem zeros_len (z:Array Value) (n:Nat):(Builtin.zeroCells z n).toList.length=n*z.size:=by simp [Builtin.zeroCells]
theorem zeros_mem {z:Array Value} {n:Nat} {v:Value} (hz:0<z.size) (h:v ∈ (Builtin.zeroCells z n).toList):v ∈ z.toList:=by
 simp only [Builtin.zeroCells,Array.toList_map,List.mem_map] at h;obtain ⟨i,_,rfl⟩:=h;have hlt:i % z.size<z.size:=Nat.mod_lt _ hz;rw [getElem!_pos z (i % z.size) hlt];simp
theorem run_clear_rows (t e ty:TypeId) (z:Value) (ht:P.underlying t=some (.slice e)) (hv:(zeroValue e).run P w=.ok z w) (hz0:0<z.cells.size) (h1:∀ v ∈ z.cells.toList,v.oneCell'=true)
  (g o n c:Nat) (cur:Array Value) (hn:0<n) (hg:w.heap[g]?=some (.cells cur e (0,0))) (hfit:o+n*z.cells.size≤cur.size) :
  (Builtin.clear_ #[t] ty #[.slice (some ⟨g,o,none⟩) n c]).run P w=.ok (.tuple #[]) (w.setRow g (putAt cur.toList o (Builtin.zeroCells z.cells n).toList).toArray):=by
 have hst:=run_storeCells_at P g o e (Builtin.zeroCells z.cells n).toList 0 cur w hg (by rw [zeros_len];simpa using hfit) (fun v hv=>h1 v (zeros_mem hz0 hv));simp only [Nat.add_zero] at hst;obtain ⟨m,rfl⟩:∃ m,n=m+1:=⟨n-1,by omega⟩;simp [Builtin.clear_,run_underlying ht,hv,hst,putAt]
end
end rowops
namespace crc
open Go.RowKit base num
theorem step_any (s c:Int) (w:World) (hs:0≤s∧s≤4294967295) (hc:0≤c∧c≤255) :
  Calls Tryz.prog 212 #[.int .u32 s,.int .u8 c] w fun e w'=>e=.returned (.int .u32 (stepI s c))∧w=w':=by
 obtain ⟨s,rfl⟩:=Int.eq_ofNat_of_zero_le hs.1;obtain ⟨c,rfl⟩:=Int.eq_ofNat_of_zero_le hc.1;go_enter Tryz.func212,Tryz.ntmps212;go_wp2
 go_loop [0,5] (fun x k=>∃ n:Nat,n≤8∧k=.int .i64 n∧x=.int .u32 ((rnds n ((s ^^^ 4294967295) ^^^ c):Nat):Int)) (fun _ k=>8-(intOf k).toNat)
 case atStart=>exact ⟨0,by omega,rfl,val_int (spell_start (by omega) (by omega))⟩
 case round =>
  obtain ⟨n,hn,rfl,rfl⟩:=hrel;have hlt':=rnds_lt n (xor_lt (xor_lt (show s<4294967296 by omega) (show 4294967295<4294967296 by omega)) (show c<4294967296 by omega))
  by_cases hlt:n<8
  ·go_wp2
   go_round
   case rel=>exact ⟨n+1,by omega,by go_num,val_int (spell_rnd hlt')⟩
   case measure=>simp [intOf];omega
  ·obtain rfl:n=8:=by omega
   go_wp2;go_ret
   exact ⟨ret_int (by rw [spell_end hlt'];simp [stepI,stepN]),rfl⟩
theorem sum_any (A:Option Addr) (len cap:Nat) (zs:List Int) (w:World) (hl:zs.length=len) (hm:len≤maxLen) (hr:Reads w w.heap.size 1 A len (zs.map (Value.int .u8))) (hz:∀ c ∈ zs,0≤c∧c≤255) :
  Calls Tryz.prog 164 #[.slice A len cap] w fun e w'=>e=.returned (.int .u32 (sumI zs))∧w=w':=by
 unfold maxLen at hm;have Hl:=qH hl;clear hl;have Hr:=qH hr;clear hr;go_enter Tryz.func164,Tryz.ntmps164;go_wp2
 go_loop [3,8] (fun x k=>∃ n:Nat,n≤len∧k=.int .i64 n∧x=.int .u32 (sumI (zs.take n))) (fun _ k=>len-(intOf k).toNat)
 case atStart=>exact ⟨0,by omega,rfl,rfl⟩
 case round =>
  obtain ⟨n,hn,rfl,rfl⟩:=hrel
  by_cases hlt:n<len
  ·obtain ⟨b,off,rfl,hb,hc⟩:=Hr.out.2 (by omega)
   have hcell:w.cell? ⟨b,off+n,none⟩=some (.int .u8 (zs.getD n 0)):=Reads.int_at hc (by rw [Hl.out];exact hlt);have hb:=sumI_bd (l:=zs.take n) (fun c h=>hz c (List.mem_of_mem_take h))
   have hcb:0≤zs.getD n 0∧zs.getD n 0≤255:=by
    have:n<zs.length:=by rw [Hl.out];exact hlt
    rw [List.getD_eq_getElem?_getD,List.getElem?_eq_getElem this];exact hz _ (List.getElem_mem this)
   clear hc
   go_wp2_with (go_at_call 212;refine (step_any _ _ _ hb hcb).mono ?_;rintro e w' ⟨rfl,rfl⟩)
   go_round
   case rel=>exact ⟨n+1,by omega,by go_num,val_int (take_succ_foldl zs n (by rw [Hl.out];exact hlt)).symm⟩
   case measure=>simp [intOf];omega
  ·obtain rfl:n=len:=by omega
   go_wp2;go_ret
   exact ⟨ret_int (by rw [List.take_of_length_le (by rw [Hl.out];exact Nat.le_refl _)]),rfl⟩
end crc
namespace rowc
open Go Go.RowKit Go.Lib base
def byt (l:List UInt8):List Value:=l.map fun b=>Value.int .u8 (b.toNat:Nat)
theorem byt_len (l:List UInt8):(byt l).length=l.length:=by simp [byt]
theorem byt_app (a b:List UInt8):byt (a++b)=byt a++byt b:=by simp [byt]
theorem byt_one (l:List UInt8):∀ u ∈ byt l,u.oneCell'=true:=by
 intro u hu;simp only [byt,List.mem_map] at hu;obtain ⟨b,_,rfl⟩:=hu;rfl
theorem strCells_byt (s:ByteArray):strCells s=byt s.data.toList:=by
 simp [strCells,byt]
structure RowC (w:World) (base:Nat) (e:TypeId) (v:Value) (l:List UInt8):Prop where
 is:(v=.slice none 0 0∧l=[])∨∃ (g cap:Nat) (cur:Array Value),v=.slice (some ⟨g,0,none⟩) l.length cap∧base≤g∧w.heap[g]?=some (.cells cur e (0,0))∧l.length≤cap∧cap≤cur.size∧cap≤maxLen∧cur.toList.take l.length=byt l
section
variable {P:Program} {w w':World} {base:Nat} {e:TypeId} {v:Value} {l:List UInt8}
theorem RowC.none_ (w:World) (base:Nat) (e:TypeId):RowC w base e (.slice none 0 0) []:=⟨.inl ⟨rfl,rfl⟩⟩
theorem RowC.of_own {n:Nat} (h:w.ownsRow base e 1 v n (byt l)):RowC w base e v l:=by
 have hl:l.length=n:=by have:=h.1;simpa [byt_len] using this
 subst hl
 rcases h.2 with ⟨rfl,h0⟩|⟨g,cap,cur,rfl,h1,h2,h3,h4,h5,h6⟩
 ·exact ⟨.inl ⟨rfl,List.eq_nil_of_length_eq_zero h0⟩⟩
 ·exact ⟨.inr ⟨g,cap,cur,rfl,h1,h2,h3,by omega,h4,by simpa using h6⟩⟩
theorem RowC.form (h:RowC w base e v l):∃ A c,v=.slice A l.length c:=by
 rcases h.is with ⟨rfl,rfl⟩|⟨g,cap,_,rfl,_⟩
 ·exact ⟨none,0,rfl⟩
 ·exact ⟨_,cap,rfl⟩
theorem RowC.lt (h:RowC w base e v l):∀ g,v.ownBlock=some g→base≤g∧g<w.heap.size:=by
 intro g hg
 rcases h.is with ⟨rfl,rfl⟩|⟨g',cap,cur,rfl,h1,h2,_⟩
 ·cases hg
 ·have:g'=g:=by simpa [Value.ownBlock] using hg
  subst this;refine ⟨h1,?_⟩
  rcases Nat.lt_or_ge g' w.heap.size with hlt|hge
  ·exact hlt
  ·rw [Array.getElem?_eq_none hge] at h2;cases h2
theorem RowC.keeps {X:Nat→Prop} (h:RowC w base e v l) (hk:Keeps X w w') (hx:∀ g,v.ownBlock=some g→¬ X g):RowC w' base e v l:=by
 have hlt:=h.lt
 rcases h.is with h1|⟨g,cap,cur,rfl,h1,h2,h3⟩
 ·exact ⟨.inl h1⟩
 ·exact ⟨.inr ⟨g,cap,cur,rfl,h1,(hk.block g (hlt g rfl).2 (hx g rfl)).trans h2,h3⟩⟩
theorem RowC.cells (h:RowC w base e v l) {g:Nat} (hg:v.ownBlock=some g) (j:Nat) (u:Value) (hu:(byt l)[j]?=some u):w.cell? ⟨g,j,none⟩=some u:=by
 rcases h.is with ⟨rfl,rfl⟩|⟨g',cap,cur,rfl,h1,h2,h3,h4,h5,h6⟩
 ·cases hg
 ·have:g'=g:=by simpa [Value.ownBlock] using hg
  subst this;have hj:j<l.length:=by have:=(List.getElem?_eq_some_iff.1 hu).1;rwa [byt_len] at this
  have hjc:j<cur.toList.length:=by simp;omega
  rw [cell_of_row w g' j cur e (0,0) h2,←hu,←h6,List.getElem?_take,if_pos hj];simp
theorem RowC.cut {g cap n:Nat} (h:RowC w base e (.slice (some ⟨g,0,none⟩) l.length cap) l) (hn:n≤l.length):RowC w base e (.slice (some ⟨g,0,none⟩) n n) (l.take n):=by
 rcases h.is with ⟨h',_⟩|⟨g',cap',cur,h',h1,h2,h3,h4,h5,h6⟩
 ·cases h'
 ·simp only [Value.slice.injEq,Option.some.injEq,Addr.mk.injEq,and_true,true_and] at h'
  obtain ⟨rfl,rfl⟩:=h';have hl:(l.take n).length=n:=by rw [List.length_take];omega
  refine ⟨.inr ⟨g,n,cur,by rw [hl],h1,h2,by omega,by omega,by omega,?_⟩⟩;rw [hl];have:=congrArg (List.take n) h6;rw [List.take_take,Nat.min_eq_left hn] at this;rw [this];simp [byt,List.map_take]
theorem run_append_rowC (t u ty:TypeId) (i:TypeInfo) (ht:P.underlying t=some (.slice e)) (hu:P.underlying u=some .string) (hi:P.info? e=some i) (hz:i.zero=some (.int .u8 0))
  (hsize:i.size=1) (hby:i.bytes=1) (h:RowC w base e v l) (s:ByteArray)
  (h63:l.length+s.size≤maxLen) (hbytes:l.length+s.size≤140737488355328) (hbase:base≤w.heap.size) :
  ∃ v' w',(Builtin.append_ #[t,u] ty #[v,.string s]).run P w=.ok v' w'∧RowC w' base e v' (l++s.data.toList)∧w.grownBy w' v.ownBlock∧(v'.ownBlock=v.ownBlock∨v'.ownBlock=some w.heap.size):=by
 have hsz:s.data.toList.length=s.size:=rfl;have hll:(l++s.data.toList).length=l.length+s.size:=by rw [List.length_append,hsz]
 rcases h.is with ⟨rfl,rfl⟩|⟨g,cap,cur,rfl,hbg,hg,hnc,hcs,hcm,htake⟩
 ·by_cases hm:s.size=0
  ·have hs0:s.data.toList=[]:=List.eq_nil_of_length_eq_zero (by rw [hsz];exact hm)
   have hn:strCells s=[]:=by rw [strCells_byt,hs0];rfl
   refine ⟨.slice none 0 0,w,?_,by rw [hs0];exact RowC.none_ w base e,⟨rfl,rfl,rfl,Nat.le_refl _,fun _ _ _=>rfl⟩,.inl rfl⟩;have hf:=run_firstCells_string (P:=P) w 1 s;rw [hm] at hf;simp [Builtin.append_,run_underlying ht,run_underlying hu,sizeOf,typeInfo,hi,hsize,Builtin.lenOf,hm,hf]
  ·simp only [List.length_nil,Nat.zero_add] at h63 hbytes
   have hr:=run_append_nil_string (P:=P) w t u ty e i (.int .u8 0) ht hu hi hz s (by omega) (by unfold maxLen at h63;omega) (by rw [hby];omega);have hge:=grownCap_ge w s.size 0 e;have hcm2:grownCap w s.size 0 e≤maxLen:=grownCap_le_maxLen w s.size 0 e h63
   have e1:(s.data.map fun b=>Value.int .u8 b.toNat)=(byt s.data.toList).toArray:=by
    apply Array.ext'
    simp [byt]
   rw [e1] at hr;refine ⟨_,_,hr,⟨.inr ⟨w.heap.size,_,_,by rw [List.nil_append,hsz],hbase,heap_alloc_new w.drew _,by rw [List.nil_append,hsz];exact hge,?_,hcm2,?_⟩⟩,⟨rfl,rfl,rfl,by simp,fun k hk _=>heap_alloc_old w.drew _ hk⟩,.inr rfl⟩
   ·have hz1:(Value.int IntKind.u8 0).cells.size=1:=rfl
    simp only [Array.size_append,List.size_toArray,size_zeroCells,hz1,byt_len,hsz];omega
   ·simp only [Array.toList_append,List.nil_append]
    rw [show s.data.toList.length=(byt s.data.toList).length by rw [byt_len]];exact List.take_left
 ·by_cases hroom:l.length+s.size≤cap
  ·have hr:=run_append_room_string (P:=P) (w:=w) t u ty e i ht hu hi hsize g l.length cap cur hg s hroom (by omega)
   refine ⟨_,_,hr,⟨.inr ⟨g,cap,_,by rw [hll],hbg,setRow_heap w g cur _ e _ hg,by rw [hll];exact hroom,?_,hcm,?_⟩⟩,⟨rfl,rfl,rfl,by simp,fun k _ hk=>setRow_other w g k _ (fun e=>hk (by simp [Value.ownBlock,e]))⟩,.inl rfl⟩
   ·simp only [List.size_toArray,List.length_append,List.length_take,List.length_drop,Array.length_toList,strCells_length]
    omega
   ·rw [htake,hll,strCells_byt,←byt_app]
    simp only [];rw [show l.length+s.size=(byt (l++s.data.toList)).length by rw [byt_len,hll]];exact List.take_left
  ·have holds:∀ j u,(byt l)[j]?=some u→w.cell? ((⟨g,0,none⟩:Addr).add j)=some u:=by
    intro j u hu;rw [add_plain',Nat.zero_add];exact h.cells rfl j u hu
   have hr:=run_append_grow_string (P:=P) (w:=w) t u ty e i (.int .u8 0) ht hu hi hz ⟨g,0,none⟩ l.length cap (byt l) (by rw [hsize,byt_len];simp) holds s (by omega) (by unfold maxLen at h63;omega) (by rw [hby];exact growslice_fits (by omega) (by omega));have hge:=grownCap_ge w (l.length+s.size) cap e;have hcm2:grownCap w (l.length+s.size) cap e≤maxLen:=grownCap_le_maxLen w (l.length+s.size) cap e h63;refine ⟨_,_,hr,⟨.inr ⟨w.heap.size,_,_,by rw [hll],hbase,heap_alloc_new w.drew _,by rw [hll];exact hge,?_,hcm2,?_⟩⟩,⟨rfl,rfl,rfl,by simp,fun k hk _=>heap_alloc_old w.drew _ hk⟩,.inr rfl⟩
   ·have hz1:(Value.int IntKind.u8 0).cells.size=1:=rfl
    simp only [Array.size_append,List.size_toArray,size_zeroCells,hz1,byt_len,strCells_length];omega
   ·simp only [Array.toList_append,List.append_assoc]
    rw [strCells_byt,←List.append_assoc,←byt_app,show (l++s.data.toList).length=(byt (l++s.data.toList)).length by rw [byt_len]];exact List.take_left
theorem wpList_append_rowC {ops:Array Oper} {rest:List Oper} {o:Oper} {a:Act} {Q:Exit→Act→World→Prop} (hgd:o.guard=none) (sl x:Operand) (t u:TypeId)
  (ho:o.op=.call { callee:=.builtin .append,args:=#[sl,x],argTypes:=#[t,u] })
  (i:TypeInfo) (ht:P.underlying t=some (.slice e)) (hu:P.underlying u=some .string) (hi:P.info? e=some i) (hz:i.zero=some (.int .u8 0)) (hsize:i.size=1) (hby:i.bytes=1)
  (hs:a.eval sl=v) (hr:RowC w base e v l) (s:ByteArray) (hx:a.eval x=.string s)
  (h63:l.length+s.size≤maxLen) (hbytes:l.length+s.size≤140737488355328) (hbase:base≤w.heap.size)
  (h:∀ v' w',RowC w' base e v' (l++s.data.toList)→w.grownBy w' v.ownBlock→(v'.ownBlock=v.ownBlock∨v'.ownBlock=some w.heap.size)→wpList P ops Q rest (a.put o.dst v') w'):wpList P ops Q (o :: rest) a w:=by
 refine wpList_plain hgd fun K hK=>?_;obtain ⟨v',w',hr',h2,h3,h4⟩:=run_append_rowC (P:=P) t u o.type i ht hu hi hz hsize hby hr s h63 hbytes hbase;unfold Oper.wp execOp;simp only [ho,resolve,invoke,builtin,Sem.run_bind,Sem.run_pure,Result.andThen_ok,List.map_toArray,List.map_cons,List.map_nil,hs,hx,hr'];exact hK _ _ (h v' w' h2 h3 h4)
theorem RowC.text {g cap:Nat} (h:RowC w base e (.slice (some ⟨g,0,none⟩) l.length cap) l) (t st:TypeId) (ht:P.underlying t=some (.slice e)) (he:P.underlying e=some (.int .u8)) (hst:P.underlying st=some .string) (a b c:Nat) (hab:a≤b) (hb:b≤l.length) :
  (convert t st (.slice (some ⟨g,a,none⟩) (b-a) c)).run P w=.ok (.string ⟨((l.take b).drop a).toArray⟩) w:=by
 have hl:((l.take b).drop a).length=b-a:=by rw [List.length_drop,List.length_take];omega
 rw [←hl];refine run_convert_bytes_back w t st e ⟨g,a,none⟩ c ((l.take b).drop a) ht he hst ?_;intro j hj
 have hc:=h.cells (g:=g) rfl (a+j) (.int .u8 (l[a+j]'(by omega)).toNat) (by
  simp [byt]
  exact ⟨l[a+j]'(by omega),by rw [List.getElem?_eq_getElem],rfl⟩)
 have e1:((l.take b).drop a)[j]=l[a+j]'(by omega):=by simp
 rw [e1,←hc];simp only [Addr.add]
 split
 ·rename_i e;subst e;rfl
 ·rfl
end
end rowc
namespace framew
open Go Go.RowKit base rowe num crc rowc framep
theorem four_any (s:Nat) (w:World) (hs:s<4294967296) :
  Calls Tryz.prog 256 #[.int .u32 s] w fun e w'=>e=.returned (.agg #[.int .u8 (s % 256:Nat),.int .u8 (s / 256 % 256:Nat),.int .u8 (s / 65536 % 256:Nat),.int .u8 (s / 16777216:Nat)])∧Below w.heap.size w w':=by
 go_enter Tryz.func256,Tryz.ntmps256;go_wp2
 go_loopw [3,4] (fun _ i wr=>∃ k:Nat,k≤4∧i=.int .i64 k∧wr=w.alloc (.cells #[.int .u8 (if 0<k then (s % 256:Nat) else 0),.int .u8 (if 1<k then (s / 256 % 256:Nat) else 0),.int .u8 (if 2<k then (s / 65536 % 256:Nat) else 0),.int .u8 (if 3<k then (s / 16777216:Nat) else 0)] 369)) (fun _ i _=>4-(intOf i).toNat)
 case atStart=>exact ⟨0,by omega,rfl,rfl⟩
 case round =>
  obtain ⟨k,hk,rfl,rfl⟩:=hrel
  rcases (by omega:k=0∨k=1∨k=2∨k=3∨k=4) with rfl|rfl|rfl|rfl|rfl
  ·go_wp2
   go_roundw
   case rel=>exact ⟨1,by omega,rfl,by simp⟩
   case measure=>simp [intOf]
  ·go_wp2
   go_roundw
   case rel=>exact ⟨2,by omega,rfl,by simp⟩
   case measure=>simp [intOf]
  ·go_wp2
   go_roundw
   case rel=>exact ⟨3,by omega,rfl,by simp⟩
   case measure=>simp [intOf]
  ·go_wp2
   go_roundw
   case rel=>exact ⟨4,by omega,rfl,by simp⟩
   case measure=>simp [intOf]
  ·go_wp2
   refine bodyPost_ret (v:=.agg #[.int .u8 (s % 256:Nat),.int .u8 (s / 256 % 256:Nat),.int .u8 (s / 65536 % 256:Nat),.int .u8 (s / 16777216:Nat)]) (by simp [results,Tryz.results256,go_sem]) rfl ⟨rfl,?_⟩;exact (Below.refl _ _).alloc (Nat.le_refl _) _
def ints (l:List UInt8):List Int:=l.map fun b=>((b.toNat:Nat):Int)
theorem ints_byt (l:List UInt8):(ints l).map (Value.int .u8)=byt l:=by simp [ints,byt]
theorem crc_lt (l:List UInt8):crcN l<4294967296:=by
 have key:∀ (l:List UInt8) (s:Nat),s<4294967296→l.foldl (fun s c=>stepN s c.toNat) s<4294967296:=by
  intro l
  induction l with
  | nil=>intro s h;exact h
  | cons c l ih=>intro s h;exact ih _ (stepN_lt h c.toNat_lt)
 exact key l 0 (by decide)
theorem crc_sum (l:List UInt8):sumI (ints l)=((crcN l:Nat):Int):=by
 have key:∀ (l:List UInt8) (s:Nat),(ints l).foldl stepI ((s:Nat):Int)=((l.foldl (fun s c=>stepN s c.toNat) s:Nat):Int):=by
  intro l
  induction l with
  | nil=>intro s;rfl
  | cons c l ih=>intro s;exact ih _
 exact key l 0
theorem sum_f (A:Option Addr) (n c:Nat) (l:List UInt8) (w:World) (hl:l.length=n) (hm:n≤maxLen) (hr:Reads w w.heap.size 1 A n (byt l)) :
  Calls Tryz.prog 229 #[.slice A n c] w fun e w'=>∃ k,e=.returned (.slice (some ⟨k,0,none⟩) 4 4)∧Blk w' k 369 (byt (sumB l)).toArray∧w.heap.size≤k∧Below w.heap.size w w':=by
 have hlt:=crc_lt l;have hs:=crc_sum l;have Hr:=qH hr;clear hr
 have hz:∀ c ∈ ints l,0≤c∧c≤255:=by
  intro c hc;simp only [ints,List.mem_map] at hc;obtain ⟨b,_,rfl⟩:=hc;have:=b.toNat_lt;omega
 have e0:(byt (sumB l)).toArray=#[.int .u8 (crcN l % 256:Nat),.int .u8 (crcN l / 256 % 256:Nat),.int .u8 (crcN l / 65536 % 256:Nat),.int .u8 (crcN l / 16777216:Nat)]:=by
  unfold sumB fourB byt;simp only [List.map_cons,List.map_nil];rw [framep.byte_of (by omega),framep.byte_of (by omega),framep.byte_of (by omega),framep.byte_of (by omega)]
 rw [e0];clear e0;have HZ:=qH hz;clear hz;go_enter Tryz.func229,Tryz.ntmps229;go_wp2_with fail;refine (sum_any A n c (ints l) _ (by simp [ints,hl]) hm (by rw [ints_byt];exact Hr.out) HZ.out).mono ?_;rintro e w1 ⟨rfl,rfl⟩;rw [hs];go_wp2_with fail;refine (four_any _ _ hlt).mono ?_;rintro e w2 ⟨rfl,hb⟩;have HB:=qH hb;clear hb;go_wp2_with fail;go_ret
 exact ⟨_,rfl,Blk.new _ _ _,HB.out.size,below_alloc HB.out _⟩
end framew
namespace wirep
def numW (n:Nat):List UInt8:=if n<128 then [UInt8.ofNat n] else UInt8.ofNat (n % 128+128) :: numW (n / 128)
theorem numW_small {n:Nat} (h:n<128):numW n=[UInt8.ofNat n]:=by rw [numW,if_pos h]
theorem numW_big {n:Nat} (h:¬ n<128):numW n=UInt8.ofNat (n % 128+128) :: numW (n / 128):=by rw [numW,if_neg h]
def textW (s:List UInt8):List UInt8:=numW s.length++s
def readN (most:Nat):Nat→Nat→Nat→List UInt8→Option (Nat × List UInt8)
 | 0,_,_,_=>none
 | _+1,_,_,[]=>none
 | f+1,k,acc,c :: r =>
  if 128≤c.toNat then readN most f (k+1) (acc+(c.toNat-128)*128 ^ k) r
  else if (c.toNat=0∧0<k)∨most<acc+c.toNat*128 ^ k∨4611686018427387903<acc+c.toNat*128 ^ k then none
  else some (acc+c.toNat*128 ^ k,r)
def numR (most:Nat) (l:List UInt8):Option (Nat × List UInt8):=readN most 9 0 0 l
def textR (most:Nat) (l:List UInt8):Option (List UInt8 × List UInt8) :=
 match numR most l with
 | some (n,r)=>if n≤r.length then some (r.take n,r.drop n) else none
 | none=>none
theorem byte_of {n:Nat} (h:n<256):(UInt8.ofNat n).toNat=n:=by rw [UInt8.toNat_ofNat'];omega
theorem readN_small {most f n k acc:Nat} {r:List UInt8} (hn:n<128) (h0:k=0∨0<n) (h1:acc+n*128 ^ k≤most) (h2:acc+n*128 ^ k≤4611686018427387903):readN most (f+1) k acc (numW n++r)=some (acc+n*128 ^ k,r):=by
 rw [numW_small hn,List.singleton_append,readN,byte_of (by omega),if_neg (by omega),if_neg (by
  rintro (⟨h3,h4⟩|h3|h3)
  ·rcases h0 with h0|h0 <;> omega
  ·omega
  ·omega)]
theorem readN_num (most:Nat):∀ (f n k acc:Nat) (r:List UInt8),n<128 ^ (f+1)→(k=0∨0<n)→acc+n*128 ^ k≤most→acc+n*128 ^ k≤4611686018427387903→readN most (f+1) k acc (numW n++r)=some (acc+n*128 ^ k,r)
 | 0,n,k,acc,r,h,h0,h1,h2=>readN_small (by simpa using h) h0 h1 h2
 | f+1,n,k,acc,r,h,h0,h1,h2=>by
  by_cases hn:n<128
  ·exact readN_small hn h0 h1 h2
  ·rw [numW_big hn,List.cons_append,readN,byte_of (by omega),if_pos (by omega)]
   have e:acc+(n % 128+128-128)*128 ^ k+n / 128*128 ^ (k+1)=acc+n*128 ^ k:=by
    have h3:n*128 ^ k=(n % 128)*128 ^ k+n / 128*128 ^ (k+1):=by
     have h4:n / 128*128 ^ (k+1)=(n / 128*128)*128 ^ k:=by rw [Nat.pow_succ,Nat.mul_assoc,Nat.mul_comm (128 ^ k) 128]
     rw [h4,←Nat.add_mul]
     congr 1
     omega
    rw [h3,Nat.add_sub_cancel];omega
   rw [readN_num most f (n / 128) (k+1) _ r (by rw [Nat.pow_succ] at h;omega) (.inr (by omega)) (by rw [e];exact h1) (by rw [e];exact h2),e]
theorem num_back {most n:Nat} (r:List UInt8) (h:n≤most) (h2:n≤4611686018427387903):numR most (numW n++r)=some (n,r):=by
 unfold numR;rw [readN_num most 8 n 0 0 r (by omega) (.inl rfl) (by simpa using h) (by simpa using h2)];simp
theorem text_back {most:Nat} {s:List UInt8} (r:List UInt8) (h:s.length≤most) (h2:s.length≤4611686018427387903):textR most (textW s++r)=some (s,r):=by
 unfold textR textW;rw [List.append_assoc,num_back _ h h2];simp
theorem numW_len:∀ (k n:Nat),n<128 ^ (k+1)→(numW n).length≤k+1
 | 0,n,h=>by rw [numW_small (by simpa using h)];simp
 | k+1,n,h=>by
  by_cases hn:n<128
  ·rw [numW_small hn];simp
  ·rw [numW_big hn,List.length_cons]
   have:=numW_len k (n / 128) (by rw [Nat.pow_succ] at h;omega);omega
end wirep
namespace inp
open Go Go.Lib Go.RowKit wirep
theorem or_i64 (a b:Nat) (ha:a<9223372036854775808) (hb:b<9223372036854775808):bits .or .i64 (a:Int) (b:Int)=((a ||| b:Nat):Int):=by
 have hx:a ||| b<2 ^ 63:=Nat.or_lt_two_pow (by omega) (by omega);show IntKind.i64.wrap ((BitVec.ofInt 64 (a:Int) ||| BitVec.ofInt 64 (b:Int)).toNat:Int)=_;rw [BitVec.toNat_or,ofInt_u64 a (by omega),ofInt_u64 b (by omega)];exact wrap_i64_small _ (by omega)
theorem or_join {acc c k:Nat} (h:acc<128 ^ k):acc ||| (c*128 ^ k)=acc+c*128 ^ k:=by
 have h2:acc<2 ^ (7*k):=by rw [Nat.pow_mul];exact h
 have:=Nat.two_pow_add_eq_or_of_lt h2 c;rw [Nat.pow_mul,show (2:Nat) ^ 7=128 from rfl] at this;rw [Nat.mul_comm c,Nat.or_comm,←this,Nat.add_comm]
theorem pow_le {k:Nat} (hk:k<9):128 ^ k≤72057594037927936:=by
 have:=Nat.pow_le_pow_right (show 0<128 by decide) (show k≤8 by omega);exact Nat.le_trans this (by decide)
theorem step_or {acc c k:Nat} (hk:k<9) (h:acc<128 ^ k) (hc:c<128):bits .or .i64 (acc:Int) ((c*128 ^ k:Nat):Int)=((acc+c*128 ^ k:Nat):Int):=by
 have hp:=pow_le hk;have h1:c*128 ^ k≤127*72057594037927936:=Nat.mul_le_mul (by omega) hp;rw [or_i64 _ _ (by omega) (by omega),or_join h]
theorem step_lt {acc c k:Nat} (h:acc<128 ^ k) (hc:c<128):acc+c*128 ^ k<128 ^ (k+1):=by
 have h1:c*128 ^ k≤127*128 ^ k:=Nat.mul_le_mul_right _ (by omega);rw [Nat.pow_succ];omega
theorem step_small {acc c k:Nat} (hk:k<9) (h:acc<128 ^ k) (hc:c<128):acc+c*128 ^ k<9223372036854775808:=by
 have h1:=step_lt h hc;have h2:=Nat.pow_le_pow_right (show 0<128 by decide) (show k+1≤9 by omega);exact Nat.lt_of_lt_of_le h1 (Nat.le_trans h2 (by decide))
theorem step_val {acc c k:Nat} (hc:c<256) (hk:k<9) (ha:acc<128 ^ k):bits .or .i64 (acc:Int) (wrap64 (wrap64 (bits .and .u8 (c:Int) 127)*2 ^ (7*k)))=((acc+c % 128*128 ^ k:Nat):Int):=by
 have h1:bits .and .u8 (c:Int) 127=((c % 128:Nat):Int):=by
  have:=u8_and_nat c 127 hc (by omega);rw [nat_mask7] at this;exact this
 have h2:wrap64 ((c % 128:Nat):Int)=((c % 128:Nat):Int):=by unfold wrap64;omega
 have h3:((c % 128:Nat):Int)*2 ^ (7*k)=((c % 128*128 ^ k:Nat):Int):=by
  rw [Int.pow_mul,show (2:Int) ^ 7=((128:Nat):Int) from rfl,←Int.natCast_pow,←Int.natCast_mul]
 have hp:=pow_le hk;have h5:c % 128*128 ^ k≤127*72057594037927936:=Nat.mul_le_mul (by omega) hp;rw [h1,h2];have h4:wrap64 (((c % 128:Nat):Int)*2 ^ (7*k))=((c % 128*128 ^ k:Nat):Int):=by rw [h3];unfold wrap64;omega
 rw [h4,step_or hk ha (by omega)]
abbrev Rd:=Option (List UInt8)
def numI (most:Nat):Rd→Nat × Rd
 | none=>(0,none)
 | some l=>match numR most l with
  | some (n,r)=>(n,some r)
  | none=>(0,none)
def textI (most:Nat):Rd→List UInt8 × Rd
 | none=>([],none)
 | some l=>match textR most l with
  | some (t,r)=>(t,some r)
  | none=>([],none)
theorem readN_end (most f k acc:Nat):readN most f k acc []=none:=by cases f <;> rfl
theorem readN_some {most:Nat}:∀ (f k acc:Nat) (l:List UInt8) (n:Nat) (r:List UInt8),readN most f k acc l=some (n,r)→∃ p,l=p++r∧n≤most∧p.length≤f
 | 0,_,_,_,_,_,h=>by cases h
 | _+1,_,_,[],_,_,h=>by cases h
 | f+1,k,acc,c :: l,n,r,h=>by
  rw [readN] at h
  split at h
  ·obtain ⟨p,rfl,h2,h3⟩:=readN_some f _ _ l n r h
   exact ⟨c :: p,rfl,h2,by simp;omega⟩
  ·split at h
   ·cases h
   ·rename_i h1 h2
    simp only [Option.some.injEq,Prod.mk.injEq] at h;obtain ⟨rfl,rfl⟩:=h;exact ⟨[c],rfl,by omega,by simp⟩
theorem extract_is (s:ByteArray) (a b:Nat) (hb:b≤s.size):s.extract a b=⟨((s.data.toList.take b).drop a).toArray⟩:=by
 apply ByteArray.ext
 apply Array.ext'
 have h:(s.extract a b).data=s.data.extract a b:=ByteArray.data_extract;rw [h];simp [Array.toList_extract,List.extract_eq_take_drop]
 rw [List.take_drop]
 by_cases hab:a≤b
 ·congr 2;omega
 ·rw [List.drop_eq_nil_of_le (by simp;omega),List.drop_eq_nil_of_le (by simp;omega)]
end inp
namespace writep
open wirep inp
def trN (v:List Nat) (most:Nat):Bool:=decide (v.length≤16)&&(!(decide (0<v.length)&&decide (v.getD (v.length-1) 0=0))&&v.all (fun n=>decide (n≤most)))
def maxNum:Nat:=1099511627776
def numsW (v:List Nat):List UInt8:=v.flatMap numW
def vecW (v:List Nat):List UInt8:=numW v.length++numsW v
def numsR:Nat→List UInt8→Option (List Nat × List UInt8)
 | 0,l=>some ([],l)
 | k+1,l=>match numR maxNum l with
  | none=>none
  | some (n,r)=>match numsR k r with
   | none=>none
   | some (v,r2)=>some (n :: v,r2)
def vecR (l:List UInt8):Option (List Nat × List UInt8):=match numR 16 l with
 | none=>none
 | some (k,r)=>match numsR k r with
  | none=>none
  | some (v,r2)=>if trN v maxNum then some (v,r2) else none
def vecI:Rd→List Nat × Rd
 | none=>([],none)
 | some l=>match vecR l with
  | some (v,r)=>(v,some r)
  | none=>([],none)
structure PW where
 r:Nat
 n:Nat
 t:Nat
 d:List Nat
 se:List UInt8
 k:List UInt8
 v:List UInt8
 g:Bool
 l:Nat
deriving DecidableEq
def PW.bytes (x:PW):List UInt8:=numW x.r++(numW x.n++(numW x.t++(vecW x.d++(textW x.se++(textW x.k++(numW x.g.toNat++(textW x.v++numW x.l)))))))
def PW.right (x:PW):Bool :=
 decide (1≤x.r)&&(decide (x.r≤16)&&(decide (1≤x.n)&&(decide (x.n≤maxNum)&&(decide (1≤x.t)&&(decide (x.t≤maxNum)&&(trN x.d maxNum&&(decide (1≤x.se.length)&&(decide (x.se.length≤64)&&(decide (x.k.length≤32)&&(decide (x.v.length≤128)&&((!x.g || decide (x.v=[]))&&decide (x.l≤maxNum))))))))))))
structure PW.Ok (x:PW):Prop where
 r1:1≤x.r
 r16:x.r≤16
 n1:1≤x.n
 nm:x.n≤maxNum
 t1:1≤x.t
 tm:x.t≤maxNum
 tr:trN x.d maxNum=true
 s1:1≤x.se.length
 s64:x.se.length≤64
 k32:x.k.length≤32
 v128:x.v.length≤128
 gv:x.g=true→x.v=[]
 lm:x.l≤maxNum
theorem PW.right_iff (x : PW) : x.right = true↔x.Ok := by
  unfold PW.right;simp only [Bool.and_eq_true, decide_eq_true_eq, Bool.or_eq_true, Bool.not_eq_true']
  constructor
  · rintro ⟨h1, h2, h3, h4, h5, h6, h7, h8, h9, h10, h11, h12, h13⟩
    exact ⟨h1, h2, h3, h4, h5, h6, h7, h8, h9, h10, h11, fun hg => by rcases h12 with h | h; · rw [hg] at h; cases h
                                                                      · exact h, h13⟩
  · rintro ⟨h1, h2, h3, h4, h5, h6, h7, h8, h9, h10, h11, h12, h13⟩
    refine ⟨h1, h2, h3, h4, h5, h6, h7, h8, h9, h10, h11, ?_, h13⟩
    cases hg : x.g
    · exact .inl rfl
    · exact .inr (h12 hg)
theorem numI_back {most n:Nat} (r:List UInt8) (h:n≤most) (h2:n≤4611686018427387903):numI most (some (numW n++r))=(n,some r):=by
 unfold numI;simp only [num_back r h h2]
theorem textI_back {most:Nat} {s:List UInt8} (r:List UInt8) (h:s.length≤most) (h2:s.length≤4611686018427387903):textI most (some (textW s++r))=(s,some r):=by
 unfold textI;simp only [text_back r h h2]
theorem nums_back (r:List UInt8):∀ (v:List Nat),(∀ n ∈ v,n≤maxNum)→numsR v.length (numsW v++r)=some (v,r)
 | [],_=>rfl
 | n :: v,h=>by
  have e:numsW (n :: v)++r=numW n++(numsW v++r):=by simp [numsW]
  have hn:=h n (by simp);rw [List.length_cons,e,numsR,num_back _ hn (by unfold maxNum at hn;omega)];simp only [nums_back r v (fun m hm=>h m (by simp [hm]))]
theorem trN_all {v:List Nat} {most:Nat} (h:trN v most=true):v.length≤16∧∀ n ∈ v,n≤most:=by
 unfold trN at h;simp only [Bool.and_eq_true,decide_eq_true_eq,List.all_eq_true] at h;exact ⟨h.1,h.2.2⟩
theorem vecI_back {v:List Nat} (r:List UInt8) (h:trN v maxNum=true):vecI (some (vecW v++r))=(v,some r):=by
 obtain ⟨h1,h2⟩:=trN_all h
 have:vecR (vecW v++r)=some (v,r):=by
  unfold vecR vecW;rw [List.append_assoc,num_back _ h1 (by omega)];simp only [nums_back r v h2];rw [if_pos h]
 unfold vecI;simp only [this]
theorem numsW_len:∀ (v:List Nat),(∀ n ∈ v,n≤maxNum)→(numsW v).length≤9*v.length
 | [],_=>by simp [numsW]
 | n :: v,h=>by
  have h1:=numsW_len v (fun m hm=>h m (by simp [hm]));have h2:=numW_len 8 n (by have:=h n (by simp);unfold maxNum at this;omega);have e:numsW (n :: v)=numW n++numsW v:=by simp [numsW]
  rw [e,List.length_append,List.length_cons];omega
theorem vecW_len {v:List Nat} (h:trN v maxNum=true):(vecW v).length≤153:=by
 obtain ⟨h1,h2⟩:=trN_all h;have:=numsW_len v h2;have h3:=numW_len 8 v.length (by omega);unfold vecW;rw [List.length_append];omega
theorem bytes_len {x:PW} (h:x.Ok):x.bytes.length≤500:=by
 obtain ⟨r1,r16,n1,nm,t1,tm,tr,s1,s64,k32,v128,gv,lm⟩:=id h;have hm:maxNum=1099511627776:=rfl;unfold PW.bytes textW;have h1:=numW_len 8 x.r (by omega);have h2:=numW_len 8 x.n (by omega);have h3:=numW_len 8 x.t (by omega);have h4:=vecW_len tr;have h5:=numW_len 0 x.se.length (by omega);have h6:=numW_len 0 x.k.length (by omega);have h7:=numW_len 0 x.g.toNat (by cases x.g <;> decide);have h8:=numW_len 1 x.v.length (by omega);have h9:=numW_len 8 x.l (by omega);simp only [List.length_append];omega
end writep
namespace jrnp
open framep wirep
structure Part where
 kind:Nat
 gen:Nat
 place:Nat
 text:List UInt8
def Part.bytes (p:Part):List UInt8:=numW p.kind++(numW p.gen++(numW p.place++textW p.text))
def Part.sealed (p:Part):List UInt8:=sealF p.bytes
structure Part.Ok (p:Part):Prop where
 k1:1≤p.kind
 k4:p.kind≤4
 g1:1≤p.gen
 g2:p.gen≤1099511627776
 pl:p.place≤1099511627776
 tx:p.text.length≤4096
 rec_:p.kind=2∨p.text=[]
theorem bytes_len {p:Part} (h:p.Ok):p.bytes.length≤4200:=by
 unfold Part.bytes textW;have h1:=numW_len 8 p.kind (by have:=h.k4;omega);have h2:=numW_len 8 p.gen (by have:=h.g2;omega);have h3:=numW_len 8 p.place (by have:=h.pl;omega);have h4:=numW_len 8 p.text.length (by have:=h.tx;omega);have h5:=h.tx;simp only [List.length_append];omega
theorem seal_pos (p:Part):0<p.sealed.length:=by unfold Part.sealed;rw [seal_len];omega
def dev (l:List Part):List UInt8:=l.flatMap Part.sealed
theorem dev_cons (p:Part) (l:List Part):dev (p :: l)=p.sealed++dev l:=by simp [dev]
theorem dev_app (a b:List Part):dev (a++b)=dev a++dev b:=by simp [dev]
theorem dev_take (l:List Part) (k:Nat) (hk:k<l.length):dev (l.take (k+1))=dev (l.take k)++l[k].sealed:=by
 rw [List.take_succ_eq_append_getElem hk,dev_app];simp [dev]
theorem dev_drop (l:List Part) (k:Nat):(dev l).drop (dev (l.take k)).length=dev (l.drop k):=by
 have h:dev l=dev (l.take k)++dev (l.drop k):=by rw [←dev_app,List.take_append_drop]
 rw [h];exact List.drop_left
def ordB (g:Nat):Bool→List Part→Bool
 | ended,[]=>ended
 | ended,p :: l=>if p.gen≠g∨p.kind=1∨(p.kind=3∧ended=true)∨(p.kind=4∧ended=false) then false else ordB g (ended || decide (p.kind=3)) l
def ordered (l:List Part):Bool:=match l with
 | []=>false
 | p :: r=>decide (p.kind=1)&&ordB p.gen false r
end jrnp
namespace diskp
structure Dk where
 b:List UInt8
 safe:Nat
 room:Nat
 fuse:Int
 down:Bool
structure Dk.Ok (d:Dk):Prop where
 le:d.safe≤d.b.length
 few:d.b.length≤1048576
 room_:d.room≤1048576
 f0:-1≤d.fuse
 f1:d.fuse≤4611686018427387904
def operD (d:Dk):Dk × Int :=
 if d.down then (d,5) else if d.fuse<0 then (d,0) else if 0<d.fuse then ({ d with fuse:=d.fuse-1 },0) else ({ d with down:=true },5)
def appD (d:Dk) (s:List UInt8):Dk × Int :=
 if d.down=false∧(d.room:Int)-d.b.length<s.length then (d,4)
 else if (operD d).2=0 then ({ (operD d).1 with b:=(operD d).1.b++s },0) else operD d
def syncD (d:Dk):Dk × Int:=if (operD d).2=0 then ({ (operD d).1 with safe:=(operD d).1.b.length },0) else operD d
def cutD (d:Dk) (n:Int):Dk × Int :=
 if d.down=false∧(n<0∨(d.b.length:Int)<n) then (d,1)
 else if (operD d).2=0 then ({ (operD d).1 with b:=(operD d).1.b.take n.toNat,safe:=min (operD d).1.safe n.toNat },0) else operD d
def newD (n:Nat):Dk:=⟨[],0,n,-1,false⟩
theorem oper_ok {d:Dk} (h:d.Ok):(operD d).1.Ok:=by
 unfold operD
 split
 ·exact h
 ·split
  ·exact h
  ·split
   ·exact ⟨h.le,h.few,h.room_,by show -1≤d.fuse-1;omega,by have:=h.f1;show d.fuse-1≤_;omega⟩
   ·exact ⟨h.le,h.few,h.room_,h.f0,h.f1⟩
theorem oper_b (d:Dk):(operD d).1.b=d.b∧(operD d).1.safe=d.safe∧(operD d).1.room=d.room:=by
 unfold operD
 split
 ·exact ⟨rfl,rfl,rfl⟩
 ·split
  ·exact ⟨rfl,rfl,rfl⟩
  ·split <;> exact ⟨rfl,rfl,rfl⟩
theorem app_ok {d:Dk} {s:List UInt8} (h:d.Ok):(appD d s).1.Ok:=by
 have h1:=oper_ok h;have h2:=oper_b d;unfold appD
 split
 ·exact h
 ·rename_i hn
  split
  ·rename_i h0
   refine ⟨?_,?_,h1.room_,h1.f0,h1.f1⟩
   ·show (operD d).1.safe≤((operD d).1.b++s).length
    rw [List.length_append];have:=h1.le;omega
   ·show ((operD d).1.b++s).length≤_
    rw [List.length_append,h2.1]
    have h3:d.down=false:=by
     cases hd:d.down with
     | false=>rfl
     | true=>unfold operD at h0;rw [hd,if_pos rfl] at h0;cases h0
    have h4:=h.room_;have h5:¬ (d.room:Int)-d.b.length<s.length:=fun h6=>hn ⟨h3,h6⟩;omega
  ·exact h1
end diskp
namespace jrnp
open framep wirep diskp
def safeD (d:Dk):Nat:=if d.down then 0 else d.safe
def lenD (d:Dk):Nat:=if d.down then 0 else d.b.length
def framesB (d:Dk) (g:Nat) (rs:List (List UInt8)):List UInt8:=rs.flatMap fun s=>(Part.mk 2 g (safeD d) s).sealed
def markJ (d:Dk) (g:Nat):Dk × Int :=
 if (syncD d).2=0 then
  if (appD (syncD d).1 (Part.mk 4 g (safeD (syncD d).1) []).sealed).2=0 then syncD (appD (syncD d).1 (Part.mk 4 g (safeD (syncD d).1) []).sealed).1
  else appD (syncD d).1 (Part.mk 4 g (safeD (syncD d).1) []).sealed
 else syncD d
def write0 (d:Dk) (g:Nat) (t:List UInt8):Dk × Int:=if (appD d t).2=0 then markJ (appD d t).1 g else appD d t
def writeJ (d:Dk) (g:Nat) (cut:Nat) (t:List UInt8):Dk × Int :=
 if (write0 d g t).2=4 then if (cutD (write0 d g t).1 cut).2=0 then ((cutD (write0 d g t).1 cut).1,4) else cutD (write0 d g t).1 cut
 else write0 d g t
def putJ (d:Dk) (g:Nat) (rs:List (List UInt8)):Dk × Int:=writeJ d g (lenD d) (framesB d g rs)
def startT (d:Dk) (g:Nat) (rs:List (List UInt8)):List UInt8:=(Part.mk 1 g 0 []).sealed++framesB d g rs++(Part.mk 3 g 0 []).sealed
def startJ (d:Dk) (g:Nat) (rs:List (List UInt8)):Dk × Int :=
 if (cutD d 0).2=0 then writeJ (cutD d 0).1 g 0 (startT (cutD d 0).1 g rs) else cutD d 0
structure Well (d:Dk) (l:List Part):Prop where
 b:d.b=dev l
 safe:d.safe=d.b.length
 fuse:d.fuse<0
 down:d.down=false
 ok:∀ p ∈ l,p.Ok
 few:d.b.length≤1048576
def recsL (g place:Nat) (rs:List (List UInt8)):List Part:=rs.map fun s=>Part.mk 2 g place s
def markL (g:Nat) (l:List Part):List Part:=l++[Part.mk 4 g (dev l).length []]
def putL (g:Nat) (l:List Part) (rs:List (List UInt8)):List Part:=markL g (l++recsL g (dev l).length rs)
def startL (g:Nat) (rs:List (List UInt8)):List Part:=markL g ([Part.mk 1 g 0 []]++recsL g 0 rs++[Part.mk 3 g 0 []])
theorem recs_dev (g place:Nat) (rs:List (List UInt8)):dev (recsL g place rs)=rs.flatMap fun s=>(Part.mk 2 g place s).sealed:=by
 unfold dev recsL;rw [List.flatMap_map]
theorem oper_well {d:Dk} (h1:d.down=false) (h2:d.fuse<0):operD d=(d,0):=by
 unfold operD;rw [if_neg (by rw [h1];decide),if_pos h2]
theorem app_well {d:Dk} {t:List UInt8} (h1:d.down=false) (h2:d.fuse<0) (hr:d.b.length+t.length≤d.room):appD d t=({ d with b:=d.b++t },0):=by
 unfold appD;rw [oper_well h1 h2,if_neg (by omega),if_pos rfl]
theorem sync_well {d:Dk} (h1:d.down=false) (h2:d.fuse<0):syncD d=({ d with safe:=d.b.length },0):=by
 unfold syncD;rw [oper_well h1 h2,if_pos rfl]
theorem cut_well {d:Dk} {n:Nat} (h1:d.down=false) (h2:d.fuse<0) (hn:n≤d.b.length):cutD d n=({ d with b:=d.b.take n,safe:=min d.safe n },0):=by
 unfold cutD;rw [oper_well h1 h2,if_neg (by omega),if_pos rfl];rfl
theorem safe_well {d:Dk} (h1:d.down=false):safeD d=d.safe:=by unfold safeD;rw [h1];rfl
theorem mark_well {d:Dk} {l:List Part} (g:Nat) (hb:d.b=dev l) (h1:d.down=false) (h2:d.fuse<0) (hr:(dev (markL g l)).length≤d.room) :
  markJ d g=({ d with b:=dev (markL g l),safe:=(dev (markL g l)).length },0):=by
 have e:dev (markL g l)=d.b++(Part.mk 4 g d.b.length []).sealed:=by unfold markL;rw [dev_app,hb];simp [dev]
 rw [e,List.length_append] at hr;unfold markJ;rw [sync_well h1 h2,if_pos rfl];dsimp only;have hs:safeD { d with safe:=d.b.length }=d.b.length:=safe_well (d:={ d with safe:=d.b.length }) h1;have ha:=app_well (d:={ d with safe:=d.b.length }) (t:=(Part.mk 4 g d.b.length []).sealed) h1 h2 hr;rw [hs,ha,if_pos rfl];dsimp only;have hy:=sync_well (d:={ d with b:=d.b++(Part.mk 4 g d.b.length []).sealed,safe:=d.b.length }) h1 h2;rw [hy,e]
theorem write_well {d:Dk} {l l2:List Part} (g cut:Nat) (hb:d.b=dev l) (h1:d.down=false) (h2:d.fuse<0) (hr:(dev (markL g (l++l2))).length≤d.room) :
  writeJ d g cut (dev l2)=({ d with b:=dev (markL g (l++l2)),safe:=(dev (markL g (l++l2))).length },0):=by
 have hle:(d.b++dev l2).length≤d.room:=by
  have:(dev (markL g (l++l2))).length=(dev l).length+(dev l2).length+(Part.mk 4 g (dev (l++l2)).length []).sealed.length:=by
   unfold markL;rw [dev_app,dev_app,List.length_append,List.length_append];simp [dev]
  rw [List.length_append,hb];omega
 rw [List.length_append] at hle
 have hw:write0 d g (dev l2)=({ d with b:=dev (markL g (l++l2)),safe:=(dev (markL g (l++l2))).length },0):=by
  unfold write0;rw [app_well h1 h2 hle,if_pos rfl];dsimp only;rw [mark_well (d:={ d with b:=d.b++dev l2 }) (l:=l++l2) g (by rw [dev_app,hb]) h1 h2 hr]
 unfold writeJ;rw [hw,if_neg (fun h=>by cases h)]
theorem put_well {d:Dk} {l:List Part} (g:Nat) (rs:List (List UInt8)) (h:Well d l) (hr:(dev (putL g l rs)).length≤d.room) :
  putJ d g rs=({ d with b:=dev (putL g l rs),safe:=(dev (putL g l rs)).length },0):=by
 unfold putJ framesB;rw [safe_well h.down,h.safe,h.b,←recs_dev];exact write_well g _ h.b h.down h.fuse hr
theorem start_well {d:Dk} (g:Nat) (rs:List (List UInt8)) (h1:d.down=false) (h2:d.fuse<0) (hr:(dev (startL g rs)).length≤d.room) :
  startJ d g rs=({ d with b:=dev (startL g rs),safe:=(dev (startL g rs)).length },0):=by
 unfold startJ
 have hc:cutD d 0=({ d with b:=[],safe:=0 },0):=by
  have:=cut_well (n:=0) h1 h2 (Nat.zero_le _)
  simpa using this
 rw [hc,if_pos rfl];dsimp only
 have e:startT { d with b:=[],safe:=0 } g rs=dev ([Part.mk 1 g 0 []]++recsL g 0 rs++[Part.mk 3 g 0 []]):=by
  unfold startT framesB;have hs:safeD { d with b:=[],safe:=0 }=0:=safe_well (d:={ d with b:=[],safe:=0 }) h1;rw [hs,dev_app,dev_app,recs_dev];simp [dev]
 rw [e];have:=write_well (d:={ d with b:=[],safe:=0 }) (l:=[]) (l2:=[Part.mk 1 g 0 []]++recsL g 0 rs++[Part.mk 3 g 0 []]) g 0 rfl h1 h2 hr;rw [this];rfl
def endsL (l:List Part):List Nat:=(List.range l.length).map fun i=>(dev (l.take (i+1))).length
def recordsL (l:List Part):List (List UInt8):=(l.filter fun p=>decide (p.kind=2)).map Part.text
end jrnp
namespace monok
open base
section
variable {P:Program} {ops:Array Oper} {Q:Exit→Act→World→Prop} {md:Region.Mode} {X Z:Nat→Prop} {mv lv:List Nat}
def moves (X:Nat→Prop) (mv:List Nat) (Z:Nat→Prop) (lv:List Nat) (i:Nat):Nat→Prop:=fun b=>(i ∈ mv∧X b)∨(i ∈ lv∧Z b)
def wpMonoK (P:Program) (md:Region.Mode) (ops:Array Oper) (Q:Exit→Act→World→Prop) (X:Nat→Prop) (mv:List Nat) (Z:Nat→Prop) (lv:List Nat):Nat→Array Bool→Act→World→Prop
 | 0,listed,a,w=>Region.ready md ops listed=[]∧Q .normal a w
 | fuel+1,listed,a,w =>
  (Region.ready md ops listed=[]→Q .normal a w) ∧
  ∀ i ∈ Region.ready md ops listed,wpOp P ops Q i (fun a' w'=>Keeps (moves X mv Z lv i) w w'∧wpMonoK P md ops Q X mv Z lv fuel (listed.setIfInBounds i true) a' w') a w
theorem wpAny_of_monoK:∀ (fuel:Nat) (listed:Array Bool) (a:Act) (w:World),wpMonoK P md ops Q X mv Z lv fuel listed a w→wpAny P md ops Q fuel listed a w
 | 0,_,_,_,h=>h
 | fuel+1,_,_,_,h=>⟨h.1,fun i hi=>wpOp_mono (fun a' w' h'=>wpAny_of_monoK fuel _ a' w' h'.2) (h.2 i hi)⟩
theorem wpMonoK_first {i:Nat} {oi:Oper} {v:Value} {D:List Nat} {Y:Nat→Prop} (hi:ops[i]?=some oi) (hsel:∀ (j:Nat) (o:Oper) cs b,ops[j]?=some o→o.op≠.select cs b)
  (hQ:∀ c a w,Q (.panic c) (a.put oi.dst v) w→Q (.panic c) a w)
  (hD:∀ d od,d ∈ D→ops[d]?=some od→∃ e ∈ od.after,Region.binds md e=true∧(e.on=i∨e.on ∈ D))
  (hX:∀ j,j ∉ D→j≠i→∀ b,moves X mv Z lv j b→Y b) :
  ∀ (fuel:Nat) (listed:Array Bool) (a:Act) (w:World),
   (∀ j oj,ops[j]?=some oj→j≠i→listed.getD j true=false→(∀ e ∈ oj.after,Region.binds md e=true→e.on≠i)→oi.apart ops oj=true) →
   (∀ d ∈ D,listed.getD d false=false) →
   i ∈ Region.ready md ops listed→YieldsIf P ops (Keeps Y w) oi v a →
   wpMonoK P md ops Q X mv Z lv fuel (listed.setIfInBounds i true) (a.put oi.dst v) w→wpMonoK P md ops Q X mv Z lv (fuel+1) listed a w:=by
 intro fuel
 induction fuel with
 | zero =>
  intro listed a w _ _ hr hy H;refine ⟨fun h=>(by rw [h] at hr;cases hr),fun j hj=>?_⟩
  by_cases hji:j=i
  ·subst hji;exact hy.wpOp hi (Keeps.refl _ _) ⟨Keeps.refl _ _,H⟩
  ·have:=ready_mono hj hji
   rw [H.1] at this
   cases this
 | succ fuel ih =>
  intro listed a w hfree hun hr hy H;refine ⟨fun h=>(by rw [h] at hr;cases hr),fun j hj=>?_⟩
  by_cases hji:j=i
  ·subst hji;exact hy.wpOp hi (Keeps.refl _ _) ⟨Keeps.refl _ _,H⟩
  ·have h1:=H.2 j (ready_mono hj hji)
   obtain ⟨hjun,oj,hoj,hall⟩:=mem_ready.1 hj;have hi0:=(mem_ready.1 hr).1
   have hoff:∀ e ∈ oj.after,Region.binds md e=true→e.on≠i∧e.on ∉ D:=fun e he hb=>by
    have h1:=hall e he hb;refine ⟨fun heq=>?_,fun hd=>?_⟩
    ·rw [heq] at h1
     rcases Nat.lt_or_ge i listed.size with h'|h'
     ·simp [h'] at hi0 h1;rw [hi0] at h1;cases h1
     ·simp [Array.getElem?_eq_none h'] at h1
    ·rw [hun _ hd] at h1;cases h1
   have hjD:j ∉ D:=fun hd=>by
    obtain ⟨e,he,hb,h2⟩:=hD j oj hd hoj
    rcases h2 with h2|h2
    ·exact (hoff e he hb).1 h2
    ·exact (hoff e he hb).2 h2
   have hnot:∀ e ∈ oj.after,Region.binds md e=true→e.on≠i:=fun e he hb=>(hoff e he hb).1;have h2:=wpOp_putIf hoj (hfree j oj hoj hji hjun hnot) (fun cs b=>hsel i oi cs b hi) (fun cs b=>hsel j oj cs b hoj) hQ hy h1
   have hfree':∀ k ok,ops[k]?=some ok→k≠i→(listed.setIfInBounds j true).getD k true=false →
     (∀ e ∈ ok.after,Region.binds md e=true→e.on≠i)→oi.apart ops ok=true:=fun k ok hk hki hun hno=>by
    refine hfree k ok hk hki ?_ hno
    by_cases hjk:j=k
    ·subst hjk;exact hjun
    ·rw [getD_set_ne true hjk] at hun;exact hun
   have hun':∀ d ∈ D,(listed.setIfInBounds j true).getD d false=false:=fun d hd=>by
    rw [getD_set_ne false (fun e=>hjD (by rw [e];exact hd))];exact hun d hd
   refine wpOp_mono (fun a' w' h3=>⟨h3.2.1,ih (listed.setIfInBounds j true) a' w' hfree' hun' (ready_mono hr (Ne.symm hji)) (YieldsIf.weaken h3.1 (fun u hu=>?_)) ?_⟩) h2
   ·exact Keeps.trans ⟨h3.2.1.os,h3.2.1.tape,h3.2.1.output,h3.2.1.size,fun b hb hx=>h3.2.1.block b hb (fun hm=>hx (hX j hjD hji b hm))⟩ hu
   ·rw [Array.setIfInBounds_comm _ _ hji]
    exact h3.2.2
def behind (md:Region.Mode) (ops:Array Oper) (i:Nat) (D:List Nat) (listed:Array Bool):Bool :=
 D.all fun d=>!listed.getD d false&&match ops[d]? with|some o=>o.after.any (fun e=>Region.binds md e&&(e.on==i || D.contains e.on))|none=>true
theorem wpMonoK_takeD {i:Nat} {D:List Nat} {Y:Nat→Prop} {oi:Oper} {v:Value} {fuel:Nat} {listed:Array Bool} {a:Act} {w:World} (hi:ops[i]?=some oi)
  (hs:Region.noSelect ops=true) (hf:Region.free md ops listed i=true) (hr:(Region.ready md ops listed).contains i=true)
  (hQ:∀ c a w,Q (.panic c) (a.put oi.dst v) w→Q (.panic c) a w) (hb:behind md ops i D listed=true)
  (hX:∀ j,j ∉ D→j≠i→∀ b,moves X mv Z lv j b→Y b) (hy:YieldsIf P ops (Keeps Y w) oi v a)
  (h:wpMonoK P md ops Q X mv Z lv fuel (listed.setIfInBounds i true) (a.put oi.dst v) w):wpMonoK P md ops Q X mv Z lv (fuel+1) listed a w:=by
 have hb':=List.all_eq_true.1 hb;refine wpMonoK_first hi (Region.noSelect_spec hs) hQ (D:=D) (fun d od hd hod=>?_) hX fuel listed a w (Region.free_spec hi hf) (fun d hd=>?_) (by simpa using hr) hy h
 ·have h1:=hb' d hd
  rw [hod] at h1;simp only [Bool.and_eq_true] at h1;obtain ⟨e,he,h2⟩:=Array.any_eq_true'.1 h1.2;simp only [Bool.and_eq_true,Bool.or_eq_true,beq_iff_eq,List.contains_iff_mem] at h2;exact ⟨e,he,h2.1,h2.2⟩
 ·have h1:=hb' d hd
  simp only [Bool.and_eq_true,Bool.not_eq_true'] at h1;exact h1.1
theorem wpMonoK_take' (i:Nat) {oi:Oper} {v:Value} {fuel:Nat} {listed:Array Bool} {a:Act} {w:World} (hi:ops.toList[i]?=some oi)
  (hs:Region.noSelect ops=true) (hf:Region.free md ops listed i=true) (hr:(Region.ready md ops listed).contains i=true)
  (hQ:∀ c a w,Q (.panic c) (a.put oi.dst v) w→Q (.panic c) a w) (hg:Region.wanted oi (yielded ops a.tmps)=true) (hy:∀ w',Keeps (fun b=>X b∨Z b) w w'→(execOp a.eval oi).run P w'=.ok (.value v) w')
  (h:wpMonoK P md ops Q X mv Z lv fuel (listed.setIfInBounds i true) (a.put oi.dst v) w):wpMonoK P md ops Q X mv Z lv (fuel+1) listed a w :=
 wpMonoK_takeD (D:=[]) (Y:=fun b=>X b∨Z b) (by simpa using hi) hs hf hr hQ rfl (fun _ _ _ _ h=>h.imp (·.2) (·.2)) (.inl ⟨hg,hy⟩) h
theorem wpMonoK_read' (i:Nat) (D:List Nat) {oi:Oper} {v:Value} {fuel:Nat} {listed:Array Bool} {a:Act} {w:World} (hi:ops.toList[i]?=some oi)
  (hs:Region.noSelect ops=true) (hf:Region.free md ops listed i=true) (hr:(Region.ready md ops listed).contains i=true)
  (hb:behind md ops i D listed=true) (hall:lv.all (fun j=>D.contains j)=true)
  (hQ:∀ c a w,Q (.panic c) (a.put oi.dst v) w→Q (.panic c) a w) (hg:Region.wanted oi (yielded ops a.tmps)=true) (hy:∀ w',Keeps X w w'→(execOp a.eval oi).run P w'=.ok (.value v) w')
  (h:wpMonoK P md ops Q X mv Z lv fuel (listed.setIfInBounds i true) (a.put oi.dst v) w):wpMonoK P md ops Q X mv Z lv (fuel+1) listed a w :=
 wpMonoK_takeD (D:=D) (Y:=X) (by simpa using hi) hs hf hr hQ hb (fun j hj _ b hm=>by
  rcases hm with hm|hm
  ·exact hm.2
  ·have:=List.all_eq_true.1 hall j hm.1
   exact absurd (by simpa using this) hj) (.inl ⟨hg,hy⟩) h
theorem wpMonoK_one' (i:Nat) {o:Oper} {fuel:Nat} {listed:Array Bool} {a:Act} {w:World} (hr:Region.ready md ops listed=[i]) (ho:ops.toList[i]?=some o) (hg:Region.wanted o (yielded ops a.tmps)=true)
  (h:∀ K':Act→World→Prop,Shut (∀ a w',Keeps (moves X mv Z lv i) w w'→wpMonoK P md ops Q X mv Z lv fuel (listed.setIfInBounds i true) a w'→K' a w')→Oper.wp P o a w K' Q):wpMonoK P md ops Q X mv Z lv (fuel+1) listed a w :=
 ⟨fun h0=>(by rw [hr] at h0;cases h0),fun j hj=>(by
  rw [hr,List.mem_singleton] at hj;subst hj;exact wpOp_step (by simpa using ho) (fun K' hK=>by rw [if_pos hg];exact h K' (fun a w' h1 h2=>hK a w' ⟨h1,h2⟩)))⟩
theorem wpMonoK_two' (i j:Nat) {o o2:Oper} {fuel:Nat} {listed:Array Bool} {a:Act} {w:World} (hr:Region.ready md ops listed=[i,j]) (ho:ops.toList[i]?=some o) (hg:Region.wanted o (yielded ops a.tmps)=true) (ho2:ops.toList[j]?=some o2) (hg2:Region.wanted o2 (yielded ops a.tmps)=true)
  (h:∀ K':Act→World→Prop,Shut (∀ a w',Keeps (moves X mv Z lv i) w w'→wpMonoK P md ops Q X mv Z lv fuel (listed.setIfInBounds i true) a w'→K' a w')→Oper.wp P o a w K' Q)
  (h2:∀ K':Act→World→Prop,Shut (∀ a w',Keeps (moves X mv Z lv j) w w'→wpMonoK P md ops Q X mv Z lv fuel (listed.setIfInBounds j true) a w'→K' a w')→Oper.wp P o2 a w K' Q):wpMonoK P md ops Q X mv Z lv (fuel+1) listed a w :=
 ⟨fun h0=>(by rw [hr] at h0;cases h0),fun k hk=>(by
  rw [hr] at hk
  rcases List.mem_cons.1 hk with hk|hk
  ·subst hk
   exact wpOp_step (by simpa using ho) (fun K' hK=>by rw [if_pos hg];exact h K' (fun a w' h1 h2=>hK a w' ⟨h1,h2⟩))
  ·rw [List.mem_singleton] at hk
   subst hk;exact wpOp_step (by simpa using ho2) (fun K' hK=>by rw [if_pos hg2];exact h2 K' (fun a w' h1 h2=>hK a w' ⟨h1,h2⟩)))⟩
theorem wpMonoK_done {listed:Array Bool} {a:Act} {w:World} (hr:Region.ready md ops listed=[]) (h:Q .normal a w):∀ fuel,wpMonoK P md ops Q X mv Z lv fuel listed a w
 | 0=>⟨hr,h⟩
 | _+1=>⟨fun _=>h,by rw [hr];simp⟩
theorem wp_region_monoK (X:Nat→Prop) (mv:List Nat) (Z:Nat→Prop) (lv:List Nat) {id:Nat} {a:Act} {w:World} (hm:P.follows .mixedOrders=true)
  (h:wpMonoK P .any ops Q X mv Z lv ops.size (Array.replicate ops.size false) a w.drew):(Code.region id ops true).wp P Q a w:=wp_region_any hm (wpAny_of_monoK _ _ _ _ h)
theorem moved {w w':World} {i:Nat} (h:Keeps X w w') (hi:i ∈ mv):Keeps (moves X mv Z lv i) w w':=⟨h.os,h.tape,h.output,h.size,fun b hb hx=>h.block b hb (fun h=>hx (.inl ⟨hi,h⟩))⟩
theorem movedL {w w':World} {i:Nat} (h:Keeps Z w w') (hi:i ∈ lv):Keeps (moves X mv Z lv i) w w':=⟨h.os,h.tape,h.output,h.size,fun b hb hx=>h.block b hb (fun h=>hx (.inr ⟨hi,h⟩))⟩
theorem stays {w w':World} {i:Nat} (h:Keeps nobody w w'):Keeps (moves X mv Z lv i) w w':=⟨h.os,h.tape,h.output,h.size,fun b hb _=>h.block b hb (fun h=>h)⟩
end
end monok
namespace list
open Go.RowKit base Go.Maps Go.ChangeMaps
def bl (a b:ByteArray):Bool:=Op.bytesLess a.toList b.toList
theorem before_eq:∀ a b:List UInt8,bytesBefore a b=Op.bytesLess a b
 | [],[]=>rfl
 | [],_ :: _=>rfl
 | _ :: _,[]=>rfl
 | a :: x,b :: y=>by simp only [bytesBefore,Op.bytesLess,before_eq x y]
theorem less_tri:∀ a b:List UInt8,(a=b∧Op.bytesLess a b=false∧Op.bytesLess b a=false)∨(a≠b∧Op.bytesLess a b=true∧Op.bytesLess b a=false)∨(a≠b∧Op.bytesLess a b=false∧Op.bytesLess b a=true)
 | [],[]=>.inl ⟨rfl,rfl,rfl⟩
 | [],b :: y=>.inr (.inl ⟨by simp,rfl,rfl⟩)
 | a :: x,[]=>.inr (.inr ⟨by simp,rfl,rfl⟩)
 | a :: x,b :: y=>by
  have ih:=less_tri x y;simp only [Op.bytesLess,List.cons.injEq,ne_eq]
  by_cases h:a=b
  ·subst h
   have hl:decide (a<a)=false:=by simp
   simp only [hl,Bool.false_or,beq_self_eq_true,Bool.true_and,true_and];exact ih
  ·have h1:(a==b)=false:=by simpa using h
   have h2:(b==a)=false:=by simpa using fun e:b=a=>h e.symm
   simp only [h1,h2,h,Bool.false_and,Bool.or_false,false_and,not_false_eq_true,true_and,false_or]
   rcases Nat.lt_trichotomy a.toNat b.toNat with hl|hl|hl
   ·left;simp [UInt8.lt_iff_toNat_lt];omega
   ·exact absurd (UInt8.toNat_inj.1 hl) h
   ·right;simp [UInt8.lt_iff_toNat_lt];omega
theorem less_trans:∀ a b c:List UInt8,Op.bytesLess a b=true→Op.bytesLess b c=true→Op.bytesLess a c=true
 | _,[],_,h,_=>by simp [Op.bytesLess] at h
 | _,_ :: _,[],_,h=>by simp [Op.bytesLess] at h
 | [],_ :: _,_ :: _,_,_=>rfl
 | a :: x,b :: y,c :: z,h,h'=>by
  simp only [Op.bytesLess,Bool.or_eq_true,Bool.and_eq_true,decide_eq_true_eq,beq_iff_eq,UInt8.lt_iff_toNat_lt] at h h' ⊢
  rcases h with h|⟨rfl,h⟩
  ·rcases h' with h'|⟨rfl,h'⟩
   ·left;omega
   ·left;exact h
  ·rcases h' with h'|⟨rfl,h'⟩
   ·left;exact h'
   ·right;exact ⟨rfl,less_trans x y z h h'⟩
theorem bl_tri (a b:ByteArray):(a=b∧bl a b=false∧bl b a=false)∨(a≠b∧bl a b=true∧bl b a=false)∨(a≠b∧bl a b=false∧bl b a=true):=by
 have h:=less_tri a.toList b.toList
 have e:a.toList=b.toList↔a=b:=by
  rw [ByteArray.toList_eq,ByteArray.toList_eq]
  constructor
  ·intro h;obtain ⟨⟨x⟩⟩:=a;obtain ⟨⟨y⟩⟩:=b;simp at h;simp [h]
  ·rintro rfl;rfl
 simp only [ne_eq,e] at h;exact h
theorem bl_trans {a b c:ByteArray} (h:bl a b=true) (h':bl b c=true):bl a c=true:=less_trans _ _ _ h h'
theorem bl_irr (a:ByteArray):bl a a=false:=by rcases bl_tri a a with h|h|h <;> simp_all
theorem bl_asym {a b:ByteArray} (h:bl a b=true):bl b a=false:=by
 rcases bl_tri a b with h'|h'|h'
 ·exact h'.2.2
 ·exact h'.2.2
 ·rw [h] at h';cases h'.2.1
def eqb (a b:ByteArray):Bool:=a.toList==b.toList
theorem eqb_iff {a b:ByteArray}:eqb a b=true↔a=b:=by
 unfold eqb;rw [beq_iff_eq,ByteArray.toList_eq,ByteArray.toList_eq]
 constructor
 ·intro h;obtain ⟨⟨x⟩⟩:=a;obtain ⟨⟨y⟩⟩:=b;simp at h;simp [h]
 ·rintro rfl;rfl
theorem eqb_self (a:ByteArray):eqb a a=true:=eqb_iff.2 rfl
theorem eqb_false {a b:ByteArray} (h:a≠b):eqb a b=false:=by rw [Bool.eq_false_iff];exact fun e=>h (eqb_iff.1 e)
theorem eq_data (a b:ByteArray):(a.data.toList==b.data.toList)=eqb a b:=by unfold eqb;rw [ByteArray.toList_eq,ByteArray.toList_eq]
structure Ep where
 u:ByteArray
 n:Int
def ep (e:Ep):List Value:=[.string e.u,.int .i64 e.n]
theorem ep_len (e:Ep):(ep e).length=2:=rfl
def ent (e:Ep):Lit × DataW Unit:=(.string e.u.data.toList,.lit (.int .i64 e.n))
def dm (L:List Ep):DataW Unit:=.map (L.map ent)
def getL:List Ep→ByteArray→Int
 | [],_=>0
 | e :: L,u=>if eqb e.u u then e.n else getL L u
def putL:List Ep→ByteArray→Int→List Ep
 | [],u,n=>[⟨u,n⟩]
 | e :: L,u,n=>if bl u e.u then ⟨u,n⟩ :: e :: L else if eqb u e.u then ⟨u,n⟩ :: L else e :: putL L u n
def Rising:List Ep→Prop
 | []=>True
 | e :: L=>(∀ f ∈ L,bl e.u f.u=true)∧Rising L
theorem at_dm (L:List Ep) (u:ByteArray):(dm L).atKey (.string u.data.toList) (.lit (.int .i64 0))=.lit (.int .i64 (getL L u)):=by
 unfold dm;simp only [DataW.atKey]
 induction L with
 | nil=>rfl
 | cons e L ih =>
  simp only [List.map_cons,List.find?_cons,getL];have:(ent e).1.sameKey (.string u.data.toList)=eqb e.u u:=by simp only [ent,Lit.sameKey];exact eq_data _ _
  rw [this]
  cases eqb e.u u
  ·exact ih
  ·rfl
theorem size_dm (L:List Ep):Maps.size (dm L)=L.length:=by simp [dm,Maps.size]
theorem put_dm (L:List Ep) (h:Rising L) (u:ByteArray) (n:Int):(dm L).put (.string u.data.toList) (.lit (.int .i64 n))=dm (putL L u n):=by
 unfold dm;simp only [DataW.put]
 congr 1
 induction L with
 | nil=>rfl
 | cons e L ih =>
  obtain ⟨h1,h2⟩:=h
  have hb:(Lit.string u.data.toList).before (ent e).1=bl u e.u:=by
   simp only [ent,Lit.before,before_eq,bl,ByteArray.toList_eq]
  have hs:(ent e).1.sameKey (.string u.data.toList)=eqb e.u u:=by simp only [ent,Lit.sameKey];exact eq_data _ _
  have hrest:∀ L':List Ep,(∀ f ∈ L',bl u f.u=true)→DataW.insert (.string u.data.toList,.lit (.int .i64 n)) ((L'.map ent).filter fun p=>!p.1.sameKey (.string u.data.toList))=ent ⟨u,n⟩ :: L'.map ent:=by
   intro L' hL
   have hf:((L'.map ent).filter fun p=>!p.1.sameKey (.string u.data.toList))=L'.map ent:=by
    refine List.filter_eq_self.2 fun p hp=>?_;obtain ⟨f,hf,rfl⟩:=List.mem_map.1 hp;have:=hL f hf;have hs:(ent f).1.sameKey (.string u.data.toList)=eqb f.u u:=by simp only [ent,Lit.sameKey];exact eq_data _ _
    rw [hs]
    rcases bl_tri u f.u with h|h|h
    ·rw [h.2.1] at this;cases this
    ·rw [eqb_false (fun e=>h.1 e.symm)];rfl
    ·rw [h.2.1] at this;cases this
   rw [hf]
   cases L' with
   | nil=>rfl
   | cons f L' =>
    simp only [List.map_cons,DataW.insert]
    have hb:(Lit.string u.data.toList).before (ent f).1=bl u f.u:=by
     simp only [ent,Lit.before,before_eq,bl,ByteArray.toList_eq]
    rw [hb,hL f (by simp)];rfl
  simp only [putL]
  rcases bl_tri u e.u with ⟨h,h3,h4⟩|⟨h,h3,h4⟩|⟨h,h3,h4⟩
  ·subst h
   have:=hrest L h1;rw [h3];simp only [List.map_cons,List.filter_cons,hs,eqb_self,Bool.not_true,Bool.false_eq_true,if_false,if_true];exact this
  ·have:=hrest (e :: L) (fun f hf=>by
    rcases List.mem_cons.1 hf with rfl|hf
    ·exact h3
    ·exact bl_trans h3 (h1 f hf))
   rw [h3];simp only [if_true,List.map_cons] at this ⊢;exact this
  ·have hne:eqb e.u u=false:=eqb_false (fun e=>h e.symm)
   have hne':eqb u e.u=false:=eqb_false h;rw [h3,hne'];simp only [Bool.false_eq_true,if_false,List.map_cons,List.filter_cons,hs,hne,Bool.not_false,if_true,DataW.insert,hb,h3];rw [ih h2]
theorem rising_put (L:List Ep) (u:ByteArray) (n:Int):Rising L→Rising (putL L u n)∧∀ f ∈ putL L u n,f.u=u∨f ∈ L:=by
 induction L with
 | nil=>intro _;simp [putL,Rising]
 | cons e L ih =>
  rintro ⟨h1,h2⟩;obtain ⟨i1,i2⟩:=ih h2;simp only [putL]
  rcases bl_tri u e.u with ⟨h,h3,h4⟩|⟨h,h3,h4⟩|⟨h,h3,h4⟩
  ·subst h
   simp only [h3,Bool.false_eq_true,if_false,eqb_self,if_true];exact ⟨⟨h1,h2⟩,fun f hf=>by rcases List.mem_cons.1 hf with rfl|hf <;> simp_all⟩
  ·simp only [h3,if_true]
   refine ⟨⟨fun f hf=>?_,h1,h2⟩,fun f hf=>by rcases List.mem_cons.1 hf with rfl|hf <;> simp_all⟩
   rcases List.mem_cons.1 hf with rfl|hf
   ·exact h3
   ·exact bl_trans h3 (h1 f hf)
  ·have hne':eqb u e.u=false:=eqb_false h
   simp only [h3,hne',Bool.false_eq_true,if_false];refine ⟨⟨fun f hf=>?_,i1⟩,fun f hf=>?_⟩
   ·rcases i2 f hf with rfl|hf
    ·exact h4
    ·exact h1 f hf
   ·rcases List.mem_cons.1 hf with rfl|hf
    ·simp
    ·rcases i2 f hf with h|h <;> simp_all
theorem mem_put (L:List Ep) (u:ByteArray) (n:Int):∀ f ∈ putL L u n,f=⟨u,n⟩∨f ∈ L:=by
 induction L with
 | nil=>intro f hf;simp [putL] at hf;exact .inl hf
 | cons e L ih =>
  intro f hf;simp only [putL] at hf
  split at hf
  ·rcases List.mem_cons.1 hf with rfl|hf
   ·exact .inl rfl
   ·exact .inr hf
  ·split at hf
   ·rcases List.mem_cons.1 hf with rfl|hf
    ·exact .inl rfl
    ·exact .inr (by simp [hf])
   ·rcases List.mem_cons.1 hf with rfl|hf
    ·exact .inr (by simp)
    ·rcases ih f hf with h|h
     ·exact .inl h
     ·exact .inr (by simp [h])
end list
namespace regn
noncomputable def ownOf:List (Nat × (Nat→Prop))→Nat→Nat
 | [],_=>0
 | q :: l,i=>open Classical in if q.2 i then q.1 else ownOf l i
theorem ownOf_mem:∀ {l:List (Nat × (Nat→Prop))} {i:Nat},ownOf l i≠0→∃ q ∈ l,q.2 i
 | [],i,h=>absurd rfl h
 | q :: l,i,h=>by
  unfold ownOf at h
  by_cases h1:q.2 i
  ·exact ⟨q,by simp,h1⟩
  ·rw [if_neg h1] at h
   obtain ⟨r,h2,h3⟩:=ownOf_mem h;exact ⟨r,by simp [h2],h3⟩
theorem ownOf_tag:∀ {l:List (Nat × (Nat→Prop))} {i:Nat},ownOf l i≠0→∃ q ∈ l,q.1=ownOf l i∧q.2 i
 | [],i,h=>absurd rfl h
 | q :: l,i,h=>by
  unfold ownOf at h ⊢
  by_cases h1:q.2 i
  ·rw [if_pos h1];exact ⟨q,by simp,rfl,h1⟩
  ·rw [if_neg h1] at h ⊢
   obtain ⟨r,h2,h3,h4⟩:=ownOf_tag h;exact ⟨r,by simp [h2],h3,h4⟩
theorem ownOf_at {l:List (Nat × (Nat→Prop))} {i:Nat} (hd:l.Pairwise fun a b=>a.1≠b.1∧∀ i,a.2 i→¬ b.2 i) (h0:∀ q ∈ l,q.1≠0) {q:Nat × (Nat→Prop)} (hq:q ∈ l):ownOf l i=q.1↔q.2 i:=by
 induction l with
 | nil=>cases hq
 | cons r l ih =>
  obtain ⟨h1,h2⟩:=List.pairwise_cons.1 hd;unfold ownOf
  rcases List.mem_cons.1 hq with rfl|hq
  ·by_cases h3:q.2 i
   ·rw [if_pos h3];exact ⟨fun _=>h3,fun _=>rfl⟩
   ·rw [if_neg h3]
    refine ⟨fun e=>?_,fun h=>absurd h h3⟩;have hne:ownOf l i≠0:=by rw [e];exact h0 q (by simp)
    obtain ⟨s,hs,hs1,_⟩:=ownOf_tag hne;exact absurd (hs1.trans e).symm (h1 s hs).1
  ·by_cases h3:r.2 i
   ·rw [if_pos h3]
    exact ⟨fun e=>absurd e (h1 q hq).1,fun h=>absurd h ((h1 q hq).2 i h3)⟩
   ·rw [if_neg h3]
    exact ih h2 (fun s hs=>h0 s (by simp [hs])) hq
end regn
namespace jrnp
open framep wirep diskp
theorem app_full {d:Dk} {t:List UInt8} (h1:d.down=false) (hr:¬ d.b.length+t.length≤d.room):appD d t=(d,4):=by
 unfold appD;rw [if_pos ⟨h1,by omega⟩]
theorem mark_full {d:Dk} (g:Nat) (h1:d.down=false) (h2:d.fuse<0) (hr:¬ d.b.length+(Part.mk 4 g d.b.length []).sealed.length≤d.room) :
  markJ d g=({ d with safe:=d.b.length },4):=by
 unfold markJ;rw [sync_well h1 h2,if_pos rfl];dsimp only;have hs:safeD { d with safe:=d.b.length }=d.b.length:=safe_well (d:={ d with safe:=d.b.length }) h1;have ha:=app_full (d:={ d with safe:=d.b.length }) (t:=(Part.mk 4 g d.b.length []).sealed) h1 hr;rw [hs,ha,if_neg (fun h=>by cases h)]
theorem put_len (g:Nat) (l:List Part) (rs:List (List UInt8)) :
  (dev (putL g l rs)).length=(dev l).length+(dev (recsL g (dev l).length rs)).length+(Part.mk 4 g (dev (l++recsL g (dev l).length rs)).length []).sealed.length:=by
 unfold putL markL;rw [dev_app,dev_app,List.length_append,List.length_append];simp [dev]
theorem put_full {d:Dk} {l:List Part} (g:Nat) (rs:List (List UInt8)) (h:Well d l) (hr:¬ (dev (putL g l rs)).length≤d.room):putJ d g rs=(d,4):=by
 have hself:({ d with b:=d.b.take d.b.length,safe:=min d.safe d.b.length }:Dk)=d:=by
  have e1:d.b.take d.b.length=d.b:=List.take_length;have e2:min d.safe d.b.length=d.safe:=by rw [h.safe];exact Nat.min_self _
  rw [e1,e2]
 have hl:lenD d=d.b.length:=by unfold lenD;rw [h.down];rfl
 have hF:framesB d g rs=dev (recsL g (dev l).length rs):=by unfold framesB;rw [safe_well h.down,h.safe,h.b,recs_dev]
 unfold putJ;rw [hl,hF];rw [put_len] at hr;rw [dev_app,List.length_append] at hr;generalize dev (recsL g (dev l).length rs)=F at *;rw [←h.b] at hr;unfold writeJ write0
 by_cases hf:d.b.length+F.length≤d.room
 ·rw [app_well h.down h.fuse hf,if_pos rfl]
  dsimp only;have hm:=mark_full (d:={ d with b:=d.b++F }) g h.down h.fuse (by rw [List.length_append];exact hr);rw [hm,if_pos rfl];have hc:=cut_well (d:={ d with b:=d.b++F,safe:=(d.b++F).length }) (n:=d.b.length) h.down h.fuse (by rw [List.length_append];omega);dsimp only at hc ⊢;rw [hc,if_pos rfl,List.take_left']
  ·have e:min (d.b++F).length d.b.length=d.safe:=by rw [List.length_append,h.safe];omega
   rw [e]
  ·rfl
 ·have hw:(if (appD d F).2=0 then markJ (appD d F).1 g else appD d F)=(d,4):=by rw [app_full h.down hf,if_neg (fun h=>by cases h)]
  rw [hw,if_pos rfl];have hc:=cut_well (d:=d) (n:=d.b.length) h.down h.fuse (Nat.le_refl _);rw [hself] at hc;dsimp only;rw [hc,if_pos rfl]
def putD (g:Nat) (l:List Part) (rs:List (List UInt8)) (d:Dk):Dk:={ d with b:=dev (putL g l rs),safe:=(dev (putL g l rs)).length }
theorem put_ok {d:Dk} {l:List Part} (g:Nat) (rs:List (List UInt8)) (h:Well d l) (g1:1≤g) (g2:g≤1099511627776) (hrs:∀ s ∈ rs,s.length≤4096) (hr:(dev (putL g l rs)).length≤1048576):Well (putD g l rs d) (putL g l rs):=by
 have hb:=h.few;rw [h.b] at hb;have hlen:=put_len g l rs;refine ⟨rfl,rfl,h.fuse,h.down,?_,hr⟩;intro p hp;unfold putL markL recsL at hp
 rcases List.mem_append.1 hp with hp|hp
 ·rcases List.mem_append.1 hp with hp|hp
  ·exact h.ok p hp
  ·obtain ⟨s,hs,rfl⟩:=List.mem_map.1 hp
   exact ⟨by show 1≤2;omega,by show 2≤4;omega,g1,g2,by show (dev l).length≤_;omega,hrs s hs,.inl rfl⟩
 ·rw [List.mem_singleton.1 hp]
  refine ⟨by show 1≤4;omega,by show 4≤4;omega,g1,g2,?_,by show 0≤4096;omega,.inr rfl⟩;show (dev (l++_)).length≤_;have h2:(dev (l++recsL g (dev l).length rs)).length=(dev l).length+(dev (recsL g (dev l).length rs)).length:=by rw [dev_app,List.length_append]
  have h3:(dev (l++recsL g (dev l).length rs)).length≤1048576:=by omega
  unfold recsL at h3;omega
theorem seal_le (p:Part) (h:p.Ok) (k:Nat) (hk:p.text.length≤k):p.sealed.length≤121+2*k:=by
 unfold Part.sealed Part.bytes textW;rw [seal_len];have h1:=numW_len 8 p.kind (by have:=h.k4;omega);have h2:=numW_len 8 p.gen (by have:=h.g2;omega);have h3:=numW_len 8 p.place (by have:=h.pl;omega);have h4:=numW_len 8 p.text.length (by have:=h.tx;omega);simp only [List.length_append];omega
theorem recs_le (g place k:Nat) (rs:List (List UInt8)) (g1:1≤g) (g2:g≤1099511627776) (hp:place≤1048576) (hk:k≤4096) (hrs:∀ s ∈ rs,s.length≤k):(dev (recsL g place rs)).length≤rs.length*(121+2*k):=by
 induction rs with
 | nil=>simp [dev,recsL]
 | cons s rs ih =>
  have h1:=ih (fun t ht=>hrs t (by simp [ht]));have h2:=seal_le (Part.mk 2 g place s) ⟨by show 1≤2;omega,by show 2≤4;omega,g1,g2,by show place≤_;omega,by show s.length≤4096;have:=hrs s (by simp);omega,.inl rfl⟩ k (hrs s (by simp));have e:recsL g place (s :: rs)=Part.mk 2 g place s :: recsL g place rs:=rfl;rw [e,dev_cons,List.length_append,List.length_cons,Nat.add_mul];omega
end jrnp
namespace range_
open Go.RowKit base map_ Go.Maps Go.ChangeMaps Go.MapKept
section
variable {P:Program} {K T E:TypeId} {κ:Type} {Em:Emb P K κ} {w w':World} {r b:Nat} {m left:List (κ × Value)}
def IterM (Em:Emb P K κ) (w:World) (r b:Nat) (m left:List (κ × Value)):Prop :=
 ∃ es clock seen since c0,w.heap[b]?=some (.map es clock)∧Stamped es clock∧es.toList.map (fun e=>(e.key,e.val))=m.map (fun p=>(Em.en p.1,p.2))∧w.heap[r]?=some (.mapIter (some b) since seen c0)∧(∀ x ∈ es.toList,x.born<since)∧since≤c0∧since≤clock ∧
  (leftOf es seen).toList.map (fun e=>(e.key,e.val))=left.map (fun p=>(Em.en p.1,p.2))∧∀ p ∈ left,p ∈ m
def leftN (w:World) (r b:Nat):Nat:=match w.heap[b]? with|some (.map es _)=>(leftOf es (w.iterSeen r)).size|_=>0
theorem IterM.size (h:IterM Em w r b m left):leftN w r b=left.length:=by
 obtain ⟨es,clock,seen,since,c0,hb,hs,hm,hr,hold,hsc,hcl,hl,hsub⟩:=h;have h1:w.iterSeen r=seen:=by unfold World.iterSeen;rw [hr]
 unfold leftN;rw [hb];simp only [h1];have:=congrArg List.length hl
 simpa using this
theorem IterM.keeps {X:Nat→Prop} (h:IterM Em w r b m left) (hk:Keeps X w w') (hb:¬ X b) (hr:¬ X r):IterM Em w' r b m left:=by
 obtain ⟨es,clock,seen,since,c0,h1,hs,hm,h2,q⟩:=h;exact ⟨es,clock,seen,since,c0,(hk.block b (heap_lt h1) hb).trans h1,hs,hm,(hk.block r (heap_lt h2) hr).trans h2,q⟩
theorem _root_.Go.Proofs.YthlahcnglacekaaGreatDoor.map_.MapM.range (h:MapM Em w b m) (ht:P.underlying T=some (.map K E)) :
  ∃ o,(Instr.range T (.map (some b))).run P w=.ok (.pointer (some ⟨w.heap.size,0,none⟩)) (w.alloc o)∧IterM Em (w.alloc o) w.heap.size b m m:=by
 obtain ⟨es,clock,hb,hs,hm,hok⟩:=h;refine ⟨_,run_range_map w T K E b es clock ht hb,es,clock,#[],clock,clock,(Below.heap_alloc w _ b (heap_lt hb)).trans hb,hs,hm,heap_alloc_new w _,hs.1,Nat.le_refl _,Nat.le_refl _,?_,fun _ h=>h⟩;rw [←hm];unfold leftOf
 congr 1
 rw [Array.toList_filter];exact List.filter_eq_self.2 fun x _=>by simp
theorem left_push {es:Array MapEntry} {seen:Array Nat} {e:MapEntry} {L1 L2:List MapEntry} (hn:(es.toList.map (·.born)).Nodup) (h:(leftOf es seen).toList=L1++e :: L2):(leftOf es (seen.push e.born)).toList=L1++L2:=by
 have h0:(leftOf es seen).toList=es.toList.filter (fun x=>!seen.contains x.born):=by unfold leftOf;simp
 have h1:(leftOf es (seen.push e.born)).toList=((leftOf es seen).toList).filter (fun x=>!(x.born==e.born)):=by
  rw [h0,List.filter_filter];unfold leftOf;rw [Array.toList_filter];refine List.filter_congr fun x _=>?_;rw [contains_push,Bool.not_or,Bool.and_comm]
 have h2:(((leftOf es seen).toList).map (·.born)).Nodup:=by
  rw [h0];exact List.Nodup.sublist (List.Sublist.map _ List.filter_sublist) hn
 rw [h1,h];rw [h] at h2;rw [List.map_append,List.map_cons] at h2;have h3:=List.nodup_append.1 h2;have h4:=List.nodup_cons.1 h3.2.1;rw [List.filter_append,List.filter_cons];simp only [beq_self_eq_true,Bool.not_true,Bool.false_eq_true,if_false]
 congr 1
 ·refine List.filter_eq_self.2 fun x hx=>?_
  have:x.born≠e.born:=h3.2.2 x.born (List.mem_map.2 ⟨x,hx,rfl⟩) e.born (by simp);simp [this]
 ·refine List.filter_eq_self.2 fun x hx=>?_
  have:x.born≠e.born:=fun he=>h4.1 (by rw [←he];exact List.mem_map.2 ⟨x,hx,rfl⟩);simp [this]
theorem IterM.next (h:IterM Em w r b m left) (ty:TypeId) :
  (left=[]∧(Instr.next (.pointer (some ⟨r,0,none⟩)) false ty).run P w=.ok (.tuple #[.bool false]) w) ∨
  ∃ l1 p l2 w',left=l1++p :: l2∧(Instr.next (.pointer (some ⟨r,0,none⟩)) false ty).run P w=.ok (.tuple #[.bool true,Em.en p.1,p.2]) w'∧IterM Em w' r b m (l1++l2) ∧
   (Instr.entry (.pointer (some ⟨r,0,none⟩))).run P w'=.ok (.tuple #[Em.en p.1,p.2]) w'∧Keeps (· = r) w w':=by
 obtain ⟨es,clock,seen,since,c0,hb,hs,hm,hr,hold,hsc,hcl,hl,hsub⟩:=h
 rcases run_next_at (P:=P) w ty r b since c0 seen es clock hr hb hold hsc with ⟨h0,hrun⟩|⟨e,he,w1,hal,hrun⟩
 ·refine .inl ⟨?_,hrun⟩
  have:=congrArg List.length hl;simp [h0] at this
  exact List.eq_nil_of_length_eq_zero this.symm
 ·right
  obtain ⟨L1,L2,hL⟩:=List.append_of_mem he;rw [hL] at hl;have hl2:=hl.symm;rw [List.map_append,List.map_cons] at hl2;obtain ⟨l1,l3,rfl,e1,e2⟩:=List.map_eq_append_iff.1 hl2;obtain ⟨p,l2,rfl,e3,e4⟩:=List.map_eq_cons_iff.1 e2;have e5:Em.en p.1=e.key:=by have:=congrArg Prod.fst e3;exact this
  have e6:p.2=e.val:=by have:=congrArg Prod.snd e3;exact this
  have hne:r≠b:=by
   rintro rfl;rw [hr] at hb;cases hb
  have hrl:=heap_lt hr;have hbl:=heap_lt hb;have hr1:w1.heap[r]?=some (.mapIter (some b) since seen c0):=by rcases hal with rfl|rfl <;> exact hr
  have hb1:w1.heap[b]?=some (.map es clock):=by rcases hal with rfl|rfl <;> exact hb
  have hk1:Keeps (· = r) w w1:=by rcases hal with rfl|rfl;exact (.of_below (Below.refl _ _));exact .drew
  have hr2:(setBlock w1 r (.mapIter (some b) since (seen.push e.born) clock)).heap[r]?=some (.mapIter (some b) since (seen.push e.born) clock):=block_set (heap_lt hr1)
  have hb2:(setBlock w1 r (.mapIter (some b) since (seen.push e.born) clock)).heap[b]?=some (.map es clock):=by
   rw [←hb1];exact (keeps_block w1 r _).block b (heap_lt hb1) (Ne.symm hne)
  refine ⟨l1,p,l2,_,rfl,by rw [e5,e6];exact hrun,⟨es,clock,_,since,clock,hb2,hs,hm,hr2,hold,hcl,hcl,?_,fun q hq=>hsub q (by simp at hq ⊢;rcases hq with hq|hq <;> simp [hq])⟩,?_,hk1.trans (keeps_block w1 r _)⟩
  ·rw [left_push hs.2.1 hL,List.map_append,List.map_append,e1,e4]
  ·rw [e5,e6]
   exact run_entry_at _ r b since seen es clock e hr2 hb2 (mem_left he).1 hs.2.1
end
end range_
namespace claimp
open wirep inp writep
structure PC where
 se:List UInt8
 us:List UInt8
 ep:Nat
 is:Nat
 ke:Nat
 cx:List Nat
deriving DecidableEq
def PC.bytes (x:PC):List UInt8:=textW x.se++(textW x.us++(numW x.ep++(numW x.is++(numW x.ke++vecW x.cx))))
structure PC.Ok (x:PC):Prop where
 s1:1≤x.se.length
 s64:x.se.length≤64
 u1:1≤x.us.length
 u32:x.us.length≤32
 em:x.ep≤maxNum
 im:x.is≤maxNum
 km:x.ke≤maxNum
 tr:trN x.cx maxNum=true
theorem bytes_len {x:PC} (h:x.Ok):x.bytes.length≤400:=by
 obtain ⟨s1,s64,u1,u32,em,im,km,tr⟩:=id h;have hm:maxNum=1099511627776:=rfl;unfold PC.bytes textW;have h1:=numW_len 8 x.ep (by omega);have h2:=numW_len 8 x.is (by omega);have h3:=numW_len 8 x.ke (by omega);have h4:=vecW_len tr;have h5:=numW_len 0 x.se.length (by omega);have h6:=numW_len 0 x.us.length (by omega);simp only [List.length_append];omega
end claimp
namespace mac
open Go Go.RowKit base macp
theorem rot_any (x:Nat) (k:Int) (w:World) (hx:x<4294967296) (hk:k ∈ [(25:Int),14,15,13,26,21,7,30,19,10]) :
  Calls Tryz.prog 266 #[.int .u32 x,.int .i64 k] w fun e w'=>e=.returned (.int .u32 (rot x k.toNat:Nat))∧w'=w:=by
 simp only [List.mem_cons,List.not_mem_nil,or_false] at hk;have h1:=u32_or_nat (x*2 ^ k.toNat % 4294967296) (x / 2 ^ (32-k.toNat)) (M_lt _) (divL _ hx);have b0:bits BinOp.and .u64 25 31=25:=by decide
 have b1:bits BinOp.and .u64 14 31=14:=by decide
 have b2:bits BinOp.and .u64 15 31=15:=by decide
 have b3:bits BinOp.and .u64 13 31=13:=by decide
 have b4:bits BinOp.and .u64 26 31=26:=by decide
 have b5:bits BinOp.and .u64 21 31=21:=by decide
 have b6:bits BinOp.and .u64 7 31=7:=by decide
 have b7:bits BinOp.and .u64 30 31=30:=by decide
 have b8:bits BinOp.and .u64 19 31=19:=by decide
 have b9:bits BinOp.and .u64 10 31=10:=by decide
 have H1:=qH h1;clear h1
 rcases hk with rfl|rfl|rfl|rfl|rfl|rfl|rfl|rfl|rfl|rfl
 all_goals
  go_enter Tryz.func266,Tryz.ntmps266;go_wp2;go_ret
  refine ⟨ret_int (Eq.trans ?_ H1.out),rfl⟩
  congr 1
end mac
namespace mac
open Go Go.RowKit base macp
def eightK (n k:Nat):List Nat:=(List.range 8).map fun j=>if 8≤j+k then byteN n (56-8*j) else 0
def u8s (l:List Nat):List Value:=l.map fun n=>.int .u8 (n:Nat)
theorem eight_any (n:Nat) (w:World) (hn:n<18446744073709551616):Calls Tryz.prog 240 #[.int .u64 n] w fun e w' =>
  e=.returned (.slice (some ⟨w.heap.size,0,none⟩) 8 8)∧Blk w' w.heap.size 380 (u8s (eight n)).toArray∧Below w.heap.size w w':=by
 go_enter Tryz.func240,Tryz.ntmps240;go_wp2
 go_loopw [4,5] (fun _ x wr=>∃ k:Nat,k≤8∧x=.int .i64 k∧Blk wr w.heap.size 380 (u8s (eightK n k)).toArray∧Below w.heap.size w wr) (fun _ x _=>8-(intOf x).toNat)
 case atStart=>exact ⟨0,by omega,rfl,Blk.new w _ _,below_new _ _⟩
 case round =>
  obtain ⟨k,hk,rfl,hb,hbw⟩:=hrel;have hlt:=hb.lt
  by_cases h8:k=8
  ·subst h8
   have HB:=qH hb;have HBW:=qH hbw;clear hb hbw;go_wp2;go_ret
   exact ⟨rfl,HB.out,HBW.out⟩
  ·obtain rfl|rfl|rfl|rfl|rfl|rfl|rfl|rfl:k=0∨k=1∨k=2∨k=3∨k=4∨k=5∨k=6∨k=7:=by omega
   ·have c0:wr.cell? ⟨w.heap.size,7,none⟩=some (.int .u8 0):=hb.cell 7
    have fz:=hb.frozen 7;have E:=qH (fun v (hv:v=Value.int .u8 (byteN n 0:Nat))=>(show Blk (wr.setCell ⟨w.heap.size,7,none⟩ v) w.heap.size 380 (u8s (eightK n (0+1))).toArray from by rw [hv];exact hb.set_ 7 (.int .u8 (byteN n 0:Nat))));have HBW:=qH hbw;clear hb hbw;go_wp2;go_roundw
    case rel=>exact ⟨0+1,by decide,rfl,E.out _ (val_int (by simp [byteN] <;> omega)),HBW.out.trans ((Keeps.set1 _ _ _ _).below (fun i hi e=>by omega) HBW.out.size)⟩
    case measure=>simp [intOf]
   ·have c0:wr.cell? ⟨w.heap.size,6,none⟩=some (.int .u8 0):=hb.cell 6
    have fz:=hb.frozen 6;have E:=qH (fun v (hv:v=Value.int .u8 (byteN n 8:Nat))=>(show Blk (wr.setCell ⟨w.heap.size,6,none⟩ v) w.heap.size 380 (u8s (eightK n (1+1))).toArray from by rw [hv];exact hb.set_ 6 (.int .u8 (byteN n 8:Nat))));have HBW:=qH hbw;clear hb hbw;go_wp2;go_roundw
    case rel=>exact ⟨1+1,by decide,rfl,E.out _ (val_int (by simp [byteN] <;> omega)),HBW.out.trans ((Keeps.set1 _ _ _ _).below (fun i hi e=>by omega) HBW.out.size)⟩
    case measure=>simp [intOf]
   ·have c0:wr.cell? ⟨w.heap.size,5,none⟩=some (.int .u8 0):=hb.cell 5
    have fz:=hb.frozen 5;have E:=qH (fun v (hv:v=Value.int .u8 (byteN n 16:Nat))=>(show Blk (wr.setCell ⟨w.heap.size,5,none⟩ v) w.heap.size 380 (u8s (eightK n (2+1))).toArray from by rw [hv];exact hb.set_ 5 (.int .u8 (byteN n 16:Nat))));have HBW:=qH hbw;clear hb hbw;go_wp2;go_roundw
    case rel=>exact ⟨2+1,by decide,rfl,E.out _ (val_int (by simp [byteN] <;> omega)),HBW.out.trans ((Keeps.set1 _ _ _ _).below (fun i hi e=>by omega) HBW.out.size)⟩
    case measure=>simp [intOf]
   ·have c0:wr.cell? ⟨w.heap.size,4,none⟩=some (.int .u8 0):=hb.cell 4
    have fz:=hb.frozen 4;have E:=qH (fun v (hv:v=Value.int .u8 (byteN n 24:Nat))=>(show Blk (wr.setCell ⟨w.heap.size,4,none⟩ v) w.heap.size 380 (u8s (eightK n (3+1))).toArray from by rw [hv];exact hb.set_ 4 (.int .u8 (byteN n 24:Nat))));have HBW:=qH hbw;clear hb hbw;go_wp2;go_roundw
    case rel=>exact ⟨3+1,by decide,rfl,E.out _ (val_int (by simp [byteN] <;> omega)),HBW.out.trans ((Keeps.set1 _ _ _ _).below (fun i hi e=>by omega) HBW.out.size)⟩
    case measure=>simp [intOf]
   ·have c0:wr.cell? ⟨w.heap.size,3,none⟩=some (.int .u8 0):=hb.cell 3
    have fz:=hb.frozen 3;have E:=qH (fun v (hv:v=Value.int .u8 (byteN n 32:Nat))=>(show Blk (wr.setCell ⟨w.heap.size,3,none⟩ v) w.heap.size 380 (u8s (eightK n (4+1))).toArray from by rw [hv];exact hb.set_ 3 (.int .u8 (byteN n 32:Nat))));have HBW:=qH hbw;clear hb hbw;go_wp2;go_roundw
    case rel=>exact ⟨4+1,by decide,rfl,E.out _ (val_int (by simp [byteN] <;> omega)),HBW.out.trans ((Keeps.set1 _ _ _ _).below (fun i hi e=>by omega) HBW.out.size)⟩
    case measure=>simp [intOf]
   ·have c0:wr.cell? ⟨w.heap.size,2,none⟩=some (.int .u8 0):=hb.cell 2
    have fz:=hb.frozen 2;have E:=qH (fun v (hv:v=Value.int .u8 (byteN n 40:Nat))=>(show Blk (wr.setCell ⟨w.heap.size,2,none⟩ v) w.heap.size 380 (u8s (eightK n (5+1))).toArray from by rw [hv];exact hb.set_ 2 (.int .u8 (byteN n 40:Nat))));have HBW:=qH hbw;clear hb hbw;go_wp2;go_roundw
    case rel=>exact ⟨5+1,by decide,rfl,E.out _ (val_int (by simp [byteN] <;> omega)),HBW.out.trans ((Keeps.set1 _ _ _ _).below (fun i hi e=>by omega) HBW.out.size)⟩
    case measure=>simp [intOf]
   ·have c0:wr.cell? ⟨w.heap.size,1,none⟩=some (.int .u8 0):=hb.cell 1
    have fz:=hb.frozen 1;have E:=qH (fun v (hv:v=Value.int .u8 (byteN n 48:Nat))=>(show Blk (wr.setCell ⟨w.heap.size,1,none⟩ v) w.heap.size 380 (u8s (eightK n (6+1))).toArray from by rw [hv];exact hb.set_ 1 (.int .u8 (byteN n 48:Nat))));have HBW:=qH hbw;clear hb hbw;go_wp2;go_roundw
    case rel=>exact ⟨6+1,by decide,rfl,E.out _ (val_int (by simp [byteN] <;> omega)),HBW.out.trans ((Keeps.set1 _ _ _ _).below (fun i hi e=>by omega) HBW.out.size)⟩
    case measure=>simp [intOf]
   ·have c0:wr.cell? ⟨w.heap.size,0,none⟩=some (.int .u8 0):=hb.cell 0
    have fz:=hb.frozen 0;have E:=qH (fun v (hv:v=Value.int .u8 (byteN n 56:Nat))=>(show Blk (wr.setCell ⟨w.heap.size,0,none⟩ v) w.heap.size 380 (u8s (eightK n (7+1))).toArray from by rw [hv];exact hb.set_ 0 (.int .u8 (byteN n 56:Nat))));have HBW:=qH hbw;clear hb hbw;go_wp2;go_roundw
    case rel=>exact ⟨7+1,by decide,rfl,E.out _ (val_int (by simp [byteN] <;> omega)),HBW.out.trans ((Keeps.set1 _ _ _ _).below (fun i hi e=>by omega) HBW.out.size)⟩
    case measure=>simp [intOf]
end mac
namespace encp
def lett (n:Nat):UInt8:=if n<26 then UInt8.ofNat (n+65) else if n<52 then UInt8.ofNat (n+71) else if n<62 then UInt8.ofNat (n-4) else if n=62 then 45 else 95
def sext:List UInt8→List Nat
 | a :: b :: c :: r=>a.toNat / 4 :: (a.toNat % 4*16+b.toNat / 16) :: (b.toNat % 16*4+c.toNat / 64) :: c.toNat % 64 :: sext r
 | [a,b]=>[a.toNat / 4,a.toNat % 4*16+b.toNat / 16,b.toNat % 16*4]
 | [a]=>[a.toNat / 4,a.toNat % 4*16]
 | []=>[]
def enc (l:List UInt8):List UInt8:=(sext l).map lett
theorem enc3 (a b c:UInt8) (r:List UInt8):enc (a :: b :: c :: r)=[lett (a.toNat / 4),lett (a.toNat % 4*16+b.toNat / 16),lett (b.toNat % 16*4+c.toNat / 64),lett (c.toNat % 64)]++enc r:=rfl
theorem sext_lt:∀ (l:List UInt8),∀ n ∈ sext l,n<64
 | a :: b :: c :: r=>by
  have ha:=a.toNat_lt;have hb:=b.toNat_lt;have hc:=c.toNat_lt;have ih:=sext_lt r;intro n hn;simp only [sext,List.mem_cons] at hn
  rcases hn with rfl|rfl|rfl|rfl|h
  ·omega
  ·omega
  ·omega
  ·omega
  ·exact ih n h
 | [a,b]=>by
  have ha:=a.toNat_lt;have hb:=b.toNat_lt;intro n hn;simp only [sext,List.mem_cons,List.not_mem_nil,or_false] at hn
  rcases hn with rfl|rfl|rfl <;> omega
 | [a]=>by
  have ha:=a.toNat_lt;intro n hn;simp only [sext,List.mem_cons,List.not_mem_nil,or_false] at hn
  rcases hn with rfl|rfl <;> omega
 | []=>by intro n hn;cases hn
theorem sext_len:∀ (l:List UInt8),(sext l).length=(l.length*4+2) / 3
 | a :: b :: c :: r=>by
  have ih:=sext_len r;simp only [sext,List.length_cons,ih];omega
 | [a,b]=>by simp [sext]
 | [a]=>by simp [sext]
 | []=>by simp [sext]
theorem enc_len (l:List UInt8):(enc l).length=(l.length*4+2) / 3:=by rw [enc,List.length_map,sext_len]
theorem lett_ok:∀ n:Fin 64,(lett n.val).toNat<128∧(lett n.val).toNat≠46∧33≤(lett n.val).toNat∧(lett n.val).toNat≤126∧(lett n.val).toNat≠34∧(lett n.val).toNat≠44∧(lett n.val).toNat≠59∧(lett n.val).toNat≠92∧(lett n.val).toNat≠61:=by decide +kernel
theorem enc_mem {l:List UInt8} {c:UInt8} (h:c ∈ enc l):∃ n:Fin 64,c=lett n.val:=by
 obtain ⟨n,hn,rfl⟩:=List.mem_map.1 h;exact ⟨⟨n,sext_lt l n hn⟩,rfl⟩
end encp
namespace encp
def nb (r:List UInt8):Nat→Nat
 | 0=>0
 | i+1=>nb r i*256+(r.getD i 0).toNat
theorem nb_lt (r:List UInt8):∀ i,nb r i<256 ^ i
 | 0=>by simp [nb]
 | i+1=>by
  have h:=nb_lt r i;have hb:=(r.getD i 0).toNat_lt;rw [nb,Nat.pow_succ]
  have:nb r i*256+256≤256 ^ i*256:=by
   have:=Nat.mul_le_mul_right 256 h;omega
  omega
theorem nb_or {r:List UInt8} {i:Nat}:nb r i*256 ||| (r.getD i 0).toNat=nb r (i+1):=by
 rw [nb,show nb r i*256=2 ^ 8*nb r i by omega,Nat.two_pow_add_eq_or_of_lt (r.getD i 0).toNat_lt]
def shl (n i:Nat):Nat:=n*64 ^ i % 4294967296
theorem shl_0 {n:Nat} (h:n<4294967296):shl n 0=n:=by simp [shl,Nat.mod_eq_of_lt h]
theorem shl_next (n i:Nat):shl n i*64 % 4294967296=shl n (i+1):=by
 unfold shl;rw [Nat.pow_succ,←Nat.mul_assoc,Nat.mod_mul_mod]
theorem shl_lt (n i:Nat):shl n i<4294967296:=Nat.mod_lt _ (by decide)
def digitN (n i:Nat):Nat:=shl n i / 262144 % 64
theorem digitN_lt (n i:Nat):digitN n i<64:=Nat.mod_lt _ (by decide)
def lets (r:List UInt8) (j:Nat):List UInt8:=(List.range j).map fun i=>lett (digitN (nb r 3) i)
theorem lets_next (r:List UInt8) (j:Nat):lets r j++[lett (digitN (nb r 3) j)]=lets r (j+1):=by
 unfold lets;rw [List.range_succ,List.map_append];rfl
theorem enc_step (r:List UInt8) (h:r≠[]):lets r (min r.length 3+1)++enc (r.drop 3)=enc r:=by
 match r,h with
 | [a],_ =>
  have ha:=a.toNat_lt;have d0:digitN (nb [a] 3) 0=a.toNat / 4:=by unfold digitN shl;simp [nb];omega
  have d1:digitN (nb [a] 3) 1=a.toNat % 4*16:=by unfold digitN shl;simp [nb];omega
  show [lett (digitN (nb [a] 3) 0),lett (digitN (nb [a] 3) 1)]++enc []=_;rw [d0,d1];rfl
 | [a,b],_ =>
  have ha:=a.toNat_lt;have hb:=b.toNat_lt;have d0:digitN (nb [a,b] 3) 0=a.toNat / 4:=by unfold digitN shl;simp [nb];omega
  have d1:digitN (nb [a,b] 3) 1=a.toNat % 4*16+b.toNat / 16:=by unfold digitN shl;simp [nb];omega
  have d2:digitN (nb [a,b] 3) 2=b.toNat % 16*4:=by unfold digitN shl;simp [nb];omega
  show [lett (digitN (nb [a,b] 3) 0),lett (digitN (nb [a,b] 3) 1),lett (digitN (nb [a,b] 3) 2)]++enc []=_;rw [d0,d1,d2];rfl
 | a :: b :: c :: r,_ =>
  have ha:=a.toNat_lt;have hb:=b.toNat_lt;have hc:=c.toNat_lt;have hm:min (a :: b :: c :: r).length 3+1=4:=by simp
  have d0:digitN (nb (a :: b :: c :: r) 3) 0=a.toNat / 4:=by unfold digitN shl;simp [nb];omega
  have d1:digitN (nb (a :: b :: c :: r) 3) 1=a.toNat % 4*16+b.toNat / 16:=by unfold digitN shl;simp [nb];omega
  have d2:digitN (nb (a :: b :: c :: r) 3) 2=b.toNat % 16*4+c.toNat / 64:=by unfold digitN shl;simp [nb];omega
  have d3:digitN (nb (a :: b :: c :: r) 3) 3=c.toNat % 64:=by unfold digitN shl;simp [nb];omega
  rw [hm,enc3];show [lett (digitN (nb (a :: b :: c :: r) 3) 0),lett (digitN (nb (a :: b :: c :: r) 3) 1),lett (digitN (nb (a :: b :: c :: r) 3) 2),lett (digitN (nb (a :: b :: c :: r) 3) 3)]++enc r=_;rw [d0,d1,d2,d3]
def letters:List UInt8:=[65,66,67,68,69,70,71,72,73,74,75,76,77,78,79,80,81,82,83,84,85,86,87,88,89,90,97,98,99,100,101,102,103,104,105,106,107,108,109,110,111,112,113,114,115,116,117,118,119,120,121,122,48,49,50,51,52,53,54,55,56,57,45,95]
theorem sext3 (a b c:UInt8) (r:List UInt8):sext (a :: b :: c :: r)=a.toNat / 4 :: (a.toNat % 4*16+b.toNat / 16) :: (b.toNat % 16*4+c.toNat / 64) :: c.toNat % 64 :: sext r:=rfl
theorem or4 {a b c d:Nat} (hb:b<64) (hc:c<64) (hd:d<64):((a*262144 ||| b*4096) ||| c*64) ||| d=a*262144+b*4096+c*64+d:=by
 have h1:a*262144 ||| b*4096=a*262144+b*4096:=by
  rw [show a*262144=2 ^ 18*a by omega,←Nat.two_pow_add_eq_or_of_lt (show b*4096<2 ^ 18 by omega)]
 have h2:(a*262144+b*4096) ||| c*64=a*262144+b*4096+c*64:=by
  rw [show a*262144+b*4096=2 ^ 12*(a*64+b) by omega,←Nat.two_pow_add_eq_or_of_lt (show c*64<2 ^ 12 by omega)]
 have h3:(a*262144+b*4096+c*64) ||| d=a*262144+b*4096+c*64+d:=by
  rw [show a*262144+b*4096+c*64=2 ^ 6*(a*4096+b*64+c) by omega,←Nat.two_pow_add_eq_or_of_lt (show d<2 ^ 6 by omega)]
 rw [h1,h2,h3]
theorem or2 {a b:Nat} (hb:b<4):a*4 ||| b=a*4+b:=by
 rw [show a*4=2 ^ 2*a by omega,←Nat.two_pow_add_eq_or_of_lt (show b<2 ^ 2 by omega)]
theorem or16 {a b:Nat} (hb:b<16):a*16 ||| b=a*16+b:=by
 rw [show a*16=2 ^ 4*a by omega,←Nat.two_pow_add_eq_or_of_lt (show b<2 ^ 4 by omega)]
end encp
end Go.Proofs.YthlahcnglacekaaGreatDoor
