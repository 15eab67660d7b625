/- Part of GateRetires. -/
import Derived.Test.YthlahcnglacekaaGreatDoorB02
import Derived.Lib.AppendZeros
import Derived.Lib.Overlaps
import Derived.Deep.Cut
import Derived.Laws.BytesArg
set_option maxRecDepth 100000
set_option maxHeartbeats 16000000
namespace Go.Proofs.YthlahcnglacekaaGreatDoor
namespace wire
open Go.RowKit base rowe err
structure Wr where
 r:Int
 n:Int
 t:Int
 s:Int
 d:Value
 z:List Int
 se:ByteArray
 k:ByteArray
 v:ByteArray
 g:Bool
 l:Int
def Wr.cells (x:Wr):List Value:=[.int .i64 x.r,.int .i64 x.n,.int .i64 x.t,.int .i64 x.s,x.d,.string x.se,.string x.k,.string x.v,.bool x.g,.int .i64 x.l]
theorem Wr.len (x:Wr):x.cells.length=10:=rfl
def Nums (w:World) (B:Nat) (d:Value) (zs:List Int):Prop:=∃ A m c,d=.slice A m c∧zs.length=m∧m≤maxLen∧Reads w B 1 A m (zs.map (Value.int .i64))
theorem Nums.keep {w w':World} {B:Nat} {d:Value} {zs:List Int} (h:Nums w B d zs) (hk:∀ b o,b<B→w'.cell? ⟨b,o,none⟩=w.cell? ⟨b,o,none⟩):Nums w' B d zs:=by
 obtain ⟨A,m,c,h1,h2,h3,h4⟩:=h;exact ⟨A,m,c,h1,h2,h3,h4.keep hk⟩
theorem Nums.below {w w':World} {B:Nat} {d:Value} {zs:List Int} (h:Nums w B d zs) (hb:Below B w w'):Nums w' B d zs:=h.keep fun b o hp=>hb.cell (p:=⟨b,o,none⟩) hp
theorem Nums.more {w:World} {B B':Nat} {d:Value} {zs:List Int} (h:Nums w B d zs) (hb:B≤B'):Nums w B' d zs:=by
 obtain ⟨A,m,c,h1,h2,h3,h4⟩:=h;exact ⟨A,m,c,h1,h2,h3,h4.more hb⟩
def inB (n least:Int):Bool:=decide (least≤n)&&decide (n≤1099511627776)
def rightB (x:Wr):Bool :=
 decide ((1:Int)≤x.r)&&(decide (x.r≤16)&&(inB x.n 1&&((x.s==x.r)&&(inB x.t 1&&(trB x.z 1099511627776&&(decide ((1:Int)≤(x.se.size:Nat))&&(decide (((x.se.size:Nat):Int)≤64)&&(decide (((x.k.size:Nat):Int)≤32)&&(decide (((x.v.size:Nat):Int)≤128)&&((!x.g || (x.v.toList==[]))&&(inB x.l 0)))))))))))
theorem in_any (n least:Int) (w:World):Calls Tryz.prog 187 #[.int .i64 n,.int .i64 least] w fun e w'=>e=.returned (.bool (inB n least))∧w'=w:=by
 unfold inB
 cases h1:decide (least≤n)
 ·go_enter Tryz.func187,Tryz.ntmps187
  go_wp2;go_ret
  exact ⟨rfl,rfl⟩
 ·cases h2:decide (n≤1099511627776)
  ·go_enter Tryz.func187,Tryz.ntmps187
   go_wp2;go_ret
   exact ⟨rfl,rfl⟩
  ·go_enter Tryz.func187,Tryz.ntmps187
   go_wp2;go_ret
   exact ⟨rfl,rfl⟩
end wire
namespace wire
open Go.RowKit base rowe err
def NumsO (w:World) (lo:Nat) (d:Value) (zs:List Int):Prop:=w.ownsRow lo 3 1 d zs.length (zs.map (Value.int .i64))∧zs.length≤1000000
theorem NumsO.nums {w:World} {lo:Nat} {d:Value} {zs:List Int} (h:NumsO w lo d zs):Nums w w.heap.size d zs:=by
 obtain ⟨h,hm⟩:=h;obtain ⟨A,c,rfl⟩:=ownsRow_slice h;exact ⟨A,_,c,rfl,rfl,by unfold maxLen;omega,Reads.of_own h⟩
theorem NumsO.keeps {X:Nat→Prop} {w w':World} {lo:Nat} {d:Value} {zs:List Int} (h:NumsO w lo d zs) (hk:Keeps X w w') (hx:∀ g,d.ownBlock=some g→¬ X g):NumsO w' lo d zs:=by
 refine ⟨⟨h.1.1,h.1.2.imp id ?_⟩,h.2⟩;rintro ⟨g,cap,cur,rfl,h1,h2,h3⟩;exact ⟨g,cap,cur,rfl,h1,(hk.block g (heap_lt h2) (hx g rfl)).trans h2,h3⟩
theorem NumsO.below {w w':World} {lo:Nat} {d:Value} {zs:List Int} (h:NumsO w lo d zs) (hb:Below w.heap.size w w'):NumsO w' lo d zs:=h.keeps (X:=nobody) (.of_below hb) (fun _ _ h=>h)
theorem NumsO.base {w:World} {lo lo':Nat} {d:Value} {zs:List Int} (h:NumsO w lo d zs) (hl:lo'≤lo):NumsO w lo' d zs:=by
 refine ⟨⟨h.1.1,h.1.2.imp id ?_⟩,h.2⟩;rintro ⟨g,cap,cur,rfl,h1,h2⟩;exact ⟨g,cap,cur,rfl,by omega,h2⟩
theorem equalIn_nil {P:Program} (w:World) (d:Nat) (t e:TypeId) (a:Option Addr) (l c:Nat) (h:P.underlying t=some (.slice e)):(Op.equalIn (d+1) t (.slice a l c) (.slice none 0 0)).run P w=.ok a.isNone w:=by
 cases a <;> simp [Op.equalIn,run_underlying h]
theorem eql_nil {P:Program} (w:World) (t e:TypeId) (a:Option Addr) (l c:Nat) (h:P.underlying t=some (.slice e)):(binOp .eql t (.slice a l c) (.slice none 0 0)).run P w=.ok (.bool a.isNone) w:=by
 have h2:(Op.equal t (.slice a l c) (.slice none 0 0)).run P w=.ok a.isNone w:=equalIn_nil w 9999 t e a l c h;simp [binOp,h2]
theorem int_info:(Tryz.prog.info? 3).map (fun i=>(i.zero,i.size,i.bytes))=some (some (.int .i64 0),1,8):=by kernel_rfl
theorem clone_ints (d:Value) (zs:List Int) (w:World) (hd:Nums w w.heap.size d zs) (h6:zs.length≤1000000) :
  Calls Tryz.prog 188 #[d] w fun e w'=>(∃ d',e=.returned d'∧NumsO w' w.heap.size d' zs)∧Below w.heap.size w w':=by
 obtain ⟨i0,hi,hz⟩:=Option.map_eq_some_iff.1 int_info;simp only [Prod.mk.injEq] at hz;obtain ⟨hz0,hz1,hz2⟩:=hz;obtain ⟨A,m,c,rfl,hl,hm,hr⟩:=hd
 cases A with
 | none =>
  have h0:m=0:=by
   rcases Nat.eq_zero_or_pos m with h|h
   ·exact h
   ·obtain ⟨_,_,e,_⟩:=hr.at_some h;cases e
  subst h0;have hzs:zs=[]:=List.eq_nil_of_length_eq_zero hl;subst hzs;clear hr;have hcmp:=eql_nil (P:=Tryz.prog) w 35 3 none 0 c (Tryz.underlying35);go_enter Tryz.func188,Tryz.ntmps188;go_wp2;go_ret
  exact ⟨⟨_,rfl,⟨rfl,.inl ⟨rfl,rfl⟩⟩,by simp⟩,Below.refl _ _⟩
 | some a =>
  have hone:∀ u ∈ zs.map (Value.int .i64),u.oneCell'=true:=by
   intro u hu;obtain ⟨z,_,rfl⟩:=List.mem_map.1 hu;rfl
  have hcmp:=eql_nil (P:=Tryz.prog) w 35 3 (some a) m c (Tryz.underlying35);have Hr:=qH hr;have Hone:=qH hone;have Hl:=qH hl;clear hr hone hl;go_enter Tryz.func188,Tryz.ntmps188
  go_wp2_with (at_builtin;refine wpList_append_any _ rfl (.tmp 5) (.tmp 6) _ rfl w.heap.size 3 i0 _ 1 8 Tryz.underlying35 hi hz0 hz1 hz2 rfl (by decide) (.slice (some ⟨w.heap.size,0,none⟩) 0 0) 0 [] rfl (ownsRow_new0 _ _ _ _) w.heap.size (some a) m c _ rfl (Hr.out.alloc (Nat.le_refl _) _) Hone.out (by unfold maxLen;have:=Hl.out;omega) (by have:=Hl.out;omega) (by simp) ?_;intro v1 w5 hown1 hg1 ho1;simp only [Nat.zero_add,List.nil_append] at hown1;obtain ⟨A1,c1,rfl⟩:=ownsRow_slice hown1;have Hown1:=qH hown1;have Hg1:=qH hg1;clear hown1 hg1)
  go_ret
  refine ⟨⟨_,rfl,by rw [Hl.out];exact Hown1.out,h6⟩,(below_new w (.cells #[] 3)).trans ?_⟩;have hk:Keeps (fun i=>w.heap.size≤i) (w.alloc (.cells #[] 3)) w5:=.grown Hg1.out fun g hg=>.inl (by simp [Value.ownBlock] at hg;omega);exact hk.below (fun i hi e=>by omega) (by simp)
def CloneR (x:Wr) (w:World) (e:Ending) (w':World):Prop:=(∃ d',e=.returned (.agg ⟨({ x with d:=d' }:Wr).cells⟩)∧NumsO w' w.heap.size d' x.z)∧Below w.heap.size w w'
theorem clone_any (x:Wr) (w:World) (hd:Nums w w.heap.size x.d x.z) (h6:x.z.length≤1000000) :
  Calls Tryz.prog 194 #[.agg ⟨x.cells⟩] w (CloneR x w):=by
 obtain ⟨r,n,t,s,d,zs,se,k,v,g,l⟩:=x;dsimp only at hd h6;have hW2:Below w.heap.size w ((w.alloc (.cells #[.int .i64 r,.int .i64 n,.int .i64 t,.int .i64 s,d,.string se,.string k,.string v,.bool g,.int .i64 l] 188)).alloc (.cells #[.int .i64 0,.int .i64 0,.int .i64 0,.int .i64 0,.slice none 0 0,.string ⟨#[]⟩,.string ⟨#[]⟩,.string ⟨#[]⟩,.bool false,.int .i64 0] 188)):=below_alloc (below_new _ _) _;have HD:=qH ((hd.below hW2).more hW2.size);have HW2:=qH hW2;clear hd hW2;unfold Wr.cells;dsimp only;go_enter Tryz.func194,Tryz.ntmps194;go_wp2_with fail;refine (clone_ints d zs _ HD.out h6).mono ?_;rintro e w1 ⟨⟨d',rfl,hd'⟩,hb1⟩;have hx:=((Blk.new w 188 #[.int .i64 r,.int .i64 n,.int .i64 t,.int .i64 s,d,.string se,.string k,.string v,.bool g,.int .i64 l]).alloc (.cells #[.int .i64 0,.int .i64 0,.int .i64 0,.int .i64 0,.slice none 0 0,.string ⟨#[]⟩,.string ⟨#[]⟩,.string ⟨#[]⟩,.bool false,.int .i64 0] 188)).below hb1 (by simp <;> omega);have hy:=(Blk.newAt (w.alloc (.cells #[.int .i64 r,.int .i64 n,.int .i64 t,.int .i64 s,d,.string se,.string k,.string v,.bool g,.int .i64 l] 188)) 188 #[.int .i64 0,.int .i64 0,.int .i64 0,.int .i64 0,.slice none 0 0,.string ⟨#[]⟩,.string ⟨#[]⟩,.string ⟨#[]⟩,.bool false,.int .i64 0] (g:=w.heap.size+1) (by simp)).below hb1 (by simp);have hbb:=HW2.out.trans (hb1.mono (HW2.out.size));obtain ⟨A1,c1,rfl⟩:=ownsRow_slice hd'.1;have k0:w1.cell? ⟨w.heap.size,4,none⟩=_:=hx.cell 4;have k1:=hx.frozen 4;have k2:=hx.lt;simp at k0
 have hx2:=hx.set_ 4 (.slice A1 zs.length c1);have hy2:=hy.far (p:=⟨w.heap.size,4,none⟩) (by simp) (.slice A1 zs.length c1);have hd2:=hd'.keeps (Keeps.set1 w1 w.heap.size 4 (.slice A1 zs.length c1)) (fun i hi e=>by have:=(hd'.1.lt _ hi).1;simp at this;omega);have hb2:=hbb.setCell (p:=⟨w.heap.size,4,none⟩) (Nat.le_refl _) (.slice A1 zs.length c1);have Hx2:=qH hx2;have Hy2:=qH hy2;have Hd2:=qH hd2;have Hb2:=qH hb2;clear hx2 hy2 hd2 hb2;clear hx hy hbb hd' hb1
 go_wp2_with (first|(refine wpList_load_at rfl 188 (.tmp 1) rfl w.heap.size 0 (Wr.cells ⟨r,n,t,s,.slice A1 zs.length c1,zs,se,k,v,g,l⟩) rfl Tryz.underlying188 rfl (by kernel_rfl) (fun j v hj=>by rw [Nat.zero_add,Hx2.out.cell j];simpa [Wr.cells] using hj) ?_)|(refine wpList_store_blk rfl 188 (.tmp 2) (.tmp 7) rfl (w.heap.size+1) (Wr.cells ⟨r,n,t,s,.slice A1 zs.length c1,zs,se,k,v,g,l⟩) rfl rfl Hy2.out (by kernel_rfl) rfl rfl ?_;intro w9 ho9 hk9 hs9))
 refine bodyPost_ret (v:=.agg ⟨Wr.cells ⟨r,n,t,s,.slice A1 zs.length c1,zs,se,k,v,g,l⟩⟩) (results_cell_row (P:=Tryz.prog) rfl _ _ (w.heap.size+1) 188 _ (0,0) _ rfl ho9 Tryz.underlying188 rfl (by kernel_rfl)) rfl ⟨⟨_,rfl,?_⟩,?_⟩
 ·exact (Hd2.out.keeps hk9 (fun i hi e=>by have:=(Hd2.out.1.lt _ hi).1;simp at this;omega)).base (by simp;omega)
 ·exact Hb2.out.trans (hk9.below (fun i hi e=>by omega) (by have:=Hb2.out.size;exact this))
end wire
namespace wire
open Go.RowKit base rowe err
theorem write_info:(Tryz.prog.info? 188).map (fun i=>(i.zero,i.size,i.bytes))=some (some (.agg #[.int .i64 0,.int .i64 0,.int .i64 0,.int .i64 0,.slice none 0 0,.string ⟨#[]⟩,.string ⟨#[]⟩,.string ⟨#[]⟩,.bool false,.int .i64 0]),10,120):=by kernel_rfl
def Wr.abs (x:Wr):Wr:={ x with d:=.slice none 0 0 }
def RW (w:World) (v:Value) (L:List Wr):Prop:=∃ A c,v=.slice A L.length c∧L.length≤1000000∧L.length≤c∧Reads w w.heap.size 10 A L.length (L.flatMap Wr.cells)∧∀ x ∈ L,Nums w w.heap.size x.d x.z∧x.z.length≤1000000
theorem RW.below {w w':World} {v:Value} {L:List Wr} (h:RW w v L) (hb:Below w.heap.size w w'):RW w' v L:=by
 obtain ⟨A,c,h1,h2,h2',h3,h4⟩:=h;exact ⟨A,c,h1,h2,h2',(h3.below hb).more hb.size,fun x hx=>⟨((h4 x hx).1.below hb).more hb.size,(h4 x hx).2⟩⟩
structure OW (w:World) (S:Nat→Prop) (lo:Nat) (v:Value) (L:List Wr):Prop where
 row:w.ownsRow lo 188 10 v L.length (L.flatMap Wr.cells)
 few:L.length≤1000000
 nums:∀ x ∈ L,NumsO w lo x.d x.z
 inS:∀ i,v.ownBlock=some i→S i
 numS:∀ x ∈ L,∀ i,x.d.ownBlock=some i→S i
theorem oneW (x:Wr) (h:x.d.oneCell'=true):∀ u ∈ x.cells,u.oneCell'=true:=by
 intro u hu;simp [Wr.cells] at hu
 rcases hu with rfl|rfl|rfl|rfl|rfl|rfl|rfl|rfl|rfl|rfl <;> first|exact h|rfl
theorem oneAll (x:Wr) (h:x.d.oneCell'=true):x.cells.all (·.oneCell')=true:=List.all_eq_true.2 (fun u hu=>oneW x h u hu)
theorem nums_one {w:World} {B:Nat} {d:Value} {zs:List Int} (h:Nums w B d zs):d.oneCell'=true:=by obtain ⟨A,m,c,rfl,_⟩:=h;rfl
theorem OW.rw {w:World} {S:Nat→Prop} {lo:Nat} {v:Value} {L:List Wr} (h:OW w S lo v L):RW w v L:=by
 obtain ⟨A,c,rfl⟩:=ownsRow_slice h.row;refine ⟨A,c,rfl,h.few,?_,Reads.of_own h.row,fun x hx=>⟨(h.nums x hx).nums,(h.nums x hx).2⟩⟩
 rcases h.row.2 with ⟨e,h0⟩|⟨g,cap,cur,e,h1,h2,h3,_⟩
 ·rw [h0];exact Nat.zero_le _
 ·injection e with _ _ e;omega
theorem OW.keeps {X S:Nat→Prop} {w w':World} {lo:Nat} {v:Value} {L:List Wr} (h:OW w S lo v L) (hk:Keeps X w w') (hx:∀ i,S i→¬ X i):OW w' S lo v L:=by
 refine ⟨⟨h.row.1,h.row.2.imp id ?_⟩,h.few,fun x hx'=>(h.nums x hx').keeps hk (fun g hg=>hx g (h.numS x hx' g hg)),h.inS,h.numS⟩;rintro ⟨g,cap,cur,rfl,h1,h2,h3⟩;exact ⟨g,cap,cur,rfl,h1,(hk.block g (heap_lt h2) (hx g (h.inS g rfl))).trans h2,h3⟩
theorem OW.more {S S':Nat→Prop} {w:World} {lo:Nat} {v:Value} {L:List Wr} (h:OW w S lo v L) (hs:∀ i,S i→S' i):OW w S' lo v L :=
 ⟨h.row,h.few,h.nums,fun i hi=>hs i (h.inS i hi),fun x hx i hi=>hs i (h.numS x hx i hi)⟩
theorem OW.none (w:World) (S:Nat→Prop) (lo:Nat):OW w S lo (.slice none 0 0) []:=⟨⟨rfl,.inl ⟨rfl,rfl⟩⟩,by simp,by simp,(fun i hi=>by cases hi),by simp⟩
theorem OW.push {S:Nat→Prop} {w w5:World} {lo:Nat} {v v5:Value} {L:List Wr} {x:Wr} (h:OW w S lo v L) (hd:NumsO w lo x.d x.z) (hds:∀ i,x.d.ownBlock=some i→S i) (hrow:w5.ownsRow lo 188 10 v5 (L.length+1) (L.flatMap Wr.cells++x.cells)) (hg:w.grownBy w5 v.ownBlock)
  (hv:v5.ownBlock=v.ownBlock∨∃ g,v5.ownBlock=some g∧S g) (hl:L.length<1000000):OW w5 S lo v5 (L++[x]):=by
 have hk:Keeps (fun i=>v.ownBlock=some i) w w5:=.grown hg fun g hg=>.inl hg
 have hne:∀ y:Wr,NumsO w lo y.d y.z→NumsO w5 lo y.d y.z:=fun y hy=>by
  refine hy.keeps hk fun g hg1 hg2=>?_
  rcases hy.1.2 with ⟨e,_⟩|⟨g1,_,_,e,_,e2,_⟩
  ·rw [e] at hg1;cases hg1
  ·rcases h.row.2 with ⟨e',_⟩|⟨g3,_,_,e',_,e4,_⟩
   ·rw [e'] at hg2;cases hg2
   ·rw [e] at hg1
    rw [e'] at hg2;simp [Value.ownBlock] at hg1 hg2
    subst hg1 hg2;rw [e2] at e4;injection e4 with e4;injection e4 with _ e4 _;exact absurd e4 (by decide)
 refine ⟨?_,by simp;omega,?_,?_,?_⟩
 ·simpa [List.flatMap_append] using hrow
 ·intro y hy
  rcases List.mem_append.1 hy with hy|hy
  ·exact hne y (h.nums y hy)
  ·rw [List.mem_singleton.1 hy];exact hne x hd
 ·intro i hi
  rcases hv with hv|⟨g,hv,hs⟩
  ·exact h.inS i (hv ▸ hi)
  ·rw [hv] at hi;injection hi with hi;rw [←hi];exact hs
 ·intro y hy i hi
  rcases List.mem_append.1 hy with hy|hy
  ·exact h.numS y hy i hi
  ·rw [List.mem_singleton.1 hy] at hi;exact hds i hi
end wire
namespace wire
open Go Go.RowKit base rowe rowops err
theorem write_zero (w:World):(zeroValue 188).run Tryz.prog w=.ok (.agg #[.int .i64 0,.int .i64 0,.int .i64 0,.int .i64 0,.slice none 0 0,.string ⟨#[]⟩,.string ⟨#[]⟩,.string ⟨#[]⟩,.bool false,.int .i64 0]) w:=by kernel_rfl
theorem delete_w (g n cap base i : Nat) (L : List Wr) (w : World) (h : w.ownsRow base 188 10 (.slice (some ⟨g, 0, none⟩) n cap) n (L.flatMap Wr.cells)) (hl : L.length = n) (hi : i < n) (hone : ∀ x ∈ L, x.d.oneCell' = true) :
    Calls Tryz.prog 262 #[.slice (some ⟨g, 0, none⟩) n cap, .int .i64 i, .int .i64 ((i : Int)+1)] w fun e w' =>
      e = .returned (.slice (some ⟨g, 0, none⟩) (n-1) cap) ∧ w'.ownsRow base 188 10 (.slice (some ⟨g, 0, none⟩) (n-1) cap) (n-1) ((L.eraseIdx i).flatMap Wr.cells) ∧ Keeps (· = g) w w' := by
  obtain ⟨i0, hi0, hz⟩ := Option.map_eq_some_iff.1 write_info;simp only [Prod.mk.injEq] at hz;obtain ⟨hz0, hz1, hz2⟩ := hz;have hlen : (L.flatMap Wr.cells).length = n*10 := h.1
  obtain ⟨cur, hb0, hg, hnc, hcm, hcs, hta⟩ : ∃ cur, base ≤ g ∧ w.heap[g]? = some (.cells cur 188 (0, 0)) ∧ n ≤ cap ∧ cap ≤ maxLen ∧ cur.size = cap*10 ∧ cur.toList.take (n*10) = L.flatMap Wr.cells := by
    rcases h.2 with ⟨e, _⟩ | ⟨g', cap', cur, e, h1, h2, h3, h4, h5, h6⟩
    · cases e
    · injection e with e _ ec
      injection e with e;injection e with e;subst e ec;exact ⟨cur, h1, h2, h3, h4, h5, h6⟩
  have Hta := qH hta;have hcm' : cap ≤ 9223372036854775807 := by unfold maxLen at hcm; omega
  have hsplit : L.flatMap Wr.cells = (L.take (i+1)).flatMap Wr.cells++(L.drop (i+1)).flatMap Wr.cells := by rw [←List.flatMap_append, List.take_append_drop]
  have hlt : ((L.take (i+1)).flatMap Wr.cells).length = (i+1)*10 := by rw [len_flat Wr.cells Wr.len, List.length_take, Nat.min_eq_left (by omega)]
  have hld : ((L.drop (i+1)).flatMap Wr.cells).length = (n-(i+1))*10 := by rw [len_flat Wr.cells Wr.len, List.length_drop, hl]
  have hcell : ∀ k u, k<n*10 → (L.flatMap Wr.cells)[k]? = some u → w.drew.cell? ⟨g, k, none⟩ = some u := fun k u hk hu => by
    rw [←hta, List.getElem?_take_of_lt hk, Array.getElem?_toList] at hu;have hb : Blk w.drew g 188 cur := hg;rw [hb.cell k];exact hu
  have hone' : ∀ u ∈ (L.drop (i+1)).flatMap Wr.cells, u.oneCell' = true := fun u hu => by
    obtain ⟨x, hx, hu⟩ := List.mem_flatMap.1 hu;exact oneW x (hone x (List.mem_of_mem_drop hx)) u hu
  have c1 : i ≤ cap := by omega
  have c2 : 0 ≤ (i : Int)+1 ∧ (i : Int)+1 ≤ (n : Int) := by omega
  obtain ⟨sa, hsa⟩ : ∃ sa, (if cap = i+1 then some (⟨g, 0, none⟩ : Addr) else some ⟨g, (i+1)*10, none⟩) = some sa := by split <;> exact ⟨_, rfl⟩
  have hnews : ∀ j u, ((L.drop (i+1)).flatMap Wr.cells)[j]? = some u → w.drew.cell? (sa.add j) = some u := fun j u hj => by
    have hj2 : j<((L.drop (i+1)).flatMap Wr.cells).length := (List.getElem?_eq_some_iff.1 hj).1;have hne : ¬ cap = i+1 := by omega
    rw [if_neg hne] at hsa;injection hsa with hsa;rw [←hsa, Addr.add_lit];refine hcell _ u (by omega) ?_;rw [hsplit, List.getElem?_append_right (by omega), hlt, Nat.add_sub_cancel_left];exact hj
  have HR := qH (fun ty c => run_append_room (P := Tryz.prog) w.drew 98 ty 188 i0 Tryz.underlying98 hi0 g i cap cur hg sa (n-(i+1)) c ((L.drop (i+1)).flatMap Wr.cells)
    (by rw [hz1]; exact hld) hnews hone' (by omega) (by rw [hz1, hld]; omega))
  have Hcs := qH hcs;have Hg := qH hg;clear h hg hcs hta hcm hcell hone' hnews hsplit;have e1 : i+(n-(i+1)) = n-1 := by omega
  have hcut : (cur.toList.take (i*10)).length = i*10 := by rw [List.length_take, Array.length_toList, Hcs.out]; omega
  have hc1l : (cur.toList.take (i*10)++(L.drop (i+1)).flatMap Wr.cells++cur.toList.drop (i*10+(n-(i+1))*10)).length = cap*10 := by
    simp only [List.length_append, hcut, hld, List.length_drop, Array.length_toList, Hcs.out];omega
  go_enter Tryz.func262, Tryz.ntmps262;go_wp2_with fail;refine wp_region_mono (fun b => b = g) (by kernel_rfl) ?_;refine qT 0 (v := ?_) ?_ ?_; rotate_left
  · (intro W hSw; skip
     go_simp; first | done | rfl | (rw [if_pos c1]; rfl) | (rw [if_pos c2, hsa]; rfl))
  try simp only [qPA]
  refine qT 1 (v := ?_) ?_ ?_; rotate_left
  · (intro W hSw; skip
     go_simp; first | done | rfl | (rw [if_pos c1]; rfl) | (rw [if_pos c2, hsa]; rfl))
  try simp only [qPA]
  refine qT 2 (v := ?_) ?_ ?_; rotate_left
  · (intro W hSw; skip
     go_simp; first | done | rfl | (rw [if_pos c1]; rfl) | (rw [if_pos c2, hsa]; rfl))
  try simp only [qPA]
  refine qT 3 (v := ?_) ?_ ?_; rotate_left
  · (intro W hSw; skip
     go_simp; first | done | rfl | (rw [if_pos c1]; rfl) | (rw [if_pos c2, hsa]; rfl))
  try simp only [qPA]
  refine qT 4 (v := ?_) ?_ ?_; rotate_left
  · (intro W hSw; skip
     go_simp; first | done | rfl | (rw [if_pos c1]; rfl) | (rw [if_pos c2, hsa]; rfl))
  try simp only [qPA]
  refine qT 5 (v := ?_) ?_ ?_; rotate_left
  · (intro W hSw; skip
     go_simp; first | done | rfl | (rw [if_pos c1]; rfl) | (rw [if_pos c2, hsa]; rfl))
  try simp only [qPA]
  refine wpMono_one' 6 (by kernel_rfl) rfl (by rfl) (fun K hK => ?_);refine Lib.wp_append_run _ (.tmp 22) (.tmp 25) 98 98 rfl _ _ rfl rfl _ _ (HR.out _ _) ?_;rw [hz1, e1, hld];have hk1 : Keeps (· = g) w.drew (w.drew.setRow g (cur.toList.take (i*10)++(L.drop (i+1)).flatMap Wr.cells++cur.toList.drop (i*10+(n-(i+1))*10)).toArray) := setRow_keeps _ _ _;have hg1 : Blk (w.drew.setRow g (cur.toList.take (i*10)++(L.drop (i+1)).flatMap Wr.cells++cur.toList.drop (i*10+(n-(i+1))*10)).toArray) g 188 _ := setRow_blk _ (show Blk w.drew g 188 cur from Hg.out);generalize w.drew.setRow g (cur.toList.take (i*10)++(L.drop (i+1)).flatMap Wr.cells++cur.toList.drop (i*10+(n-(i+1))*10)).toArray = W1 at *;refine hK.out _ _ ?_ ?_
  · exact hk1
  clear hK K
  try simp only [qPA]
  refine qT 7 (v := ?_) ?_ ?_; rotate_left
  · (intro W hSw; skip
     go_simp; first | done | rfl | (rw [if_pos c1]; rfl) | (rw [if_pos c2, hsa]; rfl))
  try simp only [qPA]
  refine wpMono_done (by kernel_rfl) ?_ _;obtain ⟨cur1, hcur1⟩ : ∃ cur1, (cur.toList.take (i*10)++(L.drop (i+1)).flatMap Wr.cells++cur.toList.drop (i*10+(n-(i+1))*10)).toArray = cur1 := ⟨_, rfl⟩;rw [hcur1] at hg1;have hc1s : cur1.size = cap*10 := by rw [←hcur1, List.size_toArray]; exact hc1l
  have e2 : n-(n-1) = 1 := by omega
  have hzc : ∀ v ∈ (#[.int .i64 0, .int .i64 0, .int .i64 0, .int .i64 0, .slice none 0 0, .string ⟨#[]⟩, .string ⟨#[]⟩, .string ⟨#[]⟩, .bool false, .int .i64 0] : Array Value).toList, v.oneCell' = true := by simp [Value.oneCell']
  have hcl := fun ty c => run_clear_rows (P := Tryz.prog) (w := W1) 98 188 ty _ Tryz.underlying98 (write_zero W1) (by decide) hzc g ((n-1)*10) 1 c cur1 (by omega) hg1 (by rw [hc1s]; show (n-1)*10+1*10 ≤ cap*10; omega);obtain ⟨zs, hzs⟩ : ∃ zs, (Builtin.zeroCells (Value.agg #[.int .i64 0, .int .i64 0, .int .i64 0, .int .i64 0, .slice none 0 0, .string ⟨#[]⟩, .string ⟨#[]⟩, .string ⟨#[]⟩, .bool false, .int .i64 0]).cells 1).toList = zs := ⟨_, rfl⟩;have hzl : zs.length = 10 := by rw [←hzs, zeros_len]; rfl
  rw [hzs] at hcl;have hk2 : Keeps (· = g) W1 (W1.setRow g (putAt cur1.toList ((n-1)*10) zs).toArray) := setRow_keeps _ _ _;have hg2 : Blk (W1.setRow g (putAt cur1.toList ((n-1)*10) zs).toArray) g 188 _ := setRow_blk _ hg1;generalize W1.setRow g (putAt cur1.toList ((n-1)*10) zs).toArray = W2 at *;have HK1 := qH hk1;have HK2 := qH hk2;have HG2 := qH hg2;have HC1 := qH hcur1;clear hk1 hk2 hg1 hg2 hzs hzc hcur1;go_wp2_with fail;go_ret
  refine ⟨rfl, ⟨?_, .inr ⟨g, cap, _, rfl, hb0, HG2.out, by omega, by unfold maxLen; omega, ?_, ?_⟩⟩, (Keeps.drew (X := (· = g))).trans (HK1.out.trans HK2.out)⟩
  · rw [len_flat Wr.cells Wr.len, List.length_eraseIdx_of_lt (by omega), hl]
  · have := putAt_len (cur := cur1.toList) (vs := zs) (o := (n - 1) * 10) (by
      have h1 : cur1.toList.length = cap*10 := by rw [Array.length_toList, hc1s]
      rw [h1, hzl];omega)
    rw [List.size_toArray, this, Array.length_toList, hc1s]
  · have h1 : cur1.toList.length = cap*10 := by rw [Array.length_toList, hc1s]
    have h2 : cur.toList.take (i*10) = (L.take i).flatMap Wr.cells := by
      have h3 := congrArg (List.take (i*10)) Hta.out;rw [List.take_take, Nat.min_eq_left (by omega)] at h3;rw [h3];have h4 : L.flatMap Wr.cells = (L.take i).flatMap Wr.cells++(L.drop i).flatMap Wr.cells := by rw [←List.flatMap_append, List.take_append_drop]
      rw [h4, List.take_left' (by rw [len_flat Wr.cells Wr.len, List.length_take, Nat.min_eq_left (by omega)])]
    show (putAt cur1.toList ((n-1)*10) zs).take ((n-1)*10) = _;unfold putAt;rw [List.append_assoc, List.take_left' (by rw [List.length_take, h1]; omega), ← HC1.out, List.take_left' (by rw [List.length_append, hcut, hld]; omega), h2, List.eraseIdx_eq_take_drop_succ, List.flatMap_append]
end wire
namespace wire
open Go Go.RowKit base rowe rowops err
theorem reads_blk {w:World} {g:Nat} {t:TypeId} {cs:Array Value} {n size:Nat} (h:Blk w g t cs) (hn:cs.size=n*size):Reads w w.heap.size size (some ⟨g,0,none⟩) n cs.toList :=
 ⟨by simpa using hn,fun _=>⟨g,0,rfl,h.lt,fun j _=>by rw [Nat.zero_add,h.cell j];simp⟩⟩
theorem wp_copy_run {P:Program} (w:World) {o:Oper} {a:Act} {K:Act→World→Prop} {Q:Exit→Act→World→Prop} (d s:Operand) (t t':TypeId)
  (ho:o.op=.call { callee:=.builtin .copy,args:=#[d,s],argTypes:=#[t,t'] }) (v u:Value) (hd:a.eval d=v) (hs:a.eval s=u) {v':Value} {w':World}
  (hr:(Builtin.copy_ #[t,t'] o.type #[v,u]).run P w=.ok v' w') (h:K (a.put o.dst v') w'):o.wp P a w K Q:=by
 unfold Oper.wp execOp;simp only [ho,resolve,invoke,builtin,Sem.run_bind,Sem.run_pure,Result.andThen_ok,List.map_toArray,List.map_cons,List.map_nil,hd,hs,hr];exact h
theorem wpList_copy_run {P:Program} (w:World) {ops:Array Oper} {rest:List Oper} {o:Oper} {a:Act} {Q:Exit→Act→World→Prop} (hgd:o.guard=none) (d s:Operand) (t t':TypeId)
  (ho:o.op=.call { callee:=.builtin .copy,args:=#[d,s],argTypes:=#[t,t'] }) (v u:Value) (hd:a.eval d=v) (hs:a.eval s=u) {v':Value} {w':World}
  (hr:(Builtin.copy_ #[t,t'] o.type #[v,u]).run P w=.ok v' w') (h:wpList P ops Q rest (a.put o.dst v') w'):wpList P ops Q (o :: rest) a w :=
 wpList_plain hgd fun _ hK=>wp_copy_run w d s t t' ho v u hd hs hr (hK _ _ h)
end wire
namespace wire
open Go.RowKit base rowe err
def since (w w':World):Nat→Prop:=fun i=>w.heap.size≤i∧i<w'.heap.size
theorem OW.sinceS {w w':World} {lo:Nat} {v:Value} {L:List Wr} {S:Nat→Prop} (h:OW w' S lo v L) (hlo:w.heap.size≤lo):OW w' (since w w') lo v L :=
 ⟨h.row,h.few,h.nums,fun i hi=>by have:=h.row.lt _ hi;exact ⟨by omega,this.2⟩,fun x hx i hi=>by have:=(h.nums x hx).1.lt _ hi;exact ⟨by omega,this.2⟩⟩
def SomeR (L:List Wr) (w:World) (e:Ending) (w':World):Prop:=(∃ v L',e=.returned v∧L'.map Wr.abs=L.map Wr.abs∧OW w' (since w w') w.heap.size v L')∧Below w.heap.size w w'
end wire
namespace feed
open Go.RowKit base rowe err wire
structure FeedF (w:World) (S:Nat→Prop) (g rg nn bs:Nat) (L':List Wr) (K:List Int) (vw:Value) (k0 ck:Nat):Prop where
 blk:Blk w g 263 #[.int .i64 rg,.int .i64 nn,.int .i64 bs,vw,.slice (some ⟨k0,0,none⟩) K.length ck]
 ow:OW w S (k0+1) vw L'
 know:w.ownsRow (g+1) 3 1 (.slice (some ⟨k0,0,none⟩) K.length ck) K.length (K.map (Value.int .i64))
 inG:S g
 inK:S k0
 klen:K.length=nn
 r0:1≤rg
 r1:rg≤nn
 n1:nn≤16
 last:bs+L'.length≤1099511627776
 small:∀ i,S i→i<w.heap.size
 kb:∀ k ∈ K,0≤k∧k≤1099511627776
def FeedS (w:World) (S:Nat→Prop) (g rg nn bs:Nat) (L:List Wr) (K:List Int):Prop:=∃ L' vw k0 ck,L'.map Wr.abs=L∧FeedF w S g rg nn bs L' K vw k0 ck
theorem ow_keeps' {X:Nat→Prop} {w w':World} {base:Nat} {e:TypeId} {size n:Nat} {v:Value} {xs:List Value} (h:w.ownsRow base e size v n xs) (hk:Keeps X w w') (hx:∀ g,v.ownBlock=some g→¬ X g):w'.ownsRow base e size v n xs:=by
 refine ⟨h.1,h.2.imp id ?_⟩;rintro ⟨g,cap,cur,rfl,h1,h2,h3⟩;exact ⟨g,cap,cur,rfl,h1,(hk.block g (heap_lt h2) (hx g rfl)).trans h2,h3⟩
theorem FeedF.keeps {X S:Nat→Prop} {w w':World} {g rg nn bs:Nat} {L':List Wr} {K:List Int} {vw:Value} {k0 ck:Nat} (h:FeedF w S g rg nn bs L' K vw k0 ck) (hk:Keeps X w w') (hx:∀ i,S i→¬ X i):FeedF w' S g rg nn bs L' K vw k0 ck :=
 ⟨h.blk.keeps hk (hx g h.inG),h.ow.keeps hk hx,ow_keeps' h.know hk (fun i hi=>by injection hi with hi;subst hi;exact hx k0 h.inK),h.inG,h.inK,h.klen,h.r0,h.r1,h.n1,h.last,fun i hi=>Nat.lt_of_lt_of_le (h.small i hi) hk.size,h.kb⟩
theorem FeedF.k0lt {S:Nat→Prop} {w:World} {g rg nn bs:Nat} {L':List Wr} {K:List Int} {vw:Value} {k0 ck:Nat} (h:FeedF w S g rg nn bs L' K vw k0 ck):g<k0:=by
 have:=(h.know.lt k0 rfl).1;omega
theorem FeedS.keeps {X S:Nat→Prop} {w w':World} {g rg nn bs:Nat} {L:List Wr} {K:List Int} (h:FeedS w S g rg nn bs L K) (hk:Keeps X w w') (hx:∀ i,S i→¬ X i):FeedS w' S g rg nn bs L K:=by
 obtain ⟨L',vw,k0,ck,h1,h2⟩:=h;exact ⟨L',vw,k0,ck,h1,h2.keeps hk hx⟩
theorem FeedS.below {S:Nat→Prop} {w w':World} {g rg nn bs:Nat} {L:List Wr} {K:List Int} (h:FeedS w S g rg nn bs L K) (hk:Below w.heap.size w w'):FeedS w' S g rg nn bs L K:=h.keeps (X:=nobody) (.of_below hk) (fun _ _ h=>h)
theorem _root_.Go.Proofs.YthlahcnglacekaaGreatDoor.wire.OW.keepsLo {X S:Nat→Prop} {w w':World} {lo:Nat} {v:Value} {L:List Wr} (h:OW w S lo v L) (hk:Keeps X w w') (hx:∀ i,lo≤i→¬ X i):OW w' S lo v L :=
 ⟨ow_keeps' h.row hk (fun i hi=>hx i (h.row.lt _ hi).1),h.few,fun x hx'=>(h.nums x hx').keeps hk (fun i hi=>hx i ((h.nums x hx').1.lt _ hi).1),h.inS,h.numS⟩
section
variable {S:Nat→Prop} {w:World} {g rg nn bs:Nat} {L:List Wr} {K:List Int}
theorem last_any (h:FeedS w S g rg nn bs L K):Calls Tryz.prog 92 #[.pointer (some ⟨g,0,none⟩)] w fun e w'=>e=.returned (.int .i64 (bs+L.length:Nat))∧Below w.heap.size w w':=by
 obtain ⟨L',vw,k0,ck,rfl,h⟩:=h;obtain ⟨A,c,rfl⟩:=ownsRow_slice h.ow.row;have c2:w.cell? ⟨g,2,none⟩=_:=h.blk.cell 2;have c3:w.cell? ⟨g,3,none⟩=_:=h.blk.cell 3;have hlt:=h.blk.lt;have hl:=h.last;simp at c2 c3
 rw [List.length_map];have hw:=IntWalk.i64_in ((bs:Int)+(L'.length:Nat)) (by omega);clear h;go_enter Tryz.func92,Tryz.ntmps92;go_wp2;refine wp_region_mono nobody (by kernel_rfl) ?_
 iterate 11
  first|refine qT 0 (v:=?_) ?_ ?_|refine qT 1 (v:=?_) ?_ ?_|refine qT 2 (v:=?_) ?_ ?_|refine qT 3 (v:=?_) ?_ ?_|refine qT 4 (v:=?_) ?_ ?_|refine qT 5 (v:=?_) ?_ ?_|refine qT 6 (v:=?_) ?_ ?_|refine qT 7 (v:=?_) ?_ ?_|refine qT 8 (v:=?_) ?_ ?_|refine qT 9 (v:=?_) ?_ ?_|refine qT 10 (v:=?_) ?_ ?_
  rotate_left
  ·(intro W hSw;(have hcW:=hSw.cells;try simp only [qSd] at hcW);go_simp <;> rfl)
  try simp only [qPA]
 refine wpMono_done (by kernel_rfl) ?_ _;go_wp2;go_ret
 exact ⟨by go_num,(Below.refl _ _).drew⟩
def isB (rg nn:Nat) (p:Int):Bool:=decide (1≤p)&&(decide (p≤nn)&&!(p==rg))
end
end feed
namespace wire
open Go.RowKit base rowe err
theorem tr_len {zs:List Int} {most:Int} (h:trB zs most=true):zs.length≤16:=by
 unfold trB at h;simp only [Bool.and_eq_true,decide_eq_true_eq] at h;exact h.1
theorem tr_ok {zs:List Int} {most:Int} (h:trB zs most=true) {k:Nat} (hk:k<zs.length):0≤zs.getD k 0∧zs.getD k 0≤most:=by
 unfold trB at h;simp only [Bool.and_eq_true,decide_eq_true_eq,List.all_eq_true] at h;have:=h.2.2 (zs.getD k 0) (by rw [List.getD_eq_getElem?_getD,List.getElem?_eq_getElem hk];simp);unfold okN at this
 simpa using this
theorem tr_more {zs:List Int} {most most':Int} (h:trB zs most=true) (hm:most≤most'):trB zs most'=true:=by
 unfold trB at h ⊢;simp only [Bool.and_eq_true,decide_eq_true_eq,List.all_eq_true] at h ⊢;refine ⟨h.1,h.2.1,fun x hx=>?_⟩;have:=h.2.2 x hx;unfold okN at this ⊢;simp only [Bool.and_eq_true,decide_eq_true_eq] at this ⊢;omega
theorem vec_any (g n:Nat) (d:Value) (zs:List Int) (w:World) (h:OutS w g n) (hd:Nums w g d zs) (ht:trB zs 1099511627776=true) (hr:n+200≤65536) :
  Calls Tryz.prog 208 #[.pointer (some ⟨g,0,none⟩),d] w (PutsR g n (n+200) w):=by
 obtain ⟨A,m,c,rfl,hl,hm,hrd⟩:=hd;have h16:=tr_len ht;have ht2:=tr_more ht (most':=4611686018427387903) (by decide);obtain ⟨v,hb,hv⟩:=id h;have c1:w.cell? ⟨g,1,none⟩=_:=hb.cell 1;have hlt:=hb.lt;simp at c1
 have hm16:m≤16:=by omega
 have Ht2:=qH ht2;have Ht:=qH ht;have Hl:=qH hl;have Hrd:=qH hrd;have H:=qH h;clear h;clear hb hv ht ht2 hl hrd h16;go_enter Tryz.func208,Tryz.ntmps208;go_wp2_with fail;refine (trim_any A m c zs 4611686018427387903 g _ Hl.out hm Hrd.out).mono ?_;rintro e w1 ⟨rfl,rfl⟩;rw [Ht2.out];go_wp2_with fail;refine (number_any (.slice none 0 0) 0 m w1.heap.size _ (Row8.none _ _) (by omega) (by omega) (Nat.le_refl _)).mono ?_;rintro e w2 ⟨v1,q,rfl,h1,h2,h3,h4⟩;have H3:=qH h3;have H4:=qH h4;clear h3 h4;go_wp2_with fail
 go_loopw [4,6,26] (fun b _ i wr'=>∃ k q':Nat,i=.int .i64 k∧k≤m∧q'≤9*(k+1)∧Row8 wr' w1.heap.size b q'∧Below w1.heap.size w1 wr') (fun _ _ i _=>m-(intOf i).toNat)
 case atStart=>exact ⟨0,q,rfl,by omega,by omega,H3.out,H4.out⟩
 case round =>
  clear H3 H4;obtain ⟨k,q',rfl,hk,hq',h3,h4⟩:=hrel;obtain ⟨A1,c1',rfl⟩:=h3.form;have hsz:=h4.size
  by_cases hlk:k<m
  ·have d1:decide ((k:Int)<(m:Int))=true:=by simp;omega
   obtain ⟨b,off,rfl,hbb⟩:=Hrd.out.at_some (by omega);have hcur:=(Hrd.out.below (h4.mono (by omega))).int (k:=k) hlk;have hok:=tr_ok Ht.out (k:=k) (by rw [Hl.out];exact hlk);obtain ⟨y,hy⟩:∃ y:Nat,zs.getD k 0=(y:Int):=⟨(zs.getD k 0).toNat,by omega⟩;rw [hy] at hcur hok;have hy2:y<9223372036854775808:=by omega
   have hkm:(k:Int)<(m:Int):=by omega
   clear hok hy;have H3:=qH h3;have H4:=qH h4;have Hy2:=qH hy2;clear h3 h4 hy2;go_wp2_with fail;refine (number_any (.slice A1 q' c1') q' y w1.heap.size _ H3.out Hy2.out (by omega) hsz).mono ?_;rintro e w3 ⟨v3,q3,rfl,h5,h6,h7,h8⟩;have H7:=qH h7;have H8:=qH (H4.out.trans h8);clear h7 h8 H3 H4;go_wp2_with fail;go_roundw
   case rel=>exact ⟨k+1,q3,by go_num,by omega,by omega,H7.out,H8.out⟩
   case measure=>simp [intOf];omega
  ·obtain rfl:m=k:=by omega
   have d1:decide ((m:Int)<(m:Int))=false:=by simp
   have H3:=qH h3;have H4:=qH h4;clear h3 h4;go_wp2_with fail;refine (put_any g n q' A1 c1' _ (H.out.below H4.out) (H3.out.base (by omega)) (by omega)).mono ?_;rintro e w3 ⟨rfl,h5,h6⟩;have hR:PutsR g n (n+200) w1 (.returned (.tuple #[])) w3:=⟨rfl,⟨n+q',by omega,by omega,h5⟩,(H4.out.mono (by omega)).trans h6⟩;have HR:=qH hR;clear hR h5 h6;go_wp2;exact bodyPost_end (v:=.tuple #[]) (by simp [results,Tryz.results208,go_sem]) rfl HR.out
theorem u8_list:∀ xs:List Value,(∀ u ∈ xs,IsU8 u)→∃ ns:List Int,xs=ns.map (Value.int .u8)
 | [],_=>⟨[],rfl⟩
 | x :: xs,h=>by
  obtain ⟨b,hb⟩:=h x (by simp);obtain ⟨ns,hn⟩:=u8_list xs (fun u hu=>h u (by simp [hu]));exact ⟨b :: ns,by rw [hb,hn];rfl⟩
theorem conv_row {w:World} {base n:Nat} {v:Value} (h:Row8 w base v n):∃ s,(convert 86 9 v).run Tryz.prog w=.ok (.string s) w:=by
 obtain ⟨xs,hx,hu⟩:=h;obtain ⟨ns,rfl⟩:=u8_list xs hu
 rcases id hx.2 with ⟨rfl,rfl⟩|⟨g,cap,cur,rfl,h1⟩
 ·exact ⟨_,run_convert_bytes_nil w _ _ Tryz.underlying86 Tryz.underlying5 0 0 _ Tryz.underlying9⟩
 ·have hr:=Reads.of_own hx
  have hl:ns.length=n:=by have:=hx.1;simpa using this
  refine ⟨_,run_convert_bytes_arg w _ _ Tryz.underlying86 Tryz.underlying5 g 0 n cap ns hl (fun i hi=>?_) _ Tryz.underlying9⟩;exact Reads.get hr (by omega) (by rw [List.getElem?_map,List.getElem?_eq_getElem (by omega)];simp [List.getD,List.getElem?_eq_getElem (show i<ns.length by omega)])
theorem done_any (g n:Nat) (w:World) (h:OutS w g n) :
  Calls Tryz.prog 119 #[.pointer (some ⟨g,0,none⟩)] w fun e w'=>(∃ s,e=.returned (.tuple #[.string s,.nilIface]))∧Below w.heap.size w w':=by
 obtain ⟨v,hb,hrow⟩:=h;have c0:w.cell? ⟨g,0,none⟩=_:=hb.cell 0;have c1:w.cell? ⟨g,1,none⟩=_:=hb.cell 1;have hlt:=hb.lt;simp at c0 c1
 obtain ⟨s,hs⟩:=conv_row hrow;obtain ⟨A,c,rfl⟩:=hrow.form;clear hb hrow;go_enter Tryz.func119,Tryz.ntmps119;go_wp2;exact bodyPost_ret (v:=.tuple #[.string s,.nilIface]) (by simp [results,Tryz.results119,go_sem]) rfl ⟨⟨s,rfl⟩,Below.refl _ _⟩
end wire
namespace wire
open Go.RowKit base rowe err
theorem right_any (x:Wr) (w:World) (hd:Nums w w.heap.size x.d x.z) :
  Calls Tryz.prog 144 #[.agg ⟨x.cells⟩] w fun e w'=>e=.returned (.bool (rightB x))∧Below w.heap.size w w':=by
 obtain ⟨A,m,c,hx,hl,hm,hr⟩:=hd;obtain ⟨r,n,t,s,d,zs,se,k,v,g,l⟩:=x;dsimp only at hx hl hr;subst hx;have Hl:=qH hl;clear hl;have Hr:=qH (hr.alloc (Nat.le_refl _) (.cells #[.int .i64 r,.int .i64 n,.int .i64 t,.int .i64 s,.slice A m c,.string se,.string k,.string v,.bool g,.int .i64 l] 188));clear hr;unfold Wr.cells;dsimp only
 cases h1:decide ((1:Int)≤r) with
 | false =>
  have HF:=qH (show rightB ⟨r,n,t,s,.slice A m c,zs,se,k,v,g,l⟩=false by unfold rightB;dsimp only;rw [h1];rfl);go_enter Tryz.func144,Tryz.ntmps144
  go_wp2_with (first|(go_at_call 187;refine (in_any _ _ _).mono ?_;rintro e w1 ⟨rfl,rfl⟩)|(go_at_call 142;refine (trim_any A m c zs _ _ _ Hl.out hm Hr.out).mono ?_;rintro e w1 ⟨rfl,rfl⟩))
  all_goals first|(go_ret;exact ⟨ret_bool HF.out.symm,below_new _ _⟩)|(rename_i hq h2;simp [undef] at hq;done)|trace_state
 | true =>
  cases h2:decide (r≤16) with
  | false =>
   have HF:=qH (show rightB ⟨r,n,t,s,.slice A m c,zs,se,k,v,g,l⟩=false by unfold rightB;dsimp only;rw [h1,h2];rfl);go_enter Tryz.func144,Tryz.ntmps144
   go_wp2_with (first|(go_at_call 187;refine (in_any _ _ _).mono ?_;rintro e w1 ⟨rfl,rfl⟩)|(go_at_call 142;refine (trim_any A m c zs _ _ _ Hl.out hm Hr.out).mono ?_;rintro e w1 ⟨rfl,rfl⟩))
   all_goals first|(go_ret;exact ⟨ret_bool HF.out.symm,below_new _ _⟩)|(rename_i hq h2;simp [undef] at hq;done)|trace_state
  | true =>
   cases h3:inB n 1 with
   | false =>
    have HF:=qH (show rightB ⟨r,n,t,s,.slice A m c,zs,se,k,v,g,l⟩=false by unfold rightB;dsimp only;rw [h1,h2,h3];rfl);go_enter Tryz.func144,Tryz.ntmps144
    go_wp2_with (first|(go_at_call 187;refine (in_any _ _ _).mono ?_;rintro e w1 ⟨rfl,rfl⟩)|(go_at_call 142;refine (trim_any A m c zs _ _ _ Hl.out hm Hr.out).mono ?_;rintro e w1 ⟨rfl,rfl⟩))
    all_goals first|(go_ret;exact ⟨ret_bool HF.out.symm,below_new _ _⟩)|(rename_i hq h2;simp [undef] at hq;done)|trace_state
   | true =>
    cases h4:(s==r) with
    | false =>
     have HF:=qH (show rightB ⟨r,n,t,s,.slice A m c,zs,se,k,v,g,l⟩=false by unfold rightB;dsimp only;rw [h1,h2,h3,h4];rfl);go_enter Tryz.func144,Tryz.ntmps144
     go_wp2_with (first|(go_at_call 187;refine (in_any _ _ _).mono ?_;rintro e w1 ⟨rfl,rfl⟩)|(go_at_call 142;refine (trim_any A m c zs _ _ _ Hl.out hm Hr.out).mono ?_;rintro e w1 ⟨rfl,rfl⟩))
     all_goals first|(go_ret;exact ⟨ret_bool HF.out.symm,below_new _ _⟩)|(rename_i hq h2;simp [undef] at hq;done)|trace_state
    | true =>
     cases h5:inB t 1 with
     | false =>
      have HF:=qH (show rightB ⟨r,n,t,s,.slice A m c,zs,se,k,v,g,l⟩=false by unfold rightB;dsimp only;rw [h1,h2,h3,h4,h5];rfl);go_enter Tryz.func144,Tryz.ntmps144
      go_wp2_with (first|(go_at_call 187;refine (in_any _ _ _).mono ?_;rintro e w1 ⟨rfl,rfl⟩)|(go_at_call 142;refine (trim_any A m c zs _ _ _ Hl.out hm Hr.out).mono ?_;rintro e w1 ⟨rfl,rfl⟩))
      all_goals first|(go_ret;exact ⟨ret_bool HF.out.symm,below_new _ _⟩)|(rename_i hq h2;simp [undef] at hq;done)|trace_state
     | true =>
      cases h6:trB zs 1099511627776 with
      | false =>
       have HF:=qH (show rightB ⟨r,n,t,s,.slice A m c,zs,se,k,v,g,l⟩=false by unfold rightB;dsimp only;rw [h1,h2,h3,h4,h5,h6];rfl);go_enter Tryz.func144,Tryz.ntmps144
       go_wp2_with (first|(go_at_call 187;refine (in_any _ _ _).mono ?_;rintro e w1 ⟨rfl,rfl⟩)|(go_at_call 142;refine (trim_any A m c zs _ _ _ Hl.out hm Hr.out).mono ?_;rintro e w1 ⟨rfl,rfl⟩))
       all_goals first|(go_ret;exact ⟨ret_bool HF.out.symm,below_new _ _⟩)|(rename_i hq h2;simp [undef] at hq;done)|trace_state
      | true =>
       cases h7:decide ((1:Int)≤(se.size:Nat)) with
       | false =>
        have HF:=qH (show rightB ⟨r,n,t,s,.slice A m c,zs,se,k,v,g,l⟩=false by unfold rightB;dsimp only;rw [h1,h2,h3,h4,h5,h6,h7];rfl);go_enter Tryz.func144,Tryz.ntmps144
        go_wp2_with (first|(go_at_call 187;refine (in_any _ _ _).mono ?_;rintro e w1 ⟨rfl,rfl⟩)|(go_at_call 142;refine (trim_any A m c zs _ _ _ Hl.out hm Hr.out).mono ?_;rintro e w1 ⟨rfl,rfl⟩))
        all_goals first|(go_ret;exact ⟨ret_bool HF.out.symm,below_new _ _⟩)|(rename_i hq h2;simp [undef] at hq;done)|trace_state
       | true =>
        cases h8:decide (((se.size:Nat):Int)≤64) with
        | false =>
         have HF:=qH (show rightB ⟨r,n,t,s,.slice A m c,zs,se,k,v,g,l⟩=false by unfold rightB;dsimp only;rw [h1,h2,h3,h4,h5,h6,h7,h8];rfl);go_enter Tryz.func144,Tryz.ntmps144
         go_wp2_with (first|(go_at_call 187;refine (in_any _ _ _).mono ?_;rintro e w1 ⟨rfl,rfl⟩)|(go_at_call 142;refine (trim_any A m c zs _ _ _ Hl.out hm Hr.out).mono ?_;rintro e w1 ⟨rfl,rfl⟩))
         all_goals first|(go_ret;exact ⟨ret_bool HF.out.symm,below_new _ _⟩)|(rename_i hq h2;simp [undef] at hq;done)|trace_state
        | true =>
         cases h9:decide (((k.size:Nat):Int)≤32) with
         | false =>
          have HF:=qH (show rightB ⟨r,n,t,s,.slice A m c,zs,se,k,v,g,l⟩=false by unfold rightB;dsimp only;rw [h1,h2,h3,h4,h5,h6,h7,h8,h9];rfl);go_enter Tryz.func144,Tryz.ntmps144
          go_wp2_with (first|(go_at_call 187;refine (in_any _ _ _).mono ?_;rintro e w1 ⟨rfl,rfl⟩)|(go_at_call 142;refine (trim_any A m c zs _ _ _ Hl.out hm Hr.out).mono ?_;rintro e w1 ⟨rfl,rfl⟩))
          all_goals first|(go_ret;exact ⟨ret_bool HF.out.symm,below_new _ _⟩)|(rename_i hq h2;simp [undef] at hq;done)|trace_state
         | true =>
          cases h10:decide (((v.size:Nat):Int)≤128) with
          | false =>
           have HF:=qH (show rightB ⟨r,n,t,s,.slice A m c,zs,se,k,v,g,l⟩=false by unfold rightB;dsimp only;rw [h1,h2,h3,h4,h5,h6,h7,h8,h9,h10];rfl);go_enter Tryz.func144,Tryz.ntmps144
           go_wp2_with (first|(go_at_call 187;refine (in_any _ _ _).mono ?_;rintro e w1 ⟨rfl,rfl⟩)|(go_at_call 142;refine (trim_any A m c zs _ _ _ Hl.out hm Hr.out).mono ?_;rintro e w1 ⟨rfl,rfl⟩))
           all_goals first|(go_ret;exact ⟨ret_bool HF.out.symm,below_new _ _⟩)|(rename_i hq h2;simp [undef] at hq;done)|trace_state
          | true =>
           cases g with
           | false =>
            have h11:(!false || (v.toList==[]))=true:=rfl
            cases h12:inB l 0 with
            | false =>
             have HF:=qH (show rightB ⟨r,n,t,s,.slice A m c,zs,se,k,v,false,l⟩=false by unfold rightB;dsimp only;rw [h1,h2,h3,h4,h5,h6,h7,h8,h9,h10,h11,h12];rfl);go_enter Tryz.func144,Tryz.ntmps144
             go_wp2_with (first|(go_at_call 187;refine (in_any _ _ _).mono ?_;rintro e w1 ⟨rfl,rfl⟩)|(go_at_call 142;refine (trim_any A m c zs _ _ _ Hl.out hm Hr.out).mono ?_;rintro e w1 ⟨rfl,rfl⟩))
             all_goals first|(go_ret;exact ⟨ret_bool HF.out.symm,below_new _ _⟩)|(rename_i hq h2;simp [undef] at hq;done)|trace_state
            | true =>
             have HF:=qH (show rightB ⟨r,n,t,s,.slice A m c,zs,se,k,v,false,l⟩=true by unfold rightB;dsimp only;rw [h1,h2,h3,h4,h5,h6,h7,h8,h9,h10,h11,h12];rfl);go_enter Tryz.func144,Tryz.ntmps144
             go_wp2_with (first|(go_at_call 187;refine (in_any _ _ _).mono ?_;rintro e w1 ⟨rfl,rfl⟩)|(go_at_call 142;refine (trim_any A m c zs _ _ _ Hl.out hm Hr.out).mono ?_;rintro e w1 ⟨rfl,rfl⟩))
             all_goals first|(go_ret;exact ⟨ret_bool HF.out.symm,below_new _ _⟩)|(rename_i hq h2;simp [undef] at hq;done)|trace_state
           | true =>
            cases hv:(v.toList==([]:List UInt8)) with
            | false =>
             have h11:(!true || (v.toList==[]))=false:=hv;have HF:=qH (show rightB ⟨r,n,t,s,.slice A m c,zs,se,k,v,true,l⟩=false by unfold rightB;dsimp only;rw [h1,h2,h3,h4,h5,h6,h7,h8,h9,h10,h11];rfl);go_enter Tryz.func144,Tryz.ntmps144
             go_wp2_with (first|(go_at_call 187;refine (in_any _ _ _).mono ?_;rintro e w1 ⟨rfl,rfl⟩)|(go_at_call 142;refine (trim_any A m c zs _ _ _ Hl.out hm Hr.out).mono ?_;rintro e w1 ⟨rfl,rfl⟩))
             all_goals first|(go_ret;exact ⟨ret_bool HF.out.symm,below_new _ _⟩)|(rename_i hq h2;simp [undef] at hq;done)|trace_state
            | true =>
             have h11:(!true || (v.toList==[]))=true:=hv
             cases h12:inB l 0 with
             | false =>
              have HF:=qH (show rightB ⟨r,n,t,s,.slice A m c,zs,se,k,v,true,l⟩=false by unfold rightB;dsimp only;rw [h1,h2,h3,h4,h5,h6,h7,h8,h9,h10,h11,h12];rfl);go_enter Tryz.func144,Tryz.ntmps144
              go_wp2_with (first|(go_at_call 187;refine (in_any _ _ _).mono ?_;rintro e w1 ⟨rfl,rfl⟩)|(go_at_call 142;refine (trim_any A m c zs _ _ _ Hl.out hm Hr.out).mono ?_;rintro e w1 ⟨rfl,rfl⟩))
              all_goals first|(go_ret;exact ⟨ret_bool HF.out.symm,below_new _ _⟩)|(rename_i hq h2;simp [undef] at hq;done)|trace_state
             | true =>
              have HF:=qH (show rightB ⟨r,n,t,s,.slice A m c,zs,se,k,v,true,l⟩=true by unfold rightB;dsimp only;rw [h1,h2,h3,h4,h5,h6,h7,h8,h9,h10,h11,h12];rfl);go_enter Tryz.func144,Tryz.ntmps144
              go_wp2_with (first|(go_at_call 187;refine (in_any _ _ _).mono ?_;rintro e w1 ⟨rfl,rfl⟩)|(go_at_call 142;refine (trim_any A m c zs _ _ _ Hl.out hm Hr.out).mono ?_;rintro e w1 ⟨rfl,rfl⟩))
              all_goals first|(go_ret;exact ⟨ret_bool HF.out.symm,below_new _ _⟩)|(rename_i hq h2;simp [undef] at hq;done)|trace_state
end wire
namespace wire
open Go.RowKit base rowe err
theorem Nums.alloc' {w:World} {B:Nat} {d:Value} {zs:List Int} (h:Nums w B d zs) (o:Obj) (hB:B≤w.heap.size):Nums (w.alloc o) B d zs:=h.below ((Below.refl _ _).alloc hB o)
def EncR (x:Wr) (w:World) (e:Ending) (w':World):Prop :=
 (∃ s v,e=.returned (.tuple #[.string s,v])∧((rightB x=true∧v=.nilIface)∨(rightB x=false∧∃ ge,v=.iface 121 (.pointer (some ⟨ge,0,none⟩)))))∧Below w.heap.size w w'
structure RightP (x:Wr):Prop where
 r0:1≤x.r
 r1:x.r≤16
 n0:1≤x.n
 n1:x.n≤1099511627776
 sr:x.s=x.r
 t0:1≤x.t
 t1:x.t≤1099511627776
 z:trB x.z 1099511627776=true
 se1:x.se.size≤64
 k1:x.k.size≤32
 v1:x.v.size≤128
 l0:0≤x.l
 l1:x.l≤1099511627776
theorem right_parts {x:Wr} (h:rightB x=true):RightP x:=by
 unfold rightB inB at h;simp only [Bool.and_eq_true,decide_eq_true_eq,beq_iff_eq] at h;obtain ⟨h1,h2,⟨h3,h4⟩,h5,⟨h6,h7⟩,h8,h9,h10,h11,h12,h13,h14,h15⟩:=h;exact ⟨h1,h2,h3,h4,h5,h6,h7,h8,by omega,by omega,by omega,h14,h15⟩
theorem encode_any (x:Wr) (w:World) (hd:Nums w w.heap.size x.d x.z) :
  Calls Tryz.prog 193 #[.agg ⟨x.cells⟩] w (EncR x w):=by
 have hx0:=(Blk.new w 188 x.cells.toArray);have hd2:Nums (w.alloc (.cells x.cells.toArray 188)) (w.alloc (.cells x.cells.toArray 188)).heap.size x.d x.z:=(hd.below (below_new _ _)).more (by simp);have hdg:=qH (hd.below (below_new w (.cells x.cells.toArray 188)));have hb0:=below_new w (.cells x.cells.toArray 188);clear hd;have HX0:=qH hx0;have HD2:=qH hd2;have HB0:=qH hb0;clear hx0 hd2 hb0
 by_cases hrt:rightB x=true
 ·have hp:=right_parts hrt
  obtain ⟨r,n,t,s,d,zs,se,k,v,g,l⟩:=x;obtain ⟨r0,r1,n0,n1,sr,t0,t1,z0,se1,k1,v1,l0,l1⟩:=hp;dsimp only at r0 r1 n0 n1 sr t0 t1 z0 se1 k1 v1 l0 l1;obtain ⟨r,rfl⟩:=Int.eq_ofNat_of_zero_le (show 0≤r by omega);obtain ⟨n,rfl⟩:=Int.eq_ofNat_of_zero_le (show 0≤n by omega);obtain ⟨t,rfl⟩:=Int.eq_ofNat_of_zero_le (show 0≤t by omega);obtain ⟨l,rfl⟩:=Int.eq_ofNat_of_zero_le (show 0≤l by omega);have Hrt:=qH hrt;have Z0:=qH z0;clear hrt z0 sr;unfold Wr.cells at *;dsimp only at *;go_enter Tryz.func193,Tryz.ntmps193;go_wp2_with fail;refine (right_any ⟨r,n,t,s,d,zs,se,k,v,g,l⟩ _ HD2.out).mono ?_;rintro e w1 ⟨rfl,hb1⟩;rw [Hrt.out];have hx:=HX0.out.below hb1 (by simp);have hbb:=HB0.out.trans (hb1.mono (by simp));have hlt1:w.heap.size<w1.heap.size:=hx.lt;have Hdg:=qH (hdg.out.below (hb1.mono (by simp)));have Hdg0:=Hdg;have HX:=qH (hx.alloc (.cells #[.slice none 0 0,.nilIface] 226));have HB:=qH (hbb.alloc (by omega) (.cells #[.slice none 0 0,.nilIface] 226));have HO:=qH (show OutS (w1.alloc (.cells #[.slice none 0 0,.nilIface] 226)) w1.heap.size 0 from ⟨_,Blk.new w1 226 _,Row8.none _ _⟩);have c0:w1.cell? ⟨w.heap.size,0,none⟩=_:=hx.cell 0;simp at c0
  clear hx hbb hb1 HX0 HD2 HB0 hdg;go_wp2_with fail;clear Hdg;have Hdg:=qH (Hdg0.out.alloc' (.cells #[.slice none 0 0,.nilIface] 226) (Nat.le_of_lt hlt1));refine (num_any w1.heap.size 0 r _ HO.out (by omega) (by omega)).mono ?_;rintro e w2 ⟨rfl,⟨q2,hloq2,hhiq2,ho⟩,hb⟩;have hx:=HX.out.below hb hlt1;have hbb:=HB.out.trans (hb.mono (Nat.le_of_lt hlt1));have hdg:=Hdg.out.below (hb.mono (Nat.le_of_lt hlt1));clear HX HB HO Hdg c0;have HX:=qH hx;have HB:=qH hbb;have HO:=qH ho;have Hdg:=qH hdg;have c0:(w2).cell? ⟨w.heap.size,1,none⟩=_:=hx.cell 1;simp at c0
  clear hx hbb ho hb hdg;go_wp2_with fail;refine (num_any w1.heap.size q2 n _ HO.out (by omega) (by omega)).mono ?_;rintro e w3 ⟨rfl,⟨q3,hloq3,hhiq3,ho⟩,hb⟩;have hx:=HX.out.below hb hlt1;have hbb:=HB.out.trans (hb.mono (Nat.le_of_lt hlt1));have hdg:=Hdg.out.below (hb.mono (Nat.le_of_lt hlt1));clear HX HB HO Hdg c0;have HX:=qH hx;have HB:=qH hbb;have HO:=qH ho;have Hdg:=qH hdg;have c0:(w3).cell? ⟨w.heap.size,2,none⟩=_:=hx.cell 2;simp at c0
  clear hx hbb ho hb hdg;go_wp2_with fail;refine (num_any w1.heap.size q3 t _ HO.out (by omega) (by omega)).mono ?_;rintro e w4 ⟨rfl,⟨q4,hloq4,hhiq4,ho⟩,hb⟩;have hx:=HX.out.below hb hlt1;have hbb:=HB.out.trans (hb.mono (Nat.le_of_lt hlt1));have hdg:=Hdg.out.below (hb.mono (Nat.le_of_lt hlt1));clear HX HB HO Hdg c0;have HX:=qH hx;have HB:=qH hbb;have HO:=qH ho;have Hdg:=qH hdg;have c0:(w4).cell? ⟨w.heap.size,4,none⟩=_:=hx.cell 4;simp at c0
  clear hx hbb ho hb hdg;go_wp2_with fail;refine (vec_any w1.heap.size q4 d zs _ HO.out (Hdg.out.more (by omega)) Z0.out (by omega)).mono ?_;rintro e w5 ⟨rfl,⟨q5,hloq5,hhiq5,ho⟩,hb⟩;have hx:=HX.out.below hb hlt1;have hbb:=HB.out.trans (hb.mono (Nat.le_of_lt hlt1));have hdg:=Hdg.out.below (hb.mono (Nat.le_of_lt hlt1));clear HX HB HO Hdg c0;have HX:=qH hx;have HB:=qH hbb;have HO:=qH ho;have Hdg:=qH hdg;have c0:(w5).cell? ⟨w.heap.size,5,none⟩=_:=hx.cell 5;simp at c0
  clear hx hbb ho hb hdg;go_wp2_with fail;refine (text_any w1.heap.size q5 se _ HO.out (by omega) (by omega)).mono ?_;rintro e w6 ⟨rfl,⟨q6,hloq6,hhiq6,ho⟩,hb⟩;have hx:=HX.out.below hb hlt1;have hbb:=HB.out.trans (hb.mono (Nat.le_of_lt hlt1));have hdg:=Hdg.out.below (hb.mono (Nat.le_of_lt hlt1));clear HX HB HO Hdg c0;have HX:=qH hx;have HB:=qH hbb;have HO:=qH ho;have Hdg:=qH hdg;have c0:(w6).cell? ⟨w.heap.size,6,none⟩=_:=hx.cell 6;simp at c0
  clear hx hbb ho hb hdg;go_wp2_with fail;refine (text_any w1.heap.size q6 k _ HO.out (by omega) (by omega)).mono ?_;rintro e w7 ⟨rfl,⟨q7,hloq7,hhiq7,ho⟩,hb⟩;have hx:=HX.out.below hb hlt1;have hbb:=HB.out.trans (hb.mono (Nat.le_of_lt hlt1));have hdg:=Hdg.out.below (hb.mono (Nat.le_of_lt hlt1));clear HX HB HO Hdg c0;have HX:=qH hx;have HB:=qH hbb;have HO:=qH ho;have Hdg:=qH hdg;have c0:(w7).cell? ⟨w.heap.size,8,none⟩=_:=hx.cell 8;simp at c0
  clear hx hbb ho hb hdg;go_wp2_with fail;refine (flag_any w1.heap.size q7 g _ HO.out (by omega)).mono ?_;rintro e w8 ⟨rfl,⟨q8,hloq8,hhiq8,ho⟩,hb⟩;have hx:=HX.out.below hb hlt1;have hbb:=HB.out.trans (hb.mono (Nat.le_of_lt hlt1));have hdg:=Hdg.out.below (hb.mono (Nat.le_of_lt hlt1));clear HX HB HO Hdg c0;have HX:=qH hx;have HB:=qH hbb;have HO:=qH ho;have Hdg:=qH hdg;have c0:(w8).cell? ⟨w.heap.size,7,none⟩=_:=hx.cell 7;simp at c0
  clear hx hbb ho hb hdg;go_wp2_with fail;refine (text_any w1.heap.size q8 v _ HO.out (by omega) (by omega)).mono ?_;rintro e w9 ⟨rfl,⟨q9,hloq9,hhiq9,ho⟩,hb⟩;have hx:=HX.out.below hb hlt1;have hbb:=HB.out.trans (hb.mono (Nat.le_of_lt hlt1));have hdg:=Hdg.out.below (hb.mono (Nat.le_of_lt hlt1));clear HX HB HO Hdg c0;have HX:=qH hx;have HB:=qH hbb;have HO:=qH ho;have Hdg:=qH hdg;have c0:(w9).cell? ⟨w.heap.size,9,none⟩=_:=hx.cell 9;simp at c0
  clear hx hbb ho hb hdg;go_wp2_with fail;refine (num_any w1.heap.size q9 l _ HO.out (by omega) (by omega)).mono ?_;rintro e w10 ⟨rfl,⟨q10,hloq10,hhiq10,ho⟩,hb⟩;have hx:=HX.out.below hb hlt1;have hbb:=HB.out.trans (hb.mono (Nat.le_of_lt hlt1));have hdg:=Hdg.out.below (hb.mono (Nat.le_of_lt hlt1));clear HX HB HO Hdg c0;have HX:=qH hx;have HB:=qH hbb;have HO:=qH ho;have Hdg:=qH hdg;have c0:(w10).cell? ⟨w.heap.size,0,none⟩=_:=hx.cell 0;simp at c0
  clear hx hbb ho hb hdg;go_wp2_with fail;refine (done_any w1.heap.size q10 _ HO.out).mono ?_;rintro e w11 ⟨⟨sb,rfl⟩,hb⟩;have HR:=qH (show EncR ⟨r,n,t,s,d,zs,se,k,v,g,l⟩ w (.returned (.tuple #[.string sb,.nilIface])) w11 from ⟨⟨sb,_,rfl,.inl ⟨Hrt.out,rfl⟩⟩,HB.out.trans (hb.mono HB.out.size)⟩);clear hb;go_wp2;exact bodyPost_ret (v:=.tuple #[.string sb,.nilIface]) (by simp [results,Tryz.results193,go_sem]) rfl HR.out
 ·have hrt:rightB x=false:=by simpa using hrt
  obtain ⟨r,n,t,s,d,zs,se,k,v,g,l⟩:=x;have Hrt:=qH hrt;clear hrt;unfold Wr.cells at *;dsimp only at *;go_enter Tryz.func193,Tryz.ntmps193;go_wp2_with fail;refine (right_any ⟨r,n,t,s,d,zs,se,k,v,g,l⟩ _ HD2.out).mono ?_;rintro e w1 ⟨rfl,hb1⟩;rw [Hrt.out];have HB:=qH (HB0.out.trans (hb1.mono (by simp)));clear hb1;go_wp2_with fail;refine (Go.Proofs.YthlahcnglacekaaGreatDoor.err.at_any _ _ _ _).mono ?_;rintro e w2 ⟨ve,rfl,he,hne,hb2,_⟩;have HR:=qH (show EncR ⟨r,n,t,s,d,zs,se,k,v,g,l⟩ w (.returned (.tuple #[.string ⟨#[]⟩,ve])) w2 from ⟨⟨_,_,rfl,.inr ⟨Hrt.out,he.form⟩⟩,HB.out.trans (hb2.mono HB.out.size)⟩);clear he hne hb2;go_wp2;exact bodyPost_ret (v:=.tuple #[.string ⟨#[]⟩,ve]) (by simp [results,Tryz.results193,go_sem]) rfl HR.out
end wire
namespace wire
open Go.RowKit base rowe err
theorem clone_dep (x:Wr) (w:World) (hd:Nums w w.heap.size x.d x.z) (h6:x.z.length≤1000000) :
  Calls Tryz.prog 259 #[.agg ⟨x.cells⟩] w (CloneR x w):=by
 obtain ⟨r,n,t,s,d,zs,se,k,v,g,l⟩:=x;dsimp only at hd h6;have hW2:Below w.heap.size w ((w.alloc (.cells #[.int .i64 r,.int .i64 n,.int .i64 t,.int .i64 s,d,.string se,.string k,.string v,.bool g,.int .i64 l] 188)).alloc (.cells #[.int .i64 0,.int .i64 0,.int .i64 0,.int .i64 0,.slice none 0 0,.string ⟨#[]⟩,.string ⟨#[]⟩,.string ⟨#[]⟩,.bool false,.int .i64 0] 188)):=below_alloc (below_new _ _) _;have HD:=qH ((hd.below hW2).more hW2.size);have HW2:=qH hW2;clear hd hW2;unfold Wr.cells;dsimp only;go_enter Tryz.func259,Tryz.ntmps259;go_wp2_with fail;refine (clone_ints d zs _ HD.out h6).mono ?_;rintro e w1 ⟨⟨d',rfl,hd'⟩,hb1⟩;have hx:=((Blk.new w 188 #[.int .i64 r,.int .i64 n,.int .i64 t,.int .i64 s,d,.string se,.string k,.string v,.bool g,.int .i64 l]).alloc (.cells #[.int .i64 0,.int .i64 0,.int .i64 0,.int .i64 0,.slice none 0 0,.string ⟨#[]⟩,.string ⟨#[]⟩,.string ⟨#[]⟩,.bool false,.int .i64 0] 188)).below hb1 (by simp <;> omega);have hy:=(Blk.newAt (w.alloc (.cells #[.int .i64 r,.int .i64 n,.int .i64 t,.int .i64 s,d,.string se,.string k,.string v,.bool g,.int .i64 l] 188)) 188 #[.int .i64 0,.int .i64 0,.int .i64 0,.int .i64 0,.slice none 0 0,.string ⟨#[]⟩,.string ⟨#[]⟩,.string ⟨#[]⟩,.bool false,.int .i64 0] (g:=w.heap.size+1) (by simp)).below hb1 (by simp);have hbb:=HW2.out.trans (hb1.mono (HW2.out.size));obtain ⟨A1,c1,rfl⟩:=ownsRow_slice hd'.1;have k0:w1.cell? ⟨w.heap.size,4,none⟩=_:=hx.cell 4;have k1:=hx.frozen 4;have k2:=hx.lt;simp at k0
 have hx2:=hx.set_ 4 (.slice A1 zs.length c1);have hy2:=hy.far (p:=⟨w.heap.size,4,none⟩) (by simp) (.slice A1 zs.length c1);have hd2:=hd'.keeps (Keeps.set1 w1 w.heap.size 4 (.slice A1 zs.length c1)) (fun i hi e=>by have:=(hd'.1.lt _ hi).1;simp at this;omega);have hb2:=hbb.setCell (p:=⟨w.heap.size,4,none⟩) (Nat.le_refl _) (.slice A1 zs.length c1);have Hx2:=qH hx2;have Hy2:=qH hy2;have Hd2:=qH hd2;have Hb2:=qH hb2;clear hx2 hy2 hd2 hb2;clear hx hy hbb hd' hb1
 go_wp2_with (first|(refine wpList_load_at rfl 188 (.tmp 1) rfl w.heap.size 0 (Wr.cells ⟨r,n,t,s,.slice A1 zs.length c1,zs,se,k,v,g,l⟩) rfl Tryz.underlying188 rfl (by kernel_rfl) (fun j v hj=>by rw [Nat.zero_add,Hx2.out.cell j];simpa [Wr.cells] using hj) ?_)|(refine wpList_store_blk rfl 188 (.tmp 2) (.tmp 7) rfl (w.heap.size+1) (Wr.cells ⟨r,n,t,s,.slice A1 zs.length c1,zs,se,k,v,g,l⟩) rfl rfl Hy2.out (by kernel_rfl) rfl rfl ?_;intro w9 ho9 hk9 hs9))
 refine bodyPost_ret (v:=.agg ⟨Wr.cells ⟨r,n,t,s,.slice A1 zs.length c1,zs,se,k,v,g,l⟩⟩) (results_cell_row (P:=Tryz.prog) rfl _ _ (w.heap.size+1) 188 _ (0,0) _ rfl ho9 Tryz.underlying188 rfl (by kernel_rfl)) rfl ⟨⟨_,rfl,?_⟩,?_⟩
 ·exact (Hd2.out.keeps hk9 (fun i hi e=>by have:=(Hd2.out.1.lt _ hi).1;simp at this;omega)).base (by simp;omega)
 ·exact Hb2.out.trans (hk9.below (fun i hi e=>by omega) (by have:=Hb2.out.size;exact this))
end wire
namespace wire
open Go.RowKit base rowe err
theorem some_dep (v:Value) (L:List Wr) (w:World) (h:RW w v L):Calls Tryz.prog 234 #[v] w (SomeR L w):=by
 obtain ⟨i0,hi,hz⟩:=Option.map_eq_some_iff.1 write_info;simp only [Prod.mk.injEq] at hz;obtain ⟨hz0,hz1,hz2⟩:=hz;obtain ⟨A,c,rfl,hm,hlc,hr,hn⟩:=h;obtain ⟨m,hml⟩:∃ m,L.length=m:=⟨_,rfl⟩;rw [hml] at hm hlc hr ⊢;have Hr:=qH hr;have Hn:=qH hn;have Hml:=qH hml;clear hr hn hml;go_enter Tryz.func234,Tryz.ntmps234;go_wp2
 go_loopw [3,5,8] (fun s _ i wr'=>∃ n:Nat,∃ L',n≤m∧i=.int .i64 n∧L'.map Wr.abs=(L.take n).map Wr.abs∧OW wr' (fun _=>True) w.heap.size s L'∧Below w.heap.size w wr') (fun _ _ i _=>m-(intOf i).toNat)
 case atStart=>exact ⟨0,[],by omega,rfl,by simp,OW.none _ _ _,Below.refl _ _⟩
 case round =>
  obtain ⟨n,L',hn2,rfl,hab,hO,hb⟩:=hrel;obtain ⟨A1,c1,rfl⟩:=ownsRow_slice hO.row;have hsz:=hb.size
  have hll:L'.length=n:=by
   have:=congrArg List.length hab;simp at this
   have:=Hml.out;omega
  by_cases hlt:n<m
  ·have hmlt:n<L.length:=by rw [Hml.out];exact hlt
   obtain ⟨b,off,rfl,hbb⟩:=Hr.out.at_some (by omega);have hnx:=Hn.out L[n] (List.getElem_mem hmlt)
   have htk:(L.take (n+1)).map Wr.abs=(L.take n).map Wr.abs++[L[n].abs]:=by
    rw [List.take_succ_eq_append_getElem hmlt,List.map_append];rfl
   rw [←hab] at htk
   have hcell:∀ j v,(L[n]).cells[j]?=some v→wr.cell? ⟨b,off+n*10+j,none⟩=some v:=fun j v hj=>by
    have hj2:j<10:=by
     rcases Nat.lt_or_ge j 10 with h|h
     ·exact h
     ·rw [List.getElem?_eq_none (by rw [Wr.len];exact h)] at hj;cases hj
    exact (Reads.thing Wr.cells Wr.len (Hr.out.below hb) (k:=n) (x:=L[n]) hlt (List.getElem?_eq_getElem hmlt) j hj2).trans hj
   generalize L[n]=x at *;have hnx1:=(hnx.1.below hb).more hsz;obtain ⟨r,n1,t,s,d,zs,se,k,v,g,l⟩:=x;have hz6:=hnx.2;dsimp only at hnx1 hz6;clear hnx hab;have Hnx:=qH hnx1;have Htk:=qH htk;have Hcell:=qH hcell;have HO:=qH hO;have Hb:=qH hb;clear hnx1 htk hcell hO hb
   go_wp2_with (first|(refine wpList_load_at rfl 188 (.tmp 10) rfl b (off+n*10) (Wr.cells ⟨r,n1,t,s,d,zs,se,k,v,g,l⟩) rfl Tryz.underlying188 rfl (by kernel_rfl) Hcell.out ?_)|(refine wpList_store_blk rfl 188 (.tmp 5) (.tmp 11) rfl wr.heap.size (Wr.cells ⟨r,n1,t,s,d,zs,se,k,v,g,l⟩) rfl rfl (Blk.new wr 188 #[.int .i64 0,.int .i64 0,.int .i64 0,.int .i64 0,.slice none 0 0,.string ⟨#[]⟩,.string ⟨#[]⟩,.string ⟨#[]⟩,.bool false,.int .i64 0]) (by kernel_rfl) rfl (oneAll ⟨r,n1,t,s,d,zs,se,k,v,g,l⟩ (nums_one Hnx.out)) ?_;intro w9 ho9 hk9 hs9)|(refine wpList_load_at rfl 188 (.tmp 5) rfl wr.heap.size 0 (Wr.cells ⟨r,n1,t,s,d,zs,se,k,v,g,l⟩) rfl Tryz.underlying188 rfl (by kernel_rfl) (fun j v hj=>by rw [Nat.zero_add,ho9.cell j];simpa using hj) ?_))
   have hb9:Below wr.heap.size wr w9:=(below_new wr (.cells #[.int .i64 0,.int .i64 0,.int .i64 0,.int .i64 0,.slice none 0 0,.string ⟨#[]⟩,.string ⟨#[]⟩,.string ⟨#[]⟩,.bool false,.int .i64 0] 188)).trans (hk9.below (fun i hi e=>by omega) (by simp));have hs9':=hb9.size;have Hnx9:=qH ((Hnx.out.below hb9).more hs9');have HO9:=qH (HO.out.keeps (X:=nobody) (.of_below hb9) (fun _ _ h=>h));have Hb9:=qH (Hb.out.trans (hb9.mono hsz));clear ho9 hk9 hb9 Hnx HO Hb Hcell;refine (clone_dep ⟨r,n1,t,s,d,zs,se,k,v,g,l⟩ w9 Hnx9.out hz6).mono ?_;rintro e w10 ⟨⟨d',rfl,hd'⟩,hb10⟩;obtain ⟨A2,c2,rfl⟩:=ownsRow_slice hd'.1;have hs10:=hb10.size;have HO10:=qH (HO9.out.keeps (X:=nobody) (.of_below hb10) (fun _ _ h=>h));have Hb10:=qH (Hb9.out.trans (hb10.mono (by omega)));have Hd10:=qH (hd'.base (lo':=w.heap.size) (by omega));clear hd' hb10 HO9 Hb9 Hnx9;dsimp only [Wr.cells]
   go_wp2_with (at_builtin;refine wpList_append_newAt rfl (.tmp 12) (.tmp 15) _ rfl w.heap.size 188 i0 _ 10 120 Tryz.underlying98 hi hz0 hz1 hz2 rfl (by decide) (.slice A1 n c1) n _ rfl (hll ▸ HO10.out.row) 1 1 w10.heap.size rfl (Wr.cells ⟨r,n1,t,s,.slice A2 zs.length c2,zs,se,k,v,g,l⟩) rfl rfl (oneW _ rfl) (by unfold maxLen;omega) (by omega) (by omega) ?_;intro v11 w11 hown11 hbw11 hgr11 hwh11;have Hown11:=qH hown11;have Hbw11:=qH (Hb10.out.trans hbw11);have Hgr11:=qH hgr11;have Hwh11:=qH hwh11;clear hown11 hbw11 hgr11 hwh11)
   go_roundw
   case rel =>
    refine ⟨n+1,L'++[⟨r,n1,t,s,.slice A2 zs.length c2,zs,se,k,v,g,l⟩],by omega,by go_num,?_,?_,Hbw11.out⟩
    ·rw [Htk.out,List.map_append];rfl
    ·refine HO10.out.push (x:=⟨r,n1,t,s,.slice A2 zs.length c2,zs,se,k,v,g,l⟩) Hd10.out (fun _ _=>trivial) (by rw [hll];exact Hown11.out) (by rw [hll];exact Hgr11.out) ?_ (by omega)
     rw [hll];exact Hwh11.out.imp id fun ⟨g,h1,_⟩=>⟨g,h1,trivial⟩
   case measure=>simp [intOf];omega
  ·obtain rfl:m=n:=by omega
   rw [List.take_of_length_le (by rw [Hml.out];omega)] at hab;have HR:=qH (show SomeR L w (.returned (.slice A1 L'.length c1)) wr from ⟨⟨_,L',rfl,hab,hO.sinceS (Nat.le_refl _)⟩,hb⟩);clear hab hO hb;go_wp2;go_ret
   exact HR.out
end wire
end Go.Proofs.YthlahcnglacekaaGreatDoor
