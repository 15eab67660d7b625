/- A part of the proof of RegionNone: Trim, Wr, Clone, Wrs, Enc, Right, Encode, CloneD, MsgA, OpA. -/
import Derived.Test.YtdaphppdmnmicaaGreatDoorA02
import Derived.Laws.BytesArg
namespace Go.Proofs.YtdaphppdmnmicaaGreatDoor.wire
open Go.RowKit base rowe err
def okN (most z:Int):Bool:=decide (0≤z) && decide (z≤most)
def trB (zs:List Int) (most:Int):Bool:=decide (zs.length≤16) && (!(decide (0 < zs.length) && decide (zs.getD (zs.length - 1) 0=0)) && zs.all (okN most))
theorem all_drop (zs:List Int) (p:Int→Bool) (n:Nat) (h:∀ k,k < n→p (zs.getD k 0)=true):n≤zs.length→zs.all p=(zs.drop n).all p:=by
 intro hn
 conv=>lhs;rw [← List.take_append_drop n zs,List.all_append]
 have:(zs.take n).all p=true:=by
  rw [List.all_eq_true]
  intro x hx
  obtain ⟨k,hk,rfl⟩:=List.getElem_of_mem hx
  simp at hk
  have:=h k (by omega)
  rw [List.getD_eq_getElem?_getD,List.getElem?_eq_getElem (by omega)] at this
  simpa using this
 rw [this,Bool.true_and]
theorem tr_at {zs:List Int} {most:Int} {n:Nat} (hn:n < zs.length) (h:okN most (zs.getD n 0)=false):trB zs most=false:=by
 have:zs.all (okN most)=false:=by
  rw [Bool.eq_false_iff]
  intro hA
  rw [List.all_eq_true] at hA
  have:=hA (zs.getD n 0) (by rw [List.getD_eq_getElem?_getD,List.getElem?_eq_getElem hn];simp)
  rw [h] at this
  cases this
 unfold trB
 rw [this,Bool.and_false,Bool.and_false]
theorem tr_all {zs:List Int} {most:Int} (h16:zs.length≤16) (h0:zs.length=0 ∨ zs.getD (zs.length - 1) 0 ≠ 0) (h:∀ k,k < zs.length→okN most (zs.getD k 0)=true):trB zs most=true:=by
 have h1:zs.all (okN most)=true:=by
  rw [all_drop zs _ zs.length h (Nat.le_refl _),List.drop_length];rfl
 unfold trB
 rw [h1,decide_eq_true h16]
 rcases h0 with h0|h0
 ·simp [h0]
 ·rw [decide_eq_false h0];simp
set_option maxRecDepth 10000 in
theorem trim_any (A:Option Addr) (m c:Nat) (zs:List Int) (most:Int) (B:Nat) (w:World) (hl:zs.length=m) (hm:m≤maxLen) (hr:Reads w B 1 A m (zs.map (Value.int .i64))) :
  Calls Tryz.prog 167 #[.slice A m c,.int .i64 most] w fun e w'=>e=.returned (.bool (trB zs most))∧w'=w:=by
 unfold maxLen at hm
 by_cases h16:16 < m
 ·have hf:trB zs most=false:=by unfold trB;rw [decide_eq_false (by omega)];rfl
  rw [hf]
  have d1:decide ((16:Int) < (m:Int))=true:=by simp;omega
  clear hr hl hf
  go_enter Tryz.func167,Tryz.ntmps167
  go_wp2
  go_ret
  exact ⟨rfl,rfl⟩
 ·have d1:decide ((16:Int) < (m:Int))=false:=by simp;omega
  by_cases h0:m=0
  ·subst h0
   have ht:trB zs most=true:=tr_all (by omega) (.inl hl) (fun k hk=>by omega)
   rw [ht]
   clear hr hl ht
   go_enter Tryz.func167,Tryz.ntmps167
   go_wp2
   go_loopw [26] (fun i wr'=>i=.int .i64 0∧wr'=w) (fun _ _=>0)
   case atStart=>exact ⟨rfl,rfl⟩
   case round =>
    obtain ⟨rfl,rfl⟩:=hrel
    go_wp2
    go_ret
    exact ⟨rfl,rfl⟩
  ·obtain ⟨b,off,rfl,hb⟩:=hr.at_some (by omega)
   have d2:decide ((0:Int) < (m:Int))=true:=by simp;omega
   have d3:(m:Int) - 1=((m - 1:Nat):Int):=by omega
   have hlast:=hr.int (k:=m - 1) (by omega)
   have hz:((m - 1:Nat):Int) < (m:Int):=by omega
   have hz2:m - 1 < m:=by omega
   cases dz:(zs.getD (m - 1) 0 == 0) with
   | true =>
    have hz:zs.getD (m - 1) 0=0:=by simpa using dz
    have hf:trB zs most=false:=by unfold trB;rw [hl,hz,decide_eq_true (show 0 < m by omega)];simp
    rw [hf]
    generalize zs.getD (m - 1) 0=z at *
    clear hr hl hf hz
    go_enter Tryz.func167,Tryz.ntmps167
    go_wp2
    go_ret
    exact ⟨rfl,rfl⟩
   | false =>
    have hz:zs.getD (m - 1) 0 ≠ 0:=by simpa using dz
    have Hz:=Lib.hid hz
    have Hl:=Lib.hid hl
    have Hr:=Lib.hid hr
    obtain ⟨z,hzd⟩:∃ z,zs.getD (m - 1) 0=z:=⟨_,rfl⟩
    rw [hzd] at hlast dz
    clear hzd
    clear hr hl hz
    go_enter Tryz.func167,Tryz.ntmps167
    go_wp2
    go_loopw [6,26] (fun _ i wr'=>∃ n:Nat,n≤m∧i=.int .i64 n∧(∀ k,k < n→okN most (zs.getD k 0)=true)∧wr'=w) (fun _ i _=>m - (intOf i).toNat)
    case atStart=>exact ⟨0,by omega,rfl,fun k hk=>by omega,rfl⟩
    case round =>
     clear hlast
     obtain ⟨n,hn,rfl,hall,rfl⟩:=hrel
     by_cases hlt:n < m
     ·have hcur:=Hr.out.int (k:=n) hlt
      have ht1:=fun h=>tr_at (zs:=zs) (most:=most) (n:=n) (by rw [Hl.out];exact hlt) h
      have hst:okN most (zs.getD n 0)=true→∀ k,k < n + 1→okN most (zs.getD k 0)=true:=fun h k hk=>by
       by_cases e:k=n
       ·rw [e];exact h
       ·exact hall k (by omega)
      have Ht1:=Lib.hid ht1
      have Hst:=Lib.hid hst
      clear ht1 hst hall
      generalize zs.getD n 0=y at *
      cases e1:decide (y < 0) with
      | true =>
       have hf:=Ht1.out (by unfold okN;rw [decide_eq_false (by simp at e1;omega)];rfl)
       have HF:=Lib.hid hf
       clear hf
       go_wp2
       go_ret
       exact ⟨ret_bool HF.out.symm,rfl⟩
      | false =>
       cases e2:decide (most < y) with
       | true =>
        have hf:=Ht1.out (by unfold okN;rw [decide_eq_false (p:=y≤most) (by simp at e2;omega),Bool.and_false])
        have HF:=Lib.hid hf
        clear hf
        go_wp2
        go_ret
        exact ⟨ret_bool HF.out.symm,rfl⟩
       | false =>
        have HS:=Lib.hid (Hst.out (by unfold okN;simp at e1 e2;simp;omega))
        go_wp2
        go_roundw
        case rel=>exact ⟨n + 1,by omega,by go_num,HS.out,trivial⟩
        case measure=>simp [intOf];omega
     ·obtain rfl:m=n:=by omega
      have ht:trB zs most=true:=tr_all (by rw [Hl.out];omega) (.inr (by rw [Hl.out];exact Hz.out)) (by rw [Hl.out];exact hall)
      have HT:=Lib.hid ht
      clear hall ht
      go_wp2
      go_ret
      exact ⟨ret_bool HT.out.symm,rfl⟩
end Go.Proofs.YtdaphppdmnmicaaGreatDoor.wire
namespace Go.Proofs.YtdaphppdmnmicaaGreatDoor.wire
open Go.RowKit base rowe err
structure Wr where
 r:Int
 n:Int
 t:Int
 s:Int
 d:Value
 z:List Int
 se:ByteArray
 k:ByteArray
 v:ByteArray
 g:Bool
 l:Int
def Wr.cells (x:Wr):List Value:=[.int .i64 x.r,.int .i64 x.n,.int .i64 x.t,.int .i64 x.s,x.d,.string x.se,.string x.k,.string x.v,.bool x.g,.int .i64 x.l]
theorem Wr.len (x:Wr):x.cells.length=10:=rfl
def Nums (w:World) (B:Nat) (d:Value) (zs:List Int):Prop:=∃ A m c,d=.slice A m c∧zs.length=m∧m≤maxLen∧Reads w B 1 A m (zs.map (Value.int .i64))
theorem Nums.keep {w w':World} {B:Nat} {d:Value} {zs:List Int} (h:Nums w B d zs) (hk:∀ b o,b < B→w'.cell? ⟨b,o,none⟩=w.cell? ⟨b,o,none⟩):Nums w' B d zs:=by
 obtain ⟨A,m,c,h1,h2,h3,h4⟩:=h
 exact ⟨A,m,c,h1,h2,h3,h4.keep hk⟩
theorem Nums.below {w w':World} {B:Nat} {d:Value} {zs:List Int} (h:Nums w B d zs) (hb:Below B w w'):Nums w' B d zs:=h.keep fun b o hp=>hb.cell (p:=⟨b,o,none⟩) hp
theorem Nums.more {w:World} {B B':Nat} {d:Value} {zs:List Int} (h:Nums w B d zs) (hb:B≤B'):Nums w B' d zs:=by
 obtain ⟨A,m,c,h1,h2,h3,h4⟩:=h
 exact ⟨A,m,c,h1,h2,h3,h4.more hb⟩
def inB (n least:Int):Bool:=decide (least≤n) && decide (n≤1099511627776)
def rightB (x:Wr):Bool :=
 decide ((1:Int)≤x.r) && (decide (x.r≤16) && (inB x.n 1 && ((x.s == x.r) && (inB x.t 1 && (trB x.z 1099511627776 && (decide ((1:Int)≤(x.se.size:Nat)) && (decide (((x.se.size:Nat):Int)≤64) && (decide (((x.k.size:Nat):Int)≤32) && (decide (((x.v.size:Nat):Int)≤128) && ((!x.g || (x.v.toList == [])) && (inB x.l 0)))))))))))
theorem in_any (n least:Int) (w:World):Calls Tryz.prog 253 #[.int .i64 n,.int .i64 least] w fun e w'=>e=.returned (.bool (inB n least))∧w'=w:=by
 unfold inB
 cases h1:decide (least≤n)
 ·go_enter Tryz.func253,Tryz.ntmps253
  go_wp2
  go_ret
  exact ⟨rfl,rfl⟩
 ·cases h2:decide (n≤1099511627776)
  ·go_enter Tryz.func253,Tryz.ntmps253
   go_wp2
   go_ret
   exact ⟨rfl,rfl⟩
  ·go_enter Tryz.func253,Tryz.ntmps253
   go_wp2
   go_ret
   exact ⟨rfl,rfl⟩
end Go.Proofs.YtdaphppdmnmicaaGreatDoor.wire
namespace Go.Proofs.YtdaphppdmnmicaaGreatDoor.wire
open Go.RowKit base rowe err
def NumsO (w:World) (lo:Nat) (d:Value) (zs:List Int):Prop:=w.ownsRow lo 3 1 d zs.length (zs.map (Value.int .i64))∧zs.length≤1000000
theorem NumsO.nums {w:World} {lo:Nat} {d:Value} {zs:List Int} (h:NumsO w lo d zs):Nums w w.heap.size d zs:=by
 obtain ⟨h,hm⟩:=h
 obtain ⟨A,c,rfl⟩:=ownsRow_slice h
 exact ⟨A,_,c,rfl,rfl,by unfold maxLen;omega,Reads.of_own h⟩
theorem NumsO.keeps {X:Nat→Prop} {w w':World} {lo:Nat} {d:Value} {zs:List Int} (h:NumsO w lo d zs) (hk:Keeps X w w') (hx:∀ g,d.ownBlock=some g→¬ X g):NumsO w' lo d zs:=by
 refine ⟨⟨h.1.1,h.1.2.imp id ?_⟩,h.2⟩
 rintro ⟨g,cap,cur,rfl,h1,h2,h3⟩
 exact ⟨g,cap,cur,rfl,h1,(hk.block g (heap_lt h2) (hx g rfl)).trans h2,h3⟩
theorem NumsO.below {w w':World} {lo:Nat} {d:Value} {zs:List Int} (h:NumsO w lo d zs) (hb:Below w.heap.size w w'):NumsO w' lo d zs:=h.keeps (X:=nobody) (.of_below hb) (fun _ _ h=>h)
theorem NumsO.base {w:World} {lo lo':Nat} {d:Value} {zs:List Int} (h:NumsO w lo d zs) (hl:lo'≤lo):NumsO w lo' d zs:=by
 refine ⟨⟨h.1.1,h.1.2.imp id ?_⟩,h.2⟩
 rintro ⟨g,cap,cur,rfl,h1,h2⟩
 exact ⟨g,cap,cur,rfl,by omega,h2⟩
theorem equalIn_nil {P:Program} (w:World) (d:Nat) (t e:TypeId) (a:Option Addr) (l c:Nat) (h:P.underlying t=some (.slice e)):(Op.equalIn (d + 1) t (.slice a l c) (.slice none 0 0)).run P w=.ok a.isNone w:=by
 cases a <;> simp [Op.equalIn,run_underlying h]
theorem eql_nil {P:Program} (w:World) (t e:TypeId) (a:Option Addr) (l c:Nat) (h:P.underlying t=some (.slice e)):(binOp .eql t (.slice a l c) (.slice none 0 0)).run P w=.ok (.bool a.isNone) w:=by
 have h2:(Op.equal t (.slice a l c) (.slice none 0 0)).run P w=.ok a.isNone w:=equalIn_nil w 9999 t e a l c h
 simp [binOp,h2]
theorem int_info:(Tryz.prog.info? 3).map (fun i=>(i.zero,i.size,i.bytes))=some (some (.int .i64 0),1,8):=by kernel_rfl
set_option maxRecDepth 10000 in
theorem clone_ints (d:Value) (zs:List Int) (w:World) (hd:Nums w w.heap.size d zs) (h6:zs.length≤1000000) :
  Calls Tryz.prog 241 #[d] w fun e w'=>(∃ d',e=.returned d'∧NumsO w' w.heap.size d' zs)∧Below w.heap.size w w':=by
 obtain ⟨i0,hi,hz⟩:=Option.map_eq_some_iff.1 int_info
 simp only [Prod.mk.injEq] at hz
 obtain ⟨hz0,hz1,hz2⟩:=hz
 obtain ⟨A,m,c,rfl,hl,hm,hr⟩:=hd
 cases A with
 | none =>
  have h0:m=0:=by
   rcases Nat.eq_zero_or_pos m with h|h
   ·exact h
   ·obtain ⟨_,_,e,_⟩:=hr.at_some h;cases e
  subst h0
  have hzs:zs=[]:=List.eq_nil_of_length_eq_zero hl
  subst hzs
  clear hr
  have hcmp:=eql_nil (P:=Tryz.prog) w 27 3 none 0 c (Tryz.underlying27)
  go_enter Tryz.func241,Tryz.ntmps241
  go_wp2
  go_ret
  exact ⟨⟨_,rfl,⟨rfl,.inl ⟨rfl,rfl⟩⟩,by simp⟩,Below.refl _ _⟩
 | some a =>
  have hone:∀ u ∈ zs.map (Value.int .i64),u.oneCell'=true:=by
   intro u hu
   obtain ⟨z,_,rfl⟩:=List.mem_map.1 hu
   rfl
  have hcmp:=eql_nil (P:=Tryz.prog) w 27 3 (some a) m c (Tryz.underlying27)
  have Hr:=Lib.hid hr
  have Hone:=Lib.hid hone
  have Hl:=Lib.hid hl
  clear hr hone hl
  go_enter Tryz.func241,Tryz.ntmps241
  go_wp2_with (at_builtin;refine wpList_append_any _ rfl (.tmp 5) (.tmp 6) _ rfl w.heap.size 3 i0 _ 1 8 Tryz.underlying27 hi hz0 hz1 hz2 rfl (by decide) (.slice (some ⟨w.heap.size,0,none⟩) 0 0) 0 [] rfl (ownsRow_new0 _ _ _ _) w.heap.size (some a) m c _ rfl (Hr.out.alloc (Nat.le_refl _) _) Hone.out (by unfold maxLen;have:=Hl.out;omega) (by have:=Hl.out;omega) (by simp) ?_;intro v1 w5 hown1 hg1 ho1;simp only [Nat.zero_add,List.nil_append] at hown1;obtain ⟨A1,c1,rfl⟩:=ownsRow_slice hown1;have Hown1:=Lib.hid hown1;have Hg1:=Lib.hid hg1;clear hown1 hg1)
  go_ret
  refine ⟨⟨_,rfl,by rw [Hl.out];exact Hown1.out,h6⟩,(below_new w (.cells #[] 3)).trans ?_⟩
  have hk:Keeps (fun i=>w.heap.size≤i) (w.alloc (.cells #[] 3)) w5:=.grown Hg1.out fun g hg=>.inl (by simp [Value.ownBlock] at hg;omega)
  exact hk.below (fun i hi e=>by omega) (by simp)
def CloneR (x:Wr) (w:World) (e:Ending) (w':World):Prop:=(∃ d',e=.returned (.agg ⟨({ x with d:=d' }:Wr).cells⟩)∧NumsO w' w.heap.size d' x.z)∧Below w.heap.size w w'
set_option maxRecDepth 10000 in
theorem clone_any (x:Wr) (w:World) (hd:Nums w w.heap.size x.d x.z) (h6:x.z.length≤1000000) :
  Calls Tryz.prog 242 #[.agg ⟨x.cells⟩] w (CloneR x w):=by
 obtain ⟨r,n,t,s,d,zs,se,k,v,g,l⟩:=x
 dsimp only at hd h6
 have hW2:Below w.heap.size w ((w.alloc (.cells #[.int .i64 r,.int .i64 n,.int .i64 t,.int .i64 s,d,.string se,.string k,.string v,.bool g,.int .i64 l] 34)).alloc (.cells #[.int .i64 0,.int .i64 0,.int .i64 0,.int .i64 0,.slice none 0 0,.string ⟨#[]⟩,.string ⟨#[]⟩,.string ⟨#[]⟩,.bool false,.int .i64 0] 34)):=below_alloc (below_new _ _) _
 have HD:=Lib.hid ((hd.below hW2).more hW2.size)
 have HW2:=Lib.hid hW2
 clear hd hW2
 unfold Wr.cells
 dsimp only
 go_enter Tryz.func242,Tryz.ntmps242
 go_wp2_with fail
 refine (clone_ints d zs _ HD.out h6).mono ?_
 rintro e w1 ⟨⟨d',rfl,hd'⟩,hb1⟩
 have hx:=((Blk.new w 34 #[.int .i64 r,.int .i64 n,.int .i64 t,.int .i64 s,d,.string se,.string k,.string v,.bool g,.int .i64 l]).alloc (.cells #[.int .i64 0,.int .i64 0,.int .i64 0,.int .i64 0,.slice none 0 0,.string ⟨#[]⟩,.string ⟨#[]⟩,.string ⟨#[]⟩,.bool false,.int .i64 0] 34)).below hb1 (by simp <;> omega)
 have hy:=(Blk.newAt (w.alloc (.cells #[.int .i64 r,.int .i64 n,.int .i64 t,.int .i64 s,d,.string se,.string k,.string v,.bool g,.int .i64 l] 34)) 34 #[.int .i64 0,.int .i64 0,.int .i64 0,.int .i64 0,.slice none 0 0,.string ⟨#[]⟩,.string ⟨#[]⟩,.string ⟨#[]⟩,.bool false,.int .i64 0] (g:=w.heap.size + 1) (by simp)).below hb1 (by simp)
 have hbb:=HW2.out.trans (hb1.mono (HW2.out.size))
 obtain ⟨A1,c1,rfl⟩:=ownsRow_slice hd'.1
 have k0:w1.cell? ⟨w.heap.size,4,none⟩=_:=hx.cell 4
 have k1:=hx.frozen 4
 have k2:=hx.lt
 simp at k0
 have hx2:=hx.set_ 4 (.slice A1 zs.length c1)
 have hy2:=hy.far (p:=⟨w.heap.size,4,none⟩) (by simp) (.slice A1 zs.length c1)
 have hd2:=hd'.keeps (Keeps.set1 w1 w.heap.size 4 (.slice A1 zs.length c1)) (fun i hi e=>by have:=(hd'.1.lt _ hi).1;simp at this;omega)
 have hb2:=hbb.setCell (p:=⟨w.heap.size,4,none⟩) (Nat.le_refl _) (.slice A1 zs.length c1)
 have Hx2:=Lib.hid hx2
 have Hy2:=Lib.hid hy2
 have Hd2:=Lib.hid hd2
 have Hb2:=Lib.hid hb2
 clear hx2 hy2 hd2 hb2
 clear hx hy hbb hd' hb1
 go_wp2_with (first|(refine wpList_load_at rfl 34 (.tmp 1) rfl w.heap.size 0 (Wr.cells ⟨r,n,t,s,.slice A1 zs.length c1,zs,se,k,v,g,l⟩) rfl Tryz.underlying34 rfl (by kernel_rfl) (fun j v hj=>by rw [Nat.zero_add,Hx2.out.cell j];simpa [Wr.cells] using hj) ?_)|(refine wpList_store_blk rfl 34 (.tmp 2) (.tmp 7) rfl (w.heap.size + 1) (Wr.cells ⟨r,n,t,s,.slice A1 zs.length c1,zs,se,k,v,g,l⟩) rfl rfl Hy2.out (by kernel_rfl) rfl rfl ?_;intro w9 ho9 hk9 hs9))
 refine bodyPost_ret (v:=.agg ⟨Wr.cells ⟨r,n,t,s,.slice A1 zs.length c1,zs,se,k,v,g,l⟩⟩) (results_cell_row (P:=Tryz.prog) rfl _ _ (w.heap.size + 1) 34 _ (0,0) _ rfl ho9 Tryz.underlying34 rfl (by kernel_rfl)) rfl ⟨⟨_,rfl,?_⟩,?_⟩
 ·exact (Hd2.out.keeps hk9 (fun i hi e=>by have:=(Hd2.out.1.lt _ hi).1;simp at this;omega)).base (by simp;omega)
 ·exact Hb2.out.trans (hk9.below (fun i hi e=>by omega) (by have:=Hb2.out.size;exact this))
end Go.Proofs.YtdaphppdmnmicaaGreatDoor.wire
namespace Go.Proofs.YtdaphppdmnmicaaGreatDoor.wire
open Go.RowKit base rowe err
theorem write_info:(Tryz.prog.info? 34).map (fun i=>(i.zero,i.size,i.bytes))=some (some (.agg #[.int .i64 0,.int .i64 0,.int .i64 0,.int .i64 0,.slice none 0 0,.string ⟨#[]⟩,.string ⟨#[]⟩,.string ⟨#[]⟩,.bool false,.int .i64 0]),10,120):=by kernel_rfl
def Wr.abs (x:Wr):Wr:={ x with d:=.slice none 0 0 }
def RW (w:World) (v:Value) (L:List Wr):Prop:=∃ A c,v=.slice A L.length c∧L.length≤1000000∧L.length≤c∧Reads w w.heap.size 10 A L.length (L.flatMap Wr.cells)∧∀ x ∈ L,Nums w w.heap.size x.d x.z∧x.z.length≤1000000
theorem RW.below {w w':World} {v:Value} {L:List Wr} (h:RW w v L) (hb:Below w.heap.size w w'):RW w' v L:=by
 obtain ⟨A,c,h1,h2,h2',h3,h4⟩:=h
 exact ⟨A,c,h1,h2,h2',(h3.below hb).more hb.size,fun x hx=>⟨((h4 x hx).1.below hb).more hb.size,(h4 x hx).2⟩⟩
structure OW (w:World) (S:Nat→Prop) (lo:Nat) (v:Value) (L:List Wr):Prop where
 row:w.ownsRow lo 34 10 v L.length (L.flatMap Wr.cells)
 few:L.length≤1000000
 nums:∀ x ∈ L,NumsO w lo x.d x.z
 inS:∀ i,v.ownBlock=some i→S i
 numS:∀ x ∈ L,∀ i,x.d.ownBlock=some i→S i
theorem oneW (x:Wr) (h:x.d.oneCell'=true):∀ u ∈ x.cells,u.oneCell'=true:=by
 intro u hu
 simp [Wr.cells] at hu
 rcases hu with rfl|rfl|rfl|rfl|rfl|rfl|rfl|rfl|rfl|rfl <;> first|exact h|rfl
theorem oneAll (x:Wr) (h:x.d.oneCell'=true):x.cells.all (·.oneCell')=true:=List.all_eq_true.2 (fun u hu=>oneW x h u hu)
theorem nums_one {w:World} {B:Nat} {d:Value} {zs:List Int} (h:Nums w B d zs):d.oneCell'=true:=by obtain ⟨A,m,c,rfl,_⟩:=h;rfl
theorem OW.rw {w:World} {S:Nat→Prop} {lo:Nat} {v:Value} {L:List Wr} (h:OW w S lo v L):RW w v L:=by
 obtain ⟨A,c,rfl⟩:=ownsRow_slice h.row
 refine ⟨A,c,rfl,h.few,?_,Reads.of_own h.row,fun x hx=>⟨(h.nums x hx).nums,(h.nums x hx).2⟩⟩
 rcases h.row.2 with ⟨e,h0⟩|⟨g,cap,cur,e,h1,h2,h3,_⟩
 ·rw [h0];exact Nat.zero_le _
 ·injection e with _ _ e;omega
theorem OW.keeps {X S:Nat→Prop} {w w':World} {lo:Nat} {v:Value} {L:List Wr} (h:OW w S lo v L) (hk:Keeps X w w') (hx:∀ i,S i→¬ X i):OW w' S lo v L:=by
 refine ⟨⟨h.row.1,h.row.2.imp id ?_⟩,h.few,fun x hx'=>(h.nums x hx').keeps hk (fun g hg=>hx g (h.numS x hx' g hg)),h.inS,h.numS⟩
 rintro ⟨g,cap,cur,rfl,h1,h2,h3⟩
 exact ⟨g,cap,cur,rfl,h1,(hk.block g (heap_lt h2) (hx g (h.inS g rfl))).trans h2,h3⟩
theorem OW.more {S S':Nat→Prop} {w:World} {lo:Nat} {v:Value} {L:List Wr} (h:OW w S lo v L) (hs:∀ i,S i→S' i):OW w S' lo v L :=
 ⟨h.row,h.few,h.nums,fun i hi=>hs i (h.inS i hi),fun x hx i hi=>hs i (h.numS x hx i hi)⟩
theorem OW.none (w:World) (S:Nat→Prop) (lo:Nat):OW w S lo (.slice none 0 0) []:=⟨⟨rfl,.inl ⟨rfl,rfl⟩⟩,by simp,by simp,(fun i hi=>by cases hi),by simp⟩
theorem OW.push {S:Nat→Prop} {w w5:World} {lo:Nat} {v v5:Value} {L:List Wr} {x:Wr} (h:OW w S lo v L) (hd:NumsO w lo x.d x.z) (hds:∀ i,x.d.ownBlock=some i→S i) (hrow:w5.ownsRow lo 34 10 v5 (L.length + 1) (L.flatMap Wr.cells ++ x.cells)) (hg:w.grownBy w5 v.ownBlock)
  (hv:v5.ownBlock=v.ownBlock ∨ ∃ g,v5.ownBlock=some g∧S g) (hl:L.length < 1000000):OW w5 S lo v5 (L ++ [x]):=by
 have hk:Keeps (fun i=>v.ownBlock=some i) w w5:=.grown hg fun g hg=>.inl hg
 have hne:∀ y:Wr,NumsO w lo y.d y.z→NumsO w5 lo y.d y.z:=fun y hy=>by
  refine hy.keeps hk fun g hg1 hg2=>?_
  rcases hy.1.2 with ⟨e,_⟩|⟨g1,_,_,e,_,e2,_⟩
  ·rw [e] at hg1;cases hg1
  ·rcases h.row.2 with ⟨e',_⟩|⟨g3,_,_,e',_,e4,_⟩
   ·rw [e'] at hg2;cases hg2
   ·rw [e] at hg1
    rw [e'] at hg2
    simp [Value.ownBlock] at hg1 hg2
    subst hg1 hg2
    rw [e2] at e4
    injection e4 with e4
    injection e4 with _ e4 _
    exact absurd e4 (by decide)
 refine ⟨?_,by simp;omega,?_,?_,?_⟩
 ·simpa [List.flatMap_append] using hrow
 ·intro y hy
  rcases List.mem_append.1 hy with hy|hy
  ·exact hne y (h.nums y hy)
  ·rw [List.mem_singleton.1 hy];exact hne x hd
 ·intro i hi
  rcases hv with hv|⟨g,hv,hs⟩
  ·exact h.inS i (hv ▸ hi)
  ·rw [hv] at hi;injection hi with hi;rw [← hi];exact hs
 ·intro y hy i hi
  rcases List.mem_append.1 hy with hy|hy
  ·exact h.numS y hy i hi
  ·rw [List.mem_singleton.1 hy] at hi;exact hds i hi
end Go.Proofs.YtdaphppdmnmicaaGreatDoor.wire
namespace Go.Proofs.YtdaphppdmnmicaaGreatDoor.wire
open Go.RowKit base rowe err
theorem tr_len {zs:List Int} {most:Int} (h:trB zs most=true):zs.length≤16:=by
 unfold trB at h
 simp only [Bool.and_eq_true,decide_eq_true_eq] at h
 exact h.1
theorem tr_ok {zs:List Int} {most:Int} (h:trB zs most=true) {k:Nat} (hk:k < zs.length):0≤zs.getD k 0∧zs.getD k 0≤most:=by
 unfold trB at h
 simp only [Bool.and_eq_true,decide_eq_true_eq,List.all_eq_true] at h
 have:=h.2.2 (zs.getD k 0) (by rw [List.getD_eq_getElem?_getD,List.getElem?_eq_getElem hk];simp)
 unfold okN at this
 simpa using this
theorem tr_more {zs:List Int} {most most':Int} (h:trB zs most=true) (hm:most≤most'):trB zs most'=true:=by
 unfold trB at h ⊢
 simp only [Bool.and_eq_true,decide_eq_true_eq,List.all_eq_true] at h ⊢
 refine ⟨h.1,h.2.1,fun x hx=>?_⟩
 have:=h.2.2 x hx
 unfold okN at this ⊢
 simp only [Bool.and_eq_true,decide_eq_true_eq] at this ⊢
 omega
set_option maxRecDepth 10000 in
theorem vec_any (g n:Nat) (d:Value) (zs:List Int) (w:World) (h:OutS w g n) (hd:Nums w g d zs) (ht:trB zs 1099511627776=true) (hr:n + 200≤65536) :
  Calls Tryz.prog 138 #[.pointer (some ⟨g,0,none⟩),d] w (PutsR g n (n + 200) w):=by
 obtain ⟨A,m,c,rfl,hl,hm,hrd⟩:=hd
 have h16:=tr_len ht
 have ht2:=tr_more ht (most':=4611686018427387903) (by decide)
 obtain ⟨v,hb,hv⟩:=id h
 have c1:w.cell? ⟨g,1,none⟩=_:=hb.cell 1
 have hlt:=hb.lt
 simp at c1
 have hm16:m≤16:=by omega
 have Ht2:=Lib.hid ht2
 have Ht:=Lib.hid ht
 have Hl:=Lib.hid hl
 have Hrd:=Lib.hid hrd
 have H:=Lib.hid h
 clear h
 clear hb hv ht ht2 hl hrd h16
 go_enter Tryz.func138,Tryz.ntmps138
 go_wp2_with fail
 refine (trim_any A m c zs 4611686018427387903 g _ Hl.out hm Hrd.out).mono ?_
 rintro e w1 ⟨rfl,rfl⟩
 rw [Ht2.out]
 go_wp2_with fail
 refine (number_any (.slice none 0 0) 0 m w1.heap.size _ (Row8.none _ _) (by omega) (by omega) (Nat.le_refl _)).mono ?_
 rintro e w2 ⟨v1,q,rfl,h1,h2,h3,h4⟩
 have H3:=Lib.hid h3
 have H4:=Lib.hid h4
 clear h3 h4
 go_wp2_with fail
 go_loopw [4,6,26] (fun b _ i wr'=>∃ k q':Nat,i=.int .i64 k∧k≤m∧q'≤9 * (k + 1)∧Row8 wr' w1.heap.size b q'∧Below w1.heap.size w1 wr') (fun _ _ i _=>m - (intOf i).toNat)
 case atStart=>exact ⟨0,q,rfl,by omega,by omega,H3.out,H4.out⟩
 case round =>
  clear H3 H4
  obtain ⟨k,q',rfl,hk,hq',h3,h4⟩:=hrel
  obtain ⟨A1,c1',rfl⟩:=h3.form
  have hsz:=h4.size
  by_cases hlk:k < m
  ·have d1:decide ((k:Int) < (m:Int))=true:=by simp;omega
   obtain ⟨b,off,rfl,hbb⟩:=Hrd.out.at_some (by omega)
   have hcur:=(Hrd.out.below (h4.mono (by omega))).int (k:=k) hlk
   have hok:=tr_ok Ht.out (k:=k) (by rw [Hl.out];exact hlk)
   obtain ⟨y,hy⟩:∃ y:Nat,zs.getD k 0=(y:Int):=⟨(zs.getD k 0).toNat,by omega⟩
   rw [hy] at hcur hok
   have hy2:y < 9223372036854775808:=by omega
   have hkm:(k:Int) < (m:Int):=by omega
   clear hok hy
   have H3:=Lib.hid h3
   have H4:=Lib.hid h4
   have Hy2:=Lib.hid hy2
   clear h3 h4 hy2
   go_wp2_with fail
   refine (number_any (.slice A1 q' c1') q' y w1.heap.size _ H3.out Hy2.out (by omega) hsz).mono ?_
   rintro e w3 ⟨v3,q3,rfl,h5,h6,h7,h8⟩
   have H7:=Lib.hid h7
   have H8:=Lib.hid (H4.out.trans h8)
   clear h7 h8 H3 H4
   go_wp2_with fail
   go_roundw
   case rel=>exact ⟨k + 1,q3,by go_num,by omega,by omega,H7.out,H8.out⟩
   case measure=>simp [intOf];omega
  ·obtain rfl:m=k:=by omega
   have d1:decide ((m:Int) < (m:Int))=false:=by simp
   have H3:=Lib.hid h3
   have H4:=Lib.hid h4
   clear h3 h4
   go_wp2_with fail
   refine (put_any g n q' A1 c1' _ (H.out.below H4.out) (H3.out.base (by omega)) (by omega)).mono ?_
   rintro e w3 ⟨rfl,h5,h6⟩
   have hR:PutsR g n (n + 200) w1 (.returned (.tuple #[])) w3:=⟨rfl,⟨n + q',by omega,by omega,h5⟩,(H4.out.mono (by omega)).trans h6⟩
   have HR:=Lib.hid hR
   clear hR h5 h6
   go_wp2
   exact bodyPost_end (v:=.tuple #[]) (by simp [results,Tryz.results138,go_sem]) rfl HR.out
theorem u8_list:∀ xs:List Value,(∀ u ∈ xs,IsU8 u)→∃ ns:List Int,xs=ns.map (Value.int .u8)
 | [],_=>⟨[],rfl⟩
 | x :: xs,h=>by
  obtain ⟨b,hb⟩:=h x (by simp)
  obtain ⟨ns,hn⟩:=u8_list xs (fun u hu=>h u (by simp [hu]))
  exact ⟨b :: ns,by rw [hb,hn];rfl⟩
theorem conv_row {w:World} {base n:Nat} {v:Value} (h:Row8 w base v n):∃ s,(convert 163 9 v).run Tryz.prog w=.ok (.string s) w:=by
 obtain ⟨xs,hx,hu⟩:=h
 obtain ⟨ns,rfl⟩:=u8_list xs hu
 rcases id hx.2 with ⟨rfl,rfl⟩|⟨g,cap,cur,rfl,h1⟩
 ·exact ⟨_,run_convert_bytes_nil w _ _ Tryz.underlying163 Tryz.underlying5 0 0 _ Tryz.underlying9⟩
 ·have hr:=Reads.of_own hx
  have hl:ns.length=n:=by have:=hx.1;simpa using this
  refine ⟨_,run_convert_bytes_arg w _ _ Tryz.underlying163 Tryz.underlying5 g 0 n cap ns hl (fun i hi=>?_) _ Tryz.underlying9⟩
  exact Reads.get hr (by omega) (by rw [List.getElem?_map,List.getElem?_eq_getElem (by omega)];simp [List.getD,List.getElem?_eq_getElem (show i < ns.length by omega)])
set_option maxRecDepth 10000 in
theorem done_any (g n:Nat) (w:World) (h:OutS w g n) :
  Calls Tryz.prog 211 #[.pointer (some ⟨g,0,none⟩)] w fun e w'=>(∃ s,e=.returned (.tuple #[.string s,.nilIface]))∧Below w.heap.size w w':=by
 obtain ⟨v,hb,hrow⟩:=h
 have c0:w.cell? ⟨g,0,none⟩=_:=hb.cell 0
 have c1:w.cell? ⟨g,1,none⟩=_:=hb.cell 1
 have hlt:=hb.lt
 simp at c0 c1
 obtain ⟨s,hs⟩:=conv_row hrow
 obtain ⟨A,c,rfl⟩:=hrow.form
 clear hb hrow
 go_enter Tryz.func211,Tryz.ntmps211
 go_wp2
 exact bodyPost_ret (v:=.tuple #[.string s,.nilIface]) (by simp [results,Tryz.results211,go_sem]) rfl ⟨⟨s,rfl⟩,Below.refl _ _⟩
end Go.Proofs.YtdaphppdmnmicaaGreatDoor.wire
namespace Go.Proofs.YtdaphppdmnmicaaGreatDoor.wire
open Go.RowKit base rowe err
set_option maxRecDepth 100000 in
set_option maxHeartbeats 4000000 in
theorem right_any (x:Wr) (w:World) (hd:Nums w w.heap.size x.d x.z) :
  Calls Tryz.prog 169 #[.agg ⟨x.cells⟩] w fun e w'=>e=.returned (.bool (rightB x))∧Below w.heap.size w w':=by
 obtain ⟨A,m,c,hx,hl,hm,hr⟩:=hd
 obtain ⟨r,n,t,s,d,zs,se,k,v,g,l⟩:=x
 dsimp only at hx hl hr
 subst hx
 have Hl:=Lib.hid hl
 clear hl
 have Hr:=Lib.hid (hr.alloc (Nat.le_refl _) (.cells #[.int .i64 r,.int .i64 n,.int .i64 t,.int .i64 s,.slice A m c,.string se,.string k,.string v,.bool g,.int .i64 l] 34))
 clear hr
 unfold Wr.cells
 dsimp only
 cases h1:decide ((1:Int)≤r) with
 | false =>
  have HF:=Lib.hid (show rightB ⟨r,n,t,s,.slice A m c,zs,se,k,v,g,l⟩=false by unfold rightB;dsimp only;rw [h1];rfl)
  go_enter Tryz.func169,Tryz.ntmps169
  go_wp2_with (first|(go_at_call 253;refine (in_any _ _ _).mono ?_;rintro e w1 ⟨rfl,rfl⟩)|(go_at_call 167;refine (trim_any A m c zs _ _ _ Hl.out hm Hr.out).mono ?_;rintro e w1 ⟨rfl,rfl⟩))
  all_goals first|(go_ret;exact ⟨ret_bool HF.out.symm,below_new _ _⟩)|(rename_i hq h2;simp [undef] at hq;done)|trace_state
 | true =>
  cases h2:decide (r≤16) with
  | false =>
   have HF:=Lib.hid (show rightB ⟨r,n,t,s,.slice A m c,zs,se,k,v,g,l⟩=false by unfold rightB;dsimp only;rw [h1,h2];rfl)
   go_enter Tryz.func169,Tryz.ntmps169
   go_wp2_with (first|(go_at_call 253;refine (in_any _ _ _).mono ?_;rintro e w1 ⟨rfl,rfl⟩)|(go_at_call 167;refine (trim_any A m c zs _ _ _ Hl.out hm Hr.out).mono ?_;rintro e w1 ⟨rfl,rfl⟩))
   all_goals first|(go_ret;exact ⟨ret_bool HF.out.symm,below_new _ _⟩)|(rename_i hq h2;simp [undef] at hq;done)|trace_state
  | true =>
   cases h3:inB n 1 with
   | false =>
    have HF:=Lib.hid (show rightB ⟨r,n,t,s,.slice A m c,zs,se,k,v,g,l⟩=false by unfold rightB;dsimp only;rw [h1,h2,h3];rfl)
    go_enter Tryz.func169,Tryz.ntmps169
    go_wp2_with (first|(go_at_call 253;refine (in_any _ _ _).mono ?_;rintro e w1 ⟨rfl,rfl⟩)|(go_at_call 167;refine (trim_any A m c zs _ _ _ Hl.out hm Hr.out).mono ?_;rintro e w1 ⟨rfl,rfl⟩))
    all_goals first|(go_ret;exact ⟨ret_bool HF.out.symm,below_new _ _⟩)|(rename_i hq h2;simp [undef] at hq;done)|trace_state
   | true =>
    cases h4:(s == r) with
    | false =>
     have HF:=Lib.hid (show rightB ⟨r,n,t,s,.slice A m c,zs,se,k,v,g,l⟩=false by unfold rightB;dsimp only;rw [h1,h2,h3,h4];rfl)
     go_enter Tryz.func169,Tryz.ntmps169
     go_wp2_with (first|(go_at_call 253;refine (in_any _ _ _).mono ?_;rintro e w1 ⟨rfl,rfl⟩)|(go_at_call 167;refine (trim_any A m c zs _ _ _ Hl.out hm Hr.out).mono ?_;rintro e w1 ⟨rfl,rfl⟩))
     all_goals first|(go_ret;exact ⟨ret_bool HF.out.symm,below_new _ _⟩)|(rename_i hq h2;simp [undef] at hq;done)|trace_state
    | true =>
     cases h5:inB t 1 with
     | false =>
      have HF:=Lib.hid (show rightB ⟨r,n,t,s,.slice A m c,zs,se,k,v,g,l⟩=false by unfold rightB;dsimp only;rw [h1,h2,h3,h4,h5];rfl)
      go_enter Tryz.func169,Tryz.ntmps169
      go_wp2_with (first|(go_at_call 253;refine (in_any _ _ _).mono ?_;rintro e w1 ⟨rfl,rfl⟩)|(go_at_call 167;refine (trim_any A m c zs _ _ _ Hl.out hm Hr.out).mono ?_;rintro e w1 ⟨rfl,rfl⟩))
      all_goals first|(go_ret;exact ⟨ret_bool HF.out.symm,below_new _ _⟩)|(rename_i hq h2;simp [undef] at hq;done)|trace_state
     | true =>
      cases h6:trB zs 1099511627776 with
      | false =>
       have HF:=Lib.hid (show rightB ⟨r,n,t,s,.slice A m c,zs,se,k,v,g,l⟩=false by unfold rightB;dsimp only;rw [h1,h2,h3,h4,h5,h6];rfl)
       go_enter Tryz.func169,Tryz.ntmps169
       go_wp2_with (first|(go_at_call 253;refine (in_any _ _ _).mono ?_;rintro e w1 ⟨rfl,rfl⟩)|(go_at_call 167;refine (trim_any A m c zs _ _ _ Hl.out hm Hr.out).mono ?_;rintro e w1 ⟨rfl,rfl⟩))
       all_goals first|(go_ret;exact ⟨ret_bool HF.out.symm,below_new _ _⟩)|(rename_i hq h2;simp [undef] at hq;done)|trace_state
      | true =>
       cases h7:decide ((1:Int)≤(se.size:Nat)) with
       | false =>
        have HF:=Lib.hid (show rightB ⟨r,n,t,s,.slice A m c,zs,se,k,v,g,l⟩=false by unfold rightB;dsimp only;rw [h1,h2,h3,h4,h5,h6,h7];rfl)
        go_enter Tryz.func169,Tryz.ntmps169
        go_wp2_with (first|(go_at_call 253;refine (in_any _ _ _).mono ?_;rintro e w1 ⟨rfl,rfl⟩)|(go_at_call 167;refine (trim_any A m c zs _ _ _ Hl.out hm Hr.out).mono ?_;rintro e w1 ⟨rfl,rfl⟩))
        all_goals first|(go_ret;exact ⟨ret_bool HF.out.symm,below_new _ _⟩)|(rename_i hq h2;simp [undef] at hq;done)|trace_state
       | true =>
        cases h8:decide (((se.size:Nat):Int)≤64) with
        | false =>
         have HF:=Lib.hid (show rightB ⟨r,n,t,s,.slice A m c,zs,se,k,v,g,l⟩=false by unfold rightB;dsimp only;rw [h1,h2,h3,h4,h5,h6,h7,h8];rfl)
         go_enter Tryz.func169,Tryz.ntmps169
         go_wp2_with (first|(go_at_call 253;refine (in_any _ _ _).mono ?_;rintro e w1 ⟨rfl,rfl⟩)|(go_at_call 167;refine (trim_any A m c zs _ _ _ Hl.out hm Hr.out).mono ?_;rintro e w1 ⟨rfl,rfl⟩))
         all_goals first|(go_ret;exact ⟨ret_bool HF.out.symm,below_new _ _⟩)|(rename_i hq h2;simp [undef] at hq;done)|trace_state
        | true =>
         cases h9:decide (((k.size:Nat):Int)≤32) with
         | false =>
          have HF:=Lib.hid (show rightB ⟨r,n,t,s,.slice A m c,zs,se,k,v,g,l⟩=false by unfold rightB;dsimp only;rw [h1,h2,h3,h4,h5,h6,h7,h8,h9];rfl)
          go_enter Tryz.func169,Tryz.ntmps169
          go_wp2_with (first|(go_at_call 253;refine (in_any _ _ _).mono ?_;rintro e w1 ⟨rfl,rfl⟩)|(go_at_call 167;refine (trim_any A m c zs _ _ _ Hl.out hm Hr.out).mono ?_;rintro e w1 ⟨rfl,rfl⟩))
          all_goals first|(go_ret;exact ⟨ret_bool HF.out.symm,below_new _ _⟩)|(rename_i hq h2;simp [undef] at hq;done)|trace_state
         | true =>
          cases h10:decide (((v.size:Nat):Int)≤128) with
          | false =>
           have HF:=Lib.hid (show rightB ⟨r,n,t,s,.slice A m c,zs,se,k,v,g,l⟩=false by unfold rightB;dsimp only;rw [h1,h2,h3,h4,h5,h6,h7,h8,h9,h10];rfl)
           go_enter Tryz.func169,Tryz.ntmps169
           go_wp2_with (first|(go_at_call 253;refine (in_any _ _ _).mono ?_;rintro e w1 ⟨rfl,rfl⟩)|(go_at_call 167;refine (trim_any A m c zs _ _ _ Hl.out hm Hr.out).mono ?_;rintro e w1 ⟨rfl,rfl⟩))
           all_goals first|(go_ret;exact ⟨ret_bool HF.out.symm,below_new _ _⟩)|(rename_i hq h2;simp [undef] at hq;done)|trace_state
          | true =>
           cases g with
           | false =>
            have h11:(!false || (v.toList == []))=true:=rfl
            cases h12:inB l 0 with
            | false =>
             have HF:=Lib.hid (show rightB ⟨r,n,t,s,.slice A m c,zs,se,k,v,false,l⟩=false by unfold rightB;dsimp only;rw [h1,h2,h3,h4,h5,h6,h7,h8,h9,h10,h11,h12];rfl)
             go_enter Tryz.func169,Tryz.ntmps169
             go_wp2_with (first|(go_at_call 253;refine (in_any _ _ _).mono ?_;rintro e w1 ⟨rfl,rfl⟩)|(go_at_call 167;refine (trim_any A m c zs _ _ _ Hl.out hm Hr.out).mono ?_;rintro e w1 ⟨rfl,rfl⟩))
             all_goals first|(go_ret;exact ⟨ret_bool HF.out.symm,below_new _ _⟩)|(rename_i hq h2;simp [undef] at hq;done)|trace_state
            | true =>
             have HF:=Lib.hid (show rightB ⟨r,n,t,s,.slice A m c,zs,se,k,v,false,l⟩=true by unfold rightB;dsimp only;rw [h1,h2,h3,h4,h5,h6,h7,h8,h9,h10,h11,h12];rfl)
             go_enter Tryz.func169,Tryz.ntmps169
             go_wp2_with (first|(go_at_call 253;refine (in_any _ _ _).mono ?_;rintro e w1 ⟨rfl,rfl⟩)|(go_at_call 167;refine (trim_any A m c zs _ _ _ Hl.out hm Hr.out).mono ?_;rintro e w1 ⟨rfl,rfl⟩))
             all_goals first|(go_ret;exact ⟨ret_bool HF.out.symm,below_new _ _⟩)|(rename_i hq h2;simp [undef] at hq;done)|trace_state
           | true =>
            cases hv:(v.toList == ([]:List UInt8)) with
            | false =>
             have h11:(!true || (v.toList == []))=false:=hv
             have HF:=Lib.hid (show rightB ⟨r,n,t,s,.slice A m c,zs,se,k,v,true,l⟩=false by unfold rightB;dsimp only;rw [h1,h2,h3,h4,h5,h6,h7,h8,h9,h10,h11];rfl)
             go_enter Tryz.func169,Tryz.ntmps169
             go_wp2_with (first|(go_at_call 253;refine (in_any _ _ _).mono ?_;rintro e w1 ⟨rfl,rfl⟩)|(go_at_call 167;refine (trim_any A m c zs _ _ _ Hl.out hm Hr.out).mono ?_;rintro e w1 ⟨rfl,rfl⟩))
             all_goals first|(go_ret;exact ⟨ret_bool HF.out.symm,below_new _ _⟩)|(rename_i hq h2;simp [undef] at hq;done)|trace_state
            | true =>
             have h11:(!true || (v.toList == []))=true:=hv
             cases h12:inB l 0 with
             | false =>
              have HF:=Lib.hid (show rightB ⟨r,n,t,s,.slice A m c,zs,se,k,v,true,l⟩=false by unfold rightB;dsimp only;rw [h1,h2,h3,h4,h5,h6,h7,h8,h9,h10,h11,h12];rfl)
              go_enter Tryz.func169,Tryz.ntmps169
              go_wp2_with (first|(go_at_call 253;refine (in_any _ _ _).mono ?_;rintro e w1 ⟨rfl,rfl⟩)|(go_at_call 167;refine (trim_any A m c zs _ _ _ Hl.out hm Hr.out).mono ?_;rintro e w1 ⟨rfl,rfl⟩))
              all_goals first|(go_ret;exact ⟨ret_bool HF.out.symm,below_new _ _⟩)|(rename_i hq h2;simp [undef] at hq;done)|trace_state
             | true =>
              have HF:=Lib.hid (show rightB ⟨r,n,t,s,.slice A m c,zs,se,k,v,true,l⟩=true by unfold rightB;dsimp only;rw [h1,h2,h3,h4,h5,h6,h7,h8,h9,h10,h11,h12];rfl)
              go_enter Tryz.func169,Tryz.ntmps169
              go_wp2_with (first|(go_at_call 253;refine (in_any _ _ _).mono ?_;rintro e w1 ⟨rfl,rfl⟩)|(go_at_call 167;refine (trim_any A m c zs _ _ _ Hl.out hm Hr.out).mono ?_;rintro e w1 ⟨rfl,rfl⟩))
              all_goals first|(go_ret;exact ⟨ret_bool HF.out.symm,below_new _ _⟩)|(rename_i hq h2;simp [undef] at hq;done)|trace_state
end Go.Proofs.YtdaphppdmnmicaaGreatDoor.wire
namespace Go.Proofs.YtdaphppdmnmicaaGreatDoor.wire
open Go.RowKit base rowe err
theorem Nums.alloc' {w:World} {B:Nat} {d:Value} {zs:List Int} (h:Nums w B d zs) (o:Obj) (hB:B≤w.heap.size):Nums (w.alloc o) B d zs:=h.below ((Below.refl _ _).alloc hB o)
def EncR (x:Wr) (w:World) (e:Ending) (w':World):Prop :=
 (∃ s v,e=.returned (.tuple #[.string s,v])∧((rightB x=true∧v=.nilIface) ∨ (rightB x=false∧∃ ge,v=.iface 167 (.pointer (some ⟨ge,0,none⟩)))))∧Below w.heap.size w w'
structure RightP (x:Wr):Prop where
 r0:1≤x.r
 r1:x.r≤16
 n0:1≤x.n
 n1:x.n≤1099511627776
 sr:x.s=x.r
 t0:1≤x.t
 t1:x.t≤1099511627776
 z:trB x.z 1099511627776=true
 se1:x.se.size≤64
 k1:x.k.size≤32
 v1:x.v.size≤128
 l0:0≤x.l
 l1:x.l≤1099511627776
theorem right_parts {x:Wr} (h:rightB x=true):RightP x:=by
 unfold rightB inB at h
 simp only [Bool.and_eq_true,decide_eq_true_eq,beq_iff_eq] at h
 obtain ⟨h1,h2,⟨h3,h4⟩,h5,⟨h6,h7⟩,h8,h9,h10,h11,h12,h13,h14,h15⟩:=h
 exact ⟨h1,h2,h3,h4,h5,h6,h7,h8,by omega,by omega,by omega,h14,h15⟩
set_option maxRecDepth 100000 in
set_option maxHeartbeats 2000000 in
theorem encode_any (x:Wr) (w:World) (hd:Nums w w.heap.size x.d x.z) :
  Calls Tryz.prog 204 #[.agg ⟨x.cells⟩] w (EncR x w):=by
 have hx0:=(Blk.new w 34 x.cells.toArray)
 have hd2:Nums (w.alloc (.cells x.cells.toArray 34)) (w.alloc (.cells x.cells.toArray 34)).heap.size x.d x.z:=(hd.below (below_new _ _)).more (by simp)
 have hdg:=Lib.hid (hd.below (below_new w (.cells x.cells.toArray 34)))
 have hb0:=below_new w (.cells x.cells.toArray 34)
 clear hd
 have HX0:=Lib.hid hx0
 have HD2:=Lib.hid hd2
 have HB0:=Lib.hid hb0
 clear hx0 hd2 hb0
 by_cases hrt:rightB x=true
 ·have hp:=right_parts hrt
  obtain ⟨r,n,t,s,d,zs,se,k,v,g,l⟩:=x
  obtain ⟨r0,r1,n0,n1,sr,t0,t1,z0,se1,k1,v1,l0,l1⟩:=hp
  dsimp only at r0 r1 n0 n1 sr t0 t1 z0 se1 k1 v1 l0 l1
  obtain ⟨r,rfl⟩:=Int.eq_ofNat_of_zero_le (show 0≤r by omega)
  obtain ⟨n,rfl⟩:=Int.eq_ofNat_of_zero_le (show 0≤n by omega)
  obtain ⟨t,rfl⟩:=Int.eq_ofNat_of_zero_le (show 0≤t by omega)
  obtain ⟨l,rfl⟩:=Int.eq_ofNat_of_zero_le (show 0≤l by omega)
  have Hrt:=Lib.hid hrt
  have Z0:=Lib.hid z0
  clear hrt z0 sr
  unfold Wr.cells at *
  dsimp only at *
  go_enter Tryz.func204,Tryz.ntmps204
  go_wp2_with fail
  refine (right_any ⟨r,n,t,s,d,zs,se,k,v,g,l⟩ _ HD2.out).mono ?_
  rintro e w1 ⟨rfl,hb1⟩
  rw [Hrt.out]
  have hx:=HX0.out.below hb1 (by simp)
  have hbb:=HB0.out.trans (hb1.mono (by simp))
  have hlt1:w.heap.size < w1.heap.size:=hx.lt
  have Hdg:=Lib.hid (hdg.out.below (hb1.mono (by simp)))
  have Hdg0:=Hdg
  have HX:=Lib.hid (hx.alloc (.cells #[.slice none 0 0,.nilIface] 367))
  have HB:=Lib.hid (hbb.alloc (by omega) (.cells #[.slice none 0 0,.nilIface] 367))
  have HO:=Lib.hid (show OutS (w1.alloc (.cells #[.slice none 0 0,.nilIface] 367)) w1.heap.size 0 from ⟨_,Blk.new w1 367 _,Row8.none _ _⟩)
  have c0:w1.cell? ⟨w.heap.size,0,none⟩=_:=hx.cell 0
  simp at c0
  clear hx hbb hb1 HX0 HD2 HB0 hdg
  go_wp2_with fail
  clear Hdg
  have Hdg:=Lib.hid (Hdg0.out.alloc' (.cells #[.slice none 0 0,.nilIface] 367) (Nat.le_of_lt hlt1))
  refine (num_any w1.heap.size 0 r _ HO.out (by omega) (by omega)).mono ?_
  rintro e w2 ⟨rfl,⟨q2,hloq2,hhiq2,ho⟩,hb⟩
  have hx:=HX.out.below hb hlt1
  have hbb:=HB.out.trans (hb.mono (Nat.le_of_lt hlt1))
  have hdg:=Hdg.out.below (hb.mono (Nat.le_of_lt hlt1))
  clear HX HB HO Hdg c0
  have HX:=Lib.hid hx
  have HB:=Lib.hid hbb
  have HO:=Lib.hid ho
  have Hdg:=Lib.hid hdg
  have c0:(w2).cell? ⟨w.heap.size,1,none⟩=_:=hx.cell 1
  simp at c0
  clear hx hbb ho hb hdg
  go_wp2_with fail
  refine (num_any w1.heap.size q2 n _ HO.out (by omega) (by omega)).mono ?_
  rintro e w3 ⟨rfl,⟨q3,hloq3,hhiq3,ho⟩,hb⟩
  have hx:=HX.out.below hb hlt1
  have hbb:=HB.out.trans (hb.mono (Nat.le_of_lt hlt1))
  have hdg:=Hdg.out.below (hb.mono (Nat.le_of_lt hlt1))
  clear HX HB HO Hdg c0
  have HX:=Lib.hid hx
  have HB:=Lib.hid hbb
  have HO:=Lib.hid ho
  have Hdg:=Lib.hid hdg
  have c0:(w3).cell? ⟨w.heap.size,2,none⟩=_:=hx.cell 2
  simp at c0
  clear hx hbb ho hb hdg
  go_wp2_with fail
  refine (num_any w1.heap.size q3 t _ HO.out (by omega) (by omega)).mono ?_
  rintro e w4 ⟨rfl,⟨q4,hloq4,hhiq4,ho⟩,hb⟩
  have hx:=HX.out.below hb hlt1
  have hbb:=HB.out.trans (hb.mono (Nat.le_of_lt hlt1))
  have hdg:=Hdg.out.below (hb.mono (Nat.le_of_lt hlt1))
  clear HX HB HO Hdg c0
  have HX:=Lib.hid hx
  have HB:=Lib.hid hbb
  have HO:=Lib.hid ho
  have Hdg:=Lib.hid hdg
  have c0:(w4).cell? ⟨w.heap.size,4,none⟩=_:=hx.cell 4
  simp at c0
  clear hx hbb ho hb hdg
  go_wp2_with fail
  refine (vec_any w1.heap.size q4 d zs _ HO.out (Hdg.out.more (by omega)) Z0.out (by omega)).mono ?_
  rintro e w5 ⟨rfl,⟨q5,hloq5,hhiq5,ho⟩,hb⟩
  have hx:=HX.out.below hb hlt1
  have hbb:=HB.out.trans (hb.mono (Nat.le_of_lt hlt1))
  have hdg:=Hdg.out.below (hb.mono (Nat.le_of_lt hlt1))
  clear HX HB HO Hdg c0
  have HX:=Lib.hid hx
  have HB:=Lib.hid hbb
  have HO:=Lib.hid ho
  have Hdg:=Lib.hid hdg
  have c0:(w5).cell? ⟨w.heap.size,5,none⟩=_:=hx.cell 5
  simp at c0
  clear hx hbb ho hb hdg
  go_wp2_with fail
  refine (text_any w1.heap.size q5 se _ HO.out (by omega) (by omega)).mono ?_
  rintro e w6 ⟨rfl,⟨q6,hloq6,hhiq6,ho⟩,hb⟩
  have hx:=HX.out.below hb hlt1
  have hbb:=HB.out.trans (hb.mono (Nat.le_of_lt hlt1))
  have hdg:=Hdg.out.below (hb.mono (Nat.le_of_lt hlt1))
  clear HX HB HO Hdg c0
  have HX:=Lib.hid hx
  have HB:=Lib.hid hbb
  have HO:=Lib.hid ho
  have Hdg:=Lib.hid hdg
  have c0:(w6).cell? ⟨w.heap.size,6,none⟩=_:=hx.cell 6
  simp at c0
  clear hx hbb ho hb hdg
  go_wp2_with fail
  refine (text_any w1.heap.size q6 k _ HO.out (by omega) (by omega)).mono ?_
  rintro e w7 ⟨rfl,⟨q7,hloq7,hhiq7,ho⟩,hb⟩
  have hx:=HX.out.below hb hlt1
  have hbb:=HB.out.trans (hb.mono (Nat.le_of_lt hlt1))
  have hdg:=Hdg.out.below (hb.mono (Nat.le_of_lt hlt1))
  clear HX HB HO Hdg c0
  have HX:=Lib.hid hx
  have HB:=Lib.hid hbb
  have HO:=Lib.hid ho
  have Hdg:=Lib.hid hdg
  have c0:(w7).cell? ⟨w.heap.size,8,none⟩=_:=hx.cell 8
  simp at c0
  clear hx hbb ho hb hdg
  go_wp2_with fail
  refine (flag_any w1.heap.size q7 g _ HO.out (by omega)).mono ?_
  rintro e w8 ⟨rfl,⟨q8,hloq8,hhiq8,ho⟩,hb⟩
  have hx:=HX.out.below hb hlt1
  have hbb:=HB.out.trans (hb.mono (Nat.le_of_lt hlt1))
  have hdg:=Hdg.out.below (hb.mono (Nat.le_of_lt hlt1))
  clear HX HB HO Hdg c0
  have HX:=Lib.hid hx
  have HB:=Lib.hid hbb
  have HO:=Lib.hid ho
  have Hdg:=Lib.hid hdg
  have c0:(w8).cell? ⟨w.heap.size,7,none⟩=_:=hx.cell 7
  simp at c0
  clear hx hbb ho hb hdg
  go_wp2_with fail
  refine (text_any w1.heap.size q8 v _ HO.out (by omega) (by omega)).mono ?_
  rintro e w9 ⟨rfl,⟨q9,hloq9,hhiq9,ho⟩,hb⟩
  have hx:=HX.out.below hb hlt1
  have hbb:=HB.out.trans (hb.mono (Nat.le_of_lt hlt1))
  have hdg:=Hdg.out.below (hb.mono (Nat.le_of_lt hlt1))
  clear HX HB HO Hdg c0
  have HX:=Lib.hid hx
  have HB:=Lib.hid hbb
  have HO:=Lib.hid ho
  have Hdg:=Lib.hid hdg
  have c0:(w9).cell? ⟨w.heap.size,9,none⟩=_:=hx.cell 9
  simp at c0
  clear hx hbb ho hb hdg
  go_wp2_with fail
  refine (num_any w1.heap.size q9 l _ HO.out (by omega) (by omega)).mono ?_
  rintro e w10 ⟨rfl,⟨q10,hloq10,hhiq10,ho⟩,hb⟩
  have hx:=HX.out.below hb hlt1
  have hbb:=HB.out.trans (hb.mono (Nat.le_of_lt hlt1))
  have hdg:=Hdg.out.below (hb.mono (Nat.le_of_lt hlt1))
  clear HX HB HO Hdg c0
  have HX:=Lib.hid hx
  have HB:=Lib.hid hbb
  have HO:=Lib.hid ho
  have Hdg:=Lib.hid hdg
  have c0:(w10).cell? ⟨w.heap.size,0,none⟩=_:=hx.cell 0
  simp at c0
  clear hx hbb ho hb hdg
  go_wp2_with fail
  refine (done_any w1.heap.size q10 _ HO.out).mono ?_
  rintro e w11 ⟨⟨sb,rfl⟩,hb⟩
  have HR:=Lib.hid (show EncR ⟨r,n,t,s,d,zs,se,k,v,g,l⟩ w (.returned (.tuple #[.string sb,.nilIface])) w11 from ⟨⟨sb,_,rfl,.inl ⟨Hrt.out,rfl⟩⟩,HB.out.trans (hb.mono HB.out.size)⟩)
  clear hb
  go_wp2
  exact bodyPost_ret (v:=.tuple #[.string sb,.nilIface]) (by simp [results,Tryz.results204,go_sem]) rfl HR.out
 ·have hrt:rightB x=false:=by simpa using hrt
  obtain ⟨r,n,t,s,d,zs,se,k,v,g,l⟩:=x
  have Hrt:=Lib.hid hrt
  clear hrt
  unfold Wr.cells at *
  dsimp only at *
  go_enter Tryz.func204,Tryz.ntmps204
  go_wp2_with fail
  refine (right_any ⟨r,n,t,s,d,zs,se,k,v,g,l⟩ _ HD2.out).mono ?_
  rintro e w1 ⟨rfl,hb1⟩
  rw [Hrt.out]
  have HB:=Lib.hid (HB0.out.trans (hb1.mono (by simp)))
  clear hb1
  go_wp2_with fail
  refine (Go.Proofs.YtdaphppdmnmicaaGreatDoor.err.at_any _ _ _ _).mono ?_
  rintro e w2 ⟨ve,rfl,he,hne,hb2,_⟩
  have HR:=Lib.hid (show EncR ⟨r,n,t,s,d,zs,se,k,v,g,l⟩ w (.returned (.tuple #[.string ⟨#[]⟩,ve])) w2 from ⟨⟨_,_,rfl,.inr ⟨Hrt.out,he.form⟩⟩,HB.out.trans (hb2.mono HB.out.size)⟩)
  clear he hne hb2
  go_wp2
  exact bodyPost_ret (v:=.tuple #[.string ⟨#[]⟩,ve]) (by simp [results,Tryz.results204,go_sem]) rfl HR.out
end Go.Proofs.YtdaphppdmnmicaaGreatDoor.wire
namespace Go.Proofs.YtdaphppdmnmicaaGreatDoor.wire
open Go.RowKit base rowe err
set_option maxRecDepth 10000 in
theorem clone_dep (x:Wr) (w:World) (hd:Nums w w.heap.size x.d x.z) (h6:x.z.length≤1000000) :
  Calls Tryz.prog 224 #[.agg ⟨x.cells⟩] w (CloneR x w):=by
 obtain ⟨r,n,t,s,d,zs,se,k,v,g,l⟩:=x
 dsimp only at hd h6
 have hW2:Below w.heap.size w ((w.alloc (.cells #[.int .i64 r,.int .i64 n,.int .i64 t,.int .i64 s,d,.string se,.string k,.string v,.bool g,.int .i64 l] 34)).alloc (.cells #[.int .i64 0,.int .i64 0,.int .i64 0,.int .i64 0,.slice none 0 0,.string ⟨#[]⟩,.string ⟨#[]⟩,.string ⟨#[]⟩,.bool false,.int .i64 0] 34)):=below_alloc (below_new _ _) _
 have HD:=Lib.hid ((hd.below hW2).more hW2.size)
 have HW2:=Lib.hid hW2
 clear hd hW2
 unfold Wr.cells
 dsimp only
 go_enter Tryz.func224,Tryz.ntmps224
 go_wp2_with fail
 refine (clone_ints d zs _ HD.out h6).mono ?_
 rintro e w1 ⟨⟨d',rfl,hd'⟩,hb1⟩
 have hx:=((Blk.new w 34 #[.int .i64 r,.int .i64 n,.int .i64 t,.int .i64 s,d,.string se,.string k,.string v,.bool g,.int .i64 l]).alloc (.cells #[.int .i64 0,.int .i64 0,.int .i64 0,.int .i64 0,.slice none 0 0,.string ⟨#[]⟩,.string ⟨#[]⟩,.string ⟨#[]⟩,.bool false,.int .i64 0] 34)).below hb1 (by simp <;> omega)
 have hy:=(Blk.newAt (w.alloc (.cells #[.int .i64 r,.int .i64 n,.int .i64 t,.int .i64 s,d,.string se,.string k,.string v,.bool g,.int .i64 l] 34)) 34 #[.int .i64 0,.int .i64 0,.int .i64 0,.int .i64 0,.slice none 0 0,.string ⟨#[]⟩,.string ⟨#[]⟩,.string ⟨#[]⟩,.bool false,.int .i64 0] (g:=w.heap.size + 1) (by simp)).below hb1 (by simp)
 have hbb:=HW2.out.trans (hb1.mono (HW2.out.size))
 obtain ⟨A1,c1,rfl⟩:=ownsRow_slice hd'.1
 have k0:w1.cell? ⟨w.heap.size,4,none⟩=_:=hx.cell 4
 have k1:=hx.frozen 4
 have k2:=hx.lt
 simp at k0
 have hx2:=hx.set_ 4 (.slice A1 zs.length c1)
 have hy2:=hy.far (p:=⟨w.heap.size,4,none⟩) (by simp) (.slice A1 zs.length c1)
 have hd2:=hd'.keeps (Keeps.set1 w1 w.heap.size 4 (.slice A1 zs.length c1)) (fun i hi e=>by have:=(hd'.1.lt _ hi).1;simp at this;omega)
 have hb2:=hbb.setCell (p:=⟨w.heap.size,4,none⟩) (Nat.le_refl _) (.slice A1 zs.length c1)
 have Hx2:=Lib.hid hx2
 have Hy2:=Lib.hid hy2
 have Hd2:=Lib.hid hd2
 have Hb2:=Lib.hid hb2
 clear hx2 hy2 hd2 hb2
 clear hx hy hbb hd' hb1
 go_wp2_with (first|(refine wpList_load_at rfl 34 (.tmp 1) rfl w.heap.size 0 (Wr.cells ⟨r,n,t,s,.slice A1 zs.length c1,zs,se,k,v,g,l⟩) rfl Tryz.underlying34 rfl (by kernel_rfl) (fun j v hj=>by rw [Nat.zero_add,Hx2.out.cell j];simpa [Wr.cells] using hj) ?_)|(refine wpList_store_blk rfl 34 (.tmp 2) (.tmp 7) rfl (w.heap.size + 1) (Wr.cells ⟨r,n,t,s,.slice A1 zs.length c1,zs,se,k,v,g,l⟩) rfl rfl Hy2.out (by kernel_rfl) rfl rfl ?_;intro w9 ho9 hk9 hs9))
 refine bodyPost_ret (v:=.agg ⟨Wr.cells ⟨r,n,t,s,.slice A1 zs.length c1,zs,se,k,v,g,l⟩⟩) (results_cell_row (P:=Tryz.prog) rfl _ _ (w.heap.size + 1) 34 _ (0,0) _ rfl ho9 Tryz.underlying34 rfl (by kernel_rfl)) rfl ⟨⟨_,rfl,?_⟩,?_⟩
 ·exact (Hd2.out.keeps hk9 (fun i hi e=>by have:=(Hd2.out.1.lt _ hi).1;simp at this;omega)).base (by simp;omega)
 ·exact Hb2.out.trans (hk9.below (fun i hi e=>by omega) (by have:=Hb2.out.size;exact this))
end Go.Proofs.YtdaphppdmnmicaaGreatDoor.wire
namespace Go.Proofs.YtdaphppdmnmicaaGreatDoor.regn
open Go Go.RowKit base list new wire
theorem Sees.things {P:Program} {w:World} {t e:TypeId} {v:Value} {α:Type} (f:α→List Value) (ht:P.underlying t=some (.slice e)) (hpos:0 < P.cellsOf e) (hf:∀ cs,cs.length=P.cellsOf e→Sees P w e cs→∃ x,cs=f x) (h:Sees P w t [v]) :
  ∃ (A:Option Addr) (len cap:Nat) (l:List α),v=.slice A len cap∧len≤cap∧cap≤maxLen∧l.length=len∧Reads w w.heap.size (P.cellsOf e) A len (l.flatMap f)∧∀ x ∈ l,Sees P w e (f x):=by
 have h':v=.slice none 0 0 ∨ ∃ (a:Addr) (len cap:Nat),v=.slice (some a) len cap∧len≤cap∧cap≤maxLen∧∀ i,i < cap→∃ es,w.cells? 0 (a.add (i * P.cellsOf e)) (P.cellsOf e)=some es∧Sees P w e es:=by
  rcases h.slice ht with h|⟨a,len,cap,h,r⟩
  ·injection h with h;exact .inl h
  ·injection h with h;exact .inr ⟨a,len,cap,h,r⟩
 obtain ⟨A,len,cap,rows,rfl,h1,h2,h3,h4,h5,h6⟩:=rows_of hpos h'
 have h5:=h5.take (fun r hr=>(h4 r hr).1) h3 h1
 obtain ⟨l,hl⟩:=rows_map f (rows.take len) (fun r hr=>hf r (h4 r (List.mem_of_mem_take hr)).1 (h4 r (List.mem_of_mem_take hr)).2)
 rw [hl] at h5
 refine ⟨A,len,cap,l,rfl,h1,h2,?_,by rw [List.flatMap_def];exact h5,fun x hx=>(h4 _ (List.mem_of_mem_take (by rw [hl];exact List.mem_map_of_mem hx))).2⟩
 have:=congrArg List.length hl
 simp at this
 omega
theorem wr_cells:Tryz.prog.cellsOf 34=10:=by kernel_rfl
set_option maxRecDepth 100000 in
theorem wr_sees {w:World} (cs:List Value) (hl:cs.length=Tryz.prog.cellsOf 34) (h:Sees Tryz.prog w 34 cs):∃ x:Wr,cs=x.cells∧Nums w w.heap.size x.d x.z:=by
 rw [wr_cells] at hl
 obtain ⟨_,hf⟩:=h.struct Tryz.underlying34
 have e3:Tryz.prog.cellsOf 3=1:=by kernel_rfl
 have e4:Tryz.prog.cellsOf 4=1:=by kernel_rfl
 have e9:Tryz.prog.cellsOf 9=1:=by kernel_rfl
 have e31:Tryz.prog.cellsOf 32=2:=by kernel_rfl
 have e33:Tryz.prog.cellsOf 27=1:=by kernel_rfl
 match cs,hl with
 | [x0,x1,x2,x3,x4,x5,x6,x7,x8,x9],_ =>
  simp [e3,e4,e9,e31,e33] at hf
  obtain ⟨h0,h1,h2,h4,h5,h6,h7,h8,h9⟩:=hf
  obtain ⟨_,hg⟩:=h2.struct Tryz.underlying32
  simp [e3] at hg
  obtain ⟨n0,q0,_⟩:=h0.int Tryz.underlying3
  obtain ⟨n1,q1,_⟩:=h1.int Tryz.underlying3
  obtain ⟨n2,q2,_⟩:=hg.1.int Tryz.underlying3
  obtain ⟨n3,q3,_⟩:=hg.2.int Tryz.underlying3
  obtain ⟨s5,q5,_⟩:=h5.string Tryz.underlying9
  obtain ⟨s6,q6,_⟩:=h6.string Tryz.underlying9
  obtain ⟨s7,q7,_⟩:=h7.string Tryz.underlying9
  obtain ⟨b8,q8⟩:=h8.bool Tryz.underlying4
  obtain ⟨n9,q9,_⟩:=h9.int Tryz.underlying3
  have h4':x4=.slice none 0 0 ∨ ∃ (a:Addr) (len cap:Nat),x4=.slice (some a) len cap∧len≤cap∧cap≤maxLen∧∀ i,i < cap→∃ es,w.cells? 0 (a.add (i * Tryz.prog.cellsOf 3)) (Tryz.prog.cellsOf 3)=some es∧Sees Tryz.prog w 3 es:=by
   rcases h4.slice Tryz.underlying27 with h|⟨a,len,cap,h,r⟩
   ·injection h with h;exact .inl h
   ·injection h with h;exact .inr ⟨a,len,cap,h,r⟩
  obtain ⟨A,len,cap,zs,q4,h10,h11,h12,_,h13,_⟩:=ints_of Tryz.underlying3 e3 h4'
  simp at q0 q1 q2 q3 q5 q6 q7 q8 q9
  subst q0 q1 q2 q3 q5 q6 q7 q8 q9
  exact ⟨⟨n0,n1,n2,n3,x4,zs,s5,s6,s7,b8,n9⟩,rfl,A,len,cap,q4,h12,by omega,h13⟩
end Go.Proofs.YtdaphppdmnmicaaGreatDoor.regn
namespace Go.Proofs.YtdaphppdmnmicaaGreatDoor.regn
open Go Go.RowKit base list new wire
structure Ch5 where
 s:ByteArray
 k:ByteArray
 v:ByteArray
 g:Bool
 l:Int
def Ch5.cells (x:Ch5):List Value:=[.string x.s,.string x.k,.string x.v,.bool x.g,.int .i64 x.l]
theorem Ch5.len (x:Ch5):x.cells.length=5:=rfl
theorem ch_cells:Tryz.prog.cellsOf 87=5:=by kernel_rfl
set_option maxRecDepth 100000 in
theorem ch_sees {w:World} (cs:List Value) (hl:cs.length=Tryz.prog.cellsOf 87) (h:Sees Tryz.prog w 87 cs):∃ x:Ch5,cs=x.cells:=by
 rw [ch_cells] at hl
 obtain ⟨_,hf⟩:=h.struct Tryz.underlying87
 have e3:Tryz.prog.cellsOf 3=1:=by kernel_rfl
 have e4:Tryz.prog.cellsOf 4=1:=by kernel_rfl
 have e9:Tryz.prog.cellsOf 9=1:=by kernel_rfl
 match cs,hl with
 | [x0,x1,x2,x3,x4],_ =>
  simp [e3,e4,e9] at hf
  obtain ⟨h0,h1,h2,h3,h4⟩:=hf
  obtain ⟨s0,q0,_⟩:=h0.string Tryz.underlying9
  obtain ⟨s1,q1,_⟩:=h1.string Tryz.underlying9
  obtain ⟨s2,q2,_⟩:=h2.string Tryz.underlying9
  obtain ⟨b3,q3⟩:=h3.bool Tryz.underlying4
  obtain ⟨n4,q4,_⟩:=h4.int Tryz.underlying3
  simp at q0 q1 q2 q3 q4
  subst q0 q1 q2 q3 q4
  exact ⟨⟨s0,s1,s2,b3,n4⟩,rfl⟩
theorem cfg_cells:Tryz.prog.cellsOf 23=3:=by kernel_rfl
set_option maxRecDepth 100000 in
theorem cfg_arg {w:World} {v:Value} (h:Arg Tryz.prog w 23 v):∃ (id n:Int) (m:ByteArray),v=.agg #[.int .i64 id,.int .i64 n,.string m]:=by
 obtain ⟨cs,rfl,hl,hs⟩:=h.agg (.inl ⟨_,Tryz.underlying23⟩)
 rw [cfg_cells] at hl
 obtain ⟨_,hf⟩:=hs.struct Tryz.underlying23
 have e3:Tryz.prog.cellsOf 3=1:=by kernel_rfl
 have e9:Tryz.prog.cellsOf 9=1:=by kernel_rfl
 match cs,hl with
 | [x0,x1,x2],_ =>
  simp [e3,e9] at hf
  obtain ⟨h0,h1,h2⟩:=hf
  obtain ⟨n0,q0,_⟩:=h0.int Tryz.underlying3
  obtain ⟨n1,q1,_⟩:=h1.int Tryz.underlying3
  obtain ⟨s2,q2,_⟩:=h2.string Tryz.underlying9
  simp at q0 q1 q2
  subst q0 q1 q2
  exact ⟨n0,n1,s2,rfl⟩
structure OpD where
 k:Int
 A0:Option Addr
 nl:Nat
 c0:Nat
 u:ByteArray
 n:Int
 a:Int
 mi:Int
 A1:Option Addr
 nw:Nat
 c1:Nat
 A2:Option Addr
 nh:Nat
 c2:Nat
 ck:Int
 tm:Int
 A3:Option Addr
 ne:Nat
 c3:Nat
 key:Int
 tx:ByteArray
 dv:Bool
 rk:Int
 rr:Int
 rn:Int
 rt:Int
 rg:Int
 A4:Option Addr
 n4:Nat
 c4:Nat
 rs:ByteArray
 rq:ByteArray
 rv:ByteArray
 ro:Bool
 rl:Int
 eu:ByteArray
 ee:Int
 fn:Int
 fc:Int
 fm:Int
 fk:Int
 fb:Int
 A5:Option Addr
 n5:Nat
 c5:Nat
 ws:ByteArray
 wk:ByteArray
 wt:Int
 wg:Int
 wv:ByteArray
 wo:Bool
 wl:Int
def OpD.w (x:OpD):Wr:=⟨x.rr,x.rn,x.rt,x.rg,.slice x.A4 x.n4 x.c4,[],x.rs,x.rq,x.rv,x.ro,x.rl⟩
def OpD.cells (x:OpD):List Value :=
 [.int .i64 x.k,.slice x.A0 x.nl x.c0,.string x.u,.int .i64 x.n,.int .i64 x.a,.int .i64 x.mi,.slice x.A1 x.nw x.c1,.slice x.A2 x.nh x.c2,.int .i64 x.ck,.int .i64 x.tm,.slice x.A3 x.ne x.c3,.int .i64 x.key,.string x.tx,.bool x.dv,.int .i64 x.rk,
  .int .i64 x.rr,.int .i64 x.rn,.int .i64 x.rt,.int .i64 x.rg,.slice x.A4 x.n4 x.c4,.string x.rs,.string x.rq,.string x.rv,.bool x.ro,.int .i64 x.rl,.string x.eu,.int .i64 x.ee,.int .i64 x.fn,.int .i64 x.fc,.int .i64 x.fm,.int .i64 x.fk,.int .i64 x.fb,.slice x.A5 x.n5 x.c5,
  .string x.ws,.string x.wk,.int .i64 x.wt,.int .i64 x.wg,.string x.wv,.bool x.wo,.int .i64 x.wl]
theorem OpD.len (x:OpD):x.cells.length=40:=rfl
theorem OpD.one (x:OpD):x.cells.all (·.oneCell')=true:=rfl
theorem OpD.at_w (x:OpD) {q:Nat} {v:Value} (h:x.w.cells[q]?=some v):x.cells[15 + q]?=some v:=by
 have hq:q < 10:=(List.getElem?_eq_some_iff.1 h).1
 rw [← h]
 match q,hq with
 | 0,_|1,_|2,_|3,_|4,_|5,_|6,_|7,_|8,_|9,_=>rfl
 | q + 10,h=>exact absurd h (by omega)
def OpArgR (w:World) (x:OpD) (Lc:List Ch5) (Lw:List Wr) (Le:List Ep):Prop :=
 (Lc.length=x.nl∧Reads w w.heap.size 5 x.A0 x.nl (Lc.flatMap Ch5.cells))∧(Lw.length=x.nw∧Reads w w.heap.size 10 x.A1 x.nw (Lw.flatMap Wr.cells)∧(∀ y ∈ Lw,∃ a m c,y.d=.slice a m c))∧Eps w w.heap.size x.A3 x.ne x.c3 Le
theorem sees_slice {w:World} {t e:TypeId} {v:Value} (ht:Tryz.prog.underlying t=some (.slice e)) (h:Sees Tryz.prog w t [v]):∃ a n c,v=.slice a n c:=by
 rcases h.slice ht with h|⟨a,n,c,h,_⟩
 ·injection h with h;exact ⟨_,_,_,h⟩
 ·injection h with h;exact ⟨_,_,_,h⟩
set_option maxRecDepth 100000 in
theorem msg_sees {w:World} {cs:List Value} (hl:cs.length=7) (hs:Sees Tryz.prog w 30 cs):∃ k A1 nw c1 A2 nh c2 ck tm A len cap key,∃ (Lw:List Wr) (L:List Ep),
  cs=[.int .i64 k,.slice A1 nw c1,.slice A2 nh c2,.int .i64 ck,.int .i64 tm,.slice A len cap,.int .i64 key]∧(Lw.length=nw∧Reads w w.heap.size 10 A1 nw (Lw.flatMap Wr.cells)∧(∀ x ∈ Lw,∃ a m c,x.d=.slice a m c))∧Eps w w.heap.size A len cap L:=by
 obtain ⟨_,hf⟩:=hs.struct Tryz.underlying30
 have e3:Tryz.prog.cellsOf 3=1:=by kernel_rfl
 have e33:Tryz.prog.cellsOf 27=1:=by kernel_rfl
 have e34:Tryz.prog.cellsOf 25=1:=by kernel_rfl
 have e35:Tryz.prog.cellsOf 28=1:=by kernel_rfl
 match cs,hl with
 | [x0,x1,x2,x3,x4,x5,x6],_ =>
  simp [e3,e33,e34,e35] at hf
  obtain ⟨h0,h1,h2,h3,h4,h5,h6⟩:=hf
  obtain ⟨n0,q0,_⟩:=h0.int Tryz.underlying3
  obtain ⟨n3,q3,_⟩:=h3.int Tryz.underlying3
  obtain ⟨n4,q4,_⟩:=h4.int Tryz.underlying3
  obtain ⟨n6,q6,_⟩:=h6.int Tryz.underlying3
  obtain ⟨A1,nw,c1,Lw,rfl,w1,w2,w3,w4,w5⟩:=Sees.things Wr.cells Tryz.underlying25 (by rw [wr_cells];omega) (fun cs hl h=>(wr_sees cs hl h).imp fun _ h=>h.1) h1
  obtain ⟨A2,nh,c2,rfl⟩:=sees_slice Tryz.underlying27 h2
  obtain ⟨A,len,cap,L,rfl,p1,p2,p3,p4,p5⟩:=Sees.things ep Tryz.underlying28 (by rw [ep_cells];omega) ep_sees h5
  simp at q0 q3 q4 q6
  subst q0 q3 q4 q6
  rw [wr_cells] at w4
  rw [ep_cells] at p4
  refine ⟨n0,A1,nw,c1,A2,nh,c2,n3,n4,A,len,cap,n6,Lw,L,rfl,⟨w3,w4,fun x hx=>?_⟩,⟨p3,p1,p2,p4⟩⟩
  obtain ⟨y,hy,A,m,c,hd,_⟩:=wr_sees _ (by rw [wr_cells];rfl) (w5 x hx)
  simp only [Wr.cells,List.cons.injEq] at hy
  exact ⟨A,m,c,by rw [hy.2.2.2.2.1];exact hd⟩
set_option maxRecDepth 100000 in
theorem rec_sees {w:World} {cs:List Value} (hl:cs.length=26) (hs:Sees Tryz.prog w 42 cs):∃ rk rr rn rt rg A4 n4 c4 rs rq rv ro rl eu ee fn fc fm fk fb A5 n5 c5 ws wk wt wg wv wo wl,
  cs=[.int .i64 rk,.int .i64 rr,.int .i64 rn,.int .i64 rt,.int .i64 rg,.slice A4 n4 c4,.string rs,.string rq,.string rv,.bool ro,.int .i64 rl,.string eu,.int .i64 ee,.int .i64 fn,.int .i64 fc,.int .i64 fm,.int .i64 fk,.int .i64 fb,.slice A5 n5 c5,
   .string ws,.string wk,.int .i64 wt,.int .i64 wg,.string wv,.bool wo,.int .i64 wl]:=by
 obtain ⟨_,hf⟩:=hs.struct Tryz.underlying42
 have e3:Tryz.prog.cellsOf 3=1:=by kernel_rfl
 have e4:Tryz.prog.cellsOf 4=1:=by kernel_rfl
 have e9:Tryz.prog.cellsOf 9=1:=by kernel_rfl
 have e31:Tryz.prog.cellsOf 32=2:=by kernel_rfl
 have e33:Tryz.prog.cellsOf 26=1:=by kernel_rfl
 have e40:Tryz.prog.cellsOf 38=5:=by kernel_rfl
 have e41:Tryz.prog.cellsOf 40=7:=by kernel_rfl
 match cs,hl with
 | [x0,x1,x2,x3,x4,x5,x6,x7,x8,x9,x10,x11,x12,x13,x14,x15,x16,x17,x18,x19,x20,x21,x22,x23,x24,x25],_ =>
  simp [e3,e33,e41,wr_cells,ep_cells] at hf
  obtain ⟨h0,h1,h11,h13,h14,h15,h16,h17,h18,h19⟩:=hf
  obtain ⟨n0,q0,_⟩:=h0.int Tryz.underlying3
  obtain ⟨y,hy,A4,n4,c4,hd,_⟩:=wr_sees _ (by rw [wr_cells];rfl) h1
  obtain ⟨z,hz⟩:=ep_sees _ (by rw [ep_cells];rfl) h11
  obtain ⟨n13,q13,_⟩:=h13.int Tryz.underlying3
  obtain ⟨n14,q14,_⟩:=h14.int Tryz.underlying3
  obtain ⟨n15,q15,_⟩:=h15.int Tryz.underlying3
  obtain ⟨n16,q16,_⟩:=h16.int Tryz.underlying3
  obtain ⟨n17,q17,_⟩:=h17.int Tryz.underlying3
  obtain ⟨A5,n5,c5,rfl⟩:=sees_slice Tryz.underlying26 h18
  obtain ⟨_,hr⟩:=h19.struct Tryz.underlying40
  simp [e9,e40] at hr
  obtain ⟨h20,h21,h22⟩:=hr
  obtain ⟨s20,q20,_⟩:=h20.string Tryz.underlying9
  obtain ⟨s21,q21,_⟩:=h21.string Tryz.underlying9
  obtain ⟨_,hc⟩:=h22.struct Tryz.underlying38
  simp [e3,e4,e9,e31] at hc
  obtain ⟨h23,h24,h25,h26⟩:=hc
  obtain ⟨_,hg⟩:=h23.struct Tryz.underlying32
  simp [e3] at hg
  obtain ⟨n27,q27,_⟩:=hg.1.int Tryz.underlying3
  obtain ⟨n28,q28,_⟩:=hg.2.int Tryz.underlying3
  obtain ⟨s24,q24,_⟩:=h24.string Tryz.underlying9
  obtain ⟨b25,q25⟩:=h25.bool Tryz.underlying4
  obtain ⟨n26,q26,_⟩:=h26.int Tryz.underlying3
  simp at q0 q13 q14 q15 q16 q17 q20 q21 q27 q28 q24 q25 q26
  simp only [Wr.cells,ep,List.cons.injEq,and_true] at hy hz
  obtain ⟨y0,y1,y2,y3,y4,y5,y6,y7,y8,y9⟩:=hy
  rw [hd] at y4
  obtain ⟨z0,z1⟩:=hz
  subst q0 q13 q14 q15 q16 q17 q20 q21 q27 q28 q24 q25 q26 y0 y1 y2 y3 y4 y5 y6 y7 y8 y9 z0 z1
  exact ⟨_,_,_,_,_,_,_,_,_,_,_,_,_,_,_,_,_,_,_,_,_,_,_,_,_,_,_,_,_,_,rfl⟩
theorem op_cells:Tryz.prog.cellsOf 44=40:=by kernel_rfl
set_option maxRecDepth 100000 in
set_option maxHeartbeats 2000000 in
theorem op_arg {w:World} {v:Value} (h:Arg Tryz.prog w 44 v):∃ (x:OpD) (Lc:List Ch5) (Lw:List Wr) (Le:List Ep),v=.agg x.cells.toArray∧OpArgR w x Lc Lw Le:=by
 obtain ⟨cs,rfl,hl,hs⟩:=h.agg (.inl ⟨_,Tryz.underlying44⟩)
 rw [op_cells] at hl
 obtain ⟨_,hf⟩:=hs.struct Tryz.underlying44
 have e3:Tryz.prog.cellsOf 3=1:=by kernel_rfl
 have e4:Tryz.prog.cellsOf 4=1:=by kernel_rfl
 have e9:Tryz.prog.cellsOf 9=1:=by kernel_rfl
 have ev:Tryz.prog.cellsOf 26=1:=by kernel_rfl
 have e36:Tryz.prog.cellsOf 24=1:=by kernel_rfl
 have em:Tryz.prog.cellsOf 30=7:=by kernel_rfl
 have er:Tryz.prog.cellsOf 42=26:=by kernel_rfl
 match cs,hl with
 | x0 :: x1 :: x2 :: x3 :: x4 :: x5 :: x6 :: x7 :: x8 :: x9 :: x10 :: x11 :: x12 :: x13 :: r,hl =>
  have hr26:r.length=26:=by simpa using hl
  simp [e3,e4,e9,e36,em,er] at hf
  obtain ⟨h0,h1,h2,h3,h4,h5,h12,h13,h14⟩:=hf
  obtain ⟨k,q0,_⟩:=h0.int Tryz.underlying3
  obtain ⟨A0,nl,c0,Lc,rfl,_,_,l1,l2,_⟩:=Sees.things Ch5.cells Tryz.underlying24 (by rw [ch_cells];omega) (fun cs hl h=>ch_sees cs hl h) h1
  obtain ⟨u,q2,_⟩:=h2.string Tryz.underlying9
  obtain ⟨n,q3,_⟩:=h3.int Tryz.underlying3
  obtain ⟨a,q4,_⟩:=h4.int Tryz.underlying3
  obtain ⟨tx,q12,_⟩:=h12.string Tryz.underlying9
  obtain ⟨dv,q13⟩:=h13.bool Tryz.underlying4
  simp at q0 q2 q3 q4 q12 q13
  subst q0 q2 q3 q4 q12 q13
  obtain ⟨mk,A1,nw,c1,A2,nh,c2,ck,tm,A3,ne,c3,key,Lw,Le,hm,hw,hE⟩:=msg_sees rfl h5
  obtain ⟨rk,rr,rn,rt,rg,A4,n4,c4,rs,rq,rv,ro,rl,eu,ee,fn,fc,fm,fk,fb,A5,n5,c5,ws,wk,wt,wg,wv,wo,wl,hr⟩:=rec_sees hr26 (by rw [List.take_of_length_le (by omega)] at h14;exact h14)
  simp only [List.cons.injEq,and_true] at hm
  obtain ⟨rfl,rfl,rfl,rfl,rfl,rfl,rfl⟩:=hm
  subst hr
  rw [ch_cells] at l2
  exact ⟨⟨k,A0,nl,c0,u,n,a,mk,A1,nw,c1,A2,nh,c2,ck,tm,A3,ne,c3,key,tx,dv,rk,rr,rn,rt,rg,A4,n4,c4,rs,rq,rv,ro,rl,eu,ee,fn,fc,fm,fk,fb,A5,n5,c5,ws,wk,wt,wg,wv,wo,wl⟩,Lc,Lw,Le,rfl,⟨l1,l2⟩,hw,hE⟩
end Go.Proofs.YtdaphppdmnmicaaGreatDoor.regn
