/- A part of the proof of RegionBeats: Trim, Wr, Clone, Wrs, Enc, Right, Encode, CloneD, MsgA, GreatB. -/
import Derived.Test.YtlingaebpfdhgaaGreatDoorA02
import Derived.Laws.BytesArg
import Derived.Test.YtlingaebpfdhgaaGreatDoorA01
import Derived.Deep.DeepCutAuto
import Derived.Deep.Cut
import Derived.Deep.CutBlock
namespace Go.Proofs.YtlingaebpfdhgaaGreatDoor.wire
open Go.RowKit base rowe err
def okN (most z:Int):Bool:=decide (0≤z) && decide (z≤most)
def trB (zs:List Int) (most:Int):Bool:=decide (zs.length≤16) && (!(decide (0 < zs.length) && decide (zs.getD (zs.length - 1) 0=0)) && zs.all (okN most))
theorem all_drop (zs:List Int) (p:Int→Bool) (n:Nat) (h:∀ k,k < n→p (zs.getD k 0)=true):n≤zs.length→zs.all p=(zs.drop n).all p:=by
 intro hn
 conv=>lhs;rw [← List.take_append_drop n zs,List.all_append]
 have:(zs.take n).all p=true:=by
  rw [List.all_eq_true]
  intro x hx
  obtain ⟨k,hk,rfl⟩:=List.getElem_of_mem hx
  simp at hk
  have:=h k (by omega)
  rw [List.getD_eq_getElem?_getD,List.getElem?_eq_getElem (by omega)] at this
  simpa using this
 rw [this,Bool.true_and]
theorem tr_at {zs:List Int} {most:Int} {n:Nat} (hn:n < zs.length) (h:okN most (zs.getD n 0)=false):trB zs most=false:=by
 have:zs.all (okN most)=false:=by
  rw [Bool.eq_false_iff]
  intro hA
  rw [List.all_eq_true] at hA
  have:=hA (zs.getD n 0) (by rw [List.getD_eq_getElem?_getD,List.getElem?_eq_getElem hn];simp)
  rw [h] at this
  cases this
 unfold trB
 rw [this,Bool.and_false,Bool.and_false]
theorem tr_all {zs:List Int} {most:Int} (h16:zs.length≤16) (h0:zs.length=0 ∨ zs.getD (zs.length - 1) 0 ≠ 0) (h:∀ k,k < zs.length→okN most (zs.getD k 0)=true):trB zs most=true:=by
 have h1:zs.all (okN most)=true:=by
  rw [all_drop zs _ zs.length h (Nat.le_refl _),List.drop_length];rfl
 unfold trB
 rw [h1,decide_eq_true h16]
 rcases h0 with h0|h0
 ·simp [h0]
 ·rw [decide_eq_false h0];simp
set_option maxRecDepth 10000 in
theorem trim_any (A:Option Addr) (m c:Nat) (zs:List Int) (most:Int) (B:Nat) (w:World) (hl:zs.length=m) (hm:m≤maxLen) (hr:Reads w B 1 A m (zs.map (Value.int .i64))) :
  Calls Tryz.prog 63 #[.slice A m c,.int .i64 most] w fun e w'=>e=.returned (.bool (trB zs most))∧w'=w:=by
 unfold maxLen at hm
 by_cases h16:16 < m
 ·have hf:trB zs most=false:=by unfold trB;rw [decide_eq_false (by omega)];rfl
  rw [hf]
  have d1:decide ((16:Int) < (m:Int))=true:=by simp;omega
  clear hr hl hf
  go_enter Tryz.func63,Tryz.ntmps63
  go_wp2
  go_ret
  exact ⟨rfl,rfl⟩
 ·have d1:decide ((16:Int) < (m:Int))=false:=by simp;omega
  by_cases h0:m=0
  ·subst h0
   have ht:trB zs most=true:=tr_all (by omega) (.inl hl) (fun k hk=>by omega)
   rw [ht]
   clear hr hl ht
   go_enter Tryz.func63,Tryz.ntmps63
   go_wp2
   go_loopw [26] (fun i wr'=>i=.int .i64 0∧wr'=w) (fun _ _=>0)
   case atStart=>exact ⟨rfl,rfl⟩
   case round =>
    obtain ⟨rfl,rfl⟩:=hrel
    go_wp2
    go_ret
    exact ⟨rfl,rfl⟩
  ·obtain ⟨b,off,rfl,hb⟩:=hr.at_some (by omega)
   have d2:decide ((0:Int) < (m:Int))=true:=by simp;omega
   have d3:(m:Int) - 1=((m - 1:Nat):Int):=by omega
   have hlast:=hr.int (k:=m - 1) (by omega)
   have hz:((m - 1:Nat):Int) < (m:Int):=by omega
   have hz2:m - 1 < m:=by omega
   cases dz:(zs.getD (m - 1) 0 == 0) with
   | true =>
    have hz:zs.getD (m - 1) 0=0:=by simpa using dz
    have hf:trB zs most=false:=by unfold trB;rw [hl,hz,decide_eq_true (show 0 < m by omega)];simp
    rw [hf]
    generalize zs.getD (m - 1) 0=z at *
    clear hr hl hf hz
    go_enter Tryz.func63,Tryz.ntmps63
    go_wp2
    go_ret
    exact ⟨rfl,rfl⟩
   | false =>
    have hz:zs.getD (m - 1) 0 ≠ 0:=by simpa using dz
    have Hz:=Lib.hid hz
    have Hl:=Lib.hid hl
    have Hr:=Lib.hid hr
    obtain ⟨z,hzd⟩:∃ z,zs.getD (m - 1) 0=z:=⟨_,rfl⟩
    rw [hzd] at hlast dz
    clear hzd
    clear hr hl hz
    go_enter Tryz.func63,Tryz.ntmps63
    go_wp2
    go_loopw [6,26] (fun _ i wr'=>∃ n:Nat,n≤m∧i=.int .i64 n∧(∀ k,k < n→okN most (zs.getD k 0)=true)∧wr'=w) (fun _ i _=>m - (intOf i).toNat)
    case atStart=>exact ⟨0,by omega,rfl,fun k hk=>by omega,rfl⟩
    case round =>
     clear hlast
     obtain ⟨n,hn,rfl,hall,rfl⟩:=hrel
     by_cases hlt:n < m
     ·have hcur:=Hr.out.int (k:=n) hlt
      have ht1:=fun h=>tr_at (zs:=zs) (most:=most) (n:=n) (by rw [Hl.out];exact hlt) h
      have hst:okN most (zs.getD n 0)=true→∀ k,k < n + 1→okN most (zs.getD k 0)=true:=fun h k hk=>by
       by_cases e:k=n
       ·rw [e];exact h
       ·exact hall k (by omega)
      have Ht1:=Lib.hid ht1
      have Hst:=Lib.hid hst
      clear ht1 hst hall
      generalize zs.getD n 0=y at *
      cases e1:decide (y < 0) with
      | true =>
       have hf:=Ht1.out (by unfold okN;rw [decide_eq_false (by simp at e1;omega)];rfl)
       have HF:=Lib.hid hf
       clear hf
       go_wp2
       go_ret
       exact ⟨ret_bool HF.out.symm,rfl⟩
      | false =>
       cases e2:decide (most < y) with
       | true =>
        have hf:=Ht1.out (by unfold okN;rw [decide_eq_false (p:=y≤most) (by simp at e2;omega),Bool.and_false])
        have HF:=Lib.hid hf
        clear hf
        go_wp2
        go_ret
        exact ⟨ret_bool HF.out.symm,rfl⟩
       | false =>
        have HS:=Lib.hid (Hst.out (by unfold okN;simp at e1 e2;simp;omega))
        go_wp2
        go_roundw
        case rel=>exact ⟨n + 1,by omega,by go_num,HS.out,trivial⟩
        case measure=>simp [intOf];omega
     ·obtain rfl:m=n:=by omega
      have ht:trB zs most=true:=tr_all (by rw [Hl.out];omega) (.inr (by rw [Hl.out];exact Hz.out)) (by rw [Hl.out];exact hall)
      have HT:=Lib.hid ht
      clear hall ht
      go_wp2
      go_ret
      exact ⟨ret_bool HT.out.symm,rfl⟩
end Go.Proofs.YtlingaebpfdhgaaGreatDoor.wire
namespace Go.Proofs.YtlingaebpfdhgaaGreatDoor.wire
open Go.RowKit base rowe err
structure Wr where
 r:Int
 n:Int
 t:Int
 s:Int
 d:Value
 z:List Int
 se:ByteArray
 k:ByteArray
 v:ByteArray
 g:Bool
 l:Int
def Wr.cells (x:Wr):List Value:=[.int .i64 x.r,.int .i64 x.n,.int .i64 x.t,.int .i64 x.s,x.d,.string x.se,.string x.k,.string x.v,.bool x.g,.int .i64 x.l]
theorem Wr.len (x:Wr):x.cells.length=10:=rfl
def Nums (w:World) (B:Nat) (d:Value) (zs:List Int):Prop:=∃ A m c,d=.slice A m c∧zs.length=m∧m≤maxLen∧Reads w B 1 A m (zs.map (Value.int .i64))
theorem Nums.keep {w w':World} {B:Nat} {d:Value} {zs:List Int} (h:Nums w B d zs) (hk:∀ b o,b < B→w'.cell? ⟨b,o,none⟩=w.cell? ⟨b,o,none⟩):Nums w' B d zs:=by
 obtain ⟨A,m,c,h1,h2,h3,h4⟩:=h
 exact ⟨A,m,c,h1,h2,h3,h4.keep hk⟩
theorem Nums.below {w w':World} {B:Nat} {d:Value} {zs:List Int} (h:Nums w B d zs) (hb:Below B w w'):Nums w' B d zs:=h.keep fun b o hp=>hb.cell (p:=⟨b,o,none⟩) hp
theorem Nums.more {w:World} {B B':Nat} {d:Value} {zs:List Int} (h:Nums w B d zs) (hb:B≤B'):Nums w B' d zs:=by
 obtain ⟨A,m,c,h1,h2,h3,h4⟩:=h
 exact ⟨A,m,c,h1,h2,h3,h4.more hb⟩
def inB (n least:Int):Bool:=decide (least≤n) && decide (n≤1099511627776)
def rightB (x:Wr):Bool :=
 decide ((1:Int)≤x.r) && (decide (x.r≤16) && (inB x.n 1 && ((x.s == x.r) && (inB x.t 1 && (trB x.z 1099511627776 && (decide ((1:Int)≤(x.se.size:Nat)) && (decide (((x.se.size:Nat):Int)≤64) && (decide (((x.k.size:Nat):Int)≤32) && (decide (((x.v.size:Nat):Int)≤128) && ((!x.g || (x.v.toList == [])) && (inB x.l 0)))))))))))
theorem in_any (n least:Int) (w:World):Calls Tryz.prog 116 #[.int .i64 n,.int .i64 least] w fun e w'=>e=.returned (.bool (inB n least))∧w'=w:=by
 unfold inB
 cases h1:decide (least≤n)
 ·go_enter Tryz.func116,Tryz.ntmps116
  go_wp2
  go_ret
  exact ⟨rfl,rfl⟩
 ·cases h2:decide (n≤1099511627776)
  ·go_enter Tryz.func116,Tryz.ntmps116
   go_wp2
   go_ret
   exact ⟨rfl,rfl⟩
  ·go_enter Tryz.func116,Tryz.ntmps116
   go_wp2
   go_ret
   exact ⟨rfl,rfl⟩
end Go.Proofs.YtlingaebpfdhgaaGreatDoor.wire
namespace Go.Proofs.YtlingaebpfdhgaaGreatDoor.wire
open Go.RowKit base rowe err
def NumsO (w:World) (lo:Nat) (d:Value) (zs:List Int):Prop:=w.ownsRow lo 3 1 d zs.length (zs.map (Value.int .i64))∧zs.length≤1000000
theorem NumsO.nums {w:World} {lo:Nat} {d:Value} {zs:List Int} (h:NumsO w lo d zs):Nums w w.heap.size d zs:=by
 obtain ⟨h,hm⟩:=h
 obtain ⟨A,c,rfl⟩:=ownsRow_slice h
 exact ⟨A,_,c,rfl,rfl,by unfold maxLen;omega,Reads.of_own h⟩
theorem NumsO.keeps {X:Nat→Prop} {w w':World} {lo:Nat} {d:Value} {zs:List Int} (h:NumsO w lo d zs) (hk:Keeps X w w') (hx:∀ g,d.ownBlock=some g→¬ X g):NumsO w' lo d zs:=by
 refine ⟨⟨h.1.1,h.1.2.imp id ?_⟩,h.2⟩
 rintro ⟨g,cap,cur,rfl,h1,h2,h3⟩
 exact ⟨g,cap,cur,rfl,h1,(hk.block g (heap_lt h2) (hx g rfl)).trans h2,h3⟩
theorem NumsO.below {w w':World} {lo:Nat} {d:Value} {zs:List Int} (h:NumsO w lo d zs) (hb:Below w.heap.size w w'):NumsO w' lo d zs:=h.keeps (X:=nobody) (.of_below hb) (fun _ _ h=>h)
theorem NumsO.base {w:World} {lo lo':Nat} {d:Value} {zs:List Int} (h:NumsO w lo d zs) (hl:lo'≤lo):NumsO w lo' d zs:=by
 refine ⟨⟨h.1.1,h.1.2.imp id ?_⟩,h.2⟩
 rintro ⟨g,cap,cur,rfl,h1,h2⟩
 exact ⟨g,cap,cur,rfl,by omega,h2⟩
theorem equalIn_nil {P:Program} (w:World) (d:Nat) (t e:TypeId) (a:Option Addr) (l c:Nat) (h:P.underlying t=some (.slice e)):(Op.equalIn (d + 1) t (.slice a l c) (.slice none 0 0)).run P w=.ok a.isNone w:=by
 cases a <;> simp [Op.equalIn,run_underlying h]
theorem eql_nil {P:Program} (w:World) (t e:TypeId) (a:Option Addr) (l c:Nat) (h:P.underlying t=some (.slice e)):(binOp .eql t (.slice a l c) (.slice none 0 0)).run P w=.ok (.bool a.isNone) w:=by
 have h2:(Op.equal t (.slice a l c) (.slice none 0 0)).run P w=.ok a.isNone w:=equalIn_nil w 9999 t e a l c h
 simp [binOp,h2]
theorem int_info:(Tryz.prog.info? 3).map (fun i=>(i.zero,i.size,i.bytes))=some (some (.int .i64 0),1,8):=by kernel_rfl
set_option maxRecDepth 10000 in
theorem clone_ints (d:Value) (zs:List Int) (w:World) (hd:Nums w w.heap.size d zs) (h6:zs.length≤1000000) :
  Calls Tryz.prog 171 #[d] w fun e w'=>(∃ d',e=.returned d'∧NumsO w' w.heap.size d' zs)∧Below w.heap.size w w':=by
 obtain ⟨i0,hi,hz⟩:=Option.map_eq_some_iff.1 int_info
 simp only [Prod.mk.injEq] at hz
 obtain ⟨hz0,hz1,hz2⟩:=hz
 obtain ⟨A,m,c,rfl,hl,hm,hr⟩:=hd
 cases A with
 | none =>
  have h0:m=0:=by
   rcases Nat.eq_zero_or_pos m with h|h
   ·exact h
   ·obtain ⟨_,_,e,_⟩:=hr.at_some h;cases e
  subst h0
  have hzs:zs=[]:=List.eq_nil_of_length_eq_zero hl
  subst hzs
  clear hr
  have hcmp:=eql_nil (P:=Tryz.prog) w 24 3 none 0 c (Tryz.underlying24)
  go_enter Tryz.func171,Tryz.ntmps171
  go_wp2
  go_ret
  exact ⟨⟨_,rfl,⟨rfl,.inl ⟨rfl,rfl⟩⟩,by simp⟩,Below.refl _ _⟩
 | some a =>
  have hone:∀ u ∈ zs.map (Value.int .i64),u.oneCell'=true:=by
   intro u hu
   obtain ⟨z,_,rfl⟩:=List.mem_map.1 hu
   rfl
  have hcmp:=eql_nil (P:=Tryz.prog) w 24 3 (some a) m c (Tryz.underlying24)
  have Hr:=Lib.hid hr
  have Hone:=Lib.hid hone
  have Hl:=Lib.hid hl
  clear hr hone hl
  go_enter Tryz.func171,Tryz.ntmps171
  go_wp2_with (at_builtin;refine wpList_append_any _ rfl (.tmp 5) (.tmp 6) _ rfl w.heap.size 3 i0 _ 1 8 Tryz.underlying24 hi hz0 hz1 hz2 rfl (by decide) (.slice (some ⟨w.heap.size,0,none⟩) 0 0) 0 [] rfl (ownsRow_new0 _ _ _ _) w.heap.size (some a) m c _ rfl (Hr.out.alloc (Nat.le_refl _) _) Hone.out (by unfold maxLen;have:=Hl.out;omega) (by have:=Hl.out;omega) (by simp) ?_;intro v1 w5 hown1 hg1 ho1;simp only [Nat.zero_add,List.nil_append] at hown1;obtain ⟨A1,c1,rfl⟩:=ownsRow_slice hown1;have Hown1:=Lib.hid hown1;have Hg1:=Lib.hid hg1;clear hown1 hg1)
  go_ret
  refine ⟨⟨_,rfl,by rw [Hl.out];exact Hown1.out,h6⟩,(below_new w (.cells #[] 3)).trans ?_⟩
  have hk:Keeps (fun i=>w.heap.size≤i) (w.alloc (.cells #[] 3)) w5:=.grown Hg1.out fun g hg=>.inl (by simp [Value.ownBlock] at hg;omega)
  exact hk.below (fun i hi e=>by omega) (by simp)
def CloneR (x:Wr) (w:World) (e:Ending) (w':World):Prop:=(∃ d',e=.returned (.agg ⟨({ x with d:=d' }:Wr).cells⟩)∧NumsO w' w.heap.size d' x.z)∧Below w.heap.size w w'
set_option maxRecDepth 10000 in
theorem clone_any (x:Wr) (w:World) (hd:Nums w w.heap.size x.d x.z) (h6:x.z.length≤1000000) :
  Calls Tryz.prog 176 #[.agg ⟨x.cells⟩] w (CloneR x w):=by
 obtain ⟨r,n,t,s,d,zs,se,k,v,g,l⟩:=x
 dsimp only at hd h6
 have hW2:Below w.heap.size w ((w.alloc (.cells #[.int .i64 r,.int .i64 n,.int .i64 t,.int .i64 s,d,.string se,.string k,.string v,.bool g,.int .i64 l] 34)).alloc (.cells #[.int .i64 0,.int .i64 0,.int .i64 0,.int .i64 0,.slice none 0 0,.string ⟨#[]⟩,.string ⟨#[]⟩,.string ⟨#[]⟩,.bool false,.int .i64 0] 34)):=below_alloc (below_new _ _) _
 have HD:=Lib.hid ((hd.below hW2).more hW2.size)
 have HW2:=Lib.hid hW2
 clear hd hW2
 unfold Wr.cells
 dsimp only
 go_enter Tryz.func176,Tryz.ntmps176
 go_wp2_with fail
 refine (clone_ints d zs _ HD.out h6).mono ?_
 rintro e w1 ⟨⟨d',rfl,hd'⟩,hb1⟩
 have hx:=((Blk.new w 34 #[.int .i64 r,.int .i64 n,.int .i64 t,.int .i64 s,d,.string se,.string k,.string v,.bool g,.int .i64 l]).alloc (.cells #[.int .i64 0,.int .i64 0,.int .i64 0,.int .i64 0,.slice none 0 0,.string ⟨#[]⟩,.string ⟨#[]⟩,.string ⟨#[]⟩,.bool false,.int .i64 0] 34)).below hb1 (by simp <;> omega)
 have hy:=(Blk.newAt (w.alloc (.cells #[.int .i64 r,.int .i64 n,.int .i64 t,.int .i64 s,d,.string se,.string k,.string v,.bool g,.int .i64 l] 34)) 34 #[.int .i64 0,.int .i64 0,.int .i64 0,.int .i64 0,.slice none 0 0,.string ⟨#[]⟩,.string ⟨#[]⟩,.string ⟨#[]⟩,.bool false,.int .i64 0] (g:=w.heap.size + 1) (by simp)).below hb1 (by simp)
 have hbb:=HW2.out.trans (hb1.mono (HW2.out.size))
 obtain ⟨A1,c1,rfl⟩:=ownsRow_slice hd'.1
 have k0:w1.cell? ⟨w.heap.size,4,none⟩=_:=hx.cell 4
 have k1:=hx.frozen 4
 have k2:=hx.lt
 simp at k0
 have hx2:=hx.set_ 4 (.slice A1 zs.length c1)
 have hy2:=hy.far (p:=⟨w.heap.size,4,none⟩) (by simp) (.slice A1 zs.length c1)
 have hd2:=hd'.keeps (Keeps.set1 w1 w.heap.size 4 (.slice A1 zs.length c1)) (fun i hi e=>by have:=(hd'.1.lt _ hi).1;simp at this;omega)
 have hb2:=hbb.setCell (p:=⟨w.heap.size,4,none⟩) (Nat.le_refl _) (.slice A1 zs.length c1)
 have Hx2:=Lib.hid hx2
 have Hy2:=Lib.hid hy2
 have Hd2:=Lib.hid hd2
 have Hb2:=Lib.hid hb2
 clear hx2 hy2 hd2 hb2
 clear hx hy hbb hd' hb1
 go_wp2_with (first|(refine wpList_load_at rfl 34 (.tmp 1) rfl w.heap.size 0 (Wr.cells ⟨r,n,t,s,.slice A1 zs.length c1,zs,se,k,v,g,l⟩) rfl Tryz.underlying34 rfl (by kernel_rfl) (fun j v hj=>by rw [Nat.zero_add,Hx2.out.cell j];simpa [Wr.cells] using hj) ?_)|(refine wpList_store_blk rfl 34 (.tmp 2) (.tmp 7) rfl (w.heap.size + 1) (Wr.cells ⟨r,n,t,s,.slice A1 zs.length c1,zs,se,k,v,g,l⟩) rfl rfl Hy2.out (by kernel_rfl) rfl rfl ?_;intro w9 ho9 hk9 hs9))
 refine bodyPost_ret (v:=.agg ⟨Wr.cells ⟨r,n,t,s,.slice A1 zs.length c1,zs,se,k,v,g,l⟩⟩) (results_cell_row (P:=Tryz.prog) rfl _ _ (w.heap.size + 1) 34 _ (0,0) _ rfl ho9 Tryz.underlying34 rfl (by kernel_rfl)) rfl ⟨⟨_,rfl,?_⟩,?_⟩
 ·exact (Hd2.out.keeps hk9 (fun i hi e=>by have:=(Hd2.out.1.lt _ hi).1;simp at this;omega)).base (by simp;omega)
 ·exact Hb2.out.trans (hk9.below (fun i hi e=>by omega) (by have:=Hb2.out.size;exact this))
end Go.Proofs.YtlingaebpfdhgaaGreatDoor.wire
namespace Go.Proofs.YtlingaebpfdhgaaGreatDoor.wire
open Go.RowKit base rowe err
theorem write_info:(Tryz.prog.info? 34).map (fun i=>(i.zero,i.size,i.bytes))=some (some (.agg #[.int .i64 0,.int .i64 0,.int .i64 0,.int .i64 0,.slice none 0 0,.string ⟨#[]⟩,.string ⟨#[]⟩,.string ⟨#[]⟩,.bool false,.int .i64 0]),10,120):=by kernel_rfl
def Wr.abs (x:Wr):Wr:={ x with d:=.slice none 0 0 }
def RW (w:World) (v:Value) (L:List Wr):Prop:=∃ A c,v=.slice A L.length c∧L.length≤1000000∧L.length≤c∧Reads w w.heap.size 10 A L.length (L.flatMap Wr.cells)∧∀ x ∈ L,Nums w w.heap.size x.d x.z∧x.z.length≤1000000
theorem RW.below {w w':World} {v:Value} {L:List Wr} (h:RW w v L) (hb:Below w.heap.size w w'):RW w' v L:=by
 obtain ⟨A,c,h1,h2,h2',h3,h4⟩:=h
 exact ⟨A,c,h1,h2,h2',(h3.below hb).more hb.size,fun x hx=>⟨((h4 x hx).1.below hb).more hb.size,(h4 x hx).2⟩⟩
structure OW (w:World) (S:Nat→Prop) (lo:Nat) (v:Value) (L:List Wr):Prop where
 row:w.ownsRow lo 34 10 v L.length (L.flatMap Wr.cells)
 few:L.length≤1000000
 nums:∀ x ∈ L,NumsO w lo x.d x.z
 inS:∀ i,v.ownBlock=some i→S i
 numS:∀ x ∈ L,∀ i,x.d.ownBlock=some i→S i
theorem oneW (x:Wr) (h:x.d.oneCell'=true):∀ u ∈ x.cells,u.oneCell'=true:=by
 intro u hu
 simp [Wr.cells] at hu
 rcases hu with rfl|rfl|rfl|rfl|rfl|rfl|rfl|rfl|rfl|rfl <;> first|exact h|rfl
theorem oneAll (x:Wr) (h:x.d.oneCell'=true):x.cells.all (·.oneCell')=true:=List.all_eq_true.2 (fun u hu=>oneW x h u hu)
theorem nums_one {w:World} {B:Nat} {d:Value} {zs:List Int} (h:Nums w B d zs):d.oneCell'=true:=by obtain ⟨A,m,c,rfl,_⟩:=h;rfl
theorem OW.rw {w:World} {S:Nat→Prop} {lo:Nat} {v:Value} {L:List Wr} (h:OW w S lo v L):RW w v L:=by
 obtain ⟨A,c,rfl⟩:=ownsRow_slice h.row
 refine ⟨A,c,rfl,h.few,?_,Reads.of_own h.row,fun x hx=>⟨(h.nums x hx).nums,(h.nums x hx).2⟩⟩
 rcases h.row.2 with ⟨e,h0⟩|⟨g,cap,cur,e,h1,h2,h3,_⟩
 ·rw [h0];exact Nat.zero_le _
 ·injection e with _ _ e;omega
theorem OW.keeps {X S:Nat→Prop} {w w':World} {lo:Nat} {v:Value} {L:List Wr} (h:OW w S lo v L) (hk:Keeps X w w') (hx:∀ i,S i→¬ X i):OW w' S lo v L:=by
 refine ⟨⟨h.row.1,h.row.2.imp id ?_⟩,h.few,fun x hx'=>(h.nums x hx').keeps hk (fun g hg=>hx g (h.numS x hx' g hg)),h.inS,h.numS⟩
 rintro ⟨g,cap,cur,rfl,h1,h2,h3⟩
 exact ⟨g,cap,cur,rfl,h1,(hk.block g (heap_lt h2) (hx g (h.inS g rfl))).trans h2,h3⟩
theorem OW.more {S S':Nat→Prop} {w:World} {lo:Nat} {v:Value} {L:List Wr} (h:OW w S lo v L) (hs:∀ i,S i→S' i):OW w S' lo v L :=
 ⟨h.row,h.few,h.nums,fun i hi=>hs i (h.inS i hi),fun x hx i hi=>hs i (h.numS x hx i hi)⟩
theorem OW.none (w:World) (S:Nat→Prop) (lo:Nat):OW w S lo (.slice none 0 0) []:=⟨⟨rfl,.inl ⟨rfl,rfl⟩⟩,by simp,by simp,(fun i hi=>by cases hi),by simp⟩
theorem OW.push {S:Nat→Prop} {w w5:World} {lo:Nat} {v v5:Value} {L:List Wr} {x:Wr} (h:OW w S lo v L) (hd:NumsO w lo x.d x.z) (hds:∀ i,x.d.ownBlock=some i→S i) (hrow:w5.ownsRow lo 34 10 v5 (L.length + 1) (L.flatMap Wr.cells ++ x.cells)) (hg:w.grownBy w5 v.ownBlock)
  (hv:v5.ownBlock=v.ownBlock ∨ ∃ g,v5.ownBlock=some g∧S g) (hl:L.length < 1000000):OW w5 S lo v5 (L ++ [x]):=by
 have hk:Keeps (fun i=>v.ownBlock=some i) w w5:=.grown hg fun g hg=>.inl hg
 have hne:∀ y:Wr,NumsO w lo y.d y.z→NumsO w5 lo y.d y.z:=fun y hy=>by
  refine hy.keeps hk fun g hg1 hg2=>?_
  rcases hy.1.2 with ⟨e,_⟩|⟨g1,_,_,e,_,e2,_⟩
  ·rw [e] at hg1;cases hg1
  ·rcases h.row.2 with ⟨e',_⟩|⟨g3,_,_,e',_,e4,_⟩
   ·rw [e'] at hg2;cases hg2
   ·rw [e] at hg1
    rw [e'] at hg2
    simp [Value.ownBlock] at hg1 hg2
    subst hg1 hg2
    rw [e2] at e4
    injection e4 with e4
    injection e4 with _ e4 _
    exact absurd e4 (by decide)
 refine ⟨?_,by simp;omega,?_,?_,?_⟩
 ·simpa [List.flatMap_append] using hrow
 ·intro y hy
  rcases List.mem_append.1 hy with hy|hy
  ·exact hne y (h.nums y hy)
  ·rw [List.mem_singleton.1 hy];exact hne x hd
 ·intro i hi
  rcases hv with hv|⟨g,hv,hs⟩
  ·exact h.inS i (hv ▸ hi)
  ·rw [hv] at hi;injection hi with hi;rw [← hi];exact hs
 ·intro y hy i hi
  rcases List.mem_append.1 hy with hy|hy
  ·exact h.numS y hy i hi
  ·rw [List.mem_singleton.1 hy] at hi;exact hds i hi
end Go.Proofs.YtlingaebpfdhgaaGreatDoor.wire
namespace Go.Proofs.YtlingaebpfdhgaaGreatDoor.wire
open Go.RowKit base rowe err
theorem tr_len {zs:List Int} {most:Int} (h:trB zs most=true):zs.length≤16:=by
 unfold trB at h
 simp only [Bool.and_eq_true,decide_eq_true_eq] at h
 exact h.1
theorem tr_ok {zs:List Int} {most:Int} (h:trB zs most=true) {k:Nat} (hk:k < zs.length):0≤zs.getD k 0∧zs.getD k 0≤most:=by
 unfold trB at h
 simp only [Bool.and_eq_true,decide_eq_true_eq,List.all_eq_true] at h
 have:=h.2.2 (zs.getD k 0) (by rw [List.getD_eq_getElem?_getD,List.getElem?_eq_getElem hk];simp)
 unfold okN at this
 simpa using this
theorem tr_more {zs:List Int} {most most':Int} (h:trB zs most=true) (hm:most≤most'):trB zs most'=true:=by
 unfold trB at h ⊢
 simp only [Bool.and_eq_true,decide_eq_true_eq,List.all_eq_true] at h ⊢
 refine ⟨h.1,h.2.1,fun x hx=>?_⟩
 have:=h.2.2 x hx
 unfold okN at this ⊢
 simp only [Bool.and_eq_true,decide_eq_true_eq] at this ⊢
 omega
set_option maxRecDepth 10000 in
theorem vec_any (g n:Nat) (d:Value) (zs:List Int) (w:World) (h:OutS w g n) (hd:Nums w g d zs) (ht:trB zs 1099511627776=true) (hr:n + 200≤65536) :
  Calls Tryz.prog 24 #[.pointer (some ⟨g,0,none⟩),d] w (PutsR g n (n + 200) w):=by
 obtain ⟨A,m,c,rfl,hl,hm,hrd⟩:=hd
 have h16:=tr_len ht
 have ht2:=tr_more ht (most':=4611686018427387903) (by decide)
 obtain ⟨v,hb,hv⟩:=id h
 have c1:w.cell? ⟨g,1,none⟩=_:=hb.cell 1
 have hlt:=hb.lt
 simp at c1
 have hm16:m≤16:=by omega
 have Ht2:=Lib.hid ht2
 have Ht:=Lib.hid ht
 have Hl:=Lib.hid hl
 have Hrd:=Lib.hid hrd
 have H:=Lib.hid h
 clear h
 clear hb hv ht ht2 hl hrd h16
 go_enter Tryz.func24,Tryz.ntmps24
 go_wp2_with fail
 refine (trim_any A m c zs 4611686018427387903 g _ Hl.out hm Hrd.out).mono ?_
 rintro e w1 ⟨rfl,rfl⟩
 rw [Ht2.out]
 go_wp2_with fail
 refine (number_any (.slice none 0 0) 0 m w1.heap.size _ (Row8.none _ _) (by omega) (by omega) (Nat.le_refl _)).mono ?_
 rintro e w2 ⟨v1,q,rfl,h1,h2,h3,h4⟩
 have H3:=Lib.hid h3
 have H4:=Lib.hid h4
 clear h3 h4
 go_wp2_with fail
 go_loopw [4,6,26] (fun b _ i wr'=>∃ k q':Nat,i=.int .i64 k∧k≤m∧q'≤9 * (k + 1)∧Row8 wr' w1.heap.size b q'∧Below w1.heap.size w1 wr') (fun _ _ i _=>m - (intOf i).toNat)
 case atStart=>exact ⟨0,q,rfl,by omega,by omega,H3.out,H4.out⟩
 case round =>
  clear H3 H4
  obtain ⟨k,q',rfl,hk,hq',h3,h4⟩:=hrel
  obtain ⟨A1,c1',rfl⟩:=h3.form
  have hsz:=h4.size
  by_cases hlk:k < m
  ·have d1:decide ((k:Int) < (m:Int))=true:=by simp;omega
   obtain ⟨b,off,rfl,hbb⟩:=Hrd.out.at_some (by omega)
   have hcur:=(Hrd.out.below (h4.mono (by omega))).int (k:=k) hlk
   have hok:=tr_ok Ht.out (k:=k) (by rw [Hl.out];exact hlk)
   obtain ⟨y,hy⟩:∃ y:Nat,zs.getD k 0=(y:Int):=⟨(zs.getD k 0).toNat,by omega⟩
   rw [hy] at hcur hok
   have hy2:y < 9223372036854775808:=by omega
   have hkm:(k:Int) < (m:Int):=by omega
   clear hok hy
   have H3:=Lib.hid h3
   have H4:=Lib.hid h4
   have Hy2:=Lib.hid hy2
   clear h3 h4 hy2
   go_wp2_with fail
   refine (number_any (.slice A1 q' c1') q' y w1.heap.size _ H3.out Hy2.out (by omega) hsz).mono ?_
   rintro e w3 ⟨v3,q3,rfl,h5,h6,h7,h8⟩
   have H7:=Lib.hid h7
   have H8:=Lib.hid (H4.out.trans h8)
   clear h7 h8 H3 H4
   go_wp2_with fail
   go_roundw
   case rel=>exact ⟨k + 1,q3,by go_num,by omega,by omega,H7.out,H8.out⟩
   case measure=>simp [intOf];omega
  ·obtain rfl:m=k:=by omega
   have d1:decide ((m:Int) < (m:Int))=false:=by simp
   have H3:=Lib.hid h3
   have H4:=Lib.hid h4
   clear h3 h4
   go_wp2_with fail
   refine (put_any g n q' A1 c1' _ (H.out.below H4.out) (H3.out.base (by omega)) (by omega)).mono ?_
   rintro e w3 ⟨rfl,h5,h6⟩
   have hR:PutsR g n (n + 200) w1 (.returned (.tuple #[])) w3:=⟨rfl,⟨n + q',by omega,by omega,h5⟩,(H4.out.mono (by omega)).trans h6⟩
   have HR:=Lib.hid hR
   clear hR h5 h6
   go_wp2
   exact bodyPost_end (v:=.tuple #[]) (by simp [results,Tryz.results24,go_sem]) rfl HR.out
theorem u8_list:∀ xs:List Value,(∀ u ∈ xs,IsU8 u)→∃ ns:List Int,xs=ns.map (Value.int .u8)
 | [],_=>⟨[],rfl⟩
 | x :: xs,h=>by
  obtain ⟨b,hb⟩:=h x (by simp)
  obtain ⟨ns,hn⟩:=u8_list xs (fun u hu=>h u (by simp [hu]))
  exact ⟨b :: ns,by rw [hb,hn];rfl⟩
theorem conv_row {w:World} {base n:Nat} {v:Value} (h:Row8 w base v n):∃ s,(convert 79 9 v).run Tryz.prog w=.ok (.string s) w:=by
 obtain ⟨xs,hx,hu⟩:=h
 obtain ⟨ns,rfl⟩:=u8_list xs hu
 rcases id hx.2 with ⟨rfl,rfl⟩|⟨g,cap,cur,rfl,h1⟩
 ·exact ⟨_,run_convert_bytes_nil w _ _ Tryz.underlying79 Tryz.underlying5 0 0 _ Tryz.underlying9⟩
 ·have hr:=Reads.of_own hx
  have hl:ns.length=n:=by have:=hx.1;simpa using this
  refine ⟨_,run_convert_bytes_arg w _ _ Tryz.underlying79 Tryz.underlying5 g 0 n cap ns hl (fun i hi=>?_) _ Tryz.underlying9⟩
  exact Reads.get hr (by omega) (by rw [List.getElem?_map,List.getElem?_eq_getElem (by omega)];simp [List.getD,List.getElem?_eq_getElem (show i < ns.length by omega)])
set_option maxRecDepth 10000 in
theorem done_any (g n:Nat) (w:World) (h:OutS w g n) :
  Calls Tryz.prog 26 #[.pointer (some ⟨g,0,none⟩)] w fun e w'=>(∃ s,e=.returned (.tuple #[.string s,.nilIface]))∧Below w.heap.size w w':=by
 obtain ⟨v,hb,hrow⟩:=h
 have c0:w.cell? ⟨g,0,none⟩=_:=hb.cell 0
 have c1:w.cell? ⟨g,1,none⟩=_:=hb.cell 1
 have hlt:=hb.lt
 simp at c0 c1
 obtain ⟨s,hs⟩:=conv_row hrow
 obtain ⟨A,c,rfl⟩:=hrow.form
 clear hb hrow
 go_enter Tryz.func26,Tryz.ntmps26
 go_wp2
 exact bodyPost_ret (v:=.tuple #[.string s,.nilIface]) (by simp [results,Tryz.results26,go_sem]) rfl ⟨⟨s,rfl⟩,Below.refl _ _⟩
end Go.Proofs.YtlingaebpfdhgaaGreatDoor.wire
namespace Go.Proofs.YtlingaebpfdhgaaGreatDoor.wire
open Go.RowKit base rowe err
set_option maxRecDepth 100000 in
set_option maxHeartbeats 4000000 in
theorem right_any (x:Wr) (w:World) (hd:Nums w w.heap.size x.d x.z) :
  Calls Tryz.prog 61 #[.agg ⟨x.cells⟩] w fun e w'=>e=.returned (.bool (rightB x))∧Below w.heap.size w w':=by
 obtain ⟨A,m,c,hx,hl,hm,hr⟩:=hd
 obtain ⟨r,n,t,s,d,zs,se,k,v,g,l⟩:=x
 dsimp only at hx hl hr
 subst hx
 have Hl:=Lib.hid hl
 clear hl
 have Hr:=Lib.hid (hr.alloc (Nat.le_refl _) (.cells #[.int .i64 r,.int .i64 n,.int .i64 t,.int .i64 s,.slice A m c,.string se,.string k,.string v,.bool g,.int .i64 l] 34))
 clear hr
 unfold Wr.cells
 dsimp only
 cases h1:decide ((1:Int)≤r) with
 | false =>
  have HF:=Lib.hid (show rightB ⟨r,n,t,s,.slice A m c,zs,se,k,v,g,l⟩=false by unfold rightB;dsimp only;rw [h1];rfl)
  go_enter Tryz.func61,Tryz.ntmps61
  go_wp2_with (first|(go_at_call 116;refine (in_any _ _ _).mono ?_;rintro e w1 ⟨rfl,rfl⟩)|(go_at_call 63;refine (trim_any A m c zs _ _ _ Hl.out hm Hr.out).mono ?_;rintro e w1 ⟨rfl,rfl⟩))
  all_goals first|(go_ret;exact ⟨ret_bool HF.out.symm,below_new _ _⟩)|(rename_i hq h2;simp [undef] at hq;done)|trace_state
 | true =>
  cases h2:decide (r≤16) with
  | false =>
   have HF:=Lib.hid (show rightB ⟨r,n,t,s,.slice A m c,zs,se,k,v,g,l⟩=false by unfold rightB;dsimp only;rw [h1,h2];rfl)
   go_enter Tryz.func61,Tryz.ntmps61
   go_wp2_with (first|(go_at_call 116;refine (in_any _ _ _).mono ?_;rintro e w1 ⟨rfl,rfl⟩)|(go_at_call 63;refine (trim_any A m c zs _ _ _ Hl.out hm Hr.out).mono ?_;rintro e w1 ⟨rfl,rfl⟩))
   all_goals first|(go_ret;exact ⟨ret_bool HF.out.symm,below_new _ _⟩)|(rename_i hq h2;simp [undef] at hq;done)|trace_state
  | true =>
   cases h3:inB n 1 with
   | false =>
    have HF:=Lib.hid (show rightB ⟨r,n,t,s,.slice A m c,zs,se,k,v,g,l⟩=false by unfold rightB;dsimp only;rw [h1,h2,h3];rfl)
    go_enter Tryz.func61,Tryz.ntmps61
    go_wp2_with (first|(go_at_call 116;refine (in_any _ _ _).mono ?_;rintro e w1 ⟨rfl,rfl⟩)|(go_at_call 63;refine (trim_any A m c zs _ _ _ Hl.out hm Hr.out).mono ?_;rintro e w1 ⟨rfl,rfl⟩))
    all_goals first|(go_ret;exact ⟨ret_bool HF.out.symm,below_new _ _⟩)|(rename_i hq h2;simp [undef] at hq;done)|trace_state
   | true =>
    cases h4:(s == r) with
    | false =>
     have HF:=Lib.hid (show rightB ⟨r,n,t,s,.slice A m c,zs,se,k,v,g,l⟩=false by unfold rightB;dsimp only;rw [h1,h2,h3,h4];rfl)
     go_enter Tryz.func61,Tryz.ntmps61
     go_wp2_with (first|(go_at_call 116;refine (in_any _ _ _).mono ?_;rintro e w1 ⟨rfl,rfl⟩)|(go_at_call 63;refine (trim_any A m c zs _ _ _ Hl.out hm Hr.out).mono ?_;rintro e w1 ⟨rfl,rfl⟩))
     all_goals first|(go_ret;exact ⟨ret_bool HF.out.symm,below_new _ _⟩)|(rename_i hq h2;simp [undef] at hq;done)|trace_state
    | true =>
     cases h5:inB t 1 with
     | false =>
      have HF:=Lib.hid (show rightB ⟨r,n,t,s,.slice A m c,zs,se,k,v,g,l⟩=false by unfold rightB;dsimp only;rw [h1,h2,h3,h4,h5];rfl)
      go_enter Tryz.func61,Tryz.ntmps61
      go_wp2_with (first|(go_at_call 116;refine (in_any _ _ _).mono ?_;rintro e w1 ⟨rfl,rfl⟩)|(go_at_call 63;refine (trim_any A m c zs _ _ _ Hl.out hm Hr.out).mono ?_;rintro e w1 ⟨rfl,rfl⟩))
      all_goals first|(go_ret;exact ⟨ret_bool HF.out.symm,below_new _ _⟩)|(rename_i hq h2;simp [undef] at hq;done)|trace_state
     | true =>
      cases h6:trB zs 1099511627776 with
      | false =>
       have HF:=Lib.hid (show rightB ⟨r,n,t,s,.slice A m c,zs,se,k,v,g,l⟩=false by unfold rightB;dsimp only;rw [h1,h2,h3,h4,h5,h6];rfl)
       go_enter Tryz.func61,Tryz.ntmps61
       go_wp2_with (first|(go_at_call 116;refine (in_any _ _ _).mono ?_;rintro e w1 ⟨rfl,rfl⟩)|(go_at_call 63;refine (trim_any A m c zs _ _ _ Hl.out hm Hr.out).mono ?_;rintro e w1 ⟨rfl,rfl⟩))
       all_goals first|(go_ret;exact ⟨ret_bool HF.out.symm,below_new _ _⟩)|(rename_i hq h2;simp [undef] at hq;done)|trace_state
      | true =>
       cases h7:decide ((1:Int)≤(se.size:Nat)) with
       | false =>
        have HF:=Lib.hid (show rightB ⟨r,n,t,s,.slice A m c,zs,se,k,v,g,l⟩=false by unfold rightB;dsimp only;rw [h1,h2,h3,h4,h5,h6,h7];rfl)
        go_enter Tryz.func61,Tryz.ntmps61
        go_wp2_with (first|(go_at_call 116;refine (in_any _ _ _).mono ?_;rintro e w1 ⟨rfl,rfl⟩)|(go_at_call 63;refine (trim_any A m c zs _ _ _ Hl.out hm Hr.out).mono ?_;rintro e w1 ⟨rfl,rfl⟩))
        all_goals first|(go_ret;exact ⟨ret_bool HF.out.symm,below_new _ _⟩)|(rename_i hq h2;simp [undef] at hq;done)|trace_state
       | true =>
        cases h8:decide (((se.size:Nat):Int)≤64) with
        | false =>
         have HF:=Lib.hid (show rightB ⟨r,n,t,s,.slice A m c,zs,se,k,v,g,l⟩=false by unfold rightB;dsimp only;rw [h1,h2,h3,h4,h5,h6,h7,h8];rfl)
         go_enter Tryz.func61,Tryz.ntmps61
         go_wp2_with (first|(go_at_call 116;refine (in_any _ _ _).mono ?_;rintro e w1 ⟨rfl,rfl⟩)|(go_at_call 63;refine (trim_any A m c zs _ _ _ Hl.out hm Hr.out).mono ?_;rintro e w1 ⟨rfl,rfl⟩))
         all_goals first|(go_ret;exact ⟨ret_bool HF.out.symm,below_new _ _⟩)|(rename_i hq h2;simp [undef] at hq;done)|trace_state
        | true =>
         cases h9:decide (((k.size:Nat):Int)≤32) with
         | false =>
          have HF:=Lib.hid (show rightB ⟨r,n,t,s,.slice A m c,zs,se,k,v,g,l⟩=false by unfold rightB;dsimp only;rw [h1,h2,h3,h4,h5,h6,h7,h8,h9];rfl)
          go_enter Tryz.func61,Tryz.ntmps61
          go_wp2_with (first|(go_at_call 116;refine (in_any _ _ _).mono ?_;rintro e w1 ⟨rfl,rfl⟩)|(go_at_call 63;refine (trim_any A m c zs _ _ _ Hl.out hm Hr.out).mono ?_;rintro e w1 ⟨rfl,rfl⟩))
          all_goals first|(go_ret;exact ⟨ret_bool HF.out.symm,below_new _ _⟩)|(rename_i hq h2;simp [undef] at hq;done)|trace_state
         | true =>
          cases h10:decide (((v.size:Nat):Int)≤128) with
          | false =>
           have HF:=Lib.hid (show rightB ⟨r,n,t,s,.slice A m c,zs,se,k,v,g,l⟩=false by unfold rightB;dsimp only;rw [h1,h2,h3,h4,h5,h6,h7,h8,h9,h10];rfl)
           go_enter Tryz.func61,Tryz.ntmps61
           go_wp2_with (first|(go_at_call 116;refine (in_any _ _ _).mono ?_;rintro e w1 ⟨rfl,rfl⟩)|(go_at_call 63;refine (trim_any A m c zs _ _ _ Hl.out hm Hr.out).mono ?_;rintro e w1 ⟨rfl,rfl⟩))
           all_goals first|(go_ret;exact ⟨ret_bool HF.out.symm,below_new _ _⟩)|(rename_i hq h2;simp [undef] at hq;done)|trace_state
          | true =>
           cases g with
           | false =>
            have h11:(!false || (v.toList == []))=true:=rfl
            cases h12:inB l 0 with
            | false =>
             have HF:=Lib.hid (show rightB ⟨r,n,t,s,.slice A m c,zs,se,k,v,false,l⟩=false by unfold rightB;dsimp only;rw [h1,h2,h3,h4,h5,h6,h7,h8,h9,h10,h11,h12];rfl)
             go_enter Tryz.func61,Tryz.ntmps61
             go_wp2_with (first|(go_at_call 116;refine (in_any _ _ _).mono ?_;rintro e w1 ⟨rfl,rfl⟩)|(go_at_call 63;refine (trim_any A m c zs _ _ _ Hl.out hm Hr.out).mono ?_;rintro e w1 ⟨rfl,rfl⟩))
             all_goals first|(go_ret;exact ⟨ret_bool HF.out.symm,below_new _ _⟩)|(rename_i hq h2;simp [undef] at hq;done)|trace_state
            | true =>
             have HF:=Lib.hid (show rightB ⟨r,n,t,s,.slice A m c,zs,se,k,v,false,l⟩=true by unfold rightB;dsimp only;rw [h1,h2,h3,h4,h5,h6,h7,h8,h9,h10,h11,h12];rfl)
             go_enter Tryz.func61,Tryz.ntmps61
             go_wp2_with (first|(go_at_call 116;refine (in_any _ _ _).mono ?_;rintro e w1 ⟨rfl,rfl⟩)|(go_at_call 63;refine (trim_any A m c zs _ _ _ Hl.out hm Hr.out).mono ?_;rintro e w1 ⟨rfl,rfl⟩))
             all_goals first|(go_ret;exact ⟨ret_bool HF.out.symm,below_new _ _⟩)|(rename_i hq h2;simp [undef] at hq;done)|trace_state
           | true =>
            cases hv:(v.toList == ([]:List UInt8)) with
            | false =>
             have h11:(!true || (v.toList == []))=false:=hv
             have HF:=Lib.hid (show rightB ⟨r,n,t,s,.slice A m c,zs,se,k,v,true,l⟩=false by unfold rightB;dsimp only;rw [h1,h2,h3,h4,h5,h6,h7,h8,h9,h10,h11];rfl)
             go_enter Tryz.func61,Tryz.ntmps61
             go_wp2_with (first|(go_at_call 116;refine (in_any _ _ _).mono ?_;rintro e w1 ⟨rfl,rfl⟩)|(go_at_call 63;refine (trim_any A m c zs _ _ _ Hl.out hm Hr.out).mono ?_;rintro e w1 ⟨rfl,rfl⟩))
             all_goals first|(go_ret;exact ⟨ret_bool HF.out.symm,below_new _ _⟩)|(rename_i hq h2;simp [undef] at hq;done)|trace_state
            | true =>
             have h11:(!true || (v.toList == []))=true:=hv
             cases h12:inB l 0 with
             | false =>
              have HF:=Lib.hid (show rightB ⟨r,n,t,s,.slice A m c,zs,se,k,v,true,l⟩=false by unfold rightB;dsimp only;rw [h1,h2,h3,h4,h5,h6,h7,h8,h9,h10,h11,h12];rfl)
              go_enter Tryz.func61,Tryz.ntmps61
              go_wp2_with (first|(go_at_call 116;refine (in_any _ _ _).mono ?_;rintro e w1 ⟨rfl,rfl⟩)|(go_at_call 63;refine (trim_any A m c zs _ _ _ Hl.out hm Hr.out).mono ?_;rintro e w1 ⟨rfl,rfl⟩))
              all_goals first|(go_ret;exact ⟨ret_bool HF.out.symm,below_new _ _⟩)|(rename_i hq h2;simp [undef] at hq;done)|trace_state
             | true =>
              have HF:=Lib.hid (show rightB ⟨r,n,t,s,.slice A m c,zs,se,k,v,true,l⟩=true by unfold rightB;dsimp only;rw [h1,h2,h3,h4,h5,h6,h7,h8,h9,h10,h11,h12];rfl)
              go_enter Tryz.func61,Tryz.ntmps61
              go_wp2_with (first|(go_at_call 116;refine (in_any _ _ _).mono ?_;rintro e w1 ⟨rfl,rfl⟩)|(go_at_call 63;refine (trim_any A m c zs _ _ _ Hl.out hm Hr.out).mono ?_;rintro e w1 ⟨rfl,rfl⟩))
              all_goals first|(go_ret;exact ⟨ret_bool HF.out.symm,below_new _ _⟩)|(rename_i hq h2;simp [undef] at hq;done)|trace_state
end Go.Proofs.YtlingaebpfdhgaaGreatDoor.wire
namespace Go.Proofs.YtlingaebpfdhgaaGreatDoor.wire
open Go.RowKit base rowe err
theorem Nums.alloc' {w:World} {B:Nat} {d:Value} {zs:List Int} (h:Nums w B d zs) (o:Obj) (hB:B≤w.heap.size):Nums (w.alloc o) B d zs:=h.below ((Below.refl _ _).alloc hB o)
def EncR (x:Wr) (w:World) (e:Ending) (w':World):Prop :=
 (∃ s v,e=.returned (.tuple #[.string s,v])∧((rightB x=true∧v=.nilIface) ∨ (rightB x=false∧∃ ge,v=.iface 153 (.pointer (some ⟨ge,0,none⟩)))))∧Below w.heap.size w w'
structure RightP (x:Wr):Prop where
 r0:1≤x.r
 r1:x.r≤16
 n0:1≤x.n
 n1:x.n≤1099511627776
 sr:x.s=x.r
 t0:1≤x.t
 t1:x.t≤1099511627776
 z:trB x.z 1099511627776=true
 se1:x.se.size≤64
 k1:x.k.size≤32
 v1:x.v.size≤128
 l0:0≤x.l
 l1:x.l≤1099511627776
theorem right_parts {x:Wr} (h:rightB x=true):RightP x:=by
 unfold rightB inB at h
 simp only [Bool.and_eq_true,decide_eq_true_eq,beq_iff_eq] at h
 obtain ⟨h1,h2,⟨h3,h4⟩,h5,⟨h6,h7⟩,h8,h9,h10,h11,h12,h13,h14,h15⟩:=h
 exact ⟨h1,h2,h3,h4,h5,h6,h7,h8,by omega,by omega,by omega,h14,h15⟩
set_option maxRecDepth 100000 in
set_option maxHeartbeats 2000000 in
theorem encode_any (x:Wr) (w:World) (hd:Nums w w.heap.size x.d x.z) :
  Calls Tryz.prog 22 #[.agg ⟨x.cells⟩] w (EncR x w):=by
 have hx0:=(Blk.new w 34 x.cells.toArray)
 have hd2:Nums (w.alloc (.cells x.cells.toArray 34)) (w.alloc (.cells x.cells.toArray 34)).heap.size x.d x.z:=(hd.below (below_new _ _)).more (by simp)
 have hdg:=Lib.hid (hd.below (below_new w (.cells x.cells.toArray 34)))
 have hb0:=below_new w (.cells x.cells.toArray 34)
 clear hd
 have HX0:=Lib.hid hx0
 have HD2:=Lib.hid hd2
 have HB0:=Lib.hid hb0
 clear hx0 hd2 hb0
 by_cases hrt:rightB x=true
 ·have hp:=right_parts hrt
  obtain ⟨r,n,t,s,d,zs,se,k,v,g,l⟩:=x
  obtain ⟨r0,r1,n0,n1,sr,t0,t1,z0,se1,k1,v1,l0,l1⟩:=hp
  dsimp only at r0 r1 n0 n1 sr t0 t1 z0 se1 k1 v1 l0 l1
  obtain ⟨r,rfl⟩:=Int.eq_ofNat_of_zero_le (show 0≤r by omega)
  obtain ⟨n,rfl⟩:=Int.eq_ofNat_of_zero_le (show 0≤n by omega)
  obtain ⟨t,rfl⟩:=Int.eq_ofNat_of_zero_le (show 0≤t by omega)
  obtain ⟨l,rfl⟩:=Int.eq_ofNat_of_zero_le (show 0≤l by omega)
  have Hrt:=Lib.hid hrt
  have Z0:=Lib.hid z0
  clear hrt z0 sr
  unfold Wr.cells at *
  dsimp only at *
  go_enter Tryz.func22,Tryz.ntmps22
  go_wp2_with fail
  refine (right_any ⟨r,n,t,s,d,zs,se,k,v,g,l⟩ _ HD2.out).mono ?_
  rintro e w1 ⟨rfl,hb1⟩
  rw [Hrt.out]
  have hx:=HX0.out.below hb1 (by simp)
  have hbb:=HB0.out.trans (hb1.mono (by simp))
  have hlt1:w.heap.size < w1.heap.size:=hx.lt
  have Hdg:=Lib.hid (hdg.out.below (hb1.mono (by simp)))
  have Hdg0:=Hdg
  have HX:=Lib.hid (hx.alloc (.cells #[.slice none 0 0,.nilIface] 81))
  have HB:=Lib.hid (hbb.alloc (by omega) (.cells #[.slice none 0 0,.nilIface] 81))
  have HO:=Lib.hid (show OutS (w1.alloc (.cells #[.slice none 0 0,.nilIface] 81)) w1.heap.size 0 from ⟨_,Blk.new w1 81 _,Row8.none _ _⟩)
  have c0:w1.cell? ⟨w.heap.size,0,none⟩=_:=hx.cell 0
  simp at c0
  clear hx hbb hb1 HX0 HD2 HB0 hdg
  go_wp2_with fail
  clear Hdg
  have Hdg:=Lib.hid (Hdg0.out.alloc' (.cells #[.slice none 0 0,.nilIface] 81) (Nat.le_of_lt hlt1))
  refine (num_any w1.heap.size 0 r _ HO.out (by omega) (by omega)).mono ?_
  rintro e w2 ⟨rfl,⟨q2,hloq2,hhiq2,ho⟩,hb⟩
  have hx:=HX.out.below hb hlt1
  have hbb:=HB.out.trans (hb.mono (Nat.le_of_lt hlt1))
  have hdg:=Hdg.out.below (hb.mono (Nat.le_of_lt hlt1))
  clear HX HB HO Hdg c0
  have HX:=Lib.hid hx
  have HB:=Lib.hid hbb
  have HO:=Lib.hid ho
  have Hdg:=Lib.hid hdg
  have c0:(w2).cell? ⟨w.heap.size,1,none⟩=_:=hx.cell 1
  simp at c0
  clear hx hbb ho hb hdg
  go_wp2_with fail
  refine (num_any w1.heap.size q2 n _ HO.out (by omega) (by omega)).mono ?_
  rintro e w3 ⟨rfl,⟨q3,hloq3,hhiq3,ho⟩,hb⟩
  have hx:=HX.out.below hb hlt1
  have hbb:=HB.out.trans (hb.mono (Nat.le_of_lt hlt1))
  have hdg:=Hdg.out.below (hb.mono (Nat.le_of_lt hlt1))
  clear HX HB HO Hdg c0
  have HX:=Lib.hid hx
  have HB:=Lib.hid hbb
  have HO:=Lib.hid ho
  have Hdg:=Lib.hid hdg
  have c0:(w3).cell? ⟨w.heap.size,2,none⟩=_:=hx.cell 2
  simp at c0
  clear hx hbb ho hb hdg
  go_wp2_with fail
  refine (num_any w1.heap.size q3 t _ HO.out (by omega) (by omega)).mono ?_
  rintro e w4 ⟨rfl,⟨q4,hloq4,hhiq4,ho⟩,hb⟩
  have hx:=HX.out.below hb hlt1
  have hbb:=HB.out.trans (hb.mono (Nat.le_of_lt hlt1))
  have hdg:=Hdg.out.below (hb.mono (Nat.le_of_lt hlt1))
  clear HX HB HO Hdg c0
  have HX:=Lib.hid hx
  have HB:=Lib.hid hbb
  have HO:=Lib.hid ho
  have Hdg:=Lib.hid hdg
  have c0:(w4).cell? ⟨w.heap.size,4,none⟩=_:=hx.cell 4
  simp at c0
  clear hx hbb ho hb hdg
  go_wp2_with fail
  refine (vec_any w1.heap.size q4 d zs _ HO.out (Hdg.out.more (by omega)) Z0.out (by omega)).mono ?_
  rintro e w5 ⟨rfl,⟨q5,hloq5,hhiq5,ho⟩,hb⟩
  have hx:=HX.out.below hb hlt1
  have hbb:=HB.out.trans (hb.mono (Nat.le_of_lt hlt1))
  have hdg:=Hdg.out.below (hb.mono (Nat.le_of_lt hlt1))
  clear HX HB HO Hdg c0
  have HX:=Lib.hid hx
  have HB:=Lib.hid hbb
  have HO:=Lib.hid ho
  have Hdg:=Lib.hid hdg
  have c0:(w5).cell? ⟨w.heap.size,5,none⟩=_:=hx.cell 5
  simp at c0
  clear hx hbb ho hb hdg
  go_wp2_with fail
  refine (text_any w1.heap.size q5 se _ HO.out (by omega) (by omega)).mono ?_
  rintro e w6 ⟨rfl,⟨q6,hloq6,hhiq6,ho⟩,hb⟩
  have hx:=HX.out.below hb hlt1
  have hbb:=HB.out.trans (hb.mono (Nat.le_of_lt hlt1))
  have hdg:=Hdg.out.below (hb.mono (Nat.le_of_lt hlt1))
  clear HX HB HO Hdg c0
  have HX:=Lib.hid hx
  have HB:=Lib.hid hbb
  have HO:=Lib.hid ho
  have Hdg:=Lib.hid hdg
  have c0:(w6).cell? ⟨w.heap.size,6,none⟩=_:=hx.cell 6
  simp at c0
  clear hx hbb ho hb hdg
  go_wp2_with fail
  refine (text_any w1.heap.size q6 k _ HO.out (by omega) (by omega)).mono ?_
  rintro e w7 ⟨rfl,⟨q7,hloq7,hhiq7,ho⟩,hb⟩
  have hx:=HX.out.below hb hlt1
  have hbb:=HB.out.trans (hb.mono (Nat.le_of_lt hlt1))
  have hdg:=Hdg.out.below (hb.mono (Nat.le_of_lt hlt1))
  clear HX HB HO Hdg c0
  have HX:=Lib.hid hx
  have HB:=Lib.hid hbb
  have HO:=Lib.hid ho
  have Hdg:=Lib.hid hdg
  have c0:(w7).cell? ⟨w.heap.size,8,none⟩=_:=hx.cell 8
  simp at c0
  clear hx hbb ho hb hdg
  go_wp2_with fail
  refine (flag_any w1.heap.size q7 g _ HO.out (by omega)).mono ?_
  rintro e w8 ⟨rfl,⟨q8,hloq8,hhiq8,ho⟩,hb⟩
  have hx:=HX.out.below hb hlt1
  have hbb:=HB.out.trans (hb.mono (Nat.le_of_lt hlt1))
  have hdg:=Hdg.out.below (hb.mono (Nat.le_of_lt hlt1))
  clear HX HB HO Hdg c0
  have HX:=Lib.hid hx
  have HB:=Lib.hid hbb
  have HO:=Lib.hid ho
  have Hdg:=Lib.hid hdg
  have c0:(w8).cell? ⟨w.heap.size,7,none⟩=_:=hx.cell 7
  simp at c0
  clear hx hbb ho hb hdg
  go_wp2_with fail
  refine (text_any w1.heap.size q8 v _ HO.out (by omega) (by omega)).mono ?_
  rintro e w9 ⟨rfl,⟨q9,hloq9,hhiq9,ho⟩,hb⟩
  have hx:=HX.out.below hb hlt1
  have hbb:=HB.out.trans (hb.mono (Nat.le_of_lt hlt1))
  have hdg:=Hdg.out.below (hb.mono (Nat.le_of_lt hlt1))
  clear HX HB HO Hdg c0
  have HX:=Lib.hid hx
  have HB:=Lib.hid hbb
  have HO:=Lib.hid ho
  have Hdg:=Lib.hid hdg
  have c0:(w9).cell? ⟨w.heap.size,9,none⟩=_:=hx.cell 9
  simp at c0
  clear hx hbb ho hb hdg
  go_wp2_with fail
  refine (num_any w1.heap.size q9 l _ HO.out (by omega) (by omega)).mono ?_
  rintro e w10 ⟨rfl,⟨q10,hloq10,hhiq10,ho⟩,hb⟩
  have hx:=HX.out.below hb hlt1
  have hbb:=HB.out.trans (hb.mono (Nat.le_of_lt hlt1))
  have hdg:=Hdg.out.below (hb.mono (Nat.le_of_lt hlt1))
  clear HX HB HO Hdg c0
  have HX:=Lib.hid hx
  have HB:=Lib.hid hbb
  have HO:=Lib.hid ho
  have Hdg:=Lib.hid hdg
  have c0:(w10).cell? ⟨w.heap.size,0,none⟩=_:=hx.cell 0
  simp at c0
  clear hx hbb ho hb hdg
  go_wp2_with fail
  refine (done_any w1.heap.size q10 _ HO.out).mono ?_
  rintro e w11 ⟨⟨sb,rfl⟩,hb⟩
  have HR:=Lib.hid (show EncR ⟨r,n,t,s,d,zs,se,k,v,g,l⟩ w (.returned (.tuple #[.string sb,.nilIface])) w11 from ⟨⟨sb,_,rfl,.inl ⟨Hrt.out,rfl⟩⟩,HB.out.trans (hb.mono HB.out.size)⟩)
  clear hb
  go_wp2
  exact bodyPost_ret (v:=.tuple #[.string sb,.nilIface]) (by simp [results,Tryz.results22,go_sem]) rfl HR.out
 ·have hrt:rightB x=false:=by simpa using hrt
  obtain ⟨r,n,t,s,d,zs,se,k,v,g,l⟩:=x
  have Hrt:=Lib.hid hrt
  clear hrt
  unfold Wr.cells at *
  dsimp only at *
  go_enter Tryz.func22,Tryz.ntmps22
  go_wp2_with fail
  refine (right_any ⟨r,n,t,s,d,zs,se,k,v,g,l⟩ _ HD2.out).mono ?_
  rintro e w1 ⟨rfl,hb1⟩
  rw [Hrt.out]
  have HB:=Lib.hid (HB0.out.trans (hb1.mono (by simp)))
  clear hb1
  go_wp2_with fail
  refine (Go.Proofs.YtlingaebpfdhgaaGreatDoor.err.at_any _ _ _ _).mono ?_
  rintro e w2 ⟨ve,rfl,he,hne,hb2,_⟩
  have HR:=Lib.hid (show EncR ⟨r,n,t,s,d,zs,se,k,v,g,l⟩ w (.returned (.tuple #[.string ⟨#[]⟩,ve])) w2 from ⟨⟨_,_,rfl,.inr ⟨Hrt.out,he.form⟩⟩,HB.out.trans (hb2.mono HB.out.size)⟩)
  clear he hne hb2
  go_wp2
  exact bodyPost_ret (v:=.tuple #[.string ⟨#[]⟩,ve]) (by simp [results,Tryz.results22,go_sem]) rfl HR.out
end Go.Proofs.YtlingaebpfdhgaaGreatDoor.wire
namespace Go.Proofs.YtlingaebpfdhgaaGreatDoor.wire
open Go.RowKit base rowe err
set_option maxRecDepth 10000 in
theorem clone_dep (x:Wr) (w:World) (hd:Nums w w.heap.size x.d x.z) (h6:x.z.length≤1000000) :
  Calls Tryz.prog 147 #[.agg ⟨x.cells⟩] w (CloneR x w):=by
 obtain ⟨r,n,t,s,d,zs,se,k,v,g,l⟩:=x
 dsimp only at hd h6
 have hW2:Below w.heap.size w ((w.alloc (.cells #[.int .i64 r,.int .i64 n,.int .i64 t,.int .i64 s,d,.string se,.string k,.string v,.bool g,.int .i64 l] 34)).alloc (.cells #[.int .i64 0,.int .i64 0,.int .i64 0,.int .i64 0,.slice none 0 0,.string ⟨#[]⟩,.string ⟨#[]⟩,.string ⟨#[]⟩,.bool false,.int .i64 0] 34)):=below_alloc (below_new _ _) _
 have HD:=Lib.hid ((hd.below hW2).more hW2.size)
 have HW2:=Lib.hid hW2
 clear hd hW2
 unfold Wr.cells
 dsimp only
 go_enter Tryz.func147,Tryz.ntmps147
 go_wp2_with fail
 refine (clone_ints d zs _ HD.out h6).mono ?_
 rintro e w1 ⟨⟨d',rfl,hd'⟩,hb1⟩
 have hx:=((Blk.new w 34 #[.int .i64 r,.int .i64 n,.int .i64 t,.int .i64 s,d,.string se,.string k,.string v,.bool g,.int .i64 l]).alloc (.cells #[.int .i64 0,.int .i64 0,.int .i64 0,.int .i64 0,.slice none 0 0,.string ⟨#[]⟩,.string ⟨#[]⟩,.string ⟨#[]⟩,.bool false,.int .i64 0] 34)).below hb1 (by simp <;> omega)
 have hy:=(Blk.newAt (w.alloc (.cells #[.int .i64 r,.int .i64 n,.int .i64 t,.int .i64 s,d,.string se,.string k,.string v,.bool g,.int .i64 l] 34)) 34 #[.int .i64 0,.int .i64 0,.int .i64 0,.int .i64 0,.slice none 0 0,.string ⟨#[]⟩,.string ⟨#[]⟩,.string ⟨#[]⟩,.bool false,.int .i64 0] (g:=w.heap.size + 1) (by simp)).below hb1 (by simp)
 have hbb:=HW2.out.trans (hb1.mono (HW2.out.size))
 obtain ⟨A1,c1,rfl⟩:=ownsRow_slice hd'.1
 have k0:w1.cell? ⟨w.heap.size,4,none⟩=_:=hx.cell 4
 have k1:=hx.frozen 4
 have k2:=hx.lt
 simp at k0
 have hx2:=hx.set_ 4 (.slice A1 zs.length c1)
 have hy2:=hy.far (p:=⟨w.heap.size,4,none⟩) (by simp) (.slice A1 zs.length c1)
 have hd2:=hd'.keeps (Keeps.set1 w1 w.heap.size 4 (.slice A1 zs.length c1)) (fun i hi e=>by have:=(hd'.1.lt _ hi).1;simp at this;omega)
 have hb2:=hbb.setCell (p:=⟨w.heap.size,4,none⟩) (Nat.le_refl _) (.slice A1 zs.length c1)
 have Hx2:=Lib.hid hx2
 have Hy2:=Lib.hid hy2
 have Hd2:=Lib.hid hd2
 have Hb2:=Lib.hid hb2
 clear hx2 hy2 hd2 hb2
 clear hx hy hbb hd' hb1
 go_wp2_with (first|(refine wpList_load_at rfl 34 (.tmp 1) rfl w.heap.size 0 (Wr.cells ⟨r,n,t,s,.slice A1 zs.length c1,zs,se,k,v,g,l⟩) rfl Tryz.underlying34 rfl (by kernel_rfl) (fun j v hj=>by rw [Nat.zero_add,Hx2.out.cell j];simpa [Wr.cells] using hj) ?_)|(refine wpList_store_blk rfl 34 (.tmp 2) (.tmp 7) rfl (w.heap.size + 1) (Wr.cells ⟨r,n,t,s,.slice A1 zs.length c1,zs,se,k,v,g,l⟩) rfl rfl Hy2.out (by kernel_rfl) rfl rfl ?_;intro w9 ho9 hk9 hs9))
 refine bodyPost_ret (v:=.agg ⟨Wr.cells ⟨r,n,t,s,.slice A1 zs.length c1,zs,se,k,v,g,l⟩⟩) (results_cell_row (P:=Tryz.prog) rfl _ _ (w.heap.size + 1) 34 _ (0,0) _ rfl ho9 Tryz.underlying34 rfl (by kernel_rfl)) rfl ⟨⟨_,rfl,?_⟩,?_⟩
 ·exact (Hd2.out.keeps hk9 (fun i hi e=>by have:=(Hd2.out.1.lt _ hi).1;simp at this;omega)).base (by simp;omega)
 ·exact Hb2.out.trans (hk9.below (fun i hi e=>by omega) (by have:=Hb2.out.size;exact this))
end Go.Proofs.YtlingaebpfdhgaaGreatDoor.wire
namespace Go.Proofs.YtlingaebpfdhgaaGreatDoor.regn
open Go Go.RowKit base list new wire
theorem Sees.things {P:Program} {w:World} {t e:TypeId} {v:Value} {α:Type} (f:α→List Value) (ht:P.underlying t=some (.slice e)) (hpos:0 < P.cellsOf e) (hf:∀ cs,cs.length=P.cellsOf e→Sees P w e cs→∃ x,cs=f x) (h:Sees P w t [v]) :
  ∃ (A:Option Addr) (len cap:Nat) (l:List α),v=.slice A len cap∧len≤cap∧cap≤maxLen∧l.length=len∧Reads w w.heap.size (P.cellsOf e) A len (l.flatMap f)∧∀ x ∈ l,Sees P w e (f x):=by
 have h':v=.slice none 0 0 ∨ ∃ (a:Addr) (len cap:Nat),v=.slice (some a) len cap∧len≤cap∧cap≤maxLen∧∀ i,i < cap→∃ es,w.cells? 0 (a.add (i * P.cellsOf e)) (P.cellsOf e)=some es∧Sees P w e es:=by
  rcases h.slice ht with h|⟨a,len,cap,h,r⟩
  ·injection h with h;exact .inl h
  ·injection h with h;exact .inr ⟨a,len,cap,h,r⟩
 obtain ⟨A,len,cap,rows,rfl,h1,h2,h3,h4,h5,h6⟩:=rows_of hpos h'
 have h5:=h5.take (fun r hr=>(h4 r hr).1) h3 h1
 obtain ⟨l,hl⟩:=rows_map f (rows.take len) (fun r hr=>hf r (h4 r (List.mem_of_mem_take hr)).1 (h4 r (List.mem_of_mem_take hr)).2)
 rw [hl] at h5
 refine ⟨A,len,cap,l,rfl,h1,h2,?_,by rw [List.flatMap_def];exact h5,fun x hx=>(h4 _ (List.mem_of_mem_take (by rw [hl];exact List.mem_map_of_mem hx))).2⟩
 have:=congrArg List.length hl
 simp at this
 omega
theorem wr_cells:Tryz.prog.cellsOf 34=10:=by kernel_rfl
set_option maxRecDepth 100000 in
theorem wr_sees {w:World} (cs:List Value) (hl:cs.length=Tryz.prog.cellsOf 34) (h:Sees Tryz.prog w 34 cs):∃ x:Wr,cs=x.cells∧Nums w w.heap.size x.d x.z:=by
 rw [wr_cells] at hl
 obtain ⟨_,hf⟩:=h.struct Tryz.underlying34
 have e3:Tryz.prog.cellsOf 3=1:=by kernel_rfl
 have e4:Tryz.prog.cellsOf 4=1:=by kernel_rfl
 have e9:Tryz.prog.cellsOf 9=1:=by kernel_rfl
 have e31:Tryz.prog.cellsOf 32=2:=by kernel_rfl
 have e33:Tryz.prog.cellsOf 24=1:=by kernel_rfl
 match cs,hl with
 | [x0,x1,x2,x3,x4,x5,x6,x7,x8,x9],_ =>
  simp [e3,e4,e9,e31,e33] at hf
  obtain ⟨h0,h1,h2,h4,h5,h6,h7,h8,h9⟩:=hf
  obtain ⟨_,hg⟩:=h2.struct Tryz.underlying32
  simp [e3] at hg
  obtain ⟨n0,q0,_⟩:=h0.int Tryz.underlying3
  obtain ⟨n1,q1,_⟩:=h1.int Tryz.underlying3
  obtain ⟨n2,q2,_⟩:=hg.1.int Tryz.underlying3
  obtain ⟨n3,q3,_⟩:=hg.2.int Tryz.underlying3
  obtain ⟨s5,q5,_⟩:=h5.string Tryz.underlying9
  obtain ⟨s6,q6,_⟩:=h6.string Tryz.underlying9
  obtain ⟨s7,q7,_⟩:=h7.string Tryz.underlying9
  obtain ⟨b8,q8⟩:=h8.bool Tryz.underlying4
  obtain ⟨n9,q9,_⟩:=h9.int Tryz.underlying3
  have h4':x4=.slice none 0 0 ∨ ∃ (a:Addr) (len cap:Nat),x4=.slice (some a) len cap∧len≤cap∧cap≤maxLen∧∀ i,i < cap→∃ es,w.cells? 0 (a.add (i * Tryz.prog.cellsOf 3)) (Tryz.prog.cellsOf 3)=some es∧Sees Tryz.prog w 3 es:=by
   rcases h4.slice Tryz.underlying24 with h|⟨a,len,cap,h,r⟩
   ·injection h with h;exact .inl h
   ·injection h with h;exact .inr ⟨a,len,cap,h,r⟩
  obtain ⟨A,len,cap,zs,q4,h10,h11,h12,_,h13,_⟩:=ints_of Tryz.underlying3 e3 h4'
  simp at q0 q1 q2 q3 q5 q6 q7 q8 q9
  subst q0 q1 q2 q3 q5 q6 q7 q8 q9
  exact ⟨⟨n0,n1,n2,n3,x4,zs,s5,s6,s7,b8,n9⟩,rfl,A,len,cap,q4,h12,by omega,h13⟩
theorem msg_cells:Tryz.prog.cellsOf 27=7:=by kernel_rfl
def MsgR (w:World) (k:Int) (A1:Option Addr) (nw c1:Nat) (Lw:List Wr) (A2:Option Addr) (nh c2:Nat) (ck tm:Int) (A:Option Addr) (len cap:Nat) (L:List Ep) (key:Int) (v:Value):Prop :=
 v=.agg #[.int .i64 k,.slice A1 nw c1,.slice A2 nh c2,.int .i64 ck,.int .i64 tm,.slice A len cap,.int .i64 key]∧Lw.length=nw∧Reads w w.heap.size 10 A1 nw (Lw.flatMap Wr.cells)∧(∀ x ∈ Lw,∃ a m c,x.d=.slice a m c)∧nw≤c1∧c1≤maxLen∧nh≤c2∧c2≤maxLen ∧
  Eps w w.heap.size A len cap L∧∀ e ∈ L,e.u.size≤maxLen
set_option maxRecDepth 100000 in
theorem msg_arg {w:World} {v:Value} (h:Arg Tryz.prog w 27 v):∃ k A1 nw c1 Lw A2 nh c2 ck tm A len cap L key,MsgR w k A1 nw c1 Lw A2 nh c2 ck tm A len cap L key v:=by
 obtain ⟨cs,rfl,hl,hs⟩:=h.agg (.inl ⟨_,Tryz.underlying27⟩)
 rw [msg_cells] at hl
 obtain ⟨_,hf⟩:=hs.struct Tryz.underlying27
 have e3:Tryz.prog.cellsOf 3=1:=by kernel_rfl
 have e33:Tryz.prog.cellsOf 24=1:=by kernel_rfl
 have e34:Tryz.prog.cellsOf 22=1:=by kernel_rfl
 have e35:Tryz.prog.cellsOf 25=1:=by kernel_rfl
 match cs,hl with
 | [x0,x1,x2,x3,x4,x5,x6],_ =>
  simp [e3,e33,e34,e35] at hf
  obtain ⟨h0,h1,h2,h3,h4,h5,h6⟩:=hf
  obtain ⟨n0,q0,_⟩:=h0.int Tryz.underlying3
  obtain ⟨n3,q3,_⟩:=h3.int Tryz.underlying3
  obtain ⟨n4,q4,_⟩:=h4.int Tryz.underlying3
  obtain ⟨n6,q6,_⟩:=h6.int Tryz.underlying3
  obtain ⟨A1,nw,c1,Lw,rfl,w1,w2,w3,w4,w5⟩:=Sees.things Wr.cells Tryz.underlying22 (by rw [wr_cells];omega) (fun cs hl h=>(wr_sees cs hl h).imp fun _ h=>h.1) h1
  obtain ⟨A2,nh,c2,zs,rfl,v1,v2,_⟩:=Sees.things (fun v:Value=>[v]) Tryz.underlying24 (by rw [e3];omega) (fun cs hl h=>by obtain ⟨n,q,_⟩:=h.int Tryz.underlying3;exact ⟨_,q⟩) h2
  obtain ⟨A,len,cap,L,rfl,p1,p2,p3,p4,p5⟩:=Sees.things ep Tryz.underlying25 (by rw [ep_cells];omega) ep_sees h5
  simp at q0 q3 q4 q6
  subst q0 q3 q4 q6
  rw [wr_cells] at w4
  rw [ep_cells] at p4
  refine ⟨n0,A1,nw,c1,Lw,A2,nh,c2,n3,n4,A,len,cap,L,n6,rfl,w3,w4,fun x hx=>?_,w1,w2,v1,v2,⟨p3,p1,p2,p4⟩,fun e he=>?_⟩
  ·obtain ⟨y,hy,A,m,c,hd,_⟩:=wr_sees _ (by rw [wr_cells];rfl) (w5 x hx)
   simp only [Wr.cells,List.cons.injEq] at hy
   exact ⟨A,m,c,by rw [hy.2.2.2.2.1];exact hd⟩
  ·obtain ⟨_,hf⟩:=(p5 e he).struct Tryz.underlying36
   have e9:Tryz.prog.cellsOf 9=1:=by kernel_rfl
   simp [e3,e9,ep] at hf
   obtain ⟨s,hs,hsz⟩:=hf.1.string Tryz.underlying9
   simp at hs
   rw [hs]
   exact hsz
end Go.Proofs.YtlingaebpfdhgaaGreatDoor.regn
namespace Go.Proofs.YtlingaebpfdhgaaGreatDoor.regn
open Go Go.RowKit base rowe list new wire monoj
def opM (k ck tm key:Int) (A1 A2 A:Option Addr) (nw c1 nh c2 len cap:Nat):List Value :=
 [.int .i64 0,.slice none 0 0,.string ⟨#[]⟩,.int .i64 0,.int .i64 0,.int .i64 k,.slice A1 nw c1,.slice A2 nh c2,.int .i64 ck,.int .i64 tm,.slice A len cap,.int .i64 key,.string ⟨#[]⟩,.bool false,.int .i64 0,
  .int .i64 0,.int .i64 0,.int .i64 0,.int .i64 0,.slice none 0 0,.string ⟨#[]⟩,.string ⟨#[]⟩,.string ⟨#[]⟩,.bool false,.int .i64 0,.string ⟨#[]⟩,.int .i64 0,.int .i64 0,.int .i64 0,.int .i64 0,.int .i64 0,.int .i64 0,.slice none 0 0,
  .string ⟨#[]⟩,.string ⟨#[]⟩,.int .i64 0,.int .i64 0,.string ⟨#[]⟩,.bool false,.int .i64 0]
def opZ:Array Value:=#[.int .i64 0,.slice none 0 0,.string ⟨#[]⟩,.int .i64 0,.int .i64 0,.int .i64 0,.slice none 0 0,.slice none 0 0,.int .i64 0,.int .i64 0,.slice none 0 0,.int .i64 0,.string ⟨#[]⟩,.bool false,.int .i64 0,
  .int .i64 0,.int .i64 0,.int .i64 0,.int .i64 0,.slice none 0 0,.string ⟨#[]⟩,.string ⟨#[]⟩,.string ⟨#[]⟩,.bool false,.int .i64 0,.string ⟨#[]⟩,.int .i64 0,.int .i64 0,.int .i64 0,.int .i64 0,.int .i64 0,.int .i64 0,.slice none 0 0,
  .string ⟨#[]⟩,.string ⟨#[]⟩,.int .i64 0,.int .i64 0,.string ⟨#[]⟩,.bool false,.int .i64 0]
def wz:Wr:=⟨0,0,0,0,.slice none 0 0,[],⟨#[]⟩,⟨#[]⟩,⟨#[]⟩,false,0⟩
theorem opM_wz {k ck tm key:Int} {A1 A2 A:Option Addr} {nw c1 nh c2 len cap q:Nat} {v:Value} (h:wz.cells[q]?=some v):(opM k ck tm key A1 A2 A nw c1 nh c2 len cap)[15 + q]?=some v:=by
 have hq:q < 10:=(List.getElem?_eq_some_iff.1 h).1
 rw [← h]
 match q,hq with
 | 0,_|1,_|2,_|3,_|4,_|5,_|6,_|7,_|8,_|9,_=>rfl
 | q + 10,h=>exact absurd h (by omega)
theorem write_infoG:(Tryz.prog.info? 34).map (fun i=>(i.zero,i.size,i.bytes))=some (some (.agg wz.cells.toArray),10,120):=by kernel_rfl
def GreatR (len:Nat) (w:World) (e:Ending) (w':World):Prop:=∃ b,e=.returned (.bool b)∧(b=false→len≤70)∧Below w.heap.size w w'
set_option maxRecDepth 20000 in
set_option maxHeartbeats 4000000 in
theorem great_b (g:Nat) (k ck tm key:Int) (A1 A2 A:Option Addr) (nw c1 nh c2 len cap:Nat) (Lw:List Wr) (L:List Ep) (w:World)
  (hc:∀ j v,(opM k ck tm key A1 A2 A nw c1 nh c2 len cap)[j]?=some v→w.cell? ⟨g,0 + j,none⟩=some v) (hg:g < w.heap.size) (hl:Lw.length=nw) (hRW:Reads w w.heap.size 10 A1 nw (Lw.flatMap Wr.cells)) (hdep:∀ x ∈ Lw,∃ a m c,x.d=.slice a m c) (hE:Eps w w.heap.size A len cap L) :
  Calls Tryz.prog 5 #[.slice (some ⟨g,0,none⟩) 1 1,.int .i64 1] w (GreatR len w):=by
 have HC:=Lib.hid hc
 have HRW:=Lib.hid hRW
 have HDP:=Lib.hid hdep
 have HE:=Lib.hid hE
 have HL:=Lib.hid hl
 clear hc hRW hdep hE hl
 go_enter Tryz.func5,Tryz.ntmps5
 go_wp2_with fail
 go_loopw [19,6,8,10,12] (fun i _ _ _ _ wr=>(i=.int .i64 0∧wr=w) ∨ (i=.int .i64 1∧len≤70∧Below w.heap.size w wr)) (fun i _ _ _ _ _=>1 - (intOf i).toNat)
 case atStart=>exact .inl ⟨rfl,rfl⟩
 case round =>
  rcases hrel with ⟨rfl,rfl⟩|⟨rfl,h70,hb⟩
  rotate_left
  ·go_wp2_with fail
   go_ret
   exact ⟨false,rfl,fun _=>h70,hb⟩
  have hone:(opM k ck tm key A1 A2 A nw c1 nh c2 len cap).all (·.oneCell')=true:=rfl
  have hsz:(opM k ck tm key A1 A2 A nw c1 nh c2 len cap).length=40:=rfl
  obtain ⟨cs,hcs⟩:∃ cs,opM k ck tm key A1 A2 A nw c1 nh c2 len cap=cs:=⟨_,rfl⟩
  have HCS:=Lib.hid hcs
  rw [hcs] at HC hone hsz
  clear hcs
  have hz:=Blk.new wr 44 opZ
  have hbz:=below_new wr (.cells opZ 44)
  unfold opZ at hz hbz
  have HZ:=Lib.hid hz
  have HBZ:=Lib.hid hbz
  clear hz hbz
  have hi44:(Tryz.prog.info? 44).map (·.size)=some cs.length:=by rw [hsz];kernel_rfl
  have hey:∀ w1:World,Blk w1 wr.heap.size 44 cs.toArray→w1.cell? ⟨wr.heap.size,1,none⟩=some (.slice none 0 0)∧w1.cell? ⟨wr.heap.size,2,none⟩=some (.string ⟨#[]⟩)∧w1.cell? ⟨wr.heap.size,6,none⟩=some (.slice A1 nw c1)∧w1.cell? ⟨wr.heap.size,7,none⟩=some (.slice A2 nh c2) ∧
    w1.cell? ⟨wr.heap.size,10,none⟩=some (.slice A len cap)∧w1.cell? ⟨wr.heap.size,12,none⟩=some (.string ⟨#[]⟩)∧wr.heap.size < w1.heap.size:=fun w1 h=>by
   rw [← HCS.out] at h
   unfold opM at h
   exact ⟨h.cell 1,h.cell 2,h.cell 6,h.cell 7,h.cell 10,h.cell 12,h.lt⟩
  have HEY:=Lib.hid hey
  clear hey
  by_cases a1:10 < nw
  ·have d1:decide ((10:Int) < (nw:Int))=true:=decide_eq_true (by omega)
   go_wp2_with (first|(refine wpList_load_at rfl 44 (.tmp 21) rfl g 0 cs rfl Tryz.underlying44 rfl hi44 HC.out ?_)|(refine wpList_store_blk rfl 44 (.tmp 6) (.tmp 22) rfl wr.heap.size cs rfl rfl HZ.out hi44 hsz.symm hone ?_;intro w1 ho1 hk1 hs1;obtain ⟨q1,q2,q6,q7,q10,q12,hol⟩:=HEY.out w1 ho1))
   go_ret
   have hb1:Below wr.heap.size wr w1:=HBZ.out.trans (hk1.below (B:=wr.heap.size) (fun i hi e=>by have e:i=wr.heap.size:=e;omega) HBZ.out.size)
   exact ⟨true,rfl,fun e=>(by cases e),hb1⟩
  have d1:decide ((10:Int) < (nw:Int))=false:=decide_eq_false (by omega)
  by_cases a2:30 < nh
  ·have d2:decide ((30:Int) < (nh:Int))=true:=decide_eq_true (by omega)
   go_wp2_with (first|(refine wpList_load_at rfl 44 (.tmp 21) rfl g 0 cs rfl Tryz.underlying44 rfl hi44 HC.out ?_)|(refine wpList_store_blk rfl 44 (.tmp 6) (.tmp 22) rfl wr.heap.size cs rfl rfl HZ.out hi44 hsz.symm hone ?_;intro w1 ho1 hk1 hs1;obtain ⟨q1,q2,q6,q7,q10,q12,hol⟩:=HEY.out w1 ho1))
   go_ret
   have hb1:Below wr.heap.size wr w1:=HBZ.out.trans (hk1.below (B:=wr.heap.size) (fun i hi e=>by have e:i=wr.heap.size:=e;omega) HBZ.out.size)
   exact ⟨true,rfl,fun e=>(by cases e),hb1⟩
  have d2:decide ((30:Int) < (nh:Int))=false:=decide_eq_false (by omega)
  by_cases a3:70 < len
  ·have d3:decide ((70:Int) < (len:Int))=true:=decide_eq_true (by omega)
   go_wp2_with (first|(refine wpList_load_at rfl 44 (.tmp 21) rfl g 0 cs rfl Tryz.underlying44 rfl hi44 HC.out ?_)|(refine wpList_store_blk rfl 44 (.tmp 6) (.tmp 22) rfl wr.heap.size cs rfl rfl HZ.out hi44 hsz.symm hone ?_;intro w1 ho1 hk1 hs1;obtain ⟨q1,q2,q6,q7,q10,q12,hol⟩:=HEY.out w1 ho1))
   go_ret
   have hb1:Below wr.heap.size wr w1:=HBZ.out.trans (hk1.below (B:=wr.heap.size) (fun i hi e=>by have e:i=wr.heap.size:=e;omega) HBZ.out.size)
   exact ⟨true,rfl,fun e=>(by cases e),hb1⟩
  have d3:decide ((70:Int) < (len:Int))=false:=decide_eq_false (by omega)
  go_wp2_with (first|(refine wpList_load_at rfl 44 (.tmp 21) rfl g 0 cs rfl Tryz.underlying44 rfl hi44 HC.out ?_)|(refine wpList_store_blk rfl 44 (.tmp 6) (.tmp 22) rfl wr.heap.size cs rfl rfl HZ.out hi44 hsz.symm hone ?_;intro w1 ho1 hk1 hs1;obtain ⟨q1,q2,q6,q7,q10,q12,hol⟩:=HEY.out w1 ho1))
  have hb1:Below wr.heap.size wr w1:=HBZ.out.trans (hk1.below (B:=wr.heap.size) (fun i hi e=>by have e:i=wr.heap.size:=e;omega) HBZ.out.size)
  have HB1:=Lib.hid hb1
  rw [← HCS.out] at ho1
  have HO1:=Lib.hid ho1
  have HRW1:=Lib.hid ((HRW.out.below hb1).more hb1.size)
  have HE1:=Lib.hid (HE.out.below hb1)
  clear ho1 hk1 hs1 hb1 HZ HBZ HCS HC HRW HE hone hsz HEY hi44
  obtain ⟨o,ho⟩:∃ o,wr.heap.size=o:=⟨_,rfl⟩
  have HOW:=Lib.hid ho
  rw [ho] at q1 q2 q6 q7 q10 q12 hol HO1 ⊢
  clear ho
  go_loopw [63,8] (fun i _ wq=>i=.int .i64 0∧wq=w1) (fun _ _ _=>0)
  case atStart=>exact ⟨rfl,rfl⟩
  case round =>
   obtain ⟨hi0,hw0⟩:=hrel
   subst hi0 hw0
   obtain ⟨n0,hn0⟩:∃ n,wr.heap.size=n:=⟨_,rfl⟩
   have HRc:=Lib.hid HRW1.out
   rw [hn0] at HRc
   have hon:¬ n0≤o:=by omega
   have HN0:=Lib.hid hn0
   obtain ⟨i0,hi0,hz⟩:=Option.map_eq_some_iff.1 write_infoG
   simp only [Prod.mk.injEq] at hz
   have HI0:=Lib.hid (And.intro hi0 hz)
   have HON:=Lib.hid (show ∀ u ∈ Lw.flatMap Wr.cells,u.oneCell'=true from fun u hu=>by
    obtain ⟨x,hx,hu⟩:=List.mem_flatMap.1 hu
    obtain ⟨a,m,c,hd⟩:=HDP.out x hx
    simp only [Wr.cells,List.mem_cons,List.not_mem_nil,or_false,hd] at hu
    rcases hu with rfl|rfl|rfl|rfl|rfl|rfl|rfl|rfl|rfl|rfl <;> rfl)
   have HOZ:=Lib.hid (show ∀ u ∈ wz.cells,u.oneCell'=true from fun u hu=>by
    simp only [wz,Wr.cells,List.mem_cons,List.not_mem_nil,or_false] at hu
    rcases hu with rfl|rfl|rfl|rfl|rfl|rfl|rfl|rfl|rfl|rfl <;> rfl)
   clear hi0 hz hn0
   obtain ⟨n1,hn1⟩:∃ n,nw + 1=n:=⟨_,rfl⟩
   go_upto_region 14 with fail
   go_cut [93,94,95] (fun v n i wx=>∃ A9 c9,v=.slice A9 n1 c9∧n=.int .i64 n1∧i=.int .i64 0∧Reads wx wx.heap.size 10 A9 n1 ((Lw ++ [wz]).flatMap Wr.cells)∧Below n0 wr wx)
   case first =>
    go_wp2_with fail
    refine wp_region_monoJ (fun i=>n0≤i) [4,9] (by kernel_rfl) ?_
    have HOc:=Lib.hid (Blk.drew HO1.out)
    have HRc:=Lib.hid (show Reads wr.drew n0 10 A1 nw (Lw.flatMap Wr.cells) from HRc.out)
    have HBc:=Lib.hid (show Below n0 wr wr.drew from (Below.refl _ _).drew)
    have HSz:=Lib.hid (show n0≤wr.drew.heap.size from by rw [← HN0.out];exact Nat.le_refl _)
    generalize wr.drew=Wc at *
    iterate 2
     first|refine qJ 1 (v:=?_) ?_ ?_|refine qJ 2 (v:=?_) ?_ ?_
     rotate_left
     ·(intro W hSw;((first|(have hxW:=Blk.keeps HOc.out hSw hon;have y6:W.cell? ⟨o,6,none⟩=some (.slice A1 nw c1):=hxW.cell 6;have exl:=hxW.lt)|skip));go_simp <;> rfl)
     try simp only [qPA]
    refine qJ 3 (v:=?_) ?_ ?_;rotate_left
    ·(intro W hSw;first|((refine exec_loadR 34 (.tmp 90) ?_ o 15 [.int .i64 0,.int .i64 0,.int .i64 0,.int .i64 0,.slice none 0 0,.string ⟨#[]⟩,.string ⟨#[]⟩,.string ⟨#[]⟩,.bool false,.int .i64 0] ?_ Tryz.underlying34 rfl (by kernel_rfl) (fun q v hq=>((Blk.keeps HOc.out hSw hon).cell (15 + q)).trans ((List.getElem?_toArray).trans (opM_wz hq))) <;> rfl))|((first|(have hxW:=Blk.keeps HOc.out hSw hon;have y6:W.cell? ⟨o,6,none⟩=some (.slice A1 nw c1):=hxW.cell 6;have exl:=hxW.lt)|skip);go_simp;done)|((first|(have hxW:=Blk.keeps HOc.out hSw hon;have y6:W.cell? ⟨o,6,none⟩=some (.slice A1 nw c1):=hxW.cell 6;have exl:=hxW.lt)|skip);go_simp;rfl))
    try simp only [qPA]
    iterate 2
     first|refine qJ 5 (v:=?_) ?_ ?_|refine qJ 6 (v:=?_) ?_ ?_
     rotate_left
     ·(intro W hSw;((first|(have hxW:=Blk.keeps HOc.out hSw hon;have y6:W.cell? ⟨o,6,none⟩=some (.slice A1 nw c1):=hxW.cell 6;have exl:=hxW.lt)|skip));go_simp <;> rfl)
     try simp only [qPA]
    refine qJ 7 (v:=?_) ?_ ?_;rotate_left
    ·(intro W hSw;first|((refine exec_loadR 34 (.tmp 90) ?_ o 15 [.int .i64 0,.int .i64 0,.int .i64 0,.int .i64 0,.slice none 0 0,.string ⟨#[]⟩,.string ⟨#[]⟩,.string ⟨#[]⟩,.bool false,.int .i64 0] ?_ Tryz.underlying34 rfl (by kernel_rfl) (fun q v hq=>((Blk.keeps HOc.out hSw hon).cell (15 + q)).trans ((List.getElem?_toArray).trans (opM_wz hq))) <;> rfl))|((first|(have hxW:=Blk.keeps HOc.out hSw hon;have y6:W.cell? ⟨o,6,none⟩=some (.slice A1 nw c1):=hxW.cell 6;have exl:=hxW.lt)|skip);go_simp;done)|((first|(have hxW:=Blk.keeps HOc.out hSw hon;have y6:W.cell? ⟨o,6,none⟩=some (.slice A1 nw c1):=hxW.cell 6;have exl:=hxW.lt)|skip);go_simp;rfl))
    try simp only [qPA]
    refine qJ 11 (v:=?_) ?_ ?_;rotate_left
    ·(intro W hSw;((first|(have hxW:=Blk.keeps HOc.out hSw hon;have y6:W.cell? ⟨o,6,none⟩=some (.slice A1 nw c1):=hxW.cell 6;have exl:=hxW.lt)|skip));go_simp <;> rfl)
    try simp only [qPA]
    refine wpMonoJ_two' 0 8 (by kernel_rfl) rfl (by rfl) rfl (by rfl) (fun K hK=>?_) (fun K hK=>?_)
    ·skip
     go_simp
     have hq:=below_new Wc (.cells #[] 34)
     have HDc:=Lib.hid (ownsRow_new0 Wc 34 10 #[] (n:=0))
     have HK:=Lib.hid hq
     have hqn:Below n0 Wc _:=hq.mono HSz.out
     try (have hE:=HEc.out.lt)
     try (have HRc:=Lib.hid (HRc.out.below hqn))
     have HBc:=Lib.hid (HBc.out.trans hqn)
     try (have HEc:=Lib.hid (HEc.out.below hq HEc.out.lt))
     obtain ⟨gz,hgz⟩:∃ g,Wc.heap.size=g:=⟨_,rfl⟩
     have HGZ:=Lib.hid (show n0≤gz from by rw [← hgz];exact HSz.out)
     try (have HGN:=Lib.hid (show gn ≠ gz from by omega))
     have HSz:=Lib.hid (Nat.le_trans HSz.out hq.size)
     have hzs:gz≤(Wc.alloc (.cells #[] 34)).heap.size:=by rw [← hgz];exact hq.size
     rw [hgz] at HDc ⊢
     clear hq hqn hgz
     generalize Wc.alloc (.cells #[] 34)=Wn at *
     rename World=>Wc
     refine hK.out _ _ ?_ ?_
     ·exact .of_below HK.out
     clear hK K
     try simp only [qPA]
     refine wpMonoJ_two' 4 8 (by kernel_rfl) rfl (by rfl) rfl (by rfl) (fun K hK=>?_) (fun K hK=>?_)
     ·skip
      refine wp_append_any _ (.tmp 84) (.tmp 87) _ (by rfl) gz 34 i0 _ 10 120 Tryz.underlying22 HI0.out.1 HI0.out.2.1 HI0.out.2.2.1 HI0.out.2.2.2 rfl (by decide) (.slice (some ⟨gz,0,none⟩) 0 0) _ _ (by rfl) HDc.out _ _ nw _ _ (by rfl) HRc.out HON.out (by unfold maxLen;omega) (by omega) hzs fun v8 Wn ho8 hg8 hv8=>?_
      have hk8:Keeps (fun i=>i=gz) Wc Wn:=.grown hg8 fun i hi=>.inl (Option.some.inj hi).symm
      have HK:=Lib.hid (hk8.more (Y:=fun i=>n0≤i) fun i _ e=>by rw [show i=gz from e];exact HGZ.out)
      have HD4:=Lib.hid ho8
      have hqn:Below n0 Wc Wn:=hk8.below (B:=n0) (fun i hi e=>by have e:i=gz:=e;have:=HGZ.out;omega) HSz.out
      have HBc:=Lib.hid (HBc.out.trans hqn)
      have HSz:=Lib.hid (Nat.le_trans HSz.out hk8.size)
      have hzs:=Nat.le_trans hzs hk8.size
      try (have HEc:=Lib.hid (Blk.keeps HEc.out hk8 HGN.out))
      clear ho8 hg8 hv8 hk8 hqn HDc HRc
      rename World=>Wc
      refine hK.out _ _ ?_ ?_
      ·exact moved HK.out (by decide)
      clear hK K
      try simp only [qPA]
      refine wpMonoJ_one' 8 (by kernel_rfl) rfl (by rfl) (fun K hK=>?_)
      go_simp
      have hq:=below_new Wc (.cells #[.int .i64 0,.int .i64 0,.int .i64 0,.int .i64 0,.slice none 0 0,.string ⟨#[]⟩,.string ⟨#[]⟩,.string ⟨#[]⟩,.bool false,.int .i64 0] 34)
      have HEc:=Lib.hid (Blk.new Wc 34 #[.int .i64 0,.int .i64 0,.int .i64 0,.int .i64 0,.slice none 0 0,.string ⟨#[]⟩,.string ⟨#[]⟩,.string ⟨#[]⟩,.bool false,.int .i64 0])
      have HK:=Lib.hid hq
      have hqn:Below n0 Wc _:=hq.mono HSz.out
      try (have hE:=(HDc.out.lt gz rfl).2)
      try (have HRc:=Lib.hid (HRc.out.below hqn))
      have HBc:=Lib.hid (HBc.out.trans hqn)
      try (have HDc:=Lib.hid (own_below HDc.out hq))
      try (have HD4:=Lib.hid (own_below HD4.out hq))
      try (have hzs:=Nat.le_trans hzs hq.size)
      obtain ⟨gn,hgn⟩:∃ g,Wc.heap.size=g:=⟨_,rfl⟩
      try (have HGN:=Lib.hid (show gn ≠ gz from by omega))
      have HSz:=Lib.hid (Nat.le_trans HSz.out hq.size)
      rw [hgn] at HEc ⊢
      clear hq hqn hgn
      generalize Wc.alloc (.cells #[.int .i64 0,.int .i64 0,.int .i64 0,.int .i64 0,.slice none 0 0,.string ⟨#[]⟩,.string ⟨#[]⟩,.string ⟨#[]⟩,.bool false,.int .i64 0] 34)=Wn at *
      rename World=>Wc
      refine hK.out _ _ ?_ ?_
      ·exact .of_below HK.out
      clear hK K
      try simp only [qPA]
      refine wpMonoJ_one' 9 (by kernel_rfl) rfl (by rfl) (fun K hK=>?_)
      refine wp_append_any _ (.tmp 88) (.tmp 92) _ (by rfl) gz 34 i0 _ 10 120 Tryz.underlying22 HI0.out.1 HI0.out.2.1 HI0.out.2.2.1 HI0.out.2.2.2 rfl (by decide) v8 _ _ (by rfl) HD4.out _ _ 1 _ _ (by rfl) (blk_reads HEc.out rfl) HOZ.out (by unfold maxLen;omega) (by omega) hzs fun v9 Wn ho9 hg9 hv9=>?_
      have hk9:Keeps (fun i=>n0≤i) Wc Wn:=.grown hg9 fun i hi=>.inl (by have:=(HD4.out.lt i hi).1;have:=HGZ.out;omega)
      have HK:=Lib.hid hk9
      have ho10:Wn.ownsRow gz 34 10 v9 n1 ((Lw ++ [wz]).flatMap Wr.cells):=by
       rw [← hn1]
       rw [Nat.zero_add,List.nil_append] at ho9
       rw [List.flatMap_append,show ([wz]:List Wr).flatMap Wr.cells=wz.cells from by simp]
       exact ho9
      obtain ⟨A9,c9,rfl⟩:=ownsRow_slice ho10
      have HD9:=Lib.hid (Reads.of_own ho10)
      have HBc:=Lib.hid (HBc.out.trans (hk9.below (B:=n0) (fun i hi e=>by omega) HSz.out))
      clear ho9 ho10 hg9 hv9 hk9 HD4 HEc hzs
      rename World=>Wc
      refine hK.out _ _ ?_ ?_
      ·exact moved HK.out (by decide)
      clear hK K
      try simp only [qPA]
      refine qJ 10 (v:=?_) ?_ ?_;rotate_left
      ·(intro W hSw;((first|(have hxW:=Blk.keeps HOc.out hSw hon;have y6:W.cell? ⟨o,6,none⟩=some (.slice A1 nw c1):=hxW.cell 6;have exl:=hxW.lt)|skip));go_simp <;> rfl)
      try simp only [qPA]
      refine wpMonoJ_done (by kernel_rfl) ?_ _
      go_wp2_with fail
      go_meet
      case rel=>exact ⟨_,_,rfl,rfl,rfl,HD9.out,HBc.out⟩
     ·skip
      go_simp
      have hq:=below_new Wc (.cells #[.int .i64 0,.int .i64 0,.int .i64 0,.int .i64 0,.slice none 0 0,.string ⟨#[]⟩,.string ⟨#[]⟩,.string ⟨#[]⟩,.bool false,.int .i64 0] 34)
      have HEc:=Lib.hid (Blk.new Wc 34 #[.int .i64 0,.int .i64 0,.int .i64 0,.int .i64 0,.slice none 0 0,.string ⟨#[]⟩,.string ⟨#[]⟩,.string ⟨#[]⟩,.bool false,.int .i64 0])
      have HK:=Lib.hid hq
      have hqn:Below n0 Wc _:=hq.mono HSz.out
      try (have hE:=(HDc.out.lt gz rfl).2)
      try (have HRc:=Lib.hid (HRc.out.below hqn))
      have HBc:=Lib.hid (HBc.out.trans hqn)
      try (have HDc:=Lib.hid (own_below HDc.out hq))
      try (have HD4:=Lib.hid (own_below HD4.out hq))
      try (have hzs:=Nat.le_trans hzs hq.size)
      obtain ⟨gn,hgn⟩:∃ g,Wc.heap.size=g:=⟨_,rfl⟩
      try (have HGN:=Lib.hid (show gn ≠ gz from by omega))
      have HSz:=Lib.hid (Nat.le_trans HSz.out hq.size)
      rw [hgn] at HEc ⊢
      clear hq hqn hgn
      generalize Wc.alloc (.cells #[.int .i64 0,.int .i64 0,.int .i64 0,.int .i64 0,.slice none 0 0,.string ⟨#[]⟩,.string ⟨#[]⟩,.string ⟨#[]⟩,.bool false,.int .i64 0] 34)=Wn at *
      rename World=>Wc
      refine hK.out _ _ ?_ ?_
      ·exact .of_below HK.out
      clear hK K
      try simp only [qPA]
      refine wpMonoJ_one' 4 (by kernel_rfl) rfl (by rfl) (fun K hK=>?_)
      refine wp_append_any _ (.tmp 84) (.tmp 87) _ (by rfl) gz 34 i0 _ 10 120 Tryz.underlying22 HI0.out.1 HI0.out.2.1 HI0.out.2.2.1 HI0.out.2.2.2 rfl (by decide) (.slice (some ⟨gz,0,none⟩) 0 0) _ _ (by rfl) HDc.out _ _ nw _ _ (by rfl) HRc.out HON.out (by unfold maxLen;omega) (by omega) hzs fun v8 Wn ho8 hg8 hv8=>?_
      have hk8:Keeps (fun i=>i=gz) Wc Wn:=.grown hg8 fun i hi=>.inl (Option.some.inj hi).symm
      have HK:=Lib.hid (hk8.more (Y:=fun i=>n0≤i) fun i _ e=>by rw [show i=gz from e];exact HGZ.out)
      have HD4:=Lib.hid ho8
      have hqn:Below n0 Wc Wn:=hk8.below (B:=n0) (fun i hi e=>by have e:i=gz:=e;have:=HGZ.out;omega) HSz.out
      have HBc:=Lib.hid (HBc.out.trans hqn)
      have HSz:=Lib.hid (Nat.le_trans HSz.out hk8.size)
      have hzs:=Nat.le_trans hzs hk8.size
      try (have HEc:=Lib.hid (Blk.keeps HEc.out hk8 HGN.out))
      clear ho8 hg8 hv8 hk8 hqn HDc HRc
      rename World=>Wc
      refine hK.out _ _ ?_ ?_
      ·exact moved HK.out (by decide)
      clear hK K
      try simp only [qPA]
      refine wpMonoJ_one' 9 (by kernel_rfl) rfl (by rfl) (fun K hK=>?_)
      refine wp_append_any _ (.tmp 88) (.tmp 92) _ (by rfl) gz 34 i0 _ 10 120 Tryz.underlying22 HI0.out.1 HI0.out.2.1 HI0.out.2.2.1 HI0.out.2.2.2 rfl (by decide) v8 _ _ (by rfl) HD4.out _ _ 1 _ _ (by rfl) (blk_reads HEc.out rfl) HOZ.out (by unfold maxLen;omega) (by omega) hzs fun v9 Wn ho9 hg9 hv9=>?_
      have hk9:Keeps (fun i=>n0≤i) Wc Wn:=.grown hg9 fun i hi=>.inl (by have:=(HD4.out.lt i hi).1;have:=HGZ.out;omega)
      have HK:=Lib.hid hk9
      have ho10:Wn.ownsRow gz 34 10 v9 n1 ((Lw ++ [wz]).flatMap Wr.cells):=by
       rw [← hn1]
       rw [Nat.zero_add,List.nil_append] at ho9
       rw [List.flatMap_append,show ([wz]:List Wr).flatMap Wr.cells=wz.cells from by simp]
       exact ho9
      obtain ⟨A9,c9,rfl⟩:=ownsRow_slice ho10
      have HD9:=Lib.hid (Reads.of_own ho10)
      have HBc:=Lib.hid (HBc.out.trans (hk9.below (B:=n0) (fun i hi e=>by omega) HSz.out))
      clear ho9 ho10 hg9 hv9 hk9 HD4 HEc hzs
      rename World=>Wc
      refine hK.out _ _ ?_ ?_
      ·exact moved HK.out (by decide)
      clear hK K
      try simp only [qPA]
      refine qJ 10 (v:=?_) ?_ ?_;rotate_left
      ·(intro W hSw;((first|(have hxW:=Blk.keeps HOc.out hSw hon;have y6:W.cell? ⟨o,6,none⟩=some (.slice A1 nw c1):=hxW.cell 6;have exl:=hxW.lt)|skip));go_simp <;> rfl)
      try simp only [qPA]
      refine wpMonoJ_done (by kernel_rfl) ?_ _
      go_wp2_with fail
      go_meet
      case rel=>exact ⟨_,_,rfl,rfl,rfl,HD9.out,HBc.out⟩
    ·skip
     go_simp
     have hq:=below_new Wc (.cells #[.int .i64 0,.int .i64 0,.int .i64 0,.int .i64 0,.slice none 0 0,.string ⟨#[]⟩,.string ⟨#[]⟩,.string ⟨#[]⟩,.bool false,.int .i64 0] 34)
     have HEc:=Lib.hid (Blk.new Wc 34 #[.int .i64 0,.int .i64 0,.int .i64 0,.int .i64 0,.slice none 0 0,.string ⟨#[]⟩,.string ⟨#[]⟩,.string ⟨#[]⟩,.bool false,.int .i64 0])
     have HK:=Lib.hid hq
     have hqn:Below n0 Wc _:=hq.mono HSz.out
     try (have hE:=(HDc.out.lt gz rfl).2)
     try (have HRc:=Lib.hid (HRc.out.below hqn))
     have HBc:=Lib.hid (HBc.out.trans hqn)
     try (have HDc:=Lib.hid (own_below HDc.out hq))
     try (have HD4:=Lib.hid (own_below HD4.out hq))
     try (have hzs:=Nat.le_trans hzs hq.size)
     obtain ⟨gn,hgn⟩:∃ g,Wc.heap.size=g:=⟨_,rfl⟩
     try (have HGN:=Lib.hid (show gn ≠ gz from by omega))
     have HSz:=Lib.hid (Nat.le_trans HSz.out hq.size)
     rw [hgn] at HEc ⊢
     clear hq hqn hgn
     generalize Wc.alloc (.cells #[.int .i64 0,.int .i64 0,.int .i64 0,.int .i64 0,.slice none 0 0,.string ⟨#[]⟩,.string ⟨#[]⟩,.string ⟨#[]⟩,.bool false,.int .i64 0] 34)=Wn at *
     rename World=>Wc
     refine hK.out _ _ ?_ ?_
     ·exact .of_below HK.out
     clear hK K
     try simp only [qPA]
     refine wpMonoJ_one' 0 (by kernel_rfl) rfl (by rfl) (fun K hK=>?_)
     go_simp
     have hq:=below_new Wc (.cells #[] 34)
     have HDc:=Lib.hid (ownsRow_new0 Wc 34 10 #[] (n:=0))
     have HK:=Lib.hid hq
     have hqn:Below n0 Wc _:=hq.mono HSz.out
     try (have hE:=HEc.out.lt)
     try (have HRc:=Lib.hid (HRc.out.below hqn))
     have HBc:=Lib.hid (HBc.out.trans hqn)
     try (have HEc:=Lib.hid (HEc.out.below hq HEc.out.lt))
     obtain ⟨gz,hgz⟩:∃ g,Wc.heap.size=g:=⟨_,rfl⟩
     have HGZ:=Lib.hid (show n0≤gz from by rw [← hgz];exact HSz.out)
     try (have HGN:=Lib.hid (show gn ≠ gz from by omega))
     have HSz:=Lib.hid (Nat.le_trans HSz.out hq.size)
     have hzs:gz≤(Wc.alloc (.cells #[] 34)).heap.size:=by rw [← hgz];exact hq.size
     rw [hgz] at HDc ⊢
     clear hq hqn hgz
     generalize Wc.alloc (.cells #[] 34)=Wn at *
     rename World=>Wc
     refine hK.out _ _ ?_ ?_
     ·exact .of_below HK.out
     clear hK K
     try simp only [qPA]
     refine wpMonoJ_one' 4 (by kernel_rfl) rfl (by rfl) (fun K hK=>?_)
     refine wp_append_any _ (.tmp 84) (.tmp 87) _ (by rfl) gz 34 i0 _ 10 120 Tryz.underlying22 HI0.out.1 HI0.out.2.1 HI0.out.2.2.1 HI0.out.2.2.2 rfl (by decide) (.slice (some ⟨gz,0,none⟩) 0 0) _ _ (by rfl) HDc.out _ _ nw _ _ (by rfl) HRc.out HON.out (by unfold maxLen;omega) (by omega) hzs fun v8 Wn ho8 hg8 hv8=>?_
     have hk8:Keeps (fun i=>i=gz) Wc Wn:=.grown hg8 fun i hi=>.inl (Option.some.inj hi).symm
     have HK:=Lib.hid (hk8.more (Y:=fun i=>n0≤i) fun i _ e=>by rw [show i=gz from e];exact HGZ.out)
     have HD4:=Lib.hid ho8
     have hqn:Below n0 Wc Wn:=hk8.below (B:=n0) (fun i hi e=>by have e:i=gz:=e;have:=HGZ.out;omega) HSz.out
     have HBc:=Lib.hid (HBc.out.trans hqn)
     have HSz:=Lib.hid (Nat.le_trans HSz.out hk8.size)
     have hzs:=Nat.le_trans hzs hk8.size
     try (have HEc:=Lib.hid (Blk.keeps HEc.out hk8 HGN.out))
     clear ho8 hg8 hv8 hk8 hqn HDc HRc
     rename World=>Wc
     refine hK.out _ _ ?_ ?_
     ·exact moved HK.out (by decide)
     clear hK K
     try simp only [qPA]
     refine wpMonoJ_one' 9 (by kernel_rfl) rfl (by rfl) (fun K hK=>?_)
     refine wp_append_any _ (.tmp 88) (.tmp 92) _ (by rfl) gz 34 i0 _ 10 120 Tryz.underlying22 HI0.out.1 HI0.out.2.1 HI0.out.2.2.1 HI0.out.2.2.2 rfl (by decide) v8 _ _ (by rfl) HD4.out _ _ 1 _ _ (by rfl) (blk_reads HEc.out rfl) HOZ.out (by unfold maxLen;omega) (by omega) hzs fun v9 Wn ho9 hg9 hv9=>?_
     have hk9:Keeps (fun i=>n0≤i) Wc Wn:=.grown hg9 fun i hi=>.inl (by have:=(HD4.out.lt i hi).1;have:=HGZ.out;omega)
     have HK:=Lib.hid hk9
     have ho10:Wn.ownsRow gz 34 10 v9 n1 ((Lw ++ [wz]).flatMap Wr.cells):=by
      rw [← hn1]
      rw [Nat.zero_add,List.nil_append] at ho9
      rw [List.flatMap_append,show ([wz]:List Wr).flatMap Wr.cells=wz.cells from by simp]
      exact ho9
     obtain ⟨A9,c9,rfl⟩:=ownsRow_slice ho10
     have HD9:=Lib.hid (Reads.of_own ho10)
     have HBc:=Lib.hid (HBc.out.trans (hk9.below (B:=n0) (fun i hi e=>by omega) HSz.out))
     clear ho9 ho10 hg9 hv9 hk9 HD4 HEc hzs
     rename World=>Wc
     refine hK.out _ _ ?_ ?_
     ·exact moved HK.out (by decide)
     clear hK K
     try simp only [qPA]
     refine qJ 10 (v:=?_) ?_ ?_;rotate_left
     ·(intro W hSw;((first|(have hxW:=Blk.keeps HOc.out hSw hon;have y6:W.cell? ⟨o,6,none⟩=some (.slice A1 nw c1):=hxW.cell 6;have exl:=hxW.lt)|skip));go_simp <;> rfl)
     try simp only [qPA]
     refine wpMonoJ_done (by kernel_rfl) ?_ _
     go_wp2_with fail
     go_meet
     case rel=>exact ⟨_,_,rfl,rfl,rfl,HD9.out,HBc.out⟩
   case rest =>
    obtain ⟨A9,c9,rfl,rfl,rfl,hrd,hb⟩:=hcut
    have HBW:=Lib.hid (show Below _ _ wc from HB1.out.trans (hb.mono (by rw [← HN0.out];exact HB1.out.size)))
    have HOw:=Lib.hid (HO1.out.below hb (by rw [← HN0.out];exact hol))
    have HEw:=Lib.hid (HE1.out.below (hb.mono (by rw [← HN0.out];exact HB1.out.size)))
    have HRD:=Lib.hid hrd
    have hwo:=HOw.out.lt
    clear hrd hb HO1 HE1 HB1 HRW1 HRc HN0 HI0 HON HOZ hol hon q1 q2 q6 q7 q10 q12
    go_wp2_with fail
    go_loopw [95,10] (fun i _ wx=>∃ k:Nat,i=.int .i64 k∧k≤n1∧Below wc.heap.size wc wx) (fun i _ _=>n1 - (intOf i).toNat)
    case atStart=>exact ⟨0,rfl,by omega,Below.refl _ _⟩
    case round =>
     obtain ⟨k,rfl,hk,hb⟩:=hrel
     have HBx:=Lib.hid (HBW.out.trans (hb.mono HBW.out.size))
     have hsz:=hb.size
     by_cases hkn:k < n1
     ·have dk:decide ((k:Int) < (n1:Int))=true:=decide_eq_true (by omega)
      obtain ⟨b,off,rfl,hbb⟩:=HRD.out.at_some (by omega)
      have hkl:k < (Lw ++ [wz]).length:=by rw [List.length_append,HL.out];simp;omega
      obtain ⟨z,hz⟩:∃ z,(Lw ++ [wz])[k]?=some z:=⟨_,List.getElem?_eq_getElem hkl⟩
      obtain ⟨da,dm,dc,hd⟩:∃ a m c,z.d=.slice a m c:=by
       rcases List.mem_append.1 (List.mem_of_getElem? hz) with h|h
       ·exact HDP.out z h
       ·simp only [List.mem_singleton] at h
        subst h
        exact ⟨_,_,_,rfl⟩
      have HCE:=Lib.hid (show ∀ j v,z.cells[j]?=some v→wr.cell? ⟨b,off + k * 10 + j,none⟩=some v from fun j v hj=>by
       have hj2:j < 10:=(List.getElem?_eq_some_iff.1 hj).1
       exact (Reads.thing Wr.cells Wr.len (HRD.out.below hb) (k:=k) (x:=z) hkn hz j hj2).trans hj)
      obtain ⟨zr,zn,zt,zs,zd,zz,zse,zk,zv,zg,zl⟩:=z
      dsimp only at hd
      subst hd
      have hz1:((⟨zr,zn,zt,zs,.slice da dm dc,zz,zse,zk,zv,zg,zl⟩:Wr).cells).all (·.oneCell')=true:=rfl
      have hz10:((⟨zr,zn,zt,zs,.slice da dm dc,zz,zse,zk,zv,zg,zl⟩:Wr).cells).length=10:=rfl
      have HEY3:=Lib.hid (show ∀ w9:World,Blk w9 wr.heap.size 34 ((⟨zr,zn,zt,zs,.slice da dm dc,zz,zse,zk,zv,zg,zl⟩:Wr).cells).toArray→w9.cell? ⟨wr.heap.size,4,none⟩=some (.slice da dm dc)∧w9.cell? ⟨wr.heap.size,5,none⟩=some (.string zse)∧w9.cell? ⟨wr.heap.size,6,none⟩=some (.string zk)∧w9.cell? ⟨wr.heap.size,7,none⟩=some (.string zv)∧wr.heap.size < w9.heap.size from
       fun w9 h=>⟨h.cell 4,h.cell 5,h.cell 6,h.cell 7,h.lt⟩)
      obtain ⟨zc,hzc⟩:∃ c,(⟨zr,zn,zt,zs,.slice da dm dc,zz,zse,zk,zv,zg,zl⟩:Wr).cells=c:=⟨_,rfl⟩
      rw [hzc] at HCE hz1 hz10 HEY3
      have hi34:(Tryz.prog.info? 34).map (·.size)=some zc.length:=by rw [hz10];kernel_rfl
      have hZ:=Blk.new wr 34 #[.int .i64 0,.int .i64 0,.int .i64 0,.int .i64 0,.slice none 0 0,.string ⟨#[]⟩,.string ⟨#[]⟩,.string ⟨#[]⟩,.bool false,.int .i64 0]
      have hBZ:=below_new wr (.cells #[.int .i64 0,.int .i64 0,.int .i64 0,.int .i64 0,.slice none 0 0,.string ⟨#[]⟩,.string ⟨#[]⟩,.string ⟨#[]⟩,.bool false,.int .i64 0] 34)
      have HZ3:=Lib.hid hZ
      have HBZ3:=Lib.hid hBZ
      have HBy:=Lib.hid hb
      clear hZ hBZ hzc hz hb
      by_cases e1:30 < dm
      ·have d1:decide ((30:Int) < (dm:Int))=true:=decide_eq_true (by omega)
       go_wp2_with (first|(refine wpList_load_at rfl 34 (.tmp 97) rfl b (off + k * 10) zc rfl Tryz.underlying34 rfl hi34 HCE.out ?_)|(refine wpList_store_blk rfl 34 (.tmp 10) (.tmp 98) rfl wr.heap.size zc rfl rfl HZ3.out hi34 hz10.symm hz1 ?_;intro w9 ho9 hk9 hs9;obtain ⟨x4,x5,x6,x7,xl⟩:=HEY3.out w9 ho9))
       have hb9:Below wr.heap.size wr w9:=HBZ3.out.trans (hk9.below (B:=wr.heap.size) (fun i hi e=>by have e:i=wr.heap.size:=e;omega) HBZ3.out.size)
       go_ret
       exact ⟨true,rfl,fun e=>(by cases e),HBx.out.trans (hb9.mono HBx.out.size)⟩
      have d1:decide ((30:Int) < (dm:Int))=false:=decide_eq_false (by omega)
      by_cases e2:200 < zse.size
      ·have d2:decide ((200:Int) < (zse.size:Int))=true:=decide_eq_true (by omega)
       go_wp2_with (first|(refine wpList_load_at rfl 34 (.tmp 97) rfl b (off + k * 10) zc rfl Tryz.underlying34 rfl hi34 HCE.out ?_)|(refine wpList_store_blk rfl 34 (.tmp 10) (.tmp 98) rfl wr.heap.size zc rfl rfl HZ3.out hi34 hz10.symm hz1 ?_;intro w9 ho9 hk9 hs9;obtain ⟨x4,x5,x6,x7,xl⟩:=HEY3.out w9 ho9))
       have hb9:Below wr.heap.size wr w9:=HBZ3.out.trans (hk9.below (B:=wr.heap.size) (fun i hi e=>by have e:i=wr.heap.size:=e;omega) HBZ3.out.size)
       go_ret
       exact ⟨true,rfl,fun e=>(by cases e),HBx.out.trans (hb9.mono HBx.out.size)⟩
      have d2:decide ((200:Int) < (zse.size:Int))=false:=decide_eq_false (by omega)
      by_cases e3:200 < zk.size
      ·have d3:decide ((200:Int) < (zk.size:Int))=true:=decide_eq_true (by omega)
       go_wp2_with (first|(refine wpList_load_at rfl 34 (.tmp 97) rfl b (off + k * 10) zc rfl Tryz.underlying34 rfl hi34 HCE.out ?_)|(refine wpList_store_blk rfl 34 (.tmp 10) (.tmp 98) rfl wr.heap.size zc rfl rfl HZ3.out hi34 hz10.symm hz1 ?_;intro w9 ho9 hk9 hs9;obtain ⟨x4,x5,x6,x7,xl⟩:=HEY3.out w9 ho9))
       have hb9:Below wr.heap.size wr w9:=HBZ3.out.trans (hk9.below (B:=wr.heap.size) (fun i hi e=>by have e:i=wr.heap.size:=e;omega) HBZ3.out.size)
       go_ret
       exact ⟨true,rfl,fun e=>(by cases e),HBx.out.trans (hb9.mono HBx.out.size)⟩
      have d3:decide ((200:Int) < (zk.size:Int))=false:=decide_eq_false (by omega)
      by_cases e4:300 < zv.size
      ·have d4:decide ((300:Int) < (zv.size:Int))=true:=decide_eq_true (by omega)
       go_wp2_with (first|(refine wpList_load_at rfl 34 (.tmp 97) rfl b (off + k * 10) zc rfl Tryz.underlying34 rfl hi34 HCE.out ?_)|(refine wpList_store_blk rfl 34 (.tmp 10) (.tmp 98) rfl wr.heap.size zc rfl rfl HZ3.out hi34 hz10.symm hz1 ?_;intro w9 ho9 hk9 hs9;obtain ⟨x4,x5,x6,x7,xl⟩:=HEY3.out w9 ho9))
       have hb9:Below wr.heap.size wr w9:=HBZ3.out.trans (hk9.below (B:=wr.heap.size) (fun i hi e=>by have e:i=wr.heap.size:=e;omega) HBZ3.out.size)
       go_ret
       exact ⟨true,rfl,fun e=>(by cases e),HBx.out.trans (hb9.mono HBx.out.size)⟩
      have d4:decide ((300:Int) < (zv.size:Int))=false:=decide_eq_false (by omega)
      go_wp2_with (first|(refine wpList_load_at rfl 34 (.tmp 97) rfl b (off + k * 10) zc rfl Tryz.underlying34 rfl hi34 HCE.out ?_)|(refine wpList_store_blk rfl 34 (.tmp 10) (.tmp 98) rfl wr.heap.size zc rfl rfl HZ3.out hi34 hz10.symm hz1 ?_;intro w9 ho9 hk9 hs9;obtain ⟨x4,x5,x6,x7,xl⟩:=HEY3.out w9 ho9))
      have hb9:Below wr.heap.size wr w9:=HBZ3.out.trans (hk9.below (B:=wr.heap.size) (fun i hi e=>by have e:i=wr.heap.size:=e;omega) HBZ3.out.size)
      go_roundw
      case rel=>exact ⟨k + 1,by go_num,by omega,HBy.out.trans (hb9.mono hsz)⟩
      case measure=>simp [intOf];omega
     ·obtain rfl:k=n1:=by omega
      have dk:decide ((k:Int) < (k:Int))=false:=by simp
      have HO3:=Lib.hid (HOw.out.below hb HOw.out.lt)
      have HE3:=Lib.hid (HEw.out.below (hb.mono HBW.out.size))
      have q10:wr.cell? ⟨o,10,none⟩=some (.slice A len cap):=HO3.out.cell 10
      have hol:=HO3.out.lt
      clear HOw HEw HRD HDP hb hkn
      go_wp2_with fail
      go_loopw [126,12] (fun i _ wx=>∃ j:Nat,i=.int .i64 j∧j≤len∧Below wr.heap.size wr wx) (fun i _ _=>len - (intOf i).toNat)
      case atStart=>exact ⟨0,rfl,by omega,Below.refl _ _⟩
      case round =>
       obtain ⟨j,rfl,hj,hb⟩:=hrel
       have HBy:=Lib.hid (HBx.out.trans (hb.mono HBx.out.size))
       have hsy:=hb.size
       by_cases hjn:j < len
       ·have dj:decide ((j:Int) < (len:Int))=true:=decide_eq_true (by omega)
        obtain ⟨b,off,rfl,hbb⟩:=HE3.out.at_some (by omega)
        have hjl:j < L.length:=by rw [HE3.out.1];exact hjn
        obtain ⟨hx0,hx1⟩:=(HE3.out.below (hb.mono HBx.out.size)).cell hjn (List.getElem?_eq_getElem hjl)
        generalize L[j]=y at *
        obtain ⟨u,m⟩:=y
        dsimp only at hx0 hx1
        have HBz:=Lib.hid hb
        clear hb
        by_cases e1:200 < u.size
        ·have d1:decide ((200:Int) < (u.size:Int))=true:=decide_eq_true (by omega)
         go_wp2_with fail
         go_ret
         exact ⟨true,rfl,fun e=>(by cases e),HBy.out.trans ((below_new _ _).mono HBy.out.size)⟩
        ·have d1:decide ((200:Int) < (u.size:Int))=false:=decide_eq_false (by omega)
         go_wp2_with fail
         go_roundw
         case rel=>exact ⟨j + 1,by go_num,by omega,HBz.out.trans ((below_new _ _).mono hsy)⟩
         case measure=>simp [intOf];omega
       ·obtain rfl:j=len:=by omega
        have dj:decide ((j:Int) < (j:Int))=false:=by simp
        have HO4:=Lib.hid (HO3.out.below hb hol)
        have q25:=HO4.out.cell 25
        have q32:=HO4.out.cell 32
        have q33:=HO4.out.cell 33
        have q34:=HO4.out.cell 34
        have q37:=HO4.out.cell 37
        have hol4:=HO4.out.lt
        simp [opM] at q25 q32 q33 q34 q37
        have h70:j≤70:=by omega
        clear hb HO3 HE3 q10
        go_wp2_with fail
        go_roundw
        case rel=>exact .inr ⟨by go_num,h70,HBy.out⟩
        case measure=>simp [intOf]
end Go.Proofs.YtlingaebpfdhgaaGreatDoor.regn
