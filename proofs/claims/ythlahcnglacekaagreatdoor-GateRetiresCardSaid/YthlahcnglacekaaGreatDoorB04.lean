/- Part of GateRetires. -/
import Derived.Test.YthlahcnglacekaaGreatDoorB01
import Derived.WalkLawsBesides
set_option maxRecDepth 100000
set_option maxHeartbeats 16000000
namespace Go.Proofs.YthlahcnglacekaaGreatDoor
namespace cmp
open Go.RowKit base
def cmpI (a b:Int):Int:=if a<b then -1 else if b<a then 1 else 0
def cmpS (a b:ByteArray):Int:=if Op.bytesLess a.toList b.toList then -1 else if a.toList==b.toList then 0 else 1
def or2 (a b:Int):Int:=if a=0 then b else a
theorem isNaN_int (a:Int) (w:World):Calls Tryz.prog 277 #[.int .i64 a] w fun e w'=>e=.returned (.bool false)∧w=w':=by
 go_enter Tryz.func277,Tryz.ntmps277;go_wp2;go_ret
 exact ⟨ret_bool (by simp),rfl⟩
theorem isNaN_string (a:ByteArray) (w:World):Calls Tryz.prog 231 #[.string a] w fun e w'=>e=.returned (.bool false)∧w=w':=by
 go_enter Tryz.func231,Tryz.ntmps231;go_wp2;go_ret
 exact ⟨ret_bool (by simp),rfl⟩
theorem compare_int (a b:Int) (w:World):Calls Tryz.prog 258 #[.int .i64 a,.int .i64 b] w fun e w'=>e=.returned (.int .i64 (cmpI a b))∧w=w':=by
 unfold cmpI
 rcases (by omega:a<b∨b<a∨a=b) with h|h|h
 ·go_enter Tryz.func258,Tryz.ntmps258
  go_wp2_with (first|(go_at_call 277;refine (isNaN_int _ _).mono ?_;rintro e w' ⟨rfl,rfl⟩))
  go_ret
  exact ⟨ret_int (by simp),rfl⟩
 ·have h':¬ a<b:=by omega
  go_enter Tryz.func258,Tryz.ntmps258
  go_wp2_with (first|(go_at_call 277;refine (isNaN_int _ _).mono ?_;rintro e w' ⟨rfl,rfl⟩))
  go_ret
  exact ⟨ret_int (by simp),rfl⟩
 ·subst h
  go_enter Tryz.func258,Tryz.ntmps258
  go_wp2_with (first|(go_at_call 277;refine (isNaN_int _ _).mono ?_;rintro e w' ⟨rfl,rfl⟩))
  go_ret
  exact ⟨ret_int (by simp),rfl⟩
theorem compare_string (a b:ByteArray) (w:World):Calls Tryz.prog 192 #[.string a,.string b] w fun e w'=>e=.returned (.int .i64 (cmpS a b))∧w=w':=by
 unfold cmpS
 cases h:Op.bytesLess a.toList b.toList with
 | true =>
  go_enter Tryz.func192,Tryz.ntmps192
  go_wp2_with (first|(go_at_call 231;refine (isNaN_string _ _).mono ?_;rintro e w' ⟨rfl,rfl⟩))
  go_ret
  exact ⟨ret_int (by simp),rfl⟩
 | false =>
  cases h2:a.toList==b.toList with
  | true =>
   go_enter Tryz.func192,Tryz.ntmps192
   go_wp2_with (first|(go_at_call 231;refine (isNaN_string _ _).mono ?_;rintro e w' ⟨rfl,rfl⟩))
   go_ret
   exact ⟨ret_int (by simp),rfl⟩
  | false =>
   go_enter Tryz.func192,Tryz.ntmps192
   go_wp2_with (first|(go_at_call 231;refine (isNaN_string _ _).mono ?_;rintro e w' ⟨rfl,rfl⟩))
   go_ret
   exact ⟨ret_int (by simp),rfl⟩
def firstNZ:List Int→Int
 | []=>0
 | z :: r=>if z=0 then firstNZ r else z
theorem firstNZ_two (a b:Int):firstNZ [a,b]=or2 a b:=by
 unfold or2 firstNZ;by_cases h:a=0
 ·simp only [h,if_true];unfold firstNZ;by_cases h2:b=0
  ·simp [h2,firstNZ]
  ·simp [h2]
 ·simp [h]
theorem firstNZ_drop (zs:List Int) (n:Nat) (h:n<zs.length):firstNZ (zs.drop n)=if zs.getD n 0=0 then firstNZ (zs.drop (n+1)) else zs.getD n 0:=by
 rw [List.drop_eq_getElem_cons h,List.getD_eq_getElem?_getD,List.getElem?_eq_getElem h];rfl
theorem or_any (A:Option Addr) (len cap:Nat) (zs:List Int) (w:World) (hl:zs.length=len) (hm:len≤1000000) (hr:Reads w w.heap.size 1 A len (zs.map (Value.int .i64))) :
  Calls Tryz.prog 191 #[.slice A len cap] w fun e w'=>e=.returned (.int .i64 (firstNZ zs))∧w=w':=by
 have Hl:=qH hl;clear hl;have Hr:=qH hr;clear hr;go_enter Tryz.func191,Tryz.ntmps191;go_wp2
 go_loop [5,8] (fun _ k=>∃ n:Nat,n≤len∧k=.int .i64 n∧firstNZ zs=firstNZ (zs.drop n)) (fun _ k=>len-(intOf k).toNat)
 case atStart=>exact ⟨0,by omega,rfl,rfl⟩
 case round =>
  obtain ⟨n,hn,rfl,hf⟩:=hrel
  by_cases hlt:n<len
  ·obtain ⟨b,off,rfl,hb,hc⟩:=Hr.out.2 (by omega)
   have hnl:n<zs.length:=by rw [Hl.out];exact hlt
   have hcell:w.cell? ⟨b,off+n,none⟩=some (.int .i64 (zs.getD n 0)):=Reads.int_at hc hnl;have hd:=firstNZ_drop zs n hnl;rw [hd] at hf;clear hc hd;generalize zs.getD n 0=z at hcell hf
   by_cases hz:z=0
   ·subst hz
    rw [if_pos rfl] at hf;have Hf:=qH hf;clear hf;go_wp2
    go_round
    case rel=>exact ⟨n+1,by omega,by go_num,Hf.out⟩
    case measure=>simp [intOf];omega
   ·rw [if_neg hz] at hf
    have Hf:=qH hf;clear hf;have hz':(z != 0)=true:=by simpa using hz
    go_wp2;go_ret
    exact ⟨ret_int Hf.out.symm,rfl⟩
  ·have hnl:n=len:=by omega
   rw [List.drop_eq_nil_of_le (by rw [Hl.out];omega)] at hf;have Hf:=qH hf;clear hf hnl;go_wp2;go_ret
   exact ⟨ret_int Hf.out.symm,rfl⟩
def cmpT (t1 r1 t2 r2:Int):Int:=or2 (cmpI t1 t2) (cmpI r1 r2)
theorem below_one (w:World) (o o':Obj):Below w.heap.size w ((w.alloc o).alloc o'):=((Below.refl _ _).alloc (Nat.le_refl _) _).alloc (by simp) _
theorem compare_stamp (t1 r1 t2 r2:Int) (w:World):Calls Tryz.prog 276 #[.agg #[.int .i64 t1,.int .i64 r1],.agg #[.int .i64 t2,.int .i64 r2]] w fun e w'=>e=.returned (.int .i64 (cmpT t1 r1 t2 r2))∧Below w.heap.size w w':=by
 go_enter Tryz.func276,Tryz.ntmps276;go_wp2_with fail;refine wp_region_mono nobody (by kernel_rfl) ?_
 iterate 8
  first|refine qT 0 (v:=?_) ?_ ?_|refine qT 1 (v:=?_) ?_ ?_|refine qT 2 (v:=?_) ?_ ?_|refine qT 3 (v:=?_) ?_ ?_|refine qT 5 (v:=?_) ?_ ?_|refine qT 6 (v:=?_) ?_ ?_|refine qT 7 (v:=?_) ?_ ?_|refine qT 8 (v:=?_) ?_ ?_
  rotate_left
  ·(intro W hSw;have hcW:=hSw.cells;go_simp;first|done|rfl)
  try simp only [qPA]
 refine wpMono_one' 4 (by kernel_rfl) rfl (by rfl) (fun K hK=>?_)
 go_simp
 refine (compare_int _ _ _).mono ?_;rintro e w1 ⟨rfl,rfl⟩;refine hK.out _ _ ?_ ?_
 ·exact Keeps.refl _ _
 clear hK K
 try simp only [qPA]
 refine wpMono_one' 9 (by kernel_rfl) rfl (by rfl) (fun K hK=>?_)
 go_simp
 refine (compare_int _ _ _).mono ?_;rintro e w1 ⟨rfl,rfl⟩;refine hK.out _ _ ?_ ?_
 ·exact Keeps.refl _ _
 clear hK K
 try simp only [qPA]
 refine wpMono_one' 10 (by kernel_rfl) rfl (by rfl) (fun K hK=>?_)
 go_simp
 refine hK.out _ _ ?_ ?_
 ·exact Keeps.alloc _
 clear hK K
 try simp only [qPA]
 refine wpMono_one' 11 (by kernel_rfl) rfl (by rfl) (fun K hK=>?_)
 go_simp
 refine (or_any _ 2 2 [cmpI t1 t2,cmpI r1 r2] _ rfl (by omega) (by exact Reads.newAtD _ _ _ _ (by simp) rfl)).mono ?_;rintro e w1 ⟨rfl,rfl⟩;refine hK.out _ _ ?_ ?_
 ·exact Keeps.refl _ _
 clear hK K
 try simp only [qPA]
 refine qT 12 (v:=?_) ?_ ?_;rotate_left
 ·(intro W hSw;have hcW:=hSw.cells;go_simp;first|done|rfl)
 try simp only [qPA]
 refine wpMono_done (by kernel_rfl) ?_ _;go_wp2;go_ret
 refine ⟨ret_int (firstNZ_two _ _),?_⟩;exact (((((Below.refl _ _).alloc (Nat.le_refl _) _).alloc (by simp) _)).alloc (by simp;omega) _).drew
theorem less_stamp (t1 r1 t2 r2:Int) (w:World):Calls Tryz.prog 257 #[.agg #[.int .i64 t1,.int .i64 r1],.agg #[.int .i64 t2,.int .i64 r2]] w fun e w'=>e=.returned (.bool (decide (cmpT t1 r1 t2 r2<0)))∧Below w.heap.size w w':=by
 go_enter Tryz.func257,Tryz.ntmps257
 go_wp2_with (first|(go_at_call 276;refine (compare_stamp _ _ _ _ _).mono ?_;rintro e w1 ⟨rfl,hb1⟩))
 go_ret
 exact ⟨rfl,(below_one w _ _).trans (hb1.mono (by simp;omega))⟩
def lessS (t1 r1 t2 r2:Int):Bool:=if t1=t2 then decide (r1<r2) else decide (t1<t2)
theorem lessS_eq (t1 r1 t2 r2:Int):decide (cmpT t1 r1 t2 r2<0)=lessS t1 r1 t2 r2:=by
 unfold cmpT or2 cmpI lessS
 rcases (by omega:t1<t2∨t2<t1∨t1=t2) with h|h|h
 ·have h1:¬ t1=t2:=by omega
  simp [h,h1]
 ·have h1:¬ t1=t2:=by omega
  have h2:¬ t1<t2:=by omega
  simp [h,h1,h2]
 ·subst h
  rcases (by omega:r1<r2∨r2<r1∨r1=r2) with h|h|h
  ·simp [h]
  ·have h2:¬ r1<r2:=by omega
   simp [h,h2]
  ·subst h;simp
end cmp
namespace above
open Go.RowKit base cmp
structure C where
 t:Int
 r:Int
 v:ByteArray
 g:Bool
 l:Int
def C.cells (c:C):List Value:=[.int .i64 c.t,.int .i64 c.r,.string c.v,.bool c.g,.int .i64 c.l]
def above (a b:C):Bool :=
 if a.t=b.t∧a.r=b.r then (if a.g=b.g then decide (0<or2 (cmpS a.v b.v) (cmpI a.l b.l)) else a.g) else lessS b.t b.r a.t a.r
theorem above_any (t1 r1:Int) (v1:ByteArray) (g1:Bool) (l1 t2 r2:Int) (v2:ByteArray) (g2:Bool) (l2:Int) (w:World) :
  Calls Tryz.prog 230 #[.agg #[.int .i64 t1,.int .i64 r1,.string v1,.bool g1,.int .i64 l1],.agg #[.int .i64 t2,.int .i64 r2,.string v2,.bool g2,.int .i64 l2]] w
   fun e w'=>e=.returned (.bool (above ⟨t1,r1,v1,g1,l1⟩ ⟨t2,r2,v2,g2,l2⟩))∧Below w.heap.size w w':=by
 by_cases ht:t1=t2∧r1=r2
 ·obtain ⟨rfl,rfl⟩:=ht
  unfold above
  by_cases hg:g1=g2
  ·subst hg
   go_enter Tryz.func230,Tryz.ntmps230;go_wp2_with fail;refine wp_region_mono nobody (by kernel_rfl) ?_
   iterate 8
    first|refine qT 0 (v:=?_) ?_ ?_|refine qT 1 (v:=?_) ?_ ?_|refine qT 2 (v:=?_) ?_ ?_|refine qT 3 (v:=?_) ?_ ?_|refine qT 5 (v:=?_) ?_ ?_|refine qT 6 (v:=?_) ?_ ?_|refine qT 7 (v:=?_) ?_ ?_|refine qT 8 (v:=?_) ?_ ?_
    rotate_left
    ·(intro W hSw;have hcW:=hSw.cells;go_simp;first|done|rfl)
    try simp only [qPA]
   refine wpMono_one' 4 (by kernel_rfl) rfl (by rfl) (fun K hK=>?_)
   go_simp
   refine (compare_string _ _ _).mono ?_;rintro e w1 ⟨rfl,rfl⟩;refine hK.out _ _ ?_ ?_
   ·exact Keeps.refl _ _
   clear hK K
   try simp only [qPA]
   refine wpMono_one' 9 (by kernel_rfl) rfl (by rfl) (fun K hK=>?_)
   go_simp
   refine (compare_int _ _ _).mono ?_;rintro e w1 ⟨rfl,rfl⟩;refine hK.out _ _ ?_ ?_
   ·exact Keeps.refl _ _
   clear hK K
   try simp only [qPA]
   refine wpMono_one' 10 (by kernel_rfl) rfl (by rfl) (fun K hK=>?_)
   go_simp
   refine hK.out _ _ ?_ ?_
   ·exact Keeps.alloc _
   clear hK K
   try simp only [qPA]
   refine wpMono_one' 11 (by kernel_rfl) rfl (by rfl) (fun K hK=>?_)
   go_simp
   refine (or_any _ 2 2 [cmpS v1 v2,cmpI l1 l2] _ rfl (by omega) (by exact Reads.newAtD _ _ _ _ (by simp) rfl)).mono ?_;rintro e w1 ⟨rfl,rfl⟩;refine hK.out _ _ ?_ ?_
   ·exact Keeps.refl _ _
   clear hK K
   try simp only [qPA]
   iterate 2
    first|refine qT 12 (v:=?_) ?_ ?_|refine qT 13 (v:=?_) ?_ ?_
    rotate_left
    ·(intro W hSw;have hcW:=hSw.cells;go_simp;first|done|rfl)
    try simp only [qPA]
   refine wpMono_done (by kernel_rfl) ?_ _;go_wp2;go_ret
   refine ⟨ret_bool ?_,(((((Below.refl _ _).alloc (Nat.le_refl _) _).alloc (by simp) _)).alloc (by simp;omega) _).drew⟩;show decide (0<firstNZ _)=_;rw [firstNZ_two]
  ·cases g1 <;> cases g2
   ·exact absurd rfl hg
   ·go_enter Tryz.func230,Tryz.ntmps230
    go_wp2;go_ret
    exact ⟨ret_bool (by simp),below_one w _ _⟩
   ·go_enter Tryz.func230,Tryz.ntmps230
    go_wp2;go_ret
    exact ⟨ret_bool (by simp),below_one w _ _⟩
   ·exact absurd rfl hg
 ·have hv:above ⟨t1,r1,v1,g1,l1⟩ ⟨t2,r2,v2,g2,l2⟩=lessS t2 r2 t1 r1:=by unfold above;rw [if_neg ht]
  have Hv:=qH hv;clear hv
  by_cases h1:t1=t2
  ·subst h1
   have h2:(r1==r2)=false:=by simpa using ht
   clear ht;go_enter Tryz.func230,Tryz.ntmps230
   go_wp2_with (first|(go_at_call 257;refine (less_stamp _ _ _ _ _).mono ?_;rintro e w1 ⟨rfl,hb1⟩))
   go_ret
   exact ⟨ret_bool (by rw [Hv.out];exact lessS_eq _ _ _ _),(below_one w _ _).trans (hb1.mono (by simp;omega))⟩
  ·have h2:(t1==t2)=false:=by simpa using h1
   clear ht h1;go_enter Tryz.func230,Tryz.ntmps230
   go_wp2_with (first|(go_at_call 257;refine (less_stamp _ _ _ _ _).mono ?_;rintro e w1 ⟨rfl,hb1⟩))
   go_ret
   exact ⟨ret_bool (by rw [Hv.out];exact lessS_eq _ _ _ _),(below_one w _ _).trans (hb1.mono (by simp;omega))⟩
theorem bytesLess_irrefl:∀ l:List UInt8,Op.bytesLess l l=false
 | []=>rfl
 | a :: l=>by simp [Op.bytesLess,bytesLess_irrefl l]
theorem cmpS_cases (a b:ByteArray):(Op.bytesLess a.toList b.toList=true∧cmpS a b=-1)∨(Op.bytesLess a.toList b.toList=false∧(a.toList==b.toList)=true∧cmpS a b=0)∨(Op.bytesLess a.toList b.toList=false∧(a.toList==b.toList)=false∧cmpS a b=1):=by
 unfold cmpS
 cases h:Op.bytesLess a.toList b.toList
 ·cases h2:a.toList==b.toList <;> simp
 ·simp
theorem visible_any (t r:Int) (v:ByteArray) (g:Bool) (l:Int) (w:World):Calls Tryz.prog 51 #[.agg #[.int .i64 t,.int .i64 r,.string v,.bool g,.int .i64 l]] w
   fun e w'=>e=.returned (.bool (decide (0<t)&&!g))∧Below w.heap.size w w':=by
 have hd:decide (0<t)=true∨decide (0<t)=false:=by cases decide (0<t) <;> simp
 rcases hd with hd|hd <;> cases g
 all_goals
  go_enter Tryz.func51,Tryz.ntmps51;go_wp2;go_ret
  exact ⟨ret_bool (by rw [hd];rfl),(Below.refl _ _).alloc (Nat.le_refl _) _⟩
end above
namespace merge
open Go.RowKit base cmp above
theorem C.len (c:C):c.cells.length=5:=rfl
theorem cells_at {w:World} {b off:Nat} {l:List C} (hc:∀ j,j<(l.flatMap C.cells).length→w.cell? ⟨b,off+j,none⟩=(l.flatMap C.cells)[j]?) {n:Nat} (hn:n<l.length) :
  w.cell? ⟨b,off+n*5,none⟩=some (.int .i64 l[n].t)∧w.cell? ⟨b,off+n*5+1,none⟩=some (.int .i64 l[n].r)∧w.cell? ⟨b,off+n*5+2,none⟩=some (.string l[n].v) ∧
  w.cell? ⟨b,off+n*5+3,none⟩=some (.bool l[n].g)∧w.cell? ⟨b,off+n*5+4,none⟩=some (.int .i64 l[n].l) :=
 ⟨Reads.row_at C.cells C.len hc hn 0 (by decide),Reads.row_at C.cells C.len hc hn 1 (by decide),Reads.row_at C.cells C.len hc hn 2 (by decide),Reads.row_at C.cells C.len hc hn 3 (by decide),Reads.row_at C.cells C.len hc hn 4 (by decide)⟩
def zeroC:C:=⟨0,0,⟨#[]⟩,false,0⟩
def mg (cs:List C):Nat→C
 | 0=>zeroC
 | n+1=>if n=0∨above (cs.getD n zeroC) (mg cs n)=true then cs.getD n zeroC else mg cs n
def cval (c:C):Value:=.agg #[.int .i64 c.t,.int .i64 c.r,.string c.v,.bool c.g,.int .i64 c.l]
theorem set5 {w:World} {g:Nat} {a0 a1 a2 a3 a4 b0 b1 b2 b3 b4:Value} {t:TypeId} (h:Blk w g t #[a0,a1,a2,a3,a4]) :
  Blk (((((w.setCell ⟨g,0,none⟩ b0).setCell ⟨g,1,none⟩ b1).setCell ⟨g,2,none⟩ b2).setCell ⟨g,3,none⟩ b3).setCell ⟨g,4,none⟩ b4) g t #[b0,b1,b2,b3,b4]:=by
 have:=((((h.set_ 0 b0).set_ 1 b1).set_ 2 b2).set_ 3 b3).set_ 4 b4
 simpa using this
theorem far5 {w:World} {g g':Nat} {cs:Array Value} {t:TypeId} (h:Blk w g t cs) (hne:g≠g') (b0 b1 b2 b3 b4:Value) :
  Blk (((((w.setCell ⟨g',0,none⟩ b0).setCell ⟨g',1,none⟩ b1).setCell ⟨g',2,none⟩ b2).setCell ⟨g',3,none⟩ b3).setCell ⟨g',4,none⟩ b4) g t cs :=
 ((((h.far (p:=⟨g',0,none⟩) hne b0).far (p:=⟨g',1,none⟩) hne b1).far (p:=⟨g',2,none⟩) hne b2).far (p:=⟨g',3,none⟩) hne b3).far (p:=⟨g',4,none⟩) hne b4
theorem below5 {B:Nat} {a w:World} {g':Nat} (h:Below B a w) (hB:B≤g') (b0 b1 b2 b3 b4:Value) :
  Below B a (((((w.setCell ⟨g',0,none⟩ b0).setCell ⟨g',1,none⟩ b1).setCell ⟨g',2,none⟩ b2).setCell ⟨g',3,none⟩ b3).setCell ⟨g',4,none⟩ b4) :=
 ((((h.setCell (p:=⟨g',0,none⟩) hB b0).setCell (p:=⟨g',1,none⟩) hB b1).setCell (p:=⟨g',2,none⟩) hB b2).setCell (p:=⟨g',3,none⟩) hB b3).setCell (p:=⟨g',4,none⟩) hB b4
theorem Blk.cells5 {w:World} {g:Nat} {a0 a1 a2 a3 a4:Value} {t:TypeId} (h:Blk w g t #[a0,a1,a2,a3,a4]) :
  w.cell? ⟨g,0,none⟩=some a0∧w.cell? ⟨g,1,none⟩=some a1∧w.cell? ⟨g,2,none⟩=some a2∧w.cell? ⟨g,3,none⟩=some a3∧w.cell? ⟨g,4,none⟩=some a4 :=
 ⟨h.cell 0,h.cell 1,h.cell 2,h.cell 3,h.cell 4⟩
theorem merge_any (A:Option Addr) (len cap:Nat) (cs:List C) (w:World) (hl:cs.length=len) (hm:len≤maxLen) (hr:Reads w w.heap.size 5 A len (cs.flatMap C.cells)) :
  Calls Tryz.prog 190 #[.slice A len cap] w fun e w'=>e=.returned (cval (mg cs len))∧Below w.heap.size w w':=by
 unfold maxLen at hm;have Hl:=qH hl;clear hl;have Hr:=qH hr;clear hr;go_enter Tryz.func190,Tryz.ntmps190;go_wp2
 go_loopw [4,5,8] (fun _ _ i wr=>∃ n:Nat,n≤len∧i=.int .i64 n∧Blk wr w.heap.size 130 #[.int .i64 0,.int .i64 0,.string ⟨#[]⟩,.bool false,.int .i64 0] ∧
  Blk wr (w.heap.size+1) 130 (mg cs n).cells.toArray∧Below w.heap.size w wr) (fun _ _ i _=>len-(intOf i).toNat)
 case atStart=>exact ⟨0,by omega,rfl,(Blk.new w 130 _).alloc _,Blk.newAt _ 130 _ (by simp),((Below.refl _ _).alloc (Nat.le_refl _) _).alloc (by simp) _⟩
 case round =>
  obtain ⟨n,hn,rfl,hres,hbest,hb⟩:=hrel;have hsz:w.heap.size+1<wr.heap.size:=hbest.lt
  by_cases hlt:n<len
  ·obtain ⟨b,off,rfl,hblt,hc⟩:=(Hr.out.below hb).2 (by omega)
   have hnc:n<cs.length:=by rw [Hl.out];exact hlt
   obtain ⟨c0,c1,c2,c3,c4⟩:=cells_at hc hnc
   have hmg:mg cs (n+1)=if n=0∨above cs[n] (mg cs n)=true then cs[n] else mg cs n:=by
    show (if n=0∨above (cs.getD n zeroC) (mg cs n)=true then cs.getD n zeroC else mg cs n)=_;rw [List.getD_eq_getElem?_getD,List.getElem?_eq_getElem hnc];rfl
   generalize cs[n]=c at *;obtain ⟨t,r,v,g,l⟩:=c;dsimp only at c0 c1 c2 c3 c4;generalize mg cs n=best at *;obtain ⟨bt,br,bv,bg,bl⟩:=best;obtain ⟨k0,k1,k2,k3,k4⟩:=Blk.cells5 hbest;have f0:=hbest.frozen 0;have f1:=hbest.frozen 1;have f2:=hbest.frozen 2;have f3:=hbest.frozen 3;have f4:=hbest.frozen 4;have Hres:=qH hres;clear hres;have Hbest:=qH hbest;clear hbest;have Hb:=qH hb;clear hb hc
   by_cases hn0:n=0
   ·rw [if_pos (.inl hn0)] at hmg
    have Hmg:=qH hmg;clear hmg;have h0:((n:Int)==0)=true:=by simp [hn0]
    have Hn0:=qH hn0;clear hn0;go_wp2;go_roundw
    case rel=>exact ⟨n+1,by omega,by go_num,(far5 Hres.out (by omega) _ _ _ _ _).alloc _,by rw [Hmg.out];exact (set5 Hbest.out).alloc _,(below5 Hb.out (by omega) _ _ _ _ _).alloc (by simp;omega) _⟩
    case measure=>simp [intOf];omega
   ·have h0:((n:Int)==0)=false:=by simp [hn0]
    clear f0 f1 f2 f3 f4
    by_cases hab:above ⟨t,r,v,g,l⟩ ⟨bt,br,bv,bg,bl⟩=true
    ·rw [if_pos (.inr hab)] at hmg
     have Hmg:=qH hmg;clear hmg hn0;have Hab:=qH hab;clear hab;go_wp2_with fail;refine (above_any t r v g l bt br bv bg bl _).mono ?_;rintro e w1 ⟨rfl,hb1⟩;rw [Hab.out];have hz1:=hb1.size;simp at hz1
     have hbest1:=(Hbest.out.alloc (.cells #[.int .i64 t,.int .i64 r,.string v,.bool g,.int .i64 l] 130)).below hb1 (by simp;omega);have Hres1:=qH ((Hres.out.alloc (.cells #[.int .i64 t,.int .i64 r,.string v,.bool g,.int .i64 l] 130)).below hb1 (by simp;omega));have Hb1:=qH ((Hb.out.alloc (by omega) (.cells #[.int .i64 t,.int .i64 r,.string v,.bool g,.int .i64 l] 130)).trans (hb1.mono (by simp;omega)));have e0:=hb1.cell (p:=⟨wr.heap.size,0,none⟩) (by simp);have e1:=hb1.cell (p:=⟨wr.heap.size,1,none⟩) (by simp);have e2:=hb1.cell (p:=⟨wr.heap.size,2,none⟩) (by simp);have e3:=hb1.cell (p:=⟨wr.heap.size,3,none⟩) (by simp);have e4:=hb1.cell (p:=⟨wr.heap.size,4,none⟩) (by simp);rw [cell_new] at e0 e1 e2 e3 e4;have f0:=hbest1.frozen 0;have f1:=hbest1.frozen 1;have f2:=hbest1.frozen 2;have f3:=hbest1.frozen 3;have f4:=hbest1.frozen 4;obtain ⟨m0,m1,m2,m3,m4⟩:=Blk.cells5 hbest1;have Hbest1:=qH hbest1;clear hbest1 hb1;go_wp2;go_roundw
     case rel=>exact ⟨n+1,by omega,by go_num,far5 Hres1.out (by omega) _ _ _ _ _,by rw [Hmg.out];exact set5 Hbest1.out,below5 Hb1.out (by omega) _ _ _ _ _⟩
     case measure=>simp [intOf];omega
    ·have hab:above ⟨t,r,v,g,l⟩ ⟨bt,br,bv,bg,bl⟩=false:=by simpa using hab
     rw [if_neg (by rw [hab];simp [hn0])] at hmg;have Hmg:=qH hmg;clear hmg hn0;have Hab:=qH hab;clear hab;go_wp2_with fail;refine (above_any t r v g l bt br bv bg bl _).mono ?_;rintro e w1 ⟨rfl,hb1⟩;rw [Hab.out];have hz1:=hb1.size;simp at hz1
     have Hbest1:=qH ((Hbest.out.alloc (.cells #[.int .i64 t,.int .i64 r,.string v,.bool g,.int .i64 l] 130)).below hb1 (by simp;omega));have Hres1:=qH ((Hres.out.alloc (.cells #[.int .i64 t,.int .i64 r,.string v,.bool g,.int .i64 l] 130)).below hb1 (by simp;omega));have Hb1:=qH ((Hb.out.alloc (by omega) (.cells #[.int .i64 t,.int .i64 r,.string v,.bool g,.int .i64 l] 130)).trans (hb1.mono (by simp;omega)));clear hb1;go_wp2;go_roundw
     case rel=>exact ⟨n+1,by omega,by go_num,Hres1.out,by rw [Hmg.out];exact Hbest1.out,Hb1.out⟩
     case measure=>simp [intOf];omega
  ·obtain rfl:n=len:=by omega
   generalize hbe:mg cs n=best at *;have Hbe:=qH hbe;clear hbe;obtain ⟨bt,br,bv,bg,bl⟩:=best;obtain ⟨k0,k1,k2,k3,k4⟩:=Blk.cells5 hbest;obtain ⟨j0,j1,j2,j3,j4⟩:=Blk.cells5 hres;have f0:=hres.frozen 0;have f1:=hres.frozen 1;have f2:=hres.frozen 2;have f3:=hres.frozen 3;have f4:=hres.frozen 4;have Hres:=qH hres;clear hres;have Hb:=qH hb;clear hb hbest;go_wp2;obtain ⟨q0,q1,q2,q3,q4⟩:=Blk.cells5 (set5 (b0:=.int .i64 bt) (b1:=.int .i64 br) (b2:=.string bv) (b3:=.bool bg) (b4:=.int .i64 bl) Hres.out);refine bodyPost_ret (v:=.agg #[.int .i64 bt,.int .i64 br,.string bv,.bool bg,.int .i64 bl]) (by simp [results,Tryz.results190,go_sem,q0,q1,q2,q3,q4]) rfl ⟨by rw [Hbe.out];rfl,below5 Hb.out (Nat.le_refl _) _ _ _ _ _⟩
abbrev wcells (rg nm t r:Int) (A:Option Addr) (n c:Nat) (ss ky v:ByteArray) (g:Bool) (l:Int):Array Value :=
 #[.int .i64 rg,.int .i64 nm,.int .i64 t,.int .i64 r,.slice A n c,.string ss,.string ky,.string v,.bool g,.int .i64 l]
theorem of_any (rg nm t r:Int) (A:Option Addr) (n c:Nat) (ss ky v:ByteArray) (g:Bool) (l:Int) (w:World) :
  Calls Tryz.prog 189 #[.agg (wcells rg nm t r A n c ss ky v g l)] w fun e w'=>e=.returned (.agg #[.int .i64 t,.int .i64 r,.string v,.bool g,.int .i64 l])∧Below w.heap.size w w':=by
 go_enter Tryz.func189,Tryz.ntmps189;go_wp2;exact bodyPost_ret (v:=.agg #[.int .i64 t,.int .i64 r,.string v,.bool g,.int .i64 l]) (by simp [results,Tryz.results189,go_sem]) rfl ⟨rfl,below_one w _ _⟩
end merge
namespace law
open cmp above merge
theorem bytesLess_tri:∀ a b:List UInt8,(a=b∧Op.bytesLess a b=false∧Op.bytesLess b a=false)∨(a≠b∧Op.bytesLess a b=true∧Op.bytesLess b a=false)∨(a≠b∧Op.bytesLess a b=false∧Op.bytesLess b a=true)
 | [],[]=>.inl ⟨rfl,rfl,rfl⟩
 | [],b :: y=>.inr (.inl ⟨by simp,rfl,rfl⟩)
 | a :: x,[]=>.inr (.inr ⟨by simp,rfl,rfl⟩)
 | a :: x,b :: y=>by
  have ih:=bytesLess_tri x y;simp only [Op.bytesLess,List.cons.injEq,ne_eq]
  by_cases h:a=b
  ·subst h
   have hl:decide (a<a)=false:=by simp
   simp only [hl,Bool.false_or,beq_self_eq_true,Bool.true_and,true_and];exact ih
  ·have h1:(a==b)=false:=by simpa using h
   have h2:(b==a)=false:=by simpa using fun e:b=a=>h e.symm
   simp only [h1,h2,h,Bool.false_and,Bool.or_false,false_and,not_false_eq_true,true_and,false_or]
   rcases Nat.lt_trichotomy a.toNat b.toNat with hl|hl|hl
   ·left;simp [UInt8.lt_iff_toNat_lt];omega
   ·exact absurd (UInt8.toNat_inj.1 hl) h
   ·right;simp [UInt8.lt_iff_toNat_lt];omega
theorem bytesLess_trans:∀ a b c:List UInt8,Op.bytesLess a b=true→Op.bytesLess b c=true→Op.bytesLess a c=true
 | _,[],_,h,_=>by simp [Op.bytesLess] at h
 | _,_ :: _,[],_,h=>by simp [Op.bytesLess] at h
 | [],_ :: _,_ :: _,_,_=>rfl
 | a :: x,b :: y,c :: z,h1,h2=>by
  have ih:=bytesLess_trans x y z;simp only [Op.bytesLess,Bool.or_eq_true,decide_eq_true_eq,Bool.and_eq_true,beq_iff_eq,UInt8.lt_iff_toNat_lt] at h1 h2 ⊢
  rcases h1 with h1|⟨e1,h1⟩ <;> rcases h2 with h2|⟨e2,h2⟩
  ·left;omega
  ·left;subst e2;exact h1
  ·left;subst e1;exact h2
  ·right;exact ⟨e1.trans e2,ih h1 h2⟩
def Ab (a b:C):Prop:=b.t<a.t∨(a.t=b.t∧(b.r<a.r∨(a.r=b.r∧((a.g=true∧b.g=false)∨(a.g=b.g∧(Op.bytesLess b.v.toList a.v.toList=true∨(a.v.toList=b.v.toList∧b.l<a.l)))))))
theorem above_iff (a b:C):above a b=true↔Ab a b:=by
 unfold above Ab
 by_cases h1:a.t=b.t
 ·by_cases h2:a.r=b.r
  ·by_cases h4:a.g=b.g
   ·have key:∀ x y:Int,(x=y→cmpI x y=0)∧(x<y→cmpI x y=-1)∧(y<x→cmpI x y=1):=by
     intro x y;unfold cmpI;refine ⟨?_,?_,?_⟩ <;> intro h <;> (repeat' split) <;> omega
    rcases bytesLess_tri a.v.toList b.v.toList with ⟨e,l1,l2⟩|⟨e,l1,l2⟩|⟨e,l1,l2⟩
    ·have s1:cmpS a.v b.v=0:=by unfold cmpS;rw [l1,e];simp
     rcases (by omega:a.l=b.l∨a.l<b.l∨b.l<a.l) with h5|h5|h5
     ·simp [h1,h2,h4,h5,s1,or2,l2,(key b.l b.l).1 rfl]
     ·simp [h1,h2,h4,s1,or2,l2,(key a.l b.l).2.1 h5];omega
     ·simp [h1,h2,h4,s1,or2,l2,(key a.l b.l).2.2 h5];exact ⟨e,h5⟩
    ·have s1:cmpS a.v b.v=-1:=by unfold cmpS;rw [l1];simp
     simp [h1,h2,h4,s1,or2,l2,e]
    ·have s1:cmpS a.v b.v=1:=by unfold cmpS;rw [l1];simp [e]
     simp [h1,h2,h4,s1,or2,l2]
   ·simp only [h1,h2,h4,and_self,if_true,if_false,false_and,or_false,Int.lt_irrefl,false_or,true_and]
    revert h4;cases a.g <;> cases b.g <;> simp
  ·have h2':¬ b.r=a.r:=fun e=>h2 e.symm
   simp [h1,h2,lessS]
 ·have h1':¬ b.t=a.t:=fun e=>h1 e.symm
  simp [h1,h1',lessS]
theorem C.ext' {a b:C} (h1:a.t=b.t) (h2:a.r=b.r) (h3:a.v.toList=b.v.toList) (h4:a.g=b.g) (h5:a.l=b.l):a=b:=by
 obtain ⟨t,r,v,g,l⟩:=a;obtain ⟨t',r',v',g',l'⟩:=b;dsimp only at *;have:v=v':=Go.WideShapes.bytes_inj (by rw [←ByteArray.toList_eq,←ByteArray.toList_eq];exact h3);subst h1 h2 this h4 h5;rfl
theorem above_irrefl (a:C):above a a=false:=by
 rw [Bool.eq_false_iff,ne_eq,above_iff];unfold Ab;have:=bytesLess_irrefl a.v.toList;rintro (h|⟨_,h|⟨_,⟨h1,h2⟩|⟨_,h|⟨_,h⟩⟩⟩⟩)
 ·omega
 ·omega
 ·rw [h1] at h2;cases h2
 ·rw [this] at h;cases h
 ·omega
end law
end Go.Proofs.YthlahcnglacekaaGreatDoor
