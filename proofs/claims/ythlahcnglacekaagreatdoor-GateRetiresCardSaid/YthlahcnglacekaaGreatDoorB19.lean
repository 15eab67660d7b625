/- Part of GateRetires. -/
import Derived.Test.YthlahcnglacekaaGreatDoorB25
import Derived.DeepKeys4
import Derived.Test.YthlahcnglacekaaGreatDoorB17
import Derived.Test.YthlahcnglacekaaGreatDoorB04
set_option maxRecDepth 100000
set_option maxHeartbeats 16000000
namespace Go.Proofs.YthlahcnglacekaaGreatDoor
namespace store
open Go Go.RowKit base map_ err cmp above merge rows Go.Maps
def nameV (x:Nm):Value:=.agg #[.string x.1,.string x.2]
theorem nameCells:Tryz.prog.cellsOf 256=2:=by kernel_rfl
theorem laidOut:laidOutB Tryz.prog=true:=by kernel_rfl
theorem name_law:WideMaps.KeyLaw Tryz.prog 256:=deep_law_laid laidOut (m:=2) (by omega) (by decide +kernel) (by kernel_rfl) (by kernel_rfl)
def okName (x:Nm):Prop:=x.1.size≤maxLen∧x.2.size≤maxLen
theorem name_key (x:Nm) (h:okName x):∃ l,keyOf Tryz.prog 256 (nameV x)=some l:=by
 obtain ⟨a,b⟩:=x;obtain ⟨h1,h2⟩:=h;simp only at h1 h2;have hk:Tryz.prog.keyType 256=true:=by kernel_rfl
 have e3:Tryz.prog.cellsOf 9=1:=by kernel_rfl
 have hl:∀ d,Tryz.prog.keyLits (d+2) 256 [.string a,.string b]=some [.string a.data.toList,.string b.data.toList]:=fun d=>by
  simp [Program.keyLits,Tryz.underlying256,Tryz.underlying9,nameCells,e3,h1,h2]
 have hpos:0<Tryz.prog.types.size:=by decide +kernel
 have hsz:∃ d,Tryz.prog.types.size+1=d+2:=⟨Tryz.prog.types.size-1,by omega⟩;obtain ⟨d,hd⟩:=hsz;unfold nameV keyOf;simp only [Tryz.underlying256];rw [hk,hd];simp [Value.formed,Tryz.underlying256,nameCells,Value.cells,hl]
def nameE:Emb Tryz.prog 256 Nm where
 en:=nameV
 inj:=fun {x y} h=>by
  obtain ⟨a,b⟩:=x;obtain ⟨c,d⟩:=y;simp [nameV] at h
  simp [h]
 ok:=okName
 key:=name_key
theorem keyed:Keyed Tryz.prog 256:=Keyed.of_law name_law
theorem zero_cell (w:World):(zeroValue 130).run Tryz.prog w=.ok (cval zeroC) w:=by kernel_rfl
abbrev mapT:TypeId:=252
structure StI (w:World) (g bm:Nat) (L:List R):Prop where
 blk:Blk w g 254 #[.map (some bm)]
 map:∃ m,MapM nameE w bm m∧∀ x,getM m x=(getL L x).map cval
 up:Rising L
section
variable {X:Nat→Prop} {w w':World} {g bm:Nat} {L:List R}
theorem StI.keeps (h:StI w g bm L) (hk:Keeps X w w') (h1:¬ X g) (h2:¬ X bm):StI w' g bm L :=
 ⟨h.blk.keeps hk h1,by obtain ⟨m,hm,he⟩:=h.map;exact ⟨m,hm.keeps hk h2,he⟩,h.up⟩
theorem StI.below (h:StI w g bm L) (hb:Below w.heap.size w w'):StI w' g bm L:=h.keeps (X:=nobody) (.of_below hb) (fun h=>h) (fun h=>h)
theorem StI.ne (h:StI w g bm L):g≠bm:=by obtain ⟨m,hm,_⟩:=h.map;exact hm.not_blk h.blk
theorem StI.lt (h:StI w g bm L):g<w.heap.size:=h.blk.lt
theorem StI.ltm (h:StI w g bm L):bm<w.heap.size:=by obtain ⟨m,hm,_⟩:=h.map;exact hm.lt
def atL (L:List R) (x:Nm):C:=(getL L x).getD zeroC
theorem getD_at (L:List R) (x:Nm):((getL L x).map cval).getD (cval zeroC)=cval (atL L x):=by
 unfold atL
 cases getL L x <;> rfl
theorem StI.look (h:StI w g bm L) {x:Nm} (hx:okName x):(Instr.lookup mapT (.map (some bm)) (nameV x) false).run Tryz.prog w=.ok (cval (atL L x)) w:=by
 obtain ⟨m,hm,he⟩:=h.map;have:=hm.look keyed Tryz.underlying252 (zero_cell w) (x:=x) hx;rw [he,getD_at] at this;exact this
theorem StI.look_ok (h:StI w g bm L) {x:Nm} (hx:okName x):(Instr.lookup mapT (.map (some bm)) (nameV x) true).run Tryz.prog w=.ok (.tuple #[cval (atL L x),.bool (getL L x).isSome]) w:=by
 obtain ⟨m,hm,he⟩:=h.map;have:=hm.look_ok keyed Tryz.underlying252 (zero_cell w) (x:=x) hx;rw [he,getD_at] at this;rw [show (getL L x).isSome=((getL L x).map cval).isSome by cases getL L x <;> rfl];exact this
theorem StI.put (h:StI w g bm L) {x:Nm} (hx:okName x) (c:C) :
  ∃ w',(Instr.mapUpdate mapT (.map (some bm)) (nameV x) (cval c)).run Tryz.prog w=.ok () w'∧StI w' g bm (putL L x c)∧Keeps (· = bm) w w':=by
 obtain ⟨m,hm,he⟩:=h.map;obtain ⟨w',h1,h2,h3⟩:=hm.put keyed Tryz.underlying252 (x:=x) hx (cval c);refine ⟨w',h1,⟨h.blk.keeps h3 h.ne,⟨_,h2,fun y=>?_⟩,rising_put h.up x c⟩,h3⟩;rw [get_put,getL_put L h.up,he]
 by_cases e:y=x
 ·rw [if_pos e,if_pos e];rfl
 ·rw [if_neg e,if_neg e]
end
theorem new_any (w:World):Calls Tryz.prog 147 #[] w fun e w'=>e=.returned (.pointer (some ⟨(w.heap.size+1),0,none⟩))∧StI w' (w.heap.size+1) w.heap.size []∧Below w.heap.size w w':=by
 have hmm:=@run_makeMap Tryz.prog
 have hN:StI ((w.alloc (.map #[] 0)).alloc (.cells #[.map (some w.heap.size)] 254)) (w.heap.size+1) w.heap.size [] :=
  ⟨Blk.newAt _ _ _ (by simp),⟨[],(MapM.new nameE w).below (below_new _ _),fun _=>rfl⟩,rising_nil⟩
 have hb:=below_alloc (below_new w (.map #[] 0)) (.cells #[.map (some w.heap.size)] 254);have HN:=qH hN;have Hb:=qH hb;clear hN hb;go_enter Tryz.func147,Tryz.ntmps147;go_wp2;go_ret
 exact ⟨rfl,HN.out,Hb.out⟩
end store
namespace cmp
open Go.RowKit base wire
def cmpW (x y:Wr):Int:=or2 (cmpI x.r y.r) (cmpI x.n y.n)
end cmp
namespace cmp
open Go Go.RowKit base rowe wire
def wrZ:Wr:=⟨0,0,0,0,.slice none 0 0,[],⟨#[]⟩,⟨#[]⟩,⟨#[]⟩,false,0⟩
def Part (L:List Wr) (x:Wr):Prop:=∀ j k,j≤k→k<L.length→cmpW (L.getD k (wrZ)) x<0→cmpW (L.getD j wrZ) x<0
end cmp
namespace store
open Go Go.RowKit base map_ err cmp above merge rows Go.Maps monoj
theorem head_any (g bm:Nat) (L:List R) (s:ByteArray) (w:World) (h:StI w g bm L) (hs:s.size≤maxLen) :
  Calls Tryz.prog 112 #[.pointer (some ⟨g,0,none⟩),.string s] w fun e w'=>e=.returned (cval (atL L (s,⟨#[]⟩)))∧Below w.heap.size w w':=by
 have hlk:=(h.below (below_new w (.cells #[.int .i64 0,.int .i64 0,.string ⟨#[]⟩,.bool false,.int .i64 0] 130))).look (x:=(s,⟨#[]⟩)) ⟨hs,Nat.zero_le _⟩;have hm0:(w.alloc (.cells #[.int .i64 0,.int .i64 0,.string ⟨#[]⟩,.bool false,.int .i64 0] 130)).cell? ⟨g,0,none⟩=some (.map (some bm)):=(h.blk.below (below_new _ _) h.blk.lt).cell 0;have hgl:=(h.blk.below (below_new w (.cells #[.int .i64 0,.int .i64 0,.string ⟨#[]⟩,.bool false,.int .i64 0] 130)) h.blk.lt).lt;generalize atL L (s,⟨#[]⟩)=c at hlk ⊢;obtain ⟨t,r,v,gn,l⟩:=c;unfold cval at *;dsimp only at hlk;unfold nameV at hlk;dsimp only at hlk;clear h;go_enter Tryz.func112,Tryz.ntmps112;go_wp2;exact bodyPost_ret (v:=.agg #[.int .i64 t,.int .i64 r,.string v,.bool gn,.int .i64 l]) (by simp [results,Tryz.results112,go_sem]) rfl ⟨rfl,below_new _ _⟩
theorem bad_any (n c:Int) (w:World):Calls Tryz.prog 149 #[.int .i64 n,.int .i64 c] w (ErrNew c w):=by
 go_enter Tryz.func149,Tryz.ntmps149;go_wp2_with fail;refine (err.at_any _ _ _ _).mono ?_;rintro e w1 ⟨v,rfl,h1,h2,h3,h4⟩;go_wp2_with fail;go_ret
 exact ⟨v,rfl,h1,h2,h3,h4⟩
def visC (c:C):Bool:=decide (0<c.t)&&!c.g
def getC (k:ByteArray) (ch cd:C):Int:=if k.toList.isEmpty=true then 1 else if visC ch=false then 14 else if visC cd=false then 7 else 0
def GetK (c:Int) (cd:C) (w:World) (e:Ending) (w':World):Prop:=∃ er,e=.returned (.tuple #[.string (if c=0 then cd.v else ⟨#[]⟩),er])∧EO w' er c∧Below w.heap.size w w'
def GetR (k:ByteArray) (ch cd:C) (w:World) (e:Ending) (w':World):Prop:=GetK (getC k ch cd) cd w e w'
theorem get_any (g bm:Nat) (L:List R) (s k:ByteArray) (w:World) (h:StI w g bm L) (hs:s.size≤maxLen) (hk:k.size≤maxLen) (ch cd:C) (hc:atL L (s,⟨#[]⟩)=ch) (hd:atL L (s,k)=cd) :
  Calls Tryz.prog 167 #[.pointer (some ⟨g,0,none⟩),.string s,.string k] w (fun e w'=>GetR k ch cd w e w'):=by
 have H:=qH h;clear h
 cases hke:k.toList.isEmpty with
 | true =>
  have hg:getC k ch cd=1:=by unfold getC;rw [if_pos hke]
  go_enter Tryz.func167,Tryz.ntmps167;go_wp2_with fail;refine (bad_any _ _ _).mono ?_;rintro e w1 ⟨v,rfl,h1,h2,h3,_⟩;obtain ⟨ge,rfl⟩:=h1.form;have HR:=qH (show GetR k ch cd w (.returned (.tuple #[.string ⟨#[]⟩,.iface 121 (.pointer (some ⟨ge,0,none⟩))])) w1 by unfold GetR;rw [hg];exact ⟨_,rfl,.inr ⟨by decide,h1,h2⟩,h3⟩);clear h1 h2 h3;go_wp2;exact bodyPost_ret (v:=.tuple #[.string ⟨#[]⟩,.iface 121 (.pointer (some ⟨ge,0,none⟩))]) (by simp [results,Tryz.results167,go_sem]) rfl HR.out
 | false =>
 obtain ⟨t,r,v,gn,l⟩:=ch;go_enter Tryz.func167,Tryz.ntmps167;go_wp2_with fail;refine (head_any g bm L s w H.out hs).mono ?_;rintro e w1 ⟨rfl,hb1⟩;rw [hc];have HB1:=qH hb1;have H1:=qH (H.out.below hb1);clear hb1 H;unfold cval;dsimp only;go_wp2_with fail;refine (visible_any t r v gn l w1).mono ?_;rintro e w2 ⟨rfl,hb2⟩;have HB2:=qH (below_step HB1.out hb2);have H2:=qH (H1.out.below hb2);clear hb2 HB1 H1
 cases hv:(decide (0<t)&&!gn) with
 | false =>
  have hg:getC k ⟨t,r,v,gn,l⟩ cd=14:=by unfold getC visC;rw [if_neg (by rw [hke];decide),if_pos hv]
  go_wp2_with fail;refine (bad_any _ _ _).mono ?_;rintro e w3 ⟨v3,rfl,h1,h2,h3,_⟩;obtain ⟨ge,rfl⟩:=h1.form;have HR:=qH (show GetR k ⟨t,r,v,gn,l⟩ cd w (.returned (.tuple #[.string ⟨#[]⟩,.iface 121 (.pointer (some ⟨ge,0,none⟩))])) w3 by unfold GetR;rw [hg];exact ⟨_,rfl,.inr ⟨by decide,h1,h2⟩,below_step HB2.out h3⟩);clear h1 h2 h3;go_wp2;exact bodyPost_ret (v:=.tuple #[.string ⟨#[]⟩,.iface 121 (.pointer (some ⟨ge,0,none⟩))]) (by simp [results,Tryz.results167,go_sem]) rfl HR.out
 | true =>
  have hlk:=H2.out.look (x:=(s,k)) ⟨hs,hk⟩;rw [hd] at hlk;have hg0:w2.cell? ⟨g,0,none⟩=some (.map (some bm)):=H2.out.blk.cell 0;have hgl:=H2.out.blk.lt;have hgc:getC k ⟨t,r,v,gn,l⟩ cd=if visC cd=false then 7 else 0:=by unfold getC;rw [if_neg (by rw [hke];decide),if_neg (by unfold visC;rw [hv];decide)]
  obtain ⟨t2,r2,v2,gn2,l2⟩:=cd;unfold cval nameV at hlk;dsimp only at hlk;have HGC:=qH hgc;clear hc hd hgc;go_wp2_with fail;refine (visible_any t2 r2 v2 gn2 l2 _).mono ?_;rintro e w3 ⟨rfl,hb3⟩;have hb23:=(below_new w2 (.cells #[.int .i64 t2,.int .i64 r2,.string v2,.bool gn2,.int .i64 l2] 130));have HB3:=qH (below_step (below_step HB2.out hb23) hb3);have q1:w3.cell? ⟨w2.heap.size,2,none⟩=some (.string v2):=((Blk.new w2 130 #[.int .i64 t2,.int .i64 r2,.string v2,.bool gn2,.int .i64 l2]).below hb3 (by simp)).cell 2;have ql:=((Blk.new w2 130 #[.int .i64 t2,.int .i64 r2,.string v2,.bool gn2,.int .i64 l2]).below hb3 (by simp)).lt;clear hb3 hb23 hlk hg0 hgl HB2 H2
  cases hv2:(decide (0<t2)&&!gn2) with
  | false =>
   have hg:getC k ⟨t,r,v,gn,l⟩ ⟨t2,r2,v2,gn2,l2⟩=7:=by rw [HGC.out,if_pos (by unfold visC;exact hv2)]
   go_wp2_with fail;refine (bad_any _ _ _).mono ?_;rintro e w4 ⟨v3,rfl,h1,h2,h3,_⟩;obtain ⟨ge,rfl⟩:=h1.form;have HR:=qH (show GetR k ⟨t,r,v,gn,l⟩ ⟨t2,r2,v2,gn2,l2⟩ w (.returned (.tuple #[.string ⟨#[]⟩,.iface 121 (.pointer (some ⟨ge,0,none⟩))])) w4 by unfold GetR;rw [hg];exact ⟨_,rfl,.inr ⟨by decide,h1,h2⟩,below_step HB3.out h3⟩);clear h1 h2 h3;go_wp2;exact bodyPost_ret (v:=.tuple #[.string ⟨#[]⟩,.iface 121 (.pointer (some ⟨ge,0,none⟩))]) (by simp [results,Tryz.results167,go_sem]) rfl HR.out
  | true =>
   have hg:getC k ⟨t,r,v,gn,l⟩ ⟨t2,r2,v2,gn2,l2⟩=0:=by rw [HGC.out,if_neg (by unfold visC;rw [hv2];decide)]
   have HR:=qH (show GetR k ⟨t,r,v,gn,l⟩ ⟨t2,r2,v2,gn2,l2⟩ w (.returned (.tuple #[.string v2,.nilIface])) w3 by unfold GetR;rw [hg];exact ⟨_,rfl,.inl ⟨rfl,rfl⟩,HB3.out⟩);go_wp2;exact bodyPost_ret (v:=.tuple #[.string v2,.nilIface]) (by simp [results,Tryz.results167,go_sem]) rfl HR.out
end store
namespace store
open Go Go.RowKit base map_ err cmp above law merge rows rowe Go.Maps monoj
def cellEq (a b:C):Bool:=(a.t==b.t&&a.r==b.r)&&(a.v.toList==b.v.toList&&(a.g==b.g&&a.l==b.l))
theorem eql_cell (a b:C) (w:World):(binOp .eql 130 (cval a) (cval b)).run Tryz.prog w=.ok (.bool (cellEq a b)) w:=by
 have u1:=Tryz.underlying130;have u2:=Tryz.underlying128;obtain ⟨t,r,v,g,l⟩:=a;obtain ⟨t',r',v',g',l'⟩:=b;unfold cval cellEq;dsimp only
 cases h1:(t==t') <;> cases h2:(r==r') <;> cases h3:(v.toList==v'.toList) <;> cases h4:(g==g') <;> cases h5:(l==l') <;> go_simp
theorem cellEq_iff (a b:C):cellEq a b=true↔a=b:=by
 unfold cellEq;simp only [Bool.and_eq_true,beq_iff_eq]
 constructor
 ·rintro ⟨⟨h1,h2⟩,h3,h4,h5⟩;exact C.ext' h1 h2 h3 h4 h5
 ·rintro rfl;exact ⟨⟨rfl,rfl⟩,rfl,rfl,rfl⟩
instance:DecidableEq C:=fun a b=>if h:cellEq a b=true then isTrue ((cellEq_iff a b).1 h) else isFalse (fun e=>h ((cellEq_iff a b).2 e))
theorem cellEq_self (a:C):cellEq a a=true:=(cellEq_iff a a).2 rfl
theorem cellEq_above {a b:C} (h:above a b=true):cellEq a b=false:=by
 rw [Bool.eq_false_iff,ne_eq,cellEq_iff];rintro rfl;rw [above_irrefl] at h;cases h
theorem exec_eql {P:Program} {o:Oper} {ev:Operand→Value} {w:World} (t u:TypeId) (x y:Operand) (ho:o.op=.binOp .eql t x y u) (xs ys:Array Value) (hx:ev x=.agg xs) (hy:ev y=.agg ys)
  (hm:P.eqGuardType P.depth t=false) (b:Bool) (h:(binOp .eql t (.agg xs) (.agg ys)).run P w=.ok (.bool b) w):(execOp ev o).run P w=.ok (.value (.bool b)) w:=by
 have hg:=run_eqGuard_agg (P:=P) w .eql t x y xs ys hm;unfold execOp;simp only [ho,hx,hy,Sem.run_bind,hg,Result.andThen_ok,h,Sem.run_pure]
theorem wpList_val {P:Program} {ops:Array Oper} {rest:List Oper} {o:Oper} {a:Act} {Q:Exit→Act→World→Prop} {w:World} (hgd:Region.wanted o (yielded ops a.tmps)=true) (v:Value)
  (h:(execOp a.eval o).run P w=.ok (.value v) w) (hn:wpList P ops Q rest (a.put o.dst v) w):wpList P ops Q (o :: rest) a w :=
 wpList_step fun _ hK=>by
  rw [if_pos hgd];unfold Oper.wp;rw [h];exact hK _ _ hn
def ApplyR (g bm:Nat) (L:List R) (x:Nm) (c:C) (w:World) (e:Ending) (w':World):Prop :=
 e=.returned (.bool (newC (getL L x) c))∧StI w' g bm (takeL L x c)∧Keeps (· = bm) w w'
theorem cells10 {w:World} {g:Nat} {T:TypeId} {a0 a1 a2 a3 a4 a5 a6 a7 a8 a9:Value} (h:Blk w g T #[a0,a1,a2,a3,a4,a5,a6,a7,a8,a9]) :
  w.cell? ⟨g,0,none⟩=some a0∧w.cell? ⟨g,1,none⟩=some a1∧w.cell? ⟨g,2,none⟩=some a2∧w.cell? ⟨g,3,none⟩=some a3∧w.cell? ⟨g,4,none⟩=some a4∧w.cell? ⟨g,5,none⟩=some a5∧w.cell? ⟨g,6,none⟩=some a6 ∧
   w.cell? ⟨g,7,none⟩=some a7∧w.cell? ⟨g,8,none⟩=some a8∧w.cell? ⟨g,9,none⟩=some a9 :=
 ⟨h.cell 0,h.cell 1,h.cell 2,h.cell 3,h.cell 4,h.cell 5,h.cell 6,h.cell 7,h.cell 8,h.cell 9⟩
theorem apply_any (g bm:Nat) (L:List R) (rg nm t r:Int) (A:Option Addr) (n c:Nat) (ss ky v:ByteArray) (gn:Bool) (l:Int) (w:World) (h:StI w g bm L) (hs:ss.size≤maxLen) (hk:ky.size≤maxLen) :
  Calls Tryz.prog 146 #[.pointer (some ⟨g,0,none⟩),.agg (wcells rg nm t r A n c ss ky v gn l)] w (ApplyR g bm L (ss,ky) ⟨t,r,v,gn,l⟩ w):=by
 have hok:okName (ss,ky):=⟨hs,hk⟩;have hb2:=below_alloc (below_new w (.cells (wcells rg nm t r A n c ss ky v gn l) 188)) (.cells #[.string ss,.string ky] 256);have h2:=(h.below hb2).below (Below.refl _ _).drew;have hN2:=(Blk.newAt (w.alloc (.cells (wcells rg nm t r A n c ss ky v gn l) 188)) 256 #[.string ss,.string ky] (g:=w.heap.size+1) (by simp)).drew;have hW2:=((Blk.new w 188 (wcells rg nm t r A n c ss ky v gn l)).alloc (.cells #[.string ss,.string ky] 256)).drew;have hX1:¬ g=w.heap.size+1+1:=by have:=h.lt;omega
 have hX2:¬ bm=w.heap.size+1+1:=by have:=h.ltm;omega
 have hlt1:=h.lt;have hlt2:=h.ltm;have Hb2:=qH hb2;have H2:=qH h2;have HN2:=qH hN2;have HW2:=qH hW2;have HX1:=qH hX1;have HX2:=qH hX2;have Hok:=qH hok;clear h hb2 h2 hN2 hW2 hX1 hX2 hok
 cases hgo:getL L (ss,ky) with
 | none =>
  have hat:atL L (ss,ky)=zeroC:=by unfold atL;rw [hgo];rfl
  have hat:atL L (ss,ky)=⟨0,0,⟨#[]⟩,false,0⟩:=hat;have Hgo:=qH hgo;have Hat:=qH hat;clear hgo hat;go_enter Tryz.func146,Tryz.ntmps146;go_wp2_with fail;refine wp_region_mono (fun i=>i=w.heap.size+1+1) (by kernel_rfl) ?_
  iterate 9
   first|refine qT 0 (v:=?_) ?_ ?_|refine qT 1 (v:=?_) ?_ ?_|refine qT 2 (v:=?_) ?_ ?_|refine qT 3 (v:=?_) ?_ ?_|refine qT 4 (v:=?_) ?_ ?_|refine qT 5 (v:=?_) ?_ ?_|refine qT 6 (v:=?_) ?_ ?_|refine qT 7 (v:=?_) ?_ ?_|refine qT 8 (v:=?_) ?_ ?_
   rotate_left
   ·(intro W hSw;((try have hgW:=H2.out.keeps hSw HX1.out HX2.out;try have y0:W.cell? ⟨g,0,none⟩=some (.map (some bm)):=hgW.blk.cell 0;try have gl:=hgW.lt;try have hlk:=hgW.look_ok (x:=(ss,ky)) Hok.out;try (rw [Hgo.out,Hat.out] at hlk;unfold cval nameV at hlk;dsimp only at hlk);try have hn:=HN2.out.keeps hSw (by omega);try have n0:W.cell? ⟨w.heap.size+1,0,none⟩=some (.string ss):=hn.cell 0;try have n1:W.cell? ⟨w.heap.size+1,1,none⟩=some (.string ky):=hn.cell 1;try have nl:=hn.lt));go_simp <;> rfl)
   try simp only [qPA]
  refine wpMono_one' 9 (by kernel_rfl) rfl (by rfl) (fun K hK=>?_)
  go_simp
  have HC0:=qH (Blk.newAt ((w.alloc (.cells (wcells rg nm t r A n c ss ky v gn l) 188)).alloc (.cells #[.string ss,.string ky] 256)).drew 130 #[.int .i64 0,.int .i64 0,.string ⟨#[]⟩,.bool false,.int .i64 0] (g:=w.heap.size+1+1) (by simp));refine hK.out _ _ ?_ ?_
  ·exact .alloc _
  clear hK K
  try simp only [qPA]
  refine wpMono_one' 10 (by kernel_rfl) rfl (by rfl) (fun K hK=>?_);refine wp_store_at 130 (.tmp 6) (.tmp 23) rfl (w.heap.size+1+1) 0 [.int .i64 0,.int .i64 0,.string ⟨#[]⟩,.bool false,.int .i64 0] rfl rfl HC0.out rfl (by simp) rfl (fun w3 hq1 hq2 hq3=>?_);have hbc:=below_new ((w.alloc (.cells (wcells rg nm t r A n c ss ky v gn l) 188)).alloc (.cells #[.string ss,.string ky] 256)).drew (.cells #[.int .i64 0,.int .i64 0,.string ⟨#[]⟩,.bool false,.int .i64 0] 130);have HB3:=qH (((Hb2.out.drew).trans (hbc.mono (by simp;omega))).trans (hq2.below (B:=w.heap.size) (fun i hi e=>by omega) (by simp;omega)));have HC3:=qH (show Blk w3 (w.heap.size+1+1) 130 #[.int .i64 0,.int .i64 0,.string ⟨#[]⟩,.bool false,.int .i64 0] from hq1);have HN3:=qH ((HN2.out.below hbc (by simp)).keeps hq2 (by omega));have HW3:=qH ((HW2.out.below hbc (by simp;omega)).keeps hq2 (by omega));have H3:=qH ((H2.out.below hbc).keeps hq2 HX1.out HX2.out);have hz3:w.heap.size+1+1<w3.heap.size:=HC3.out.lt;clear hbc hq1 hq3 HC0;refine hK.out _ _ ?_ ?_
  ·exact hq2
  clear hK K
  try simp only [Act.put]
  refine qT 11 (v:=?_) ?_ ?_;rotate_left
  ·(intro W hSw;((try have hgW:=H2.out.keeps hSw HX1.out HX2.out;try have y0:W.cell? ⟨g,0,none⟩=some (.map (some bm)):=hgW.blk.cell 0;try have gl:=hgW.lt;try have hlk:=hgW.look_ok (x:=(ss,ky)) Hok.out;try (rw [Hgo.out,Hat.out] at hlk;unfold cval nameV at hlk;dsimp only at hlk);try have hn:=HN2.out.keeps hSw (by omega);try have n0:W.cell? ⟨w.heap.size+1,0,none⟩=some (.string ss):=hn.cell 0;try have n1:W.cell? ⟨w.heap.size+1,1,none⟩=some (.string ky):=hn.cell 1;try have nl:=hn.lt));go_simp <;> rfl)
  try simp only [qPA]
  refine wpMono_done (by kernel_rfl) ?_ _;clear hq2 H2 HN2 HW2 Hb2;obtain ⟨k0,k1,k2,k3,k4,k5,k6,k7,k8,k9⟩:=cells10 HW3.out;go_wp2_with fail;refine (of_any rg nm t r A n c ss ky v gn l w3).mono ?_;rintro e w4 ⟨rfl,hb4⟩;clear k0 k1 k2 k3 k4 k5 k6 k7 k8 k9;have hb5:=below_alloc hb4 (.cells #[.int .i64 t,.int .i64 r,.string v,.bool gn,.int .i64 l] 130);have HB5:=qH (HB3.out.trans (hb5.mono (by omega)));have HC5:=qH (HC3.out.below hb5 hz3);have HN5:=qH (HN3.out.below hb5 (by omega));have H5:=qH (H3.out.below hb5);have HD5:=qH (Blk.new w4 130 #[.int .i64 t,.int .i64 r,.string v,.bool gn,.int .i64 l]);have hz5:w3.heap.size≤w4.heap.size:=hb4.size;have Hh5:=qH hb4;clear hb4 hb5 H3 HN3 HW3 HC3 HB3;have hzz:bm<w4.heap.size:=by omega
  have HX3:=qH (H5.out.ne);have HX4:=qH (show ¬ w.heap.size+1=bm by omega);have HX5:=qH (show ¬ w4.heap.size=bm by omega);go_wp2_with fail;have hnew:newC (getL L (ss,ky)) ⟨t,r,v,gn,l⟩=true:=by rw [Hgo.out];rfl
  have htak:takeC (getL L (ss,ky)) ⟨t,r,v,gn,l⟩=⟨t,r,v,gn,l⟩:=by rw [Hgo.out];rfl
  have Hnew:=qH hnew;have Htak:=qH htak;clear hnew htak;obtain ⟨w7,hu,hS7,hK7⟩:=(H5.out.below (Below.refl _ _).drew).put Hok.out ⟨t,r,v,gn,l⟩;have HS7:=qH hS7;have HK7:=qH hK7;clear hS7 hK7;unfold cval nameV at hu;dsimp only at hu;have HU:=qH hu;clear hu;have HR:=qH (show ApplyR g bm L (ss,ky) ⟨t,r,v,gn,l⟩ w (.returned (.bool true)) w7 from ⟨by rw [Hnew.out],by unfold takeL;rw [Htak.out];exact HS7.out,(Keeps.of_below HB5.out).trans ((Keeps.drew).trans HK7.out)⟩);refine wp_region_mono (fun i=>i=bm) (by kernel_rfl) ?_
  iterate 6
   first|refine qT 0 (v:=?_) ?_ ?_|refine qT 1 (v:=?_) ?_ ?_|refine qT 2 (v:=?_) ?_ ?_|refine qT 3 (v:=?_) ?_ ?_|refine qT 4 (v:=?_) ?_ ?_|refine qT 5 (v:=?_) ?_ ?_
   rotate_left
   ·(intro W hSw;((try have hgW:=(H5.out.below (Below.refl _ _).drew).blk.keeps hSw HX3.out;try have y0:W.cell? ⟨g,0,none⟩=some (.map (some bm)):=hgW.cell 0;try have gl:=hgW.lt;try have hn:=HN5.out.drew.keeps hSw HX4.out;try have n0:W.cell? ⟨w.heap.size+1,0,none⟩=some (.string ss):=hn.cell 0;try have n1:W.cell? ⟨w.heap.size+1,1,none⟩=some (.string ky):=hn.cell 1;try have nl:=hn.lt;try have hd:=HD5.out.drew.keeps hSw HX5.out;try (obtain ⟨d0,d1,d2,d3,d4⟩:=Blk.cells5 hd);try have dl:=hd.lt));go_simp <;> rfl)
   try simp only [qPA]
  refine wpMono_one' 6 (by kernel_rfl) rfl (by rfl) (fun K hK=>?_);have hu:(Instr.mapUpdate _ (.map (some bm)) (.agg #[.string ss,.string ky]) _).run _ _=_:=HU.out
  go_simp
  refine hK.out _ _ ?_ ?_
  ·exact HK7.out
  clear hK K
  try simp only [Act.put]
  refine wpMono_done (by kernel_rfl) ?_ _;go_wp2;go_ret
  exact HR.out
 | some d =>
  obtain ⟨dt,dr,dv,dg,dl⟩:=d;have hat:atL L (ss,ky)=⟨dt,dr,dv,dg,dl⟩:=by unfold atL;rw [hgo];rfl
  have Hgo:=qH hgo;have Hat:=qH hat;clear hgo hat;go_enter Tryz.func146,Tryz.ntmps146;go_wp2_with fail;refine wp_region_mono (fun i=>i=w.heap.size+1+1) (by kernel_rfl) ?_
  iterate 9
   first|refine qT 0 (v:=?_) ?_ ?_|refine qT 1 (v:=?_) ?_ ?_|refine qT 2 (v:=?_) ?_ ?_|refine qT 3 (v:=?_) ?_ ?_|refine qT 4 (v:=?_) ?_ ?_|refine qT 5 (v:=?_) ?_ ?_|refine qT 6 (v:=?_) ?_ ?_|refine qT 7 (v:=?_) ?_ ?_|refine qT 8 (v:=?_) ?_ ?_
   rotate_left
   ·(intro W hSw;((try have hgW:=H2.out.keeps hSw HX1.out HX2.out;try have y0:W.cell? ⟨g,0,none⟩=some (.map (some bm)):=hgW.blk.cell 0;try have gl:=hgW.lt;try have hlk:=hgW.look_ok (x:=(ss,ky)) Hok.out;try (rw [Hgo.out,Hat.out] at hlk;unfold cval nameV at hlk;dsimp only at hlk);try have hn:=HN2.out.keeps hSw (by omega);try have n0:W.cell? ⟨w.heap.size+1,0,none⟩=some (.string ss):=hn.cell 0;try have n1:W.cell? ⟨w.heap.size+1,1,none⟩=some (.string ky):=hn.cell 1;try have nl:=hn.lt));go_simp <;> rfl)
   try simp only [qPA]
  refine wpMono_one' 9 (by kernel_rfl) rfl (by rfl) (fun K hK=>?_)
  go_simp
  have HC0:=qH (Blk.newAt ((w.alloc (.cells (wcells rg nm t r A n c ss ky v gn l) 188)).alloc (.cells #[.string ss,.string ky] 256)).drew 130 #[.int .i64 0,.int .i64 0,.string ⟨#[]⟩,.bool false,.int .i64 0] (g:=w.heap.size+1+1) (by simp));refine hK.out _ _ ?_ ?_
  ·exact .alloc _
  clear hK K
  try simp only [qPA]
  refine wpMono_one' 10 (by kernel_rfl) rfl (by rfl) (fun K hK=>?_);refine wp_store_at 130 (.tmp 6) (.tmp 23) rfl (w.heap.size+1+1) 0 [.int .i64 dt,.int .i64 dr,.string dv,.bool dg,.int .i64 dl] rfl rfl HC0.out rfl (by simp) rfl (fun w3 hq1 hq2 hq3=>?_);have hbc:=below_new ((w.alloc (.cells (wcells rg nm t r A n c ss ky v gn l) 188)).alloc (.cells #[.string ss,.string ky] 256)).drew (.cells #[.int .i64 0,.int .i64 0,.string ⟨#[]⟩,.bool false,.int .i64 0] 130);have HB3:=qH (((Hb2.out.drew).trans (hbc.mono (by simp;omega))).trans (hq2.below (B:=w.heap.size) (fun i hi e=>by omega) (by simp;omega)));have HC3:=qH (show Blk w3 (w.heap.size+1+1) 130 #[.int .i64 dt,.int .i64 dr,.string dv,.bool dg,.int .i64 dl] from hq1);have HN3:=qH ((HN2.out.below hbc (by simp)).keeps hq2 (by omega));have HW3:=qH ((HW2.out.below hbc (by simp;omega)).keeps hq2 (by omega));have H3:=qH ((H2.out.below hbc).keeps hq2 HX1.out HX2.out);have hz3:w.heap.size+1+1<w3.heap.size:=HC3.out.lt;clear hbc hq1 hq3 HC0;refine hK.out _ _ ?_ ?_
  ·exact hq2
  clear hK K
  try simp only [Act.put]
  refine qT 11 (v:=?_) ?_ ?_;rotate_left
  ·(intro W hSw;((try have hgW:=H2.out.keeps hSw HX1.out HX2.out;try have y0:W.cell? ⟨g,0,none⟩=some (.map (some bm)):=hgW.blk.cell 0;try have gl:=hgW.lt;try have hlk:=hgW.look_ok (x:=(ss,ky)) Hok.out;try (rw [Hgo.out,Hat.out] at hlk;unfold cval nameV at hlk;dsimp only at hlk);try have hn:=HN2.out.keeps hSw (by omega);try have n0:W.cell? ⟨w.heap.size+1,0,none⟩=some (.string ss):=hn.cell 0;try have n1:W.cell? ⟨w.heap.size+1,1,none⟩=some (.string ky):=hn.cell 1;try have nl:=hn.lt));go_simp <;> rfl)
  try simp only [qPA]
  refine wpMono_done (by kernel_rfl) ?_ _;clear hq2 H2 HN2 HW2 Hb2;obtain ⟨k0,k1,k2,k3,k4,k5,k6,k7,k8,k9⟩:=cells10 HW3.out;go_wp2_with fail;refine (of_any rg nm t r A n c ss ky v gn l w3).mono ?_;rintro e w4 ⟨rfl,hb4⟩;clear k0 k1 k2 k3 k4 k5 k6 k7 k8 k9;have hb5:=below_alloc hb4 (.cells #[.int .i64 t,.int .i64 r,.string v,.bool gn,.int .i64 l] 130);have HB5:=qH (HB3.out.trans (hb5.mono (by omega)));have HC5:=qH (HC3.out.below hb5 hz3);have HN5:=qH (HN3.out.below hb5 (by omega));have H5:=qH (H3.out.below hb5);have HD5:=qH (Blk.new w4 130 #[.int .i64 t,.int .i64 r,.string v,.bool gn,.int .i64 l]);have hz5:w3.heap.size≤w4.heap.size:=hb4.size;have Hh5:=qH hb4;clear hb4 hb5 H3 HN3 HW3 HC3 HB3;have hzz:bm<w4.heap.size:=by omega
  have HX3:=qH (H5.out.ne);have HX4:=qH (show ¬ w.heap.size+1=bm by omega);have HX5:=qH (show ¬ w4.heap.size=bm by omega);obtain ⟨p0,p1,p2,p3,p4⟩:=Blk.cells5 HC5.out;obtain ⟨q0,q1,q2,q3,q4⟩:=Blk.cells5 HD5.out;have pl:=HC5.out.lt;go_wp2_with fail;refine (merge_any _ 2 2 [⟨dt,dr,dv,dg,dl⟩,⟨t,r,v,gn,l⟩] _ rfl (by decide) (by exact Reads.newAt _ _ _ _ (by simp) rfl)).mono ?_;rintro e w6 ⟨rfl,hb6⟩;rw [mg_two];have hba:=below_new (w4.alloc (.cells #[.int .i64 t,.int .i64 r,.string v,.bool gn,.int .i64 l] 130)) (.cells #[.int .i64 dt,.int .i64 dr,.string dv,.bool dg,.int .i64 dl,.int .i64 t,.int .i64 r,.string v,.bool gn,.int .i64 l] 130);have hb6':=below_step hba hb6;clear p0 p1 p2 p3 p4 q0 q1 q2 q3 q4;have HB6:=qH (HB5.out.trans (hb6'.mono (by simp;omega)));have HC6:=qH (HC5.out.below hb6' pl);have HN6:=qH (HN5.out.below hb6' (by simp;omega));have H6:=qH (H5.out.below hb6');have HD6:=qH (HD5.out.below hb6' (by simp));have hz6:w4.heap.size<w6.heap.size:=HD6.out.lt;clear hba hb6 hb6' HB5 HC5 HN5 H5 HD5 pl
  cases hab:above ⟨t,r,v,gn,l⟩ ⟨dt,dr,dv,dg,dl⟩ with
  | true =>
   rw [if_pos rfl];have hce:=cellEq_above hab;have hnew:newC (getL L (ss,ky)) ⟨t,r,v,gn,l⟩=true:=by rw [Hgo.out];exact hab
   have htak:takeC (getL L (ss,ky)) ⟨t,r,v,gn,l⟩=⟨t,r,v,gn,l⟩:=by rw [Hgo.out];exact if_pos hab
   unfold cval;dsimp only;have Hnew:=qH hnew;have Htak:=qH htak;have Hce:=qH hce;clear hnew htak hce;clear hab
   go_wp2_with (first|(refine wpList_store_blk rfl 130 (.tmp 8) (.tmp 31) rfl w4.heap.size [.int .i64 t,.int .i64 r,.string v,.bool gn,.int .i64 l] rfl rfl HD6.out rfl rfl rfl ?_;intro w8 hd8 hk8 hs8;have heq:=eql_cell ⟨t,r,v,gn,l⟩ ⟨dt,dr,dv,dg,dl⟩ w8;rw [Hce.out] at heq;unfold cval at heq;dsimp only at heq;have hc8:=HC6.out.keeps hk8 (by omega);obtain ⟨p0,p1,p2,p3,p4⟩:=Blk.cells5 hc8;obtain ⟨q0,q1,q2,q3,q4⟩:=Blk.cells5 hd8;have HC8:=qH hc8;have HD8:=qH hd8;have HK8:=qH hk8;clear hc8 hd8 hk8 hs8;have HEQ:=qH heq;clear heq)|(refine wpList_val (o:=⟨some 36,_,_,_,_,_⟩) rfl (.bool false) (exec_eql 130 130 (.tmp 34) (.tmp 35) rfl _ _ rfl rfl (by kernel_rfl) false HEQ.out) ?_))
   clear p0 p1 p2 p3 p4 q0 q1 q2 q3 q4;have HB8:=qH (HB6.out.trans (HK8.out.below (B:=w.heap.size) (fun i hi e=>by omega) (by omega)));have H8:=qH (H6.out.keeps HK8.out (by omega) (by omega));have HN8:=qH (HN6.out.keeps HK8.out (by omega));obtain ⟨w7,hu,hS7,hK7⟩:=(H8.out.below (Below.refl _ _).drew).put Hok.out ⟨t,r,v,gn,l⟩;have HS7:=qH hS7;have HK7:=qH hK7;clear hS7 hK7;unfold cval nameV at hu;dsimp only at hu;have HU:=qH hu;clear hu;have HR:=qH (show ApplyR g bm L (ss,ky) ⟨t,r,v,gn,l⟩ w (.returned (.bool true)) w7 from ⟨by rw [Hnew.out],by unfold takeL;rw [Htak.out];exact HS7.out,(Keeps.of_below HB8.out).trans ((Keeps.drew).trans HK7.out)⟩);refine wp_region_mono (fun i=>i=bm) (by kernel_rfl) ?_
   iterate 6
    first|refine qT 0 (v:=?_) ?_ ?_|refine qT 1 (v:=?_) ?_ ?_|refine qT 2 (v:=?_) ?_ ?_|refine qT 3 (v:=?_) ?_ ?_|refine qT 4 (v:=?_) ?_ ?_|refine qT 5 (v:=?_) ?_ ?_
    rotate_left
    ·(intro W hSw;((try have hgW:=(H8.out.below (Below.refl _ _).drew).blk.keeps hSw HX3.out;try have y0:W.cell? ⟨g,0,none⟩=some (.map (some bm)):=hgW.cell 0;try have gl:=hgW.lt;try have hn:=HN8.out.drew.keeps hSw HX4.out;try have n0:W.cell? ⟨w.heap.size+1,0,none⟩=some (.string ss):=hn.cell 0;try have n1:W.cell? ⟨w.heap.size+1,1,none⟩=some (.string ky):=hn.cell 1;try have nl:=hn.lt;try have hd:=HD8.out.drew.keeps hSw HX5.out;try (obtain ⟨d0,d1,d2,d3,d4⟩:=Blk.cells5 hd);try have dl:=hd.lt));go_simp <;> rfl)
    try simp only [qPA]
   refine wpMono_one' 6 (by kernel_rfl) rfl (by rfl) (fun K hK=>?_);have hu:(Instr.mapUpdate _ (.map (some bm)) (.agg #[.string ss,.string ky]) _).run _ _=_:=HU.out
   go_simp
   refine hK.out _ _ ?_ ?_
   ·exact HK7.out
   clear hK K
   try simp only [Act.put]
   refine wpMono_done (by kernel_rfl) ?_ _;go_wp2;go_ret
   exact HR.out
  | false =>
   rw [if_neg (by decide)];have hnew:newC (getL L (ss,ky)) ⟨t,r,v,gn,l⟩=false:=by rw [Hgo.out];exact hab
   have hta:takeL L (ss,ky) ⟨t,r,v,gn,l⟩=L:=takeL_old H6.out.up hnew;unfold cval;dsimp only;have Hnew:=qH hnew;have Hta:=qH hta;clear hnew hta;clear hab
   go_wp2_with (first|(refine wpList_store_blk rfl 130 (.tmp 8) (.tmp 31) rfl w4.heap.size [.int .i64 dt,.int .i64 dr,.string dv,.bool dg,.int .i64 dl] rfl rfl HD6.out rfl rfl rfl ?_;intro w8 hd8 hk8 hs8;have heq:=eql_cell ⟨dt,dr,dv,dg,dl⟩ ⟨dt,dr,dv,dg,dl⟩ w8;rw [cellEq_self] at heq;unfold cval at heq;dsimp only at heq;have hc8:=HC6.out.keeps hk8 (by omega);obtain ⟨p0,p1,p2,p3,p4⟩:=Blk.cells5 hc8;obtain ⟨q0,q1,q2,q3,q4⟩:=Blk.cells5 hd8;have HC8:=qH hc8;have HD8:=qH hd8;have HK8:=qH hk8;have HR:=qH (show ApplyR g bm L (ss,ky) ⟨t,r,v,gn,l⟩ w (.returned (.bool false)) w8 from ⟨by rw [Hnew.out],by rw [Hta.out];exact H6.out.keeps HK8.out (by omega) (by omega),Keeps.of_below (HB6.out.trans (HK8.out.below (B:=w.heap.size) (fun i hi e=>by omega) (by omega)))⟩);clear hc8 hd8 hk8 hs8))
   go_ret
   exact HR.out
end store
namespace store
open Go Go.RowKit base map_ err cmp above law merge rows rowe Go.Maps monoj
def c2:C:=⟨2,1,⟨#[120]⟩,false,0⟩
def c3:C:=⟨3,1,⟨#[]⟩,true,0⟩
end store
end Go.Proofs.YthlahcnglacekaaGreatDoor
