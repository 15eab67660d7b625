/- Part of GateRetires. -/
import Derived.Test.YthlahcnglacekaaGreatDoorB01
import Derived.BigQuiet
import Derived.ChangeKeysEq
set_option maxRecDepth 100000
set_option maxHeartbeats 16000000
namespace Go.Proofs.YthlahcnglacekaaGreatDoor
namespace mac
open Go Go.RowKit base macp monoj
def u32s (l:List Nat):List Value:=l.map fun n=>.int .u32 (n:Nat)
theorem u32s_len (l:List Nat):(u32s l).length=l.length:=by simp [u32s]
theorem blk_at {w:World} {g:Nat} {t:TypeId} {l r:List Nat} {x i:Nat} (h:Blk w g t (u32s (l++x :: r)).toArray) (hi:l.length=i):w.cell? ⟨g,i,none⟩=some (.int .u32 (x:Nat)):=by
 rw [h.cell i];subst hi;simp [u32s]
theorem blk_put {w:World} {g:Nat} {t:TypeId} {l r:List Nat} {x i:Nat} (h:Blk w g t (u32s (l++x :: r)).toArray) (hi:l.length=i) (y:Nat) (v:Value) (hv:v=.int .u32 (y:Nat)) :
  Blk (w.setCell ⟨g,i,none⟩ v) g t (u32s (l++y :: r)).toArray:=by
 have h1:=h.set_ i v;subst hv;subst hi
 have e:(u32s (l++x :: r)).toArray.setIfInBounds l.length (.int .u32 (y:Nat))=(u32s (l++y :: r)).toArray:=by
  simp [u32s]
 rw [e] at h1;exact h1
theorem blk_get {w:World} {g:Nat} {t:TypeId} {l r:List Nat} {k:Nat} (h:Blk w g t (u32s (l++r)).toArray) (hk:k<l.length):w.cell? ⟨g,k,none⟩=some (.int .u32 (l.getD k 0:Nat)):=by
 rw [h.cell k];have h2:k<(l.map fun n=>Value.int .u32 (n:Nat)).length:=by simpa using hk
 simp [u32s,List.getElem?_append_left h2,List.getD_eq_getElem?_getD,List.getElem?_eq_getElem hk]
theorem sz_drewN (w:World) (n:Nat):(w.drewN n).heap.size=w.heap.size:=rfl
def schedA (b:List Nat) (i x:Nat):List Nat:=sched b i++x :: List.replicate (63-i) 0
theorem schedA_next (b:List Nat) {i:Nat} (h:i<63):schedA b i (next b (sched b i) i)=schedA b (i+1) 0:=by
 unfold schedA;obtain ⟨d,hd⟩:∃ d,63-i=d+1:=⟨62-i,by omega⟩;have h2:63-(i+1)=d:=by omega
 rw [hd,h2,sched,List.replicate_succ,List.append_assoc];rfl
theorem schedA_end (b:List Nat):schedA b 63 (next b (sched b 63) 63)=sched b 64:=by
 unfold schedA;rw [sched];rfl
theorem cells8 {w:World} {g:Nat} {t:TypeId} {a b c d e f x y:Nat} (h:Blk w g t (u32s [a,b,c,d,e,f,x,y]).toArray) :
  w.cell? ⟨g,0,none⟩=some (.int .u32 (a:Nat))∧w.cell? ⟨g,1,none⟩=some (.int .u32 (b:Nat))∧w.cell? ⟨g,2,none⟩=some (.int .u32 (c:Nat))∧w.cell? ⟨g,3,none⟩=some (.int .u32 (d:Nat)) ∧
  w.cell? ⟨g,4,none⟩=some (.int .u32 (e:Nat))∧w.cell? ⟨g,5,none⟩=some (.int .u32 (f:Nat))∧w.cell? ⟨g,6,none⟩=some (.int .u32 (x:Nat))∧w.cell? ⟨g,7,none⟩=some (.int .u32 (y:Nat)) :=
 ⟨h.cell 0,h.cell 1,h.cell 2,h.cell 3,h.cell 4,h.cell 5,h.cell 6,h.cell 7⟩
theorem spell_s0 {p:Nat} (h:p<4294967296):bits .xor .u32 (bits .xor .u32 ((rot p 25:Nat):Int) ((rot p 14:Nat):Int)) ((p:Int) / 8)=((s0 p:Nat):Int):=by
 rw [u32_xor_nat _ _ (rot_lt _ h) (rot_lt _ h),show (p:Int) / 8=((p / 8:Nat):Int) by omega,u32_xor_nat _ _ (xorL (rot_lt _ h) (rot_lt _ h)) (by omega)];rfl
theorem spell_s1 {p:Nat} (h:p<4294967296):bits .xor .u32 (bits .xor .u32 ((rot p 15:Nat):Int) ((rot p 13:Nat):Int)) ((p:Int) / 1024)=((s1 p:Nat):Int):=by
 rw [u32_xor_nat _ _ (rot_lt _ h) (rot_lt _ h),show (p:Int) / 1024=((p / 1024:Nat):Int) by omega,u32_xor_nat _ _ (xorL (rot_lt _ h) (rot_lt _ h)) (by omega)];rfl
theorem spell_next {x16 x7 p q:Nat} (hp:p<4294967296) (hq:q<4294967296):IntKind.u32.wrap (IntKind.u32.wrap (IntKind.u32.wrap ((x16:Int)+bits .xor .u32 (bits .xor .u32 ((rot p 25:Nat):Int) ((rot p 14:Nat):Int)) ((p:Int) / 8))+(x7:Int)) +
  bits .xor .u32 (bits .xor .u32 ((rot q 15:Nat):Int) ((rot q 13:Nat):Int)) ((q:Int) / 1024))=(((x16+s0 p+x7+s1 q) % 4294967296:Nat):Int):=by
 rw [spell_s0 hp,spell_s1 hq];simp only [IntKind.wrap_u32'];omega
theorem idx_words (t:TypeId) (n k:Nat) (l:List Nat) (w:World) (ht:Tryz.prog.underlying t=some (.array n 272)) (hk:k<n) (hl:l.length=n) :
  (Instr.index t (.agg ⟨u32s l⟩) (.int .i64 k)).run Tryz.prog w=.ok (.int .u32 (l.getD k 0:Nat)) w:=by
 have hn:0≤(k:Int)∧(k:Int)<(n:Int):=by omega
 have hget:(u32s l)[k]?=some (.int .u32 ((l[k]?.getD 0:Nat):Int)):=by simp [u32s,show k<l.length by omega]
 have hz:(sizeOf 272).run Tryz.prog w=.ok 1 w:=by
  obtain ⟨i,hi⟩:=info_of_underlying (P:=Tryz.prog) (t:=272) Tryz.underlying272;rw [run_sizeOf w hi,show Tryz.prog.cellsOf 272=1 from by kernel_rfl]
 rw [List.getD_eq_getElem?_getD];simp [Instr.index,run_underlying ht,asIntOf,hn,hk,hz,hget,go_sem]
theorem spell_xx {e f g h k x:Nat} (he:e<4294967296) (hf:f<4294967296) (hg:g<4294967296) (a b c d:Nat) :
  IntKind.u32.wrap (IntKind.u32.wrap (IntKind.u32.wrap (IntKind.u32.wrap ((h:Int)+bits .xor .u32 (bits .xor .u32 ((rot e 26:Nat):Int) ((rot e 21:Nat):Int)) ((rot e 7:Nat):Int))+bits .xor .u32 (g:Int) (bits .and .u32 (e:Int) (bits .xor .u32 (f:Int) (g:Int))))+(k:Int))+(x:Int)) =
   ((xx ⟨a,b,c,d,e,f,g,h⟩ k x:Nat):Int):=by
 rw [u32_xor_nat _ _ (rot_lt _ he) (rot_lt _ he),u32_xor_nat _ _ (xorL (rot_lt _ he) (rot_lt _ he)) (rot_lt _ he),u32_xor_nat _ _ hf hg,u32_and_nat _ _ he (xorL hf hg),u32_xor_nat _ _ hg (andL he)];unfold xx;dsimp only;simp only [IntKind.wrap_u32'];omega
theorem spell_yy {a b c:Nat} (ha:a<4294967296) (hb:b<4294967296) (hc:c<4294967296) (d e f g h:Nat) :
  IntKind.u32.wrap (bits .xor .u32 (bits .xor .u32 ((rot a 30:Nat):Int) ((rot a 19:Nat):Int)) ((rot a 10:Nat):Int)+bits .or .u32 (bits .and .u32 (a:Int) (bits .or .u32 (b:Int) (c:Int))) (bits .and .u32 (b:Int) (c:Int))) =
   ((yy ⟨a,b,c,d,e,f,g,h⟩:Nat):Int):=by
 rw [u32_xor_nat _ _ (rot_lt _ ha) (rot_lt _ ha),u32_xor_nat _ _ (xorL (rot_lt _ ha) (rot_lt _ ha)) (rot_lt _ ha),u32_or_nat _ _ hb hc,u32_and_nat _ _ ha (orL hb hc),u32_and_nat _ _ hb hc,u32_or_nat _ _ (andL ha) (andL hb)];unfold yy;dsimp only;simp only [IntKind.wrap_u32'];omega
def sumL (v u:List Nat):List Nat:=List.zipWith (fun a b=>(a+b) % 4294967296) v u
theorem take_next (Z:List Nat) {i:Nat} (h:i<Z.length):Z.take (i+1)=Z.take i++[Z.getD i 0]:=by
 rw [List.getD_eq_getElem?_getD,List.take_add_one,List.getElem?_eq_getElem h];rfl
theorem drop_next (Z:List Nat) {i:Nat} (h:i<Z.length):Z.drop i=Z.getD i 0 :: Z.drop (i+1):=by
 rw [List.getD_eq_getElem?_getD,List.getElem?_eq_getElem h];exact List.drop_eq_getElem_cons h
theorem sum_at (v u:List Nat) {i:Nat} (h:i<v.length) (h2:i<u.length):(sumL v u).getD i 0=(v.getD i 0+u.getD i 0) % 4294967296:=by
 simp [sumL,List.getD_eq_getElem?_getD,List.getElem?_zipWith,List.getElem?_eq_getElem h,List.getElem?_eq_getElem h2]
end mac
namespace mac
open Go Go.RowKit base rowe macp
theorem start_any (w:World):Calls Tryz.prog 241 #[] w fun e w'=>e=.returned (.agg ⟨u32s macp.start.list⟩)∧Below w.heap.size w w':=by
 go_enter Tryz.func241,Tryz.ntmps241
 go_wp2_with (refine wpList_store_blk rfl 352 (.tmp 0) (.tmp 1) rfl w.heap.size (u32s macp.start.list) rfl rfl (Blk.new w _ _) (by kernel_rfl) rfl rfl ?_;intro w1 ho hk hs)
 refine bodyPost_ret (v:=.agg ⟨u32s macp.start.list⟩) (results_cell_row rfl _ _ w.heap.size 352 (u32s macp.start.list).toArray (0,0) _ rfl ho Tryz.underlying352 rfl (by kernel_rfl)) rfl ⟨rfl,?_⟩;exact (below_new w _).trans (hk.below (fun i hi e=>by omega) (by simp))
theorem turns_any (w:World):Calls Tryz.prog 267 #[] w fun e w'=>e=.returned (.agg ⟨u32s turns⟩)∧Below w.heap.size w w':=by
 go_enter Tryz.func267,Tryz.ntmps267
 go_wp2_with (refine wpList_store_blk rfl 381 (.tmp 0) (.tmp 1) rfl w.heap.size (u32s turns) rfl rfl (Blk.new w _ _) (by kernel_rfl) rfl rfl ?_;intro w1 ho hk hs)
 refine bodyPost_ret (v:=.agg ⟨u32s turns⟩) (results_cell_row rfl _ _ w.heap.size 381 (u32s turns).toArray (0,0) _ rfl ho Tryz.underlying381 rfl (by kernel_rfl)) rfl ⟨rfl,?_⟩;exact (below_new w _).trans (hk.below (fun i hi e=>by omega) (by simp))
end mac
end Go.Proofs.YthlahcnglacekaaGreatDoor
