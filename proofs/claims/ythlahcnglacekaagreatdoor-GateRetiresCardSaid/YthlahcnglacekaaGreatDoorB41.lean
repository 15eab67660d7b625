/- Part of GateRetires. -/
import Derived.Test.YthlahcnglacekaaGreatDoorB37
import Derived.Test.YthlahcnglacekaaGreatDoorB27
import Derived.Test.YthlahcnglacekaaGreatDoorB34
import Derived.Test.YthlahcnglacekaaGreatDoorB38
set_option maxRecDepth 100000
set_option maxHeartbeats 16000000
namespace Go.Proofs.YthlahcnglacekaaGreatDoor
namespace err
open Go.RowKit base is_ Go.Extern.Stop Go.Stop Go.Extern
def ErrD (w:World):Nat→Value→Int→Prop
 | 0,v,c=>v=.iface 41 (.int .i64 c)
 | k+1,v,c=>∃ g v',v=.iface 121 (.pointer (some ⟨g,0,none⟩))∧g<w.heap.size∧w.cell? ⟨g,2,none⟩=some v'∧ErrD w k v' c
theorem ErrD.below {w w':World} (hb:Below w.heap.size w w'):∀ {k:Nat} {v:Value} {c:Int},ErrD w k v c→ErrD w' k v c
 | 0,_,_,h=>h
 | _+1,_,_,⟨g,v',h1,h2,h3,h4⟩=>⟨g,v',h1,Nat.lt_of_lt_of_le h2 hb.size,(hb.cell (p:=⟨g,2,none⟩) h2).trans h3,h4.below hb⟩
theorem Err.one {w:World} {v:Value} {c:Int} (h:Err w v c):ErrD w 1 v c:=by
 obtain ⟨g,h1,h2,h3⟩:=h;exact ⟨g,_,h1,h2,h3,rfl⟩
theorem is_two (g g2:Nat) (c c':Int) (w:World) (h2:w.cell? ⟨g,2,none⟩=some (.iface 121 (.pointer (some ⟨g2,0,none⟩)))) (h3:w.cell? ⟨g2,2,none⟩=some (.iface 41 (.int .i64 c))) :
  Calls Tryz.prog 9 #[.iface 121 (.pointer (some ⟨g,0,none⟩)),.iface 41 (.int .i64 c')] w fun e w'=>e=.returned (.bool (c==c'))∧w=w':=by
  have h8:=@run_callFunc_extern Tryz.prog 17 _ Extern.ReflectliteType.typeOf Tryz.func17 (by kernel_rfl) (by kernel_rfl) (by kernel_rfl) (by kernel_rfl);have h32 := @run_callFunc_extern Tryz.prog 325 _ (Extern.ReflectliteType.method fun t => do Extern.Rtype.noPackHeld "Comparable" t; pure (.bool (← typeInfo t).comparable)) Tryz.func325 (by kernel_rfl) (by kernel_rfl) (by kernel_rfl) (by kernel_rfl);have tT:=is_.isTypeOf;have cT:=is_.isComparable;have mR:=is_.methodComparable;have n1:=is_.noIsE;have n2:=is_.hasUnwrap;have n3:=is_.noIsC;have n4:=is_.noUnwrapC;have n5:=is_.noUnwrapsC;have mU:=is_.methodUnwrap;have heq:=is_.eql_codes c c' w;have hty:=fun g:Nat=>run_eql_iface_types (P:=Tryz.prog) 121 41 (.pointer (some ⟨g,0,none⟩)) (.int .i64 c') Tryz.underlying31 (by decide) w;generalize (c == c')=x at heq ⊢
  cases x
  all_goals
   go_enter Tryz.func9,Tryz.ntmps9;go_wp2;refine wp_loop_rounds 3 ?_;rw [rounds_succ];go_wp2
   (rw [rounds_succ];go_wp2;rw [rounds_succ];go_wp2)
   go_ret
   exact ⟨rfl,rfl⟩
theorem is_three (g g2 g3:Nat) (c c':Int) (w:World) (h2:w.cell? ⟨g,2,none⟩=some (.iface 121 (.pointer (some ⟨g2,0,none⟩)))) (h3:w.cell? ⟨g2,2,none⟩=some (.iface 121 (.pointer (some ⟨g3,0,none⟩)))) (h4:w.cell? ⟨g3,2,none⟩=some (.iface 41 (.int .i64 c))) :
  Calls Tryz.prog 9 #[.iface 121 (.pointer (some ⟨g,0,none⟩)),.iface 41 (.int .i64 c')] w fun e w'=>e=.returned (.bool (c==c'))∧w=w':=by
  have h8:=@run_callFunc_extern Tryz.prog 17 _ Extern.ReflectliteType.typeOf Tryz.func17 (by kernel_rfl) (by kernel_rfl) (by kernel_rfl) (by kernel_rfl);have h32 := @run_callFunc_extern Tryz.prog 325 _ (Extern.ReflectliteType.method fun t => do Extern.Rtype.noPackHeld "Comparable" t; pure (.bool (← typeInfo t).comparable)) Tryz.func325 (by kernel_rfl) (by kernel_rfl) (by kernel_rfl) (by kernel_rfl);have tT:=is_.isTypeOf;have cT:=is_.isComparable;have mR:=is_.methodComparable;have n1:=is_.noIsE;have n2:=is_.hasUnwrap;have n3:=is_.noIsC;have n4:=is_.noUnwrapC;have n5:=is_.noUnwrapsC;have mU:=is_.methodUnwrap;have heq:=is_.eql_codes c c' w;have hty:=fun g:Nat=>run_eql_iface_types (P:=Tryz.prog) 121 41 (.pointer (some ⟨g,0,none⟩)) (.int .i64 c') Tryz.underlying31 (by decide) w;generalize (c == c')=x at heq ⊢
  cases x
  all_goals
   go_enter Tryz.func9,Tryz.ntmps9;go_wp2;refine wp_loop_rounds 4 ?_;rw [rounds_succ];go_wp2
   (rw [rounds_succ];go_wp2;rw [rounds_succ];go_wp2;rw [rounds_succ];go_wp2)
   go_ret
   exact ⟨rfl,rfl⟩
theorem is_chain {k:Nat} {v:Value} {c:Int} (c':Int) {w:World} (h:ErrD w k v c) (h1:1≤k) (h3:k≤3) :
  Calls Tryz.prog 9 #[v,.iface 41 (.int .i64 c')] w fun e w'=>e=.returned (.bool (c==c'))∧w=w':=by
 match k,h1,h3,h with
 | 1,_,_,⟨g,v1,e1,_,c1,e0⟩ =>
  have e0:v1=_:=e0;subst e1 e0;exact is_code g c c' w c1
 | 2,_,_,⟨g,v1,e1,_,c1,g2,v2,e2,_,c2,e0⟩ =>
  have e0:v2=_:=e0;subst e1 e2 e0;exact is_two g g2 c c' w c1 c2
 | 3,_,_,⟨g,v1,e1,_,c1,g2,v2,e2,_,c2,g3,v3,e3,_,c3,e0⟩ =>
  have e0:v3=_:=e0;subst e1 e2 e3 e0;exact is_three g g2 g3 c c' w c1 c2 c3
def WrapD (k:Nat) (c:Int) (w:World) (e:Ending) (w':World):Prop:=(∃ g,e=.returned (.iface 121 (.pointer (some ⟨g,0,none⟩)))∧w.heap.size≤g∧ErrD w' (k+1) (.iface 121 (.pointer (some ⟨g,0,none⟩))) c)∧Below w.heap.size w w'
theorem wrap_code (s:ByteArray) (n c:Int) (w:World):Calls Tryz.prog 15 #[.string s,.int .i64 n,.iface 41 (.int .i64 c)] w (WrapD 0 c w):=by
 go_enter Tryz.func15,Tryz.ntmps15;go_wp2;go_ret
 exact ⟨⟨_,rfl,Nat.le_refl _,_,_,rfl,by simp,by simp [cell_new],rfl⟩,(Below.refl _ _).alloc (Nat.le_refl _) _⟩
theorem wrap_err (s:ByteArray) (n:Int) {k:Nat} {v:Value} {c:Int} {w:World} (h:ErrD w (k+1) v c):Calls Tryz.prog 15 #[.string s,.int .i64 n,v] w (WrapD (k+1) c w):=by
 have H:=qH h;obtain ⟨g,v',rfl,_⟩:=h;go_enter Tryz.func15,Tryz.ntmps15;go_wp2;go_ret
 exact ⟨⟨_,rfl,Nat.le_refl _,_,_,rfl,by simp,by simp [cell_new],H.out.below ((Below.refl _ _).alloc (Nat.le_refl _) _)⟩,(Below.refl _ _).alloc (Nat.le_refl _) _⟩
end err
namespace regn
open Go Go.RowKit base map_ err cmp above merge rows Go.Maps store monoj
def applyX (x:RX) (y:wire.Wr):RX :=
 { x with ck:=max x.ck y.t,L:=takeL x.L (y.se,y.k) ⟨y.t,y.s,y.v,y.g,y.l⟩,Lf:=if y.r=x.id then feed.addL x.id x.base x.Lf y else x.Lf }
def OpI (own:Nat→Nat) (p:RP) (x:RX) (l:List Nat) (w w':World):Prop:=∃ own',RegI w' own' p x∧Grown own own' w∧Keeps (tags own l) w w'
section
variable {w:World} {own:Nat→Nat} {p:RP} {x:RX}
theorem RegI.zero (h:RegI w own p x) {i:Nat} (hi:w.heap.size≤i):own i=0:=Classical.byContradiction fun h2=>by have:=h.small i h2;omega
theorem apply_i (y:wire.Wr) (h:RegI w own p x) (hnum:wire.NumsO w 0 y.d y.z) (hT:∀ i,y.d.ownBlock=some i→own i=0) (hLf:x.Lf.length<1000000) (hz1:y.se.size≤maxLen) (hz2:y.k.size≤maxLen) (ht:0≤y.t∧y.t≤1099511627776) :
  Calls Tryz.prog 203 #[.pointer (some ⟨p.r,0,none⟩),.agg ⟨y.cells⟩] w fun e w'=>e=.returned noResult∧OpI own p (applyX x y) [6,9,10] w w':=by
 have hds:=hnum.nums;obtain ⟨A,n,c,hd,_⟩:=hds;have HY:=qH (show applyX x y=applyX x y from rfl);obtain ⟨X2,hX2⟩:∃ X2,applyX x y=X2:=⟨_,rfl⟩;rw [hX2];unfold applyX at hX2;obtain ⟨yr,yn,yt,ys,yd,yz,yse,yk,yv,yg,yl⟩:=y;dsimp only at hd ht hz1 hz2 hnum hT hX2;have hnL:=hnum.2;clear HY;subst hd;have HX2:=qH hX2;have HNUM:=qH hnum;have HT:=qH hT;have HQ:=qH (And.intro hnL hLf);clear hnum hT hX2 hnL hLf;have hlt:=h.reg.lt;go_enter Tryz.func203,Tryz.ntmps203;go_wp2_with fail;have hb1:=below_new w (.cells (wire.Wr.cells ⟨yr,yn,yt,ys,.slice A n c,yz,yse,yk,yv,yg,yl⟩).toArray 188);have hW1:=Blk.new w 188 (wire.Wr.cells ⟨yr,yn,yt,ys,.slice A n c,yz,yse,yk,yv,yg,yl⟩).toArray;have HR1:=qH (h.below hb1);have hcb0:own w.heap.size=0:=h.zero (Nat.le_refl _);have HSM:=qH h.small;have HB1:=qH hb1;have HN1:=qH (HNUM.out.below hb1);have hcb:w.heap.size<(w.alloc (.cells (wire.Wr.cells ⟨yr,yn,yt,ys,.slice A n c,yz,yse,yk,yv,yg,yl⟩).toArray 188)).heap.size:=by simp
 clear h hb1;obtain ⟨cb,hcbe⟩:∃ cb,w.heap.size=cb:=⟨_,rfl⟩;rw [hcbe] at hW1 hcb hcb0 hlt ⊢;generalize w.alloc (.cells (wire.Wr.cells ⟨yr,yn,yt,ys,.slice A n c,yz,yse,yk,yv,yg,yl⟩).toArray 188)=w1 at *;have HO6:=qH HR1.out.o6;have HO9:=qH HR1.out.o9;have c2:w1.cell? ⟨p.r,4,none⟩=some (.pointer (some ⟨p.gc,0,none⟩)):=HR1.out.reg.c4;have b2:w1.cell? ⟨cb,2,none⟩=some (.int .i64 yt):=hW1.cell 2;have HW1:=qH hW1;have hlt1:p.r<w1.heap.size:=by omega
 clear hW1;refine wp_region_monoJ (fun i=>i=p.gc) [7] (by kernel_rfl) ?_
 iterate 3
  first|refine qJ 0 (v:=?_) ?_ ?_|refine qJ 1 (v:=?_) ?_ ?_|refine qJ 2 (v:=?_) ?_ ?_
  rotate_left
  ·(intro W hSw;(first|(have hcW:=hSw.cells;try simp only [qSd] at hcW)|skip);go_simp <;> rfl)
  try simp only [qPA]
 refine wpMonoJ_read' 3 [7] (v:=?_) rfl (by kernel_rfl) (by kernel_rfl) (by kernel_rfl) (by rfl) (by kernel_rfl) (by rfl) (fun _ _ _ h=>h) (by rfl) ?_ ?_;rotate_left
 ·(intro W hSw;(first|(have hcW:=hSw.cells;try simp only [qSd] at hcW)|skip);go_simp <;> rfl)
 try simp only [qPA]
 iterate 2
  first|refine qJ 4 (v:=?_) ?_ ?_|refine qJ 5 (v:=?_) ?_ ?_
  rotate_left
  ·(intro W hSw;(first|(have hcW:=hSw.cells;try simp only [qSd] at hcW)|skip);go_simp <;> rfl)
  try simp only [qPA]
 refine wpMonoJ_read' 6 [7] (v:=?_) rfl (by kernel_rfl) (by kernel_rfl) (by kernel_rfl) (by rfl) (by kernel_rfl) (by rfl) (fun _ _ _ h=>h) (by rfl) ?_ ?_;rotate_left
 ·(intro W hSw;(first|(have hcW:=hSw.cells;try simp only [qSd] at hcW)|skip);go_simp <;> rfl)
 try simp only [qPA]
 refine wpMonoJ_one' 7 (by kernel_rfl) rfl (by rfl) (fun K hK=>?_)
 go_simp
 refine (clock.see_yes p.gc x.ck x.id yt w1.drew HR1.out.drew.clk ht.1 ht.2).mono ?_;rintro e w2 ⟨rfl,hc2,hk2⟩;have HC2:=qH hc2;have HK2:=qH hk2;clear hc2 hk2;refine hK.out _ _ ?_ ?_
 ·exact moved HK2.out (by decide)
 clear hK K
 try simp only [qPA]
 refine wpMonoJ_done (by kernel_rfl) ?_ _;have HR2:=qH (HR1.out.drew.setClk HC2.out HK2.out (fun i (e:i=p.gc)=>by rw [e];exact HO6.out));have hcgc:¬ cb=p.gc:=fun e=>by rw [e,HO6.out] at hcb0;cases hcb0
 have HW2:=qH (Blk.keeps (Blk.drew HW1.out) HK2.out hcgc);have HN2:=qH ((HN1.out.keeps (X:=nobody) Keeps.drew (fun _ _ h=>h)).keeps HK2.out (fun i hi e=>by have e:i=p.gc:=e;have h0:=HT.out i hi;rw [e,HO6.out] at h0;cases h0));have hl2:=HR2.out.reg.lt;have hcl2:=HW2.out.lt;have c4:w2.cell? ⟨p.r,6,none⟩=some (.pointer (some ⟨p.st,0,none⟩)):=HR2.out.reg.c6;obtain ⟨b0,b1,b2',b3,b4,b5,b6,b7,b8,b9⟩:=cells10 HW2.out;have HZ:=qH (And.intro hz1 hz2);clear hz1 hz2 c2 b2;go_wp2_with fail;refine wp_region_monoJ (fun i=>i=p.sb) [5] (by kernel_rfl) ?_
 iterate 3
  first|refine qJ 0 (v:=?_) ?_ ?_|refine qJ 1 (v:=?_) ?_ ?_|refine qJ 2 (v:=?_) ?_ ?_
  rotate_left
  ·(intro W hSw;(first|(have hcW:=hSw.cells;try simp only [qSd] at hcW)|skip);go_simp <;> rfl)
  try simp only [qPA]
 refine wpMonoJ_read' 3 [5] (v:=?_) rfl (by kernel_rfl) (by kernel_rfl) (by kernel_rfl) (by rfl) (by kernel_rfl) (by rfl) (fun _ _ _ h=>h) (by rfl) ?_ ?_;rotate_left
 ·(intro W hSw;(first|(have hcW:=hSw.cells;try simp only [qSd] at hcW)|skip);go_simp <;> rfl)
 try simp only [qPA]
 refine wpMonoJ_read' 4 [5] (v:=?_) rfl (by kernel_rfl) (by kernel_rfl) (by kernel_rfl) (by rfl) (by kernel_rfl) (by rfl) (fun _ _ _ h=>h) (by rfl) ?_ ?_;rotate_left
 ·(intro W hSw;(first|(have hcW:=hSw.cells;try simp only [qSd] at hcW)|skip);go_simp <;> rfl)
 try simp only [qPA]
 refine wpMonoJ_one' 5 (by kernel_rfl) rfl (by rfl) (fun K hK=>?_)
 go_simp
 refine (apply_any p.st p.sb x.L yr yn yt ys A n c yse yk yv yg yl w2.drew HR2.out.drew.sto HZ.out.1 HZ.out.2).mono ?_;rintro e w3 ⟨rfl,hs3,hk3⟩;have HS3:=qH hs3;have HK3:=qH hk3;clear hs3 hk3;refine hK.out _ _ ?_ ?_
 ·exact moved HK3.out (by decide)
 clear hK K
 try simp only [qPA]
 refine wpMonoJ_done (by kernel_rfl) ?_ _;have HR3:=qH (HR2.out.drew.setSto HS3.out HK3.out (fun i (e:i=p.sb)=>by rw [e];exact HO9.out));have hcbb:¬ cb=p.sb:=fun e=>by rw [e,HO9.out] at hcb0;cases hcb0
 have HW3:=qH (Blk.keeps (Blk.drew HW2.out) HK3.out hcbb);have HN3:=qH ((HN2.out.keeps (X:=nobody) Keeps.drew (fun _ _ h=>h)).keeps HK3.out (fun i hi e=>by have e:i=p.sb:=e;have h0:=HT.out i hi;rw [e,HO9.out] at h0;cases h0))
 have HK03:=qH (show Keeps (tags own [6,9,10]) w w3 from
  (((Keeps.of_below (X:=nobody) HB1.out).trans Keeps.drew).more (fun _ _ h=>h.elim)).trans
   ((HK2.out.more (fun i _ e=>by have e:i=p.gc:=e;rw [e];exact ⟨by rw [HO6.out];decide,by rw [HO6.out];decide⟩)).trans
    ((Keeps.drew (X:=tags own [6,9,10])).trans (HK3.out.more (fun i _ e=>by have e:i=p.sb:=e;rw [e];exact ⟨by rw [HO9.out];decide,by rw [HO9.out];decide⟩)))))
 clear b0 b1 b2' b3 b4 b5 b6 b7 b8 b9 c4;have c0:w3.cell? ⟨p.r,0,none⟩=some (.int .i64 x.id):=HR3.out.reg.c0;have c5:w3.cell? ⟨p.r,7,none⟩=some (.pointer (some ⟨p.gf,0,none⟩)):=HR3.out.reg.c7;obtain ⟨b0,b1,b2',b3,b4,b5,b6,b7,b8,b9⟩:=cells10 HW3.out;have hl3:=HR3.out.reg.lt;have hcl3:=HW3.out.lt
 by_cases hown:yr=(x.id:Int)
 ·have HOWN:=qH hown
  have deq:(yr==(x.id:Int))=true:=by simpa using hown
  clear hown;go_wp2_with fail;refine wp_region_mono nobody (by kernel_rfl) ?_
  iterate 8
   first|refine qT 0 (v:=?_) ?_ ?_|refine qT 1 (v:=?_) ?_ ?_|refine qT 2 (v:=?_) ?_ ?_|refine qT 3 (v:=?_) ?_ ?_|refine qT 4 (v:=?_) ?_ ?_|refine qT 5 (v:=?_) ?_ ?_|refine qT 6 (v:=?_) ?_ ?_|refine qT 7 (v:=?_) ?_ ?_
   rotate_left
   ·(intro W hSw;(have hcW:=hSw.cells;try simp only [qSd] at hcW);go_simp <;> rfl)
   try simp only [qPA]
  refine wpMono_done (by kernel_rfl) ?_ _;have HR4:=qH HR3.out.drew;have HN4:=qH (HN3.out.keeps (X:=nobody) Keeps.drew (fun _ _ h=>h));have HK04:=qH (HK03.out.trans Keeps.drew);have HW4:=qH (Blk.drew HW3.out);clear b0 b1 b2' b3 b4 b5 b6 b7 b8 b9 c0 c5 hl3 hcl3 HR3 HN3 HK03 HW3 HC2 HK2 HS3 HK3 deq;generalize w3.drew=w4 at *;have c5:w4.cell? ⟨p.r,7,none⟩=some (.pointer (some ⟨p.gf,0,none⟩)):=HR4.out.reg.c7;obtain ⟨b0,b1,b2',b3,b4,b5,b6,b7,b8,b9⟩:=cells10 HW4.out;have hl4:=HR4.out.reg.lt;have hcl4:=HW4.out.lt;go_wp2_with fail;refine wp_region_monoJ (fun i=>own i=10) [5] (by kernel_rfl) ?_
  iterate 3
   first|refine qJ 0 (v:=?_) ?_ ?_|refine qJ 1 (v:=?_) ?_ ?_|refine qJ 2 (v:=?_) ?_ ?_
   rotate_left
   ·(intro W hSw;(first|(have hcW:=hSw.cells;try simp only [qSd] at hcW)|skip);go_simp <;> rfl)
   try simp only [qPA]
  refine wpMonoJ_read' 3 [5] (v:=?_) rfl (by kernel_rfl) (by kernel_rfl) (by kernel_rfl) (by rfl) (by kernel_rfl) (by rfl) (fun _ _ _ h=>h) (by rfl) ?_ ?_;rotate_left
  ·(intro W hSw;(first|(have hcW:=hSw.cells;try simp only [qSd] at hcW)|skip);go_simp <;> rfl)
  try simp only [qPA]
  refine wpMonoJ_read' 4 [5] (v:=?_) rfl (by kernel_rfl) (by kernel_rfl) (by kernel_rfl) (by rfl) (by kernel_rfl) (by rfl) (fun _ _ _ h=>h) (by rfl) ?_ ?_;rotate_left
  ·(intro W hSw;(first|(have hcW:=hSw.cells;try simp only [qSd] at hcW)|skip);go_simp <;> rfl)
  try simp only [qPA]
  refine wpMonoJ_one' 5 (by kernel_rfl) rfl (by rfl) (fun K hK=>?_)
  go_simp
  refine (feed.add_any ⟨yr,yn,yt,ys,.slice A n c,yz,yse,yk,yv,yg,yl⟩ HR4.out.drew.feed (HN4.out.nums.drew') HQ.out.1 HQ.out.2).mono ?_;rintro e w5 ⟨v,S5,rfl,_,_,hf5,hk5,hs5⟩;have HF5:=qH hf5;have HK5:=qH hk5;have HS5:=qH hs5;clear hf5 hk5 hs5;refine hK.out _ _ ?_ ?_
  ·exact moved HK5.out (by decide)
  clear hK K
  try simp only [qPA]
  refine wpMonoJ_done (by kernel_rfl) ?_ _;refine bodyPost_end (results_none rfl _ _ _) rfl ?_;rw [if_pos HOWN.out] at HX2;obtain ⟨r1,r2⟩:=HR4.out.drew.setFeed HF5.out HK5.out (fun i hi=>hi) HS5.out;refine ⟨rfl,_,by rw [←HX2.out];exact r1,r2.later HK04.out.size,HK04.out.trans (Keeps.drew.trans (HK5.out.more (fun i _ e=>⟨by rw [show own i=10 from e];decide,by rw [show own i=10 from e];decide⟩)))⟩
 ·have HOWN:=qH hown
  have deq:(yr==(x.id:Int))=false:=by simpa using hown
  clear hown;go_wp2_with fail;refine wp_region_mono nobody (by kernel_rfl) ?_
  iterate 8
   first|refine qT 0 (v:=?_) ?_ ?_|refine qT 1 (v:=?_) ?_ ?_|refine qT 2 (v:=?_) ?_ ?_|refine qT 3 (v:=?_) ?_ ?_|refine qT 4 (v:=?_) ?_ ?_|refine qT 5 (v:=?_) ?_ ?_|refine qT 6 (v:=?_) ?_ ?_|refine qT 7 (v:=?_) ?_ ?_
   rotate_left
   ·(intro W hSw;(have hcW:=hSw.cells;try simp only [qSd] at hcW);go_simp <;> rfl)
   try simp only [qPA]
  refine wpMono_done (by kernel_rfl) ?_ _;go_wp2_with fail;refine bodyPost_end (results_none rfl _ _ _) rfl ?_;rw [if_neg HOWN.out] at HX2;refine ⟨rfl,own,?_,Grown.refl _ _,HK03.out.trans Keeps.drew⟩;rw [←HX2.out];exact HR3.out.drew
end
end regn
namespace jrn
open Go Go.RowKit Go.Lib base rowe err rowc wireb jrnp diskp disk framew monoj
section
variable {w w1 w':World} {S:Nat→Prop} {g:Nat} {d:Dk}
theorem jat_code (j gn gs gen:Nat) (c:Int) (w:World) (h:JrnB w j gn gs gen):Calls Tryz.prog 114 #[.pointer (some ⟨j,0,none⟩),.iface 41 (.int .i64 c)] w (WrapD 0 c w):=by
 have c2:w.cell? ⟨j,2,none⟩=_:=h.cell 2;have hlt:=h.lt;simp at c2
 clear h;go_enter Tryz.func114,Tryz.ntmps114;go_wp2_with fail;refine (wrap_code _ _ _ _).mono ?_;rintro e w1 ⟨⟨g,rfl,h1⟩,h2⟩;have HR:=qH (show WrapD 0 c w (.returned (.iface 121 (.pointer (some ⟨g,0,none⟩)))) w1 from ⟨⟨g,rfl,h1⟩,h2⟩);clear h1 h2;go_wp2_with fail;go_ret
 exact HR.out
theorem jat_err (j gn gs gen:Nat) {k:Nat} {v:Value} {c:Int} (w:World) (h:JrnB w j gn gs gen) (he:ErrD w (k+1) v c):Calls Tryz.prog 114 #[.pointer (some ⟨j,0,none⟩),v] w (WrapD (k+1) c w):=by
 have HE:=qH he;obtain ⟨g0,v',rfl,_⟩:=he;have c2:w.cell? ⟨j,2,none⟩=_:=h.cell 2;have hlt:=h.lt;simp at c2
 clear h;go_enter Tryz.func114,Tryz.ntmps114;go_wp2_with fail;refine (wrap_err _ _ HE.out).mono ?_;rintro e w1 ⟨⟨g,rfl,h1⟩,h2⟩;have HR:=qH (show WrapD (k+1) c w (.returned (.iface 121 (.pointer (some ⟨g,0,none⟩)))) w1 from ⟨⟨g,rfl,h1⟩,h2⟩);clear h1 h2;go_wp2_with fail;go_ret
 exact HR.out
theorem done_full (j gn gs gen:Nat) {v:Value} (w:World) (h:JrnB w j gn gs gen) (he:ErrD w 1 v 4):Calls Tryz.prog 116 #[.pointer (some ⟨j,0,none⟩),v] w (WrapD 1 4 w):=by
 have H:=qH h;have HE:=qH he;obtain ⟨g0,v',rfl,_⟩:=he;clear h;go_enter Tryz.func116,Tryz.ntmps116;go_wp2_with fail;refine (is_chain 4 HE.out (by omega) (by omega)).mono ?_;rintro e w1 ⟨rfl,rfl⟩;rw [show ((4:Int)==4)=true from rfl];go_wp2_with fail;refine (jat_err j gn gs gen _ H.out HE.out).mono ?_;rintro e w1 ⟨⟨g,rfl,h1⟩,h2⟩;have HR:=qH (show WrapD 1 4 w (.returned (.iface 121 (.pointer (some ⟨g,0,none⟩)))) w1 from ⟨⟨g,rfl,h1⟩,h2⟩);clear h1 h2;go_wp2_with fail;go_ret
 exact HR.out
def NoPut (gen:Nat) (l:List Part) (d:Dk) (rs:List (List UInt8)) (c:Int):Prop:=rs≠[]∧((c=3∧400<rs.length)∨(c=4∧rs.length≤400∧¬ (dev (putL gen l rs)).length≤d.room))
theorem NoPut.code {gen:Nat} {l:List Part} {rs:List (List UInt8)} {c:Int} (h:NoPut gen l d rs c):c=3∨c=4:=h.2.elim (fun h=>.inl h.1) (fun h=>.inr h.1)
def PutG (S:Nat→Prop) (g gen:Nat) (d:Dk) (l:List Part) (rs:List (List UInt8)) (w:World) (e:Ending) (w':World):Prop :=
 ∃ v S',e=.returned v∧Grow S S' w∧Keeps S w w' ∧
  ((v=.nilIface∧DiskS w' S' g (if rs=[] then d else putD gen l rs d)∧(rs=[]∨(dev (putL gen l rs)).length≤d.room)) ∨
   (∃ k c,NoPut gen l d rs c∧k≤1∧ErrD w' (k+1) v c∧DiskS w' S' g d))
theorem frames_few {gen:Nat} {l:List Part} {rs:List (List UInt8)} {d:Dk} (h1:1≤gen) (h2:gen≤1099511627776) (hn:rs.length≤400) (hrs:∀ s ∈ rs,s.length≤1000) (hw:Well d l):(framesB d gen rs).length≤1048576:=by
 have h4:framesB d gen rs=dev (recsL gen (dev l).length rs):=by unfold framesB;rw [safe_well hw.down,hw.safe,hw.b,recs_dev]
 rw [h4];have hb:=hw.few;rw [hw.b] at hb;have:=jrnp.recs_le gen (dev l).length 1000 rs h1 h2 hb (by omega) hrs;have h5:rs.length*(121+2*1000)≤400*(121+2*1000):=Nat.mul_le_mul_right _ hn;omega
theorem put_g (j gn gs gen n c:Nat) (A:Option Addr) (rs:List (List UInt8)) (l:List Part) (h1:1≤gen) (h2:gen≤1099511627776) (hl:rs.length=n) (hn6:n≤1000000) (hrs:∀ s ∈ rs,s.length≤1000)
  (hr:Reads w w.heap.size 1 A n (scells rs)) (hj:JrnB w j gn gs gen) (hd:DiskS w S gn d) (hjS:¬ S j) (hw:Well d l) :
  Calls Tryz.prog 52 #[.pointer (some ⟨j,0,none⟩),.slice A n c] w (PutG S gn gen d l rs w):=by
 have c0:w.cell? ⟨j,0,none⟩=_:=hj.cell 0;have c2:w.cell? ⟨j,2,none⟩=_:=hj.cell 2;have c3:w.cell? ⟨j,3,none⟩=_:=hj.cell 3;have hlt:=hj.lt;simp at c0 c2 c3
 have HJ:=qH hj;have HD:=qH hd;have HR:=qH hr;have hsm:∀ i,S i→i<w.heap.size:=by obtain ⟨v,hv⟩:=hd;exact hv.small
 have HSM:=qH hsm
 rcases Nat.eq_zero_or_pos n with h0|h0
 ·subst h0
  obtain rfl:=List.eq_nil_of_length_eq_zero hl;clear hj hd hr hrs hsm hw;go_enter Tryz.func52,Tryz.ntmps52;go_wp2_with fail;go_ret
  exact ⟨_,S,rfl,Grow.refl _ _,Keeps.refl _ _,.inl ⟨rfl,by rw [if_pos rfl];exact HD.out,.inl rfl⟩⟩
 have n1:¬ n=0:=by omega
 by_cases h4:400<n
 ·have d4:decide ((400:Int)<(n:Int))=true:=decide_eq_true (by omega)
  clear hj hd hr hrs hsm hw;go_enter Tryz.func52,Tryz.ntmps52;go_wp2_with fail;refine (jat_code j gn gs gen 3 _ HJ.out).mono ?_;rintro e w1 ⟨⟨g,rfl,_,h1⟩,h2⟩;have HR:=qH h1;have HB:=qH h2;clear h1 h2;go_wp2_with fail;go_ret
  exact ⟨_,S,rfl,Grow.refl _ _,Keeps.of_below HB.out,.inr ⟨0,3,⟨fun e=>n1 (by rw [←hl,e];rfl),.inl ⟨rfl,by rw [hl];exact h4⟩⟩,by omega,HR.out,HD.out.below HB.out⟩⟩
 have d4:decide ((400:Int)<(n:Int))=false:=decide_eq_false (by omega);have hok:=hd.ok_;have hdn:=hw.down;have hfl:=frames_few h1 h2 (by omega) hrs hw;have hlen:lenD d≤d.b.length:=by unfold lenD;rw [hdn];exact Nat.le_refl _
 have HLEN:=qH (len_any hd);rw [len_eq] at HLEN;have hrs4:∀ s ∈ rs,s.length≤4096:=fun s hs=>by have:=hrs s hs;omega
 have HRS:=qH hrs4;have hpj:writeJ d gen (lenD d) (framesB d gen rs)=putJ d gen rs:=rfl;have hne:rs≠[]:=fun e=>by rw [e] at hl;exact n1 hl.symm
 have hpc:((dev (putL gen l rs)).length≤d.room∧putJ d gen rs=(putD gen l rs d,0))∨(NoPut gen l d rs 4∧putJ d gen rs=(d,4)):=by
  by_cases hroom:(dev (putL gen l rs)).length≤d.room
  ·exact .inl ⟨hroom,put_well gen rs hw hroom⟩
  ·exact .inr ⟨⟨hne,.inr ⟨rfl,by omega,hroom⟩⟩,put_full gen rs hw hroom⟩
 have HPC:=qH hpc;have HP:=qH hpj;have HNE:=qH hne;clear hj hd hr hrs hrs4 hsm hw hpj hok hdn hpc hne;generalize putJ d gen rs=PJ at *;obtain ⟨PD,hPD⟩:∃ PD,putD gen l rs d=PD:=⟨_,rfl⟩;rw [hPD] at HPC;have HPD:=qH hPD;clear hPD;go_enter Tryz.func52,Tryz.ntmps52;go_wp2_with fail;refine (long_w n c A rs _ hl (by omega) HRS.out HR.out).mono ?_;rintro e w1 ⟨rfl,rfl⟩;go_wp2_with fail;have HFR:=qH (frames_w (w:=w1.drew) j gen n c A rs h1 h2 hl (by omega) HRS.out hfl (HR.out.below (Below.refl _ _).drew) HD.out.drew);obtain ⟨F,hF⟩:∃ F,framesB d gen rs=F:=⟨_,rfl⟩;obtain ⟨ld,hld⟩:∃ x,lenD d=x:=⟨_,rfl⟩;rw [hF] at HFR hfl HP;rw [hld] at HP hlen HLEN
 rcases HPC.out with ⟨hroom,hpj⟩|⟨hno,hpj⟩
 ·have HROOM:=qH hroom
  clear hroom;refine wp_region_monoJ (S) [26] (by kernel_rfl) ?_
  iterate 24
   first|refine qJ 0 (v:=?_) ?_ ?_|refine qJ 1 (v:=?_) ?_ ?_|refine qJ 2 (v:=?_) ?_ ?_|refine qJ 3 (v:=?_) ?_ ?_|refine qJ 4 (v:=?_) ?_ ?_|refine qJ 5 (v:=?_) ?_ ?_|refine qJ 6 (v:=?_) ?_ ?_|refine qJ 7 (v:=?_) ?_ ?_|refine qJ 8 (v:=?_) ?_ ?_|refine qJ 9 (v:=?_) ?_ ?_|refine qJ 10 (v:=?_) ?_ ?_|refine qJ 11 (v:=?_) ?_ ?_|refine qJ 12 (v:=?_) ?_ ?_|refine qJ 13 (v:=?_) ?_ ?_|refine qJ 15 (v:=?_) ?_ ?_|refine qJ 16 (v:=?_) ?_ ?_|refine qJ 17 (v:=?_) ?_ ?_|refine qJ 18 (v:=?_) ?_ ?_|refine qJ 19 (v:=?_) ?_ ?_|refine qJ 20 (v:=?_) ?_ ?_|refine qJ 21 (v:=?_) ?_ ?_|refine qJ 22 (v:=?_) ?_ ?_|refine qJ 23 (v:=?_) ?_ ?_|refine qJ 24 (v:=?_) ?_ ?_
   rotate_left
   ·(intro W hSw;(first|(have hxW:=HJ.out.drew.keeps hSw hjS;have y0:W.cell? ⟨j,0,none⟩=some (.pointer (some ⟨gn,0,none⟩)):=hxW.cell 0;have y2:W.cell? ⟨j,2,none⟩=some (.int .i64 gen):=hxW.cell 2;have exl:=hxW.lt)|skip);go_simp <;> rfl)
   try simp only [qPA]
  refine wpMonoJ_one' 14 (by kernel_rfl) rfl (by rfl) (fun K hK=>?_)
  go_simp
  refine (len_any HD.out.drew).mono ?_;rintro e w2 ⟨rfl,rfl⟩;rw [len_eq,hld];refine hK.out _ _ ?_ ?_
  ·exact .refl _ _
  clear hK K
  try simp only [qPA]
  refine wpMonoJ_one' 25 (by kernel_rfl) rfl (by rfl) (fun K hK=>?_)
  go_simp
  refine HFR.out.mono ?_;rintro e w3 ⟨rfl,hb3⟩;have HD3:=qH (HD.out.drew.below hb3);have HJ3:=qH (show JrnB w3 j gn gs gen from HJ.out.drew.below hb3 (by simpa using hlt));have HK3:=qH (Keeps.of_below (X:=nobody) hb3);have HB3:=qH hb3;clear hb3;refine hK.out _ _ ?_ ?_
  ·exact .of_below HB3.out
  clear hK K
  try simp only [qPA]
  refine wpMonoJ_one' 26 (by kernel_rfl) rfl (by rfl) (fun K hK=>?_)
  go_simp
  refine (write_any j gen ld (str F) h1 h2 (by rw [str_size];exact hfl) hlen HD3.out).mono ?_;rintro e w4 h4;rw [str_list,HP.out,hpj] at h4;obtain ⟨rfl,S',hg4,hd4,hk4⟩:=OpR.well h4 rfl;have HG4:=qH hg4;have HD4:=qH hd4;have HK4:=qH hk4;have HJ4:=qH (show JrnB w4 j gn gs gen from HJ3.out.keeps hk4 hjS);clear h4 hg4 hd4 hk4;refine hK.out _ _ ?_ ?_
  ·exact moved HK4.out (by decide)
  clear hK K
  try simp only [qPA]
  refine wpMonoJ_one' 27 (by kernel_rfl) rfl (by rfl) (fun K hK=>?_)
  go_simp
  refine (done_ok j gn gs gen _ HJ4.out).mono ?_;rintro e w5 ⟨rfl,rfl⟩;refine hK.out _ _ ?_ ?_
  ·exact .refl _ _
  clear hK K
  try simp only [qPA]
  refine qJ 28 (v:=?_) ?_ ?_;rotate_left
  ·(intro W hSw;(first|(have hxW:=HJ.out.drew.keeps hSw hjS;have y0:W.cell? ⟨j,0,none⟩=some (.pointer (some ⟨gn,0,none⟩)):=hxW.cell 0;have y2:W.cell? ⟨j,2,none⟩=some (.int .i64 gen):=hxW.cell 2;have exl:=hxW.lt)|skip);go_simp <;> rfl)
  try simp only [qPA]
  refine wpMonoJ_done (by kernel_rfl) ?_ _;have hkw:Keeps S w1 w3:=Keeps.drew.trans (HK3.out.more fun _ _ h=>h.elim);have HR4:=qH (show PutG S gn gen d l rs w1 (.returned .nilIface) w5 from ⟨_,S',rfl,⟨HG4.out.1,fun i hi=>(HG4.out.2 i hi).imp id fun h=>Nat.le_trans hkw.size h⟩,hkw.trans HK4.out,.inl ⟨rfl,by rw [if_neg HNE.out,HPD.out];exact HD4.out,.inr HROOM.out⟩⟩);clear HG4 HD4 HK4 HJ4 HK3 HD3 HJ3;go_wp2_with fail;go_ret
  exact HR4.out
 ·have HNO:=qH hno
  clear hno;refine wp_region_monoJ (S) [26] (by kernel_rfl) ?_
  iterate 24
   first|refine qJ 0 (v:=?_) ?_ ?_|refine qJ 1 (v:=?_) ?_ ?_|refine qJ 2 (v:=?_) ?_ ?_|refine qJ 3 (v:=?_) ?_ ?_|refine qJ 4 (v:=?_) ?_ ?_|refine qJ 5 (v:=?_) ?_ ?_|refine qJ 6 (v:=?_) ?_ ?_|refine qJ 7 (v:=?_) ?_ ?_|refine qJ 8 (v:=?_) ?_ ?_|refine qJ 9 (v:=?_) ?_ ?_|refine qJ 10 (v:=?_) ?_ ?_|refine qJ 11 (v:=?_) ?_ ?_|refine qJ 12 (v:=?_) ?_ ?_|refine qJ 13 (v:=?_) ?_ ?_|refine qJ 15 (v:=?_) ?_ ?_|refine qJ 16 (v:=?_) ?_ ?_|refine qJ 17 (v:=?_) ?_ ?_|refine qJ 18 (v:=?_) ?_ ?_|refine qJ 19 (v:=?_) ?_ ?_|refine qJ 20 (v:=?_) ?_ ?_|refine qJ 21 (v:=?_) ?_ ?_|refine qJ 22 (v:=?_) ?_ ?_|refine qJ 23 (v:=?_) ?_ ?_|refine qJ 24 (v:=?_) ?_ ?_
   rotate_left
   ·(intro W hSw;(first|(have hxW:=HJ.out.drew.keeps hSw hjS;have y0:W.cell? ⟨j,0,none⟩=some (.pointer (some ⟨gn,0,none⟩)):=hxW.cell 0;have y2:W.cell? ⟨j,2,none⟩=some (.int .i64 gen):=hxW.cell 2;have exl:=hxW.lt)|skip);go_simp <;> rfl)
   try simp only [qPA]
  refine wpMonoJ_one' 14 (by kernel_rfl) rfl (by rfl) (fun K hK=>?_)
  go_simp
  refine (len_any HD.out.drew).mono ?_;rintro e w2 ⟨rfl,rfl⟩;rw [len_eq,hld];refine hK.out _ _ ?_ ?_
  ·exact .refl _ _
  clear hK K
  try simp only [qPA]
  refine wpMonoJ_one' 25 (by kernel_rfl) rfl (by rfl) (fun K hK=>?_)
  go_simp
  refine HFR.out.mono ?_;rintro e w3 ⟨rfl,hb3⟩;have HD3:=qH (HD.out.drew.below hb3);have HJ3:=qH (show JrnB w3 j gn gs gen from HJ.out.drew.below hb3 (by simpa using hlt));have HK3:=qH (Keeps.of_below (X:=nobody) hb3);have HB3:=qH hb3;clear hb3;refine hK.out _ _ ?_ ?_
  ·exact .of_below HB3.out
  clear hK K
  try simp only [qPA]
  refine wpMonoJ_one' 26 (by kernel_rfl) rfl (by rfl) (fun K hK=>?_)
  go_simp
  refine (write_any j gen ld (str F) h1 h2 (by rw [str_size];exact hfl) hlen HD3.out).mono ?_;rintro e w4 h4;rw [str_list,HP.out,hpj] at h4;obtain ⟨v4,S',rfl,heo,hg4,hd4,hk4,_⟩:=h4
  have hE4:Err w4 v4 4:=by
   rcases heo with ⟨h,_⟩|⟨_,h,_⟩
   ·cases h
   ·exact h
  have HE4:=qH hE4.one;obtain ⟨ke,rfl⟩:=hE4.form;have HG4:=qH hg4;have HD4:=qH hd4;have HK4:=qH hk4;have HJ4:=qH (show JrnB w4 j gn gs gen from HJ3.out.keeps hk4 hjS);clear hg4 hd4 hk4 heo hE4;refine hK.out _ _ ?_ ?_
  ·exact moved HK4.out (by decide)
  clear hK K
  try simp only [qPA]
  refine wpMonoJ_one' 27 (by kernel_rfl) rfl (by rfl) (fun K hK=>?_)
  go_simp
  refine (done_full j gn gs gen _ HJ4.out HE4.out).mono ?_;rintro e w5 ⟨⟨g5,rfl,_,h5⟩,hb5⟩;have HE5:=qH h5;have HB5:=qH hb5;clear h5 hb5;refine hK.out _ _ ?_ ?_
  ·exact .of_below HB5.out
  clear hK K
  try simp only [qPA]
  refine qJ 28 (v:=?_) ?_ ?_;rotate_left
  ·(intro W hSw;(first|(have hxW:=HJ.out.drew.keeps hSw hjS;have y0:W.cell? ⟨j,0,none⟩=some (.pointer (some ⟨gn,0,none⟩)):=hxW.cell 0;have y2:W.cell? ⟨j,2,none⟩=some (.int .i64 gen):=hxW.cell 2;have exl:=hxW.lt)|skip);go_simp <;> rfl)
  try simp only [qPA]
  refine wpMonoJ_done (by kernel_rfl) ?_ _;have hkw:Keeps S w1 w3:=Keeps.drew.trans (HK3.out.more fun _ _ h=>h.elim);have HR4:=qH (show PutG S gn gen d l rs w1 (.returned (.iface 121 (.pointer (some ⟨g5,0,none⟩)))) w5 from ⟨_,S',rfl,⟨HG4.out.1,fun i hi=>(HG4.out.2 i hi).imp id fun h=>Nat.le_trans hkw.size h⟩,(hkw.trans HK4.out).trans (.of_below HB5.out),.inr ⟨1,4,HNO.out,by omega,HE5.out,HD4.out.below HB5.out⟩⟩);clear HG4 HD4 HK4 HJ4 HK3 HD3 HJ3 HE4 HE5;go_wp2_with fail;go_ret
  exact HR4.out
end
end jrn
namespace regn
open Go Go.RowKit base err monoj rowe disk diskp jrnp jrn
def putX (x:RX) (l:List Part) (rs:List (List UInt8)):RX:={ x with dn:=if rs=[] then x.dn else putD x.gen l rs x.dn }
section
variable {w:World} {own:Nat→Nat} {p:RP} {x:RX}
theorem Keeps.tagsX {o1:Nat→Nat} {Y:Nat→Prop} {w1 w2:World} {l2 l:List Nat} (hk:Keeps (fun i=>tags own l i∨Y i) w w1) (hg:Grown own o1 w) (hk2:Keeps (tags o1 l2) w1 w2) (h2:∀ i ∈ l2,i ∈ l):Keeps (fun i=>tags own l i∨Y i) w w2 :=
 ⟨hk2.os.trans hk.os,hk2.tape.trans hk.tape,hk2.output.trans hk.output,Nat.le_trans hk.size hk2.size,fun i hi hx=>by
  have h3:=hk.block i hi hx;refine (hk2.block i (Nat.lt_of_lt_of_le hi hk.size) (fun e=>?_)).trans h3
  rcases hg i with h4|h4|h4
  ·exact hx (.inl ⟨h2 _ (h4 ▸ e.1),h4 ▸ e.2⟩)
  ·exact e.2 h4
  ·omega⟩
theorem Keeps.tags {o1:Nat→Nat} {w1 w2:World} {l1 l2 l:List Nat} (hk:Keeps (tags own l1) w w1) (hg:Grown own o1 w) (hk2:Keeps (tags o1 l2) w1 w2) (h1:∀ i ∈ l1,i ∈ l) (h2:∀ i ∈ l2,i ∈ l):Keeps (tags own l) w w2 :=
 (Keeps.tagsX (Y:=nobody) (hk.more fun _ _ e=>.inl ⟨h1 _ e.1,e.2⟩) hg hk2 h2).more fun _ _ e=>e.elim id (fun h=>h.elim)
theorem Keeps.grown2 {X:Nat→Prop} {w w1 w2:World} {row:Option Nat} (hk:Keeps X w w1) (hg:w1.grownBy w2 row) (hr:∀ g,row=some g→X g∨w.heap.size≤g):Keeps X w w2 :=
 ⟨hg.os.trans hk.os,hg.tape.trans hk.tape,hg.output.trans hk.output,Nat.le_trans hk.size hg.size,fun i hi hx=>(hg.block i (Nat.lt_of_lt_of_le hi hk.size) (fun e=>by
  rcases hr i e.symm with h|h
  ·exact hx h
  ·omega)).trans (hk.block i hi hx)⟩
def PutI (own:Nat→Nat) (p:RP) (x:RX) (l:List Part) (rs:List (List UInt8)) (w:World) (e:Ending) (w':World):Prop :=
 ∃ v own',e=.returned v∧Grown own own' w∧Keeps (tags own [4]) w w' ∧
  ((v=.nilIface∧RegI w' own' p (putX x l rs)∧(rs=[]∨(dev (putL x.gen l rs)).length≤x.dn.room)) ∨
   (∃ k c,NoPut x.gen l x.dn rs c∧k≤1∧ErrD w' (k+1) v c∧RegI w' own' p x))
theorem put_i (n c:Nat) (A:Option Addr) (rs:List (List UInt8)) (l:List Part) (h:RegI w own p x) (h1:1≤x.gen) (h2:x.gen≤1099511627776) (hl:rs.length=n) (hn:n≤1000000) (hrs:∀ s ∈ rs,s.length≤1000)
  (hr:Reads w w.heap.size 1 A n (scells rs)) (hw:Well x.dn l) :
  Calls Tryz.prog 22 #[.pointer (some ⟨p.r,0,none⟩),.slice A n c] w (PutI own p x l rs w):=by
 have c3:w.cell? ⟨p.r,3,none⟩=some (.pointer (some ⟨p.jn,0,none⟩)):=h.reg.c3;have hlt:=h.reg.lt;have HR:=qH h;have HP:=qH (put_g (w:=w) p.jn p.gn p.gs x.gen n c A rs l h1 h2 hl hn hrs hr h.jrn h.now (by rw [h.o3];decide) hw);clear h h1 h2 hl hn hrs hr hw;go_enter Tryz.func22,Tryz.ntmps22;go_wp2_with fail;refine HP.out.mono ?_;rintro e w1 ⟨v,S',rfl,hg,hk,hc⟩;have hkt:Keeps (tags own [4]) w w1:=hk.more (fun i _ e=>⟨by rw [show own i=4 from e];decide,by rw [show own i=4 from e];decide⟩)
 rcases hc with ⟨rfl,hd,hf⟩|⟨k,c,hc,hk1,he,hd⟩
 ·obtain ⟨r1,r2⟩:=HR.out.setNow hd hk (fun i hi=>hi) hg.2
  have HQ:=qH (show PutI own p x l rs w (.returned .nilIface) w1 from ⟨_,_,rfl,r2,hkt,.inl ⟨rfl,r1,hf⟩⟩);clear hg hk hkt hd hf r1 r2;go_wp2_with fail;go_ret
  exact HQ.out
 ·obtain ⟨r1,r2⟩:=HR.out.setNow hd hk (fun i hi=>hi) hg.2
  have HQ:=qH (show PutI own p x l rs w (.returned v) w1 from ⟨_,_,rfl,r2,hkt,.inr ⟨k,c,hc,hk1,he,r1⟩⟩);have HE:=qH he;obtain ⟨g0,v',rfl,_⟩:=he;clear hg hk hkt hd r1 r2;go_wp2_with fail;refine (is_chain 4 HE.out (by omega) (by omega)).mono ?_;rintro e w2 ⟨rfl,rfl⟩
  rcases hc.code with rfl|rfl
  ·rw [show ((3:Int)==4)=false from rfl]
   go_wp2_with fail;refine (is_chain 3 HE.out (by omega) (by omega)).mono ?_;rintro e w2 ⟨rfl,rfl⟩;rw [show ((3:Int)==3)=true from rfl];go_wp2_with fail;go_ret
   exact HQ.out
  ·rw [show ((4:Int)==4)=true from rfl]
   go_wp2_with fail;go_ret
   exact HQ.out
end
end regn
namespace regn
open Go Go.RowKit base err monoj rowe disk diskp jrnp jrn writep wireb wirep
def recW (q:PW):List UInt8:=numW 1++textW q.bytes
def pabs (q:PW):wire.Wr:=q.wr (.slice none 0 0)
theorem wr_of_abs {y:wire.Wr} {q:PW} (h:y.abs=pabs q):y=q.wr y.d:=by
 obtain ⟨yr,yn,yt,ys,yd,yz,yse,yk,yv,yg,yl⟩:=y;simp only [wire.Wr.abs,pabs,PW.wr,wire.Wr.mk.injEq] at h ⊢;obtain ⟨a,b,c,d,_,e,f,g,i,j,k⟩:=h;exact ⟨a,b,c,d,trivial,e,f,g,i,j,k⟩
def applyL (x:RX) (L:List wire.Wr):RX:=L.foldl applyX x
theorem add_len (rg bs:Nat) (L:List wire.Wr) (y:wire.Wr):(feed.addL rg bs L y).length≤L.length+1:=by
 unfold feed.addL
 split
 ·simp
 ·omega
theorem applyL_len (L:List wire.Wr):∀ x:RX,(applyL x L).Lf.length≤x.Lf.length+L.length:=by
 induction L with
 | nil=>intro x;simp [applyL]
 | cons y L ih =>
  intro x;have h:=ih (applyX x y)
  have h2:(applyX x y).Lf.length≤x.Lf.length+1:=by
   unfold applyX;dsimp only
   split
   ·exact add_len _ _ _ _
   ·omega
  unfold applyL at h ⊢;rw [List.foldl_cons,List.length_cons];omega
theorem applyL_snoc (x:RX) (L:List wire.Wr) (y:wire.Wr):applyL x (L++[y])=applyX (applyL x L) y:=by unfold applyL;rw [List.foldl_append];rfl
theorem applyL_fix (L:List wire.Wr):∀ x:RX,(applyL x L).id=x.id∧(applyL x L).gen=x.gen:=by
 induction L with
 | nil=>intro x;exact ⟨rfl,rfl⟩
 | cons y L ih=>intro x;exact ih (applyX x y)
theorem rec_len {q:PW} (h:q.Ok):(recW q).length≤1000:=by
 have h1:=writep.bytes_len h;have h2:=numW_len 8 q.bytes.length (by omega);unfold recW textW;rw [List.length_append,List.length_append];have h3:=numW_len 8 1 (by omega);omega
def takesX (x:RX) (l:List Part) (rs:List (List UInt8)) (ps:List PW) (ap:List Int) (ws:List wire.Wr):RX:={ applyL (putX x l rs) (ps.map pabs) with ap:=ap,ws:=ws }
def TakesI (Sn:Nat→Prop) (own:Nat→Nat) (p:RP) (x:RX) (l:List Part) (va:Value) (rs:List (List UInt8)) (ps:List PW) (gi:Nat) (ap:List Int) (ws:List wire.Wr) (v7 v8:Value) (w:World) (e:Ending) (w':World):Prop :=
 ∃ v own',e=.returned v∧(∀ i,own' i=own i∨own' i=0∨w.heap.size≤i∨Sn i)∧Keeps (fun i=>tags own [1,4,6,9,10] i∨va.ownBlock=some i) w w' ∧
  ((v=.nilIface∧RegI w' own' { p with gi:=gi,va:=v7,vw:=v8 } (takesX x l rs ps ap ws)∧(rs=[]∨(dev (putL x.gen l rs)).length≤x.dn.room)) ∨
   (∃ k c,NoPut x.gen l x.dn rs c∧k≤1∧ErrD w' (k+1) v c∧RegI w' own' p x))
section
variable {w:World} {own:Nat→Nat} {p:RP} {x:RX}
theorem absk {L:List wire.Wr} {ps:List PW} (h:L.map wire.Wr.abs=ps.map pabs) {k:Nat} (hk:k<L.length):∃ hk2:k<ps.length,L[k].abs=pabs ps[k]:=by
 have hl:=congrArg List.length h;simp at hl
 have hk2:k<ps.length:=by omega
 refine ⟨hk2,?_⟩;have h1:(L.map wire.Wr.abs)[k]?=(ps.map pabs)[k]?:=by rw [h]
 rw [List.getElem?_map,List.getElem?_map,List.getElem?_eq_getElem hk,List.getElem?_eq_getElem hk2] at h1;exact Option.some.inj h1
theorem takes_i {Sn T:Nat→Prop} (va:Value) (rs0:List (List UInt8)) (vl:Value) (L:List wire.Wr) (ps:List PW) (gi:Nat) (ap:List Int) (ws:List wire.Wr) (v7 v8:Value) (lp:List Part)
  (h:RegI w own p x) (hw:Well x.dn lp) (g1:1≤x.gen) (g2:x.gen≤1099511627776) (hA:OwnS w 0 va rs0) (hrs0:∀ s ∈ rs0,s.length≤1000) (hl0:rs0.length≤1000)
  (hO:wire.OW w T 0 vl L) (hps:L.map wire.Wr.abs=ps.map pabs) (hok:∀ q ∈ ps,q.Ok) (hn:dep.InF w Sn gi x.id ap ws v7 v8) (hT:∀ i,T i→own i=0) (hSn:∀ i,Sn i→own i=0)
  (hAT:∀ i,va.ownBlock=some i→own i=0∧¬ T i∧¬ Sn i) (hLf:x.Lf.length+L.length≤900000) :
  Calls Tryz.prog 158 #[.pointer (some ⟨p.r,0,none⟩),va,vl,.pointer (some ⟨gi,0,none⟩)] w (TakesI Sn own p x lp va (rs0++ps.map recW) ps gi ap ws v7 v8 w):=by
 obtain ⟨i0,hi,hz⟩:=Option.map_eq_some_iff.1 str_info;simp only [Prod.mk.injEq] at hz;obtain ⟨hz0,hz1,hz2⟩:=hz;obtain ⟨A0,c0,rfl⟩:=hA.form;obtain ⟨A,c,rfl⟩:=ownsRow_slice hO.row;have hml:L.length=ps.length:=by have:=congrArg List.length hps;simpa using this
 obtain ⟨m,hm⟩:∃ m,L.length=m:=⟨_,rfl⟩;have hm9:m≤900000:=by omega
 rw [hm] at hml ⊢;have HR:=qH h;have HW:=qH hw;have HA:=qH hA;have HRS:=qH hrs0;have HO:=qH hO;have HPS:=qH hps;have HOK:=qH hok;have HN:=qH hn;have HT:=qH hT;have HSN:=qH hSn;have HAT:=qH hAT;have HM:=qH hm;have HML:=qH hml;have HLF:=qH hLf;have hrl:=h.reg.lt;clear h hw hA hrs0 hO hps hok hn hT hSn hAT hm hml hLf;go_enter Tryz.func158,Tryz.ntmps158;go_wp2_with fail
 go_loopw [1,16,10] (fun a i _ wr=>∃ k:Nat,i=.int .i64 k∧k≤m∧OwnS wr 0 a (rs0++(ps.take k).map recW)∧(∀ j,a.ownBlock=some j→(Value.slice A0 rs0.length c0).ownBlock=some j∨w.heap.size≤j)∧Keeps (fun j=>(Value.slice A0 rs0.length c0).ownBlock=some j) w wr) (fun _ i _ _=>m-(intOf i).toNat)
 case atStart=>exact ⟨0,rfl,by omega,by simpa using HA.out,fun j hj=>.inl hj,Keeps.refl _ _⟩
 case round =>
  obtain ⟨k,rfl,hk,hown,hab,hkw⟩:=hrel;have hsz:=hkw.size
  by_cases hkm:k<m
  ·have dk:decide ((k:Int)<(m:Int))=true:=decide_eq_true (by omega)
   have hkl:k<L.length:=by rw [HM.out];exact hkm
   have hOr:=HO.out.keeps hkw (fun i hi e=>(HAT.out i e).2.1 hi);have hrw:=Reads.of_own hOr.row;rw [HM.out] at hrw;obtain ⟨b,off,rfl,hbb⟩:=hrw.at_some (by omega);obtain ⟨hkp,hxa⟩:=absk HPS.out hkl;have hx:=wr_of_abs hxa;have hnum:=hOr.nums _ (List.getElem_mem hkl);obtain ⟨A2,n2,c2,hd2,_⟩:=hnum.nums;have hq:=HOK.out _ (List.getElem_mem hkp)
   have hcell:∀ j v,(L[k]).cells[j]?=some v→wr.cell? ⟨b,off+k*10+j,none⟩=some v:=fun j v hj=>by
    have hj2:j<10:=by
     rcases Nat.lt_or_ge j 10 with h|h
     ·exact h
     ·rw [List.getElem?_eq_none (by rw [wire.Wr.len];exact h)] at hj;cases hj
    exact (Reads.thing wire.Wr.cells wire.Wr.len hrw (k:=k) (x:=L[k]) hkm (List.getElem?_eq_getElem hkl) j hj2).trans hj
   have htk:(rs0++(ps.take (k+1)).map recW)=(rs0++(ps.take k).map recW)++[recW ps[k]]:=by
    rw [List.take_succ_eq_append_getElem hkp,List.map_append,List.append_assoc];rfl
   generalize hqe:ps[k]=q at *;rw [hx] at hcell hnum;rw [hd2] at hcell hnum;have hnum:wire.NumsO wr 0 (.slice A2 n2 c2) (natI q.d):=hnum;obtain ⟨rs,hrs⟩:∃ rs,rs0++(ps.take k).map recW=rs:=⟨_,rfl⟩;have hrl6:rs.length≤901000:=by rw [←hrs,List.length_append,List.length_map,List.length_take];omega
   rw [hrs] at hown htk;obtain ⟨A4,c4,rfl⟩:=hown.form;have Hcell:=qH hcell;have Hnum:=qH hnum;have Hown:=qH hown;have Hkw:=qH hkw;have Htk:=qH htk;have Hq:=qH hq;have Hab:=qH hab;clear hcell hnum hown hkw htk hq hab hOr hrw hx hxa hd2 hqe hrs
   go_wp2_with (first|(refine wpList_load_at rfl 188 (.tmp 18) rfl b (off+k*10) (q.wr (.slice A2 n2 c2)).cells rfl Tryz.underlying188 rfl (by kernel_rfl) Hcell.out ?_)|(refine wpList_store_blk rfl 188 (.tmp 10) (.tmp 19) rfl wr.heap.size (q.wr (.slice A2 n2 c2)).cells rfl rfl (Blk.new wr 188 #[.int .i64 0,.int .i64 0,.int .i64 0,.int .i64 0,.slice none 0 0,.string ⟨#[]⟩,.string ⟨#[]⟩,.string ⟨#[]⟩,.bool false,.int .i64 0]) (by kernel_rfl) rfl (wire.oneAll (q.wr (.slice A2 n2 c2)) rfl) ?_;intro w9 ho9 hk9 hs9)|(refine wpList_load_at rfl 188 (.tmp 10) rfl wr.heap.size 0 (q.wr (.slice A2 n2 c2)).cells rfl Tryz.underlying188 rfl (by kernel_rfl) (fun j v hj=>by rw [Nat.zero_add,ho9.cell j];simpa using hj) ?_))
   have hb9:Below wr.heap.size wr w9:=(below_new wr (.cells #[.int .i64 0,.int .i64 0,.int .i64 0,.int .i64 0,.slice none 0 0,.string ⟨#[]⟩,.string ⟨#[]⟩,.string ⟨#[]⟩,.bool false,.int .i64 0] 188)).trans (hk9.below (fun i hi e=>by omega) (by simp));have hs9':=hb9.size;have Hnum9:=qH (Hnum.out.below hb9);have Hown9:=qH (own_below Hown.out hb9);have Hkw9:=qH (Hkw.out.trans ((Keeps.of_below (X:=nobody) hb9).more fun _ _ h=>h.elim));clear ho9 hk9 hb9 Hnum Hown Hkw Hcell;refine (write_record q (.slice A2 n2 c2) 1 w9 Hnum9.out.nums Hq.out (by omega) (by have:=writep.bytes_len Hq.out;omega)).mono ?_;rintro e w10 ⟨rfl,hb10⟩;have hs10:=hb10.size;have Hown10:=qH (own_below Hown9.out hb10);have Hkw10:=qH (Hkw9.out.trans ((Keeps.of_below (X:=nobody) hb10).more fun _ _ h=>h.elim));clear hb10 Hown9 Hkw9 Hnum9;have hrec:str (numW 1++textW q.bytes)=str (recW q):=rfl;rw [hrec];generalize recW q=rq at *
   go_wp2_with (at_builtin;refine wpList_append_newAt rfl (.tmp 20) (.tmp 23) _ rfl 0 9 i0 _ 1 16 Tryz.underlying75 hi hz0 hz1 hz2 rfl (by decide) (.slice A4 rs.length c4) rs.length _ rfl Hown10.out 1 1 w10.heap.size rfl [.string (str rq)] rfl rfl (by simp [Value.oneCell']) (by unfold maxLen;omega) (by omega) (by omega) ?_;intro v11 w11 hown11 hbw11 hgr11 hwh11;have Hown11:=qH hown11;have Hgr11:=qH hgr11;have Hwh11:=qH hwh11;clear hown11 hbw11 hgr11 hwh11)
   go_roundw
   case rel =>
    refine ⟨k+1,by go_num,by omega,?_,?_,?_⟩
    ·have h:=Hown11.out
     rw [Htk.out];unfold OwnS;rw [List.length_append];have e:scells (rs++[rq])=scells rs++[.string (str rq)]:=by simp [scells]
     rw [e];exact h
    ·intro j hj
     rcases Hwh11.out with h|⟨g,h,hg⟩
     ·exact Hab.out j (h ▸ hj)
     ·rw [h] at hj;injection hj with hj;right;omega
    ·exact Keeps.grown2 Hkw10.out Hgr11.out Hab.out
   case measure=>simp [intOf];omega
  ·obtain rfl:m=k:=by omega
   have dk:decide ((m:Int)<(m:Int))=false:=by simp
   have htk:ps.take m=ps:=by rw [HML.out];exact List.take_length
   rw [htk] at hown;obtain ⟨rs,hrs⟩:∃ rs,rs0++ps.map recW=rs:=⟨_,rfl⟩
   have hr1:∀ s ∈ rs,s.length≤1000:=by
    intro s hs;rw [←hrs] at hs
    rcases List.mem_append.1 hs with hs|hs
    ·exact HRS.out s hs
    ·obtain ⟨q,hq,rfl⟩:=List.mem_map.1 hs
     exact rec_len (HOK.out q hq)
   have hrl6:rs.length≤901000:=by rw [←hrs,List.length_append,List.length_map];have:=HML.out;omega
   rw [hrs] at hown;have HRE:=qH hrs;clear hrs;obtain ⟨A4,c4,rfl⟩:=hown.form;have HR1:=qH (HR.out.keeps hkw (fun i hi e=>hi (HAT.out i e).1));have HP:=qH (put_i (w:=wr) rs.length c4 A4 rs lp HR1.out g1 g2 rfl (by omega) hr1 (Reads.of_own hown) HW.out);have Hkw:=qH (show Keeps (fun i=>tags own [1,4,6,9,10] i∨(Value.slice A0 rs0.length c0).ownBlock=some i) w wr from hkw.more fun i _ e=>.inr e);clear hown hkw hr1 hab;go_wp2_with fail;refine HP.out.mono ?_;rintro e w5 ⟨v,o5,rfl,hg5,hk5,hc5⟩;have HG5:=qH (show Grown own o5 w from hg5.later hsz);have HK5:=qH (Keeps.tagsX Hkw.out (Grown.refl own w) hk5 (l:=[1,4,6,9,10]) (by decide));clear hg5 hk5
   rcases hc5 with ⟨rfl,hr5,hf5⟩|⟨kk,c,hc,hk1,he,hr5⟩
   rotate_left
   ·have HQ:=qH (show TakesI Sn own p x lp (.slice A0 rs0.length c0) rs ps gi ap ws v7 v8 w (.returned v) w5 from ⟨v,o5,rfl,fun i=>(HG5.out i).imp id (fun h=>h.imp id .inl),HK5.out,.inr ⟨kk,c,hc,hk1,he,hr5⟩⟩)
    obtain ⟨g0,v',rfl,_⟩:=he;clear hr5;go_wp2_with fail;go_ret
    rw [HRE.out];exact HQ.out
   ·obtain ⟨XP,hXP⟩:∃ XP,putX x lp rs=XP:=⟨_,rfl⟩
    have hid:XP.id=x.id:=by rw [←hXP];rfl
    have hlf:XP.Lf.length+m≤900000:=by rw [←hXP,←HM.out];exact HLF.out
    rw [hXP] at hr5;have HXP:=qH hXP;have HID:=qH hid;have HF5:=qH hf5;have HR5:=qH hr5;clear hXP hid hf5 hr5 HP HR1 Hkw dk htk;go_wp2_with fail
    go_loopw [34,13] (fun i _ wr=>∃ (k:Nat) (o2:Nat→Nat),i=.int .i64 k∧k≤m∧RegI wr o2 p (applyL XP ((ps.take k).map pabs))∧Grown own o2 w∧Keeps (fun i=>tags own [1,4,6,9,10] i∨(Value.slice A0 rs0.length c0).ownBlock=some i) w wr) (fun i _ _=>m-(intOf i).toNat)
    case atStart=>exact ⟨0,o5,rfl,by omega,by simpa [applyL] using HR5.out,HG5.out,HK5.out⟩
    case round =>
     obtain ⟨k,o2,rfl,hk,hr,hg,hkw⟩:=hrel;have hsz:=hkw.size
     by_cases hkm:k<m
     ·have dk:decide ((k:Int)<(m:Int))=true:=decide_eq_true (by omega)
      have hkl:k<L.length:=by rw [HM.out];exact hkm
      have hOr:=HO.out.keeps hkw (fun i hi e=>e.elim (fun t=>t.2 (HT.out i hi)) (fun t=>(HAT.out i t).2.1 hi));have hrw:=Reads.of_own hOr.row;rw [HM.out] at hrw;obtain ⟨b,off,rfl,hbb⟩:=hrw.at_some (by omega);obtain ⟨hkp,hxa⟩:=absk HPS.out hkl;have hx:=wr_of_abs hxa;have hnum:=hOr.nums _ (List.getElem_mem hkl);have hnum0:=HO.out.nums _ (List.getElem_mem hkl);have hd0:∀ i,(L[k]).d.ownBlock=some i→o2 i=0:=fun i hi=>hg.zero (HT.out i (HO.out.numS _ (List.getElem_mem hkl) i hi)) (hnum0.1.lt i hi).2;obtain ⟨A2,n2,c2,hd2,_⟩:=hnum.nums;have hq:=HOK.out _ (List.getElem_mem hkp)
      have hcell:∀ j v,(L[k]).cells[j]?=some v→wr.cell? ⟨b,off+k*10+j,none⟩=some v:=fun j v hj=>by
       have hj2:j<10:=by
        rcases Nat.lt_or_ge j 10 with h|h
        ·exact h
        ·rw [List.getElem?_eq_none (by rw [wire.Wr.len];exact h)] at hj;cases hj
       exact (Reads.thing wire.Wr.cells wire.Wr.len hrw (k:=k) (x:=L[k]) hkm (List.getElem?_eq_getElem hkl) j hj2).trans hj
      have htk:applyL XP ((ps.take (k+1)).map pabs)=applyX (applyL XP ((ps.take k).map pabs)) (pabs ps[k]):=by
       rw [List.take_succ_eq_append_getElem hkp,List.map_append];exact applyL_snoc _ _ _
      have hlfk:=applyL_len ((ps.take k).map pabs) XP;rw [List.length_map,List.length_take] at hlfk;generalize hqe:ps[k]=q at *;rw [hx] at hcell hnum;rw [hd2] at hcell hnum hd0;have hnum:wire.NumsO wr 0 (.slice A2 n2 c2) (natI q.d):=hnum;generalize applyL XP ((ps.take k).map pabs)=Y at *;have Hcell:=qH hcell;have Hnum:=qH hnum;have Hkw:=qH hkw;have Htk:=qH htk;have Hq:=qH hq;have Hr:=qH hr;have Hg:=qH hg;have Hd0:=qH hd0;have hrl:=hr.reg.lt;clear hcell hnum hnum0 hkw htk hq hr hg hd0 hOr hrw hx hxa hd2 hqe
      go_wp2_with (first|(refine wpList_load_at rfl 188 (.tmp 36) rfl b (off+k*10) (q.wr (.slice A2 n2 c2)).cells rfl Tryz.underlying188 rfl (by kernel_rfl) Hcell.out ?_)|(refine wpList_store_blk rfl 188 (.tmp 13) (.tmp 37) rfl wr.heap.size (q.wr (.slice A2 n2 c2)).cells rfl rfl (Blk.new wr 188 #[.int .i64 0,.int .i64 0,.int .i64 0,.int .i64 0,.slice none 0 0,.string ⟨#[]⟩,.string ⟨#[]⟩,.string ⟨#[]⟩,.bool false,.int .i64 0]) (by kernel_rfl) rfl (wire.oneAll (q.wr (.slice A2 n2 c2)) rfl) ?_;intro w9 ho9 hk9 hs9)|(refine wpList_load_at rfl 188 (.tmp 13) rfl wr.heap.size 0 (q.wr (.slice A2 n2 c2)).cells rfl Tryz.underlying188 rfl (by kernel_rfl) (fun j v hj=>by rw [Nat.zero_add,ho9.cell j];simpa using hj) ?_))
      have hb9:Below wr.heap.size wr w9:=(below_new wr (.cells #[.int .i64 0,.int .i64 0,.int .i64 0,.int .i64 0,.slice none 0 0,.string ⟨#[]⟩,.string ⟨#[]⟩,.string ⟨#[]⟩,.bool false,.int .i64 0] 188)).trans (hk9.below (fun i hi e=>by omega) (by simp));have hs9':=hb9.size;have Hnum9:=qH (Hnum.out.below hb9);have Hr9:=qH (Hr.out.below hb9);have Hkw9:=qH (Hkw.out.trans ((Keeps.of_below (X:=nobody) hb9).more fun _ _ h=>h.elim));clear ho9 hk9 hb9 Hnum Hr Hkw Hcell;refine (apply_i (q.wr (.slice A2 n2 c2)) Hr9.out Hnum9.out Hd0.out (by omega) (by show (str q.se).size≤maxLen;rw [str_size];have:=Hq.out.s64;unfold maxLen;omega) (by show (str q.k).size≤maxLen;rw [str_size];have:=Hq.out.k32;unfold maxLen;omega) ⟨by show (0:Int)≤(q.t:Int);omega,by show (q.t:Int)≤_;have:=Hq.out.tm;unfold maxNum at this;omega⟩).mono ?_;rintro e w10 ⟨rfl,o3,hr10,hg10,hk10⟩;have Hr10:=qH (show RegI w10 o3 p (applyX Y (pabs q)) from hr10);have Hg10:=qH (Hg.out.trans hg10 (Nat.le_trans hsz hs9'));have Hk10:=qH (Keeps.tagsX Hkw9.out Hg.out hk10 (by decide));clear hr10 hg10 hk10 Hr9 Hnum9 Hkw9;go_wp2_with fail;go_roundw
      case rel=>exact ⟨k+1,o3,by go_num,by omega,by rw [Htk.out];exact Hr10.out,Hg10.out,Hk10.out⟩
      case measure=>simp [intOf];omega
     ·obtain rfl:m=k:=by omega
      have dk:decide ((m:Int)<(m:Int))=false:=by simp
      have htk:ps.take m=ps:=by rw [HML.out];exact List.take_length
      rw [htk] at hr;have hidY:(applyL XP (ps.map pabs)).id=x.id:=((applyL_fix (ps.map pabs) XP).1).trans HID.out;have HY:=qH (show ({ applyL XP (ps.map pabs) with ap:=ap,ws:=ws }:RX)=takesX x lp rs ps ap ws by unfold takesX;rw [HXP.out]);generalize applyL XP (ps.map pabs)=Y at *;have c5:=hr.reg.c5;have f5:=hr.reg.frozen 5;have hrl:=hr.reg.lt;have HidY:=qH hidY;have Hr:=qH hr;have Hg:=qH hg;have Hkw:=qH hkw;clear hr hg hkw hidY htk;go_wp2_with fail;go_ret
      have hs:RegB (wr.setCell ⟨p.r,5,none⟩ (.pointer (some ⟨gi,0,none⟩))) p.r (rgOf { p with gi:=gi,va:=v7,vw:=v8 } Y):=Hr.out.reg.s5 (.pointer (some ⟨gi,0,none⟩));have hks:Keeps (· = p.r) wr (wr.setCell ⟨p.r,5,none⟩ (.pointer (some ⟨gi,0,none⟩))):=Keeps.set1 _ _ _ _;have ho1:=Hr.out.o1
      have hp0:∀ i,Sn i→¬ i=p.r:=fun i hi e=>by
       have h0:=Hg.out.zero (HSN.out i hi) (HN.out.small i hi);rw [e,ho1] at h0;cases h0
      have hin:dep.InF (wr.setCell ⟨p.r,5,none⟩ (.pointer (some ⟨gi,0,none⟩))) Sn gi Y.id ap ws v7 v8:=by
       rw [HidY.out];exact (HN.out.keeps Hkw.out (fun i hi e=>e.elim (fun t=>t.2 (HSN.out i hi)) (fun t=>(HAT.out i t).2.2 hi))).keeps hks (fun i hi e=>hp0 i hi e)
      have hS0:∀ i,Sn i→o2 i=7∨o2 i=0:=fun i hi=>.inr (Hg.out.zero (HSN.out i hi) (HN.out.small i hi));have hfin:=Hr.out.setInb hin hs hks (fun i (e:i=p.r)=>.inl (by rw [e];exact ho1)) hS0;rw [HRE.out];refine ⟨_,_,rfl,?_,?_,.inl ⟨rfl,by rw [←HY.out];exact hfin,HF5.out⟩⟩
      ·intro i
       by_cases h7:Sn i
       ·exact .inr (.inr (.inr h7))
       ·unfold regive
        rw [if_neg h7]
        split
        ·exact .inr (.inl rfl)
        ·exact (Hg.out i).imp id (fun h=>h.imp id .inl)
      ·refine Keeps.tagsX Hkw.out Hg.out (l2:=[1]) (hks.more (fun i _ e=>?_)) (by decide)
       have e:i=p.r:=e;rw [e];exact ⟨by rw [ho1];decide,by rw [ho1];decide⟩
end
end regn
namespace dep
open Go Go.RowKit base rowe wire vec cmp with_ monoj err
def wrD (r n:Int) (d:Value) (z:List Int):Wr:=⟨r,n,1,r,d,z,⟨#[115]⟩,⟨#[]⟩,⟨#[]⟩,false,0⟩
theorem at_nil {x:Wr} {k:Nat} (h:At_ [] x k):k=0:=by have:=h.1;simpa using this
theorem at_one {d d':Value} {k:Nat} (h:At_ [wrD 2 1 d [0,0,1]] (wrD 3 1 d' []) k):k=1:=by
 have h1:=h.1;simp only [List.length_cons,List.length_nil] at h1
 by_cases h0:k=0
 ·subst h0
  exact absurd (show cmpW (wrD 2 1 d [0,0,1]) (wrD 3 1 d' [])<0 by rw [show cmpW (wrD 2 1 d [0,0,1]) (wrD 3 1 d' [])=-1 by kernel_rfl];decide) (h.2.2 0 (Nat.le_refl _) (by simp))
 ·omega
end dep
namespace dep
open Go Go.RowKit base rowe wire vec cmp with_ monoj err
end dep
namespace dep
open Go Go.RowKit base rowe wire vec cmp with_ monoj err
def OwnR (vw:Value) (S:Nat→Prop) (g:Nat) (rg:Int) (ap:List Int) (L:List Wr) (dz:List Int) (w:World) (e:Ending) (w':World):Prop :=
 (coversB ap dz=false∧BadR 15 w e w')∨(coversB ap dz=true∧1099511627776≤atV ap rg∧BadR 3 w e w') ∨
  (coversB ap dz=true∧atV ap rg<1099511627776∧∃ vo a l out S',e=.returned (.tuple #[vo,.nilIface])∧DrainI w S g rg (withL ap rg (atV ap rg+1)) L vo w' a l out S'∧(∀ j,j<l.length→readyB a (l.getD j wrZ)=false)∧DrainM w g (fun i=>i=g∨vw.ownBlock=some i) vo w')
theorem own_any (g:Nat) (rg:Int) (S:Nat→Prop) (ap:List Int) (ws:List Wr) (va vw:Value) (A2:Option Addr) (n2 c2:Nat) (dz:List Int) (w:World) (h:InF w S g rg ap ws va vw) (hx:Vec w w.heap.size A2 n2 c2 dz) (h2:n2≤1000000) (hrg:1≤rg∧rg≤16) (hap:0≤atV ap rg) :
  Calls Tryz.prog 200 #[.pointer (some ⟨g,0,none⟩),.slice A2 n2 c2] w (OwnR vw S g rg ap ws dz w):=by
 obtain ⟨A1,c1,rfl,hva⟩:=h.vec;have ha16:=h.afew;have HVA:=qH hva;have HF:=qH h;have HV:=qH hx;have gl:=h.blk.lt;have y1:w.cell? ⟨g,1,none⟩=some (.slice A1 ap.length c1):=h.blk.cell 1;clear h hx hva;go_enter Tryz.func200,Tryz.ntmps200;go_wp2_with fail;refine wp_region_mono nobody (by kernel_rfl) ?_
 iterate 8
  first|refine qT 0 (v:=?_) ?_ ?_|refine qT 1 (v:=?_) ?_ ?_|refine qT 2 (v:=?_) ?_ ?_|refine qT 3 (v:=?_) ?_ ?_|refine qT 4 (v:=?_) ?_ ?_|refine qT 5 (v:=?_) ?_ ?_|refine qT 6 (v:=?_) ?_ ?_|refine qT 7 (v:=?_) ?_ ?_
  rotate_left
  ·(intro W hSw;((first|(have hg:=HF.out.blk.drew.keeps hSw (fun h=>h);have y0:W.cell? ⟨g,0,none⟩=some (.int .i64 rg):=hg.cell 0;have y1:W.cell? ⟨g,1,none⟩=some (.slice A1 ap.length c1):=hg.cell 1;have hl:=hg.lt)|skip));go_simp <;> rfl)
  try simp only [qPA]
 refine wpMono_one' 8 (by kernel_rfl) rfl (by rfl) (fun K hK=>?_)
 go_simp
 refine (at_any A1 ap.length c1 ap rg _ _ (HVA.out.below (Below.refl _ _).drew) (by omega)).mono ?_;rintro e w4 ⟨rfl,rfl⟩;refine hK.out _ _ ?_ ?_
 ·exact Keeps.refl _ _
 clear hK K
 try simp only [qPA]
 refine qT 9 (v:=?_) ?_ ?_;rotate_left
 ·(intro W hSw;((first|(have hg:=HF.out.blk.drew.keeps hSw (fun h=>h);have y0:W.cell? ⟨g,0,none⟩=some (.int .i64 rg):=hg.cell 0;have y1:W.cell? ⟨g,1,none⟩=some (.slice A1 ap.length c1):=hg.cell 1;have hl:=hg.lt)|skip));go_simp <;> rfl)
 try simp only [qPA]
 refine wpMono_done (by kernel_rfl) ?_ _;have HB1:=qH (show Below w.heap.size w w.drew from (Below.refl _ _).drew);have HF1:=qH (HF.out.below HB1.out);have HV1:=qH (show Vec w.drew w.drew.heap.size A2 n2 c2 dz from HV.out.below HB1.out);have HA1:=qH (show Vec w.drew w.drew.heap.size A1 ap.length c1 ap from HVA.out.below HB1.out);clear y1 HF HV HVA gl;generalize w.drew=w1 at *;have gl:=HF1.out.blk.lt;have y1:w1.cell? ⟨g,1,none⟩=some (.slice A1 ap.length c1):=HF1.out.blk.cell 1;go_wp2_with fail;refine (covers_any A1 ap.length c1 ap A2 n2 c2 dz w1 _ HA1.out HV1.out (by omega) h2).mono ?_;rintro e w2 ⟨rfl,rfl⟩
 cases hcv:coversB ap dz with
 | false =>
  go_wp2_with fail;refine (bad_own 15 _).mono ?_;rintro e w9 h9;have HR9:=qH (show OwnR vw S g rg ap ws dz w e w9 from .inl ⟨hcv,h9.of HB1.out⟩);obtain ⟨ge9,rfl,_⟩:=h9;go_wp2;exact bodyPost_ret (v:=.tuple #[.slice none 0 0,.iface 121 (.pointer (some ⟨ge9,0,none⟩))]) (by simp [results,Tryz.results200,go_sem]) rfl HR9.out
 | true =>
 by_cases hmx:1099511627776≤atV ap rg
 ·have dm:decide (1099511627776≤atV ap rg)=true:=by simpa using hmx
  go_wp2_with fail;refine (bad_own 3 _).mono ?_;rintro e w9 h9;have HR9:=qH (show OwnR vw S g rg ap ws dz w e w9 from .inr (.inl ⟨hcv,hmx,h9.of HB1.out⟩));obtain ⟨ge9,rfl,_⟩:=h9;go_wp2;exact bodyPost_ret (v:=.tuple #[.slice none 0 0,.iface 121 (.pointer (some ⟨ge9,0,none⟩))]) (by simp [results,Tryz.results200,go_sem]) rfl HR9.out
 have dm:decide (1099511627776≤atV ap rg)=false:=by simpa using hmx
 have hw1:IntKind.i64.wrap (atV ap rg+1)=atV ap rg+1:=by rw [IntKind.wrap_i64];omega
 go_wp2_with fail;clear dm;clear y1 gl;refine wp_region_monoJ (fun b=>b=g) [14] (by kernel_rfl) ?_
 iterate 4
  first|refine qJ 0 (v:=?_) ?_ ?_|refine qJ 1 (v:=?_) ?_ ?_|refine qJ 2 (v:=?_) ?_ ?_|refine qJ 3 (v:=?_) ?_ ?_
  rotate_left
  ·(intro W hSw;((first|(have hgW:=HF1.out.blk.drew.keeps (X:=nobody) hSw (fun h=>h);have a0:W.cell? ⟨g,0,none⟩=some (.int .i64 rg):=hgW.cell 0;have a1:W.cell? ⟨g,1,none⟩=some (.slice A1 ap.length c1):=hgW.cell 1;have al:=hgW.lt)|skip));go_simp <;> rfl)
  try simp only [qPA]
  (try rw [hw1])
 refine wpMonoJ_read' 4 [11,12,13,14] (v:=?_) rfl (by kernel_rfl) (by kernel_rfl) (by kernel_rfl) (by rfl) (by kernel_rfl) (by rfl) (fun _ _ _ h=>h) (by rfl) ?_ ?_;rotate_left
 ·(intro W hSw;((first|(have hgW:=HF1.out.blk.drew.keeps (X:=nobody) hSw (fun h=>h);have a0:W.cell? ⟨g,0,none⟩=some (.int .i64 rg):=hgW.cell 0;have a1:W.cell? ⟨g,1,none⟩=some (.slice A1 ap.length c1):=hgW.cell 1;have al:=hgW.lt)|skip));go_simp <;> rfl)
 try simp only [qPA]
 (try rw [hw1])
 iterate 3
  first|refine qJ 5 (v:=?_) ?_ ?_|refine qJ 6 (v:=?_) ?_ ?_|refine qJ 7 (v:=?_) ?_ ?_
  rotate_left
  ·(intro W hSw;((first|(have hgW:=HF1.out.blk.drew.keeps (X:=nobody) hSw (fun h=>h);have a0:W.cell? ⟨g,0,none⟩=some (.int .i64 rg):=hgW.cell 0;have a1:W.cell? ⟨g,1,none⟩=some (.slice A1 ap.length c1):=hgW.cell 1;have al:=hgW.lt)|skip));go_simp <;> rfl)
  try simp only [qPA]
  (try rw [hw1])
 refine wpMonoJ_read' 8 [11,12,13,14] (v:=?_) rfl (by kernel_rfl) (by kernel_rfl) (by kernel_rfl) (by rfl) (by kernel_rfl) (by rfl) (fun _ _ _ h=>h) (by rfl) ?_ ?_;rotate_left
 ·(intro W hSw;((first|(have hgW:=HF1.out.blk.drew.keeps (X:=nobody) hSw (fun h=>h);have a0:W.cell? ⟨g,0,none⟩=some (.int .i64 rg):=hgW.cell 0;have a1:W.cell? ⟨g,1,none⟩=some (.slice A1 ap.length c1):=hgW.cell 1;have al:=hgW.lt)|skip));go_simp <;> rfl)
 try simp only [qPA]
 (try rw [hw1])
 iterate 2
  first|refine qJ 9 (v:=?_) ?_ ?_|refine qJ 10 (v:=?_) ?_ ?_
  rotate_left
  ·(intro W hSw;((first|(have hgW:=HF1.out.blk.drew.keeps (X:=nobody) hSw (fun h=>h);have a0:W.cell? ⟨g,0,none⟩=some (.int .i64 rg):=hgW.cell 0;have a1:W.cell? ⟨g,1,none⟩=some (.slice A1 ap.length c1):=hgW.cell 1;have al:=hgW.lt)|skip));go_simp <;> rfl)
  try simp only [qPA]
  (try rw [hw1])
 refine wpMonoJ_one' 11 (by kernel_rfl) rfl (by rfl) (fun K hK=>?_)
 go_simp
 refine (with_any A1 ap.length c1 ap rg (atV ap rg+1) w1.drew (show Vec w1.drew w1.drew.heap.size A1 ap.length c1 ap from HA1.out.below ((Below.refl _ w1).drew)) (by omega)).mono ?_;rintro e w12 ⟨va',rfl,hown,hb12⟩;obtain ⟨A5,c5,rfl⟩:=ownsRow_slice hown;have hbw12:=below_ofDrew hb12;have hg12:=HF1.out.blk.below hbw12 HF1.out.blk.lt;have e1:w12.cell? ⟨g,1,none⟩=some (.slice A1 ap.length c1):=hg12.cell 1;have ef:=hg12.frozen 1;have el:=hg12.lt;have HOWN:=qH hown;have HBW12:=qH hbw12;clear hown hbw12 hg12;refine hK.out _ _ ?_ ?_
 ·exact .of_below hb12
 clear hK K
 try simp only [qPA]
 (try rw [hw1])
 iterate 2
  first|refine qJ 12 (v:=?_) ?_ ?_|refine qJ 13 (v:=?_) ?_ ?_
  rotate_left
  ·(intro W hSw;((first|(have hgW:=HF1.out.blk.drew.keeps (X:=nobody) hSw (fun h=>h);have a0:W.cell? ⟨g,0,none⟩=some (.int .i64 rg):=hgW.cell 0;have a1:W.cell? ⟨g,1,none⟩=some (.slice A1 ap.length c1):=hgW.cell 1;have al:=hgW.lt)|skip));go_simp <;> rfl)
  try simp only [qPA]
  (try rw [hw1])
 refine wpMonoJ_one' 14 (by kernel_rfl) rfl (by rfl) (fun K hK=>?_)
 go_simp
 refine hK.out _ _ ?_ ?_
 ·exact moved (Keeps.set1 w12 g 1 _) (by decide)
 clear hK K
 try simp only [Act.put]
 refine wpMonoJ_done (by kernel_rfl) ?_ _;have hwl:(withL ap rg (atV ap rg+1)).length≤16:=with_len ha16
 have HF12:=qH (HF1.out.putA (S':=fun i=>(S i∨w.heap.size≤i)∧i<w12.heap.size) (ap':=withL ap rg (atV ap rg+1)) (va':=.slice A5 (withL ap rg (atV ap rg+1)).length c5) HBW12.out HOWN.out hwl
  (fun i hi=>⟨.inl hi,Nat.lt_of_lt_of_le (HF1.out.small i hi) HBW12.out.size⟩) (fun i hi=>hi.2) (fun i hi=>⟨.inr (Nat.le_trans HB1.out.size (HOWN.out.lt i hi).1),(HOWN.out.lt i hi).2⟩))
 have HKW:=qH (show Keeps S w (w12.setCell ⟨g,1,none⟩ (.slice A5 (withL ap rg (atV ap rg+1)).length c5)) from (Keeps.of_below (below_step HB1.out HBW12.out)).trans ((Keeps.set1 w12 g 1 _).more fun i _ e=>by rw [show i=g from e];exact HF1.out.inG));have HKM:=qH (show Keeps (fun i=>i=g∨vw.ownBlock=some i) w (w12.setCell ⟨g,1,none⟩ (.slice A5 (withL ap rg (atV ap rg+1)).length c5)) from (Keeps.of_below (below_step HB1.out HBW12.out)).trans ((Keeps.set1 w12 g 1 _).more fun i _ e=>.inl e));generalize w12.setCell ⟨g,1,none⟩ (.slice A5 (withL ap rg (atV ap rg+1)).length c5)=w13 at *;clear e1 ef el;go_wp2_with fail;refine (drain_any g rg _ _ ws _ _ w13 HF12.out).mono ?_;rintro e w14 ⟨vo,a,l,out,S3,rfl,hdr,hno,hdm⟩;have HRR:=qH (show OwnR vw S g rg ap ws dz w (.returned (.tuple #[vo,.nilIface])) w14 from .inr (.inr ⟨hcv,hmx,vo,a,l,out,S3,rfl,hdr.from HKW.out (fun i hi=>hi.1),hno,hdm.from HKM.out (fun i h=>.inl h)⟩));obtain ⟨A14,c14,rfl⟩:=ownsRow_slice hdr.2.2.1;clear hdr hno hdm;go_wp2;exact bodyPost_ret (v:=.tuple #[.slice A14 out.length c14,.nilIface]) (by simp [results,Tryz.results200,go_sem]) rfl HRR.out
theorem applied_any (g:Nat) (rg:Int) (S:Nat→Prop) (ap:List Int) (ws:List Wr) (va vw:Value) (w:World) (h:InF w S g rg ap ws va vw) :
  Calls Tryz.prog 113 #[.pointer (some ⟨g,0,none⟩)] w (OwnL w (trimL ap)):=by
 obtain ⟨A1,c1,rfl,hva⟩:=h.vec;have ha16:=h.afew;have HVA:=qH hva;have gl:=h.blk.lt;have y1:w.cell? ⟨g,1,none⟩=some (.slice A1 ap.length c1):=h.blk.cell 1;clear h hva;go_enter Tryz.func113,Tryz.ntmps113;go_wp2_with fail;refine (trim_any A1 ap.length c1 ap w HVA.out (by omega)).mono ?_;rintro e w2 ⟨v,rfl,hown,hb⟩;go_wp2_with fail;go_ret
 exact ⟨v,rfl,hown,hb⟩
end dep
namespace dep
open Go Go.RowKit base rowe wire vec cmp with_ monoj err
theorem trimN_last (zs:List Int):∀ n,trimN zs n=0∨zs.getD (trimN zs n-1) 0≠0
 | 0=>.inl rfl
 | n+1=>by
  unfold trimN
  split
  ·exact trimN_last zs n
  ·next h=>exact .inr h
theorem trim_trim (zs:List Int):trimL (trimL zs)=trimL zs:=by
 apply trim_self
 have hle:=trimN_le zs zs.length;have hl:(trimL zs).length=trimN zs zs.length:=by unfold trimL;rw [List.length_take];omega
 have h0:=trimN_last zs zs.length;unfold trimL at hl ⊢;rw [List.length_take,hl];generalize trimN zs zs.length=k at *
 rcases h0 with rfl|h0
 ·rfl
 ·cases k with
  | zero=>rfl
  | succ k =>
   have e:trimN (zs.take (k+1)) (k+1)=k+1:=by
    unfold trimN;rw [if_neg];rw [List.getD_eq_getElem?_getD,List.getElem?_take,if_pos (by omega)]
    simpa [List.getD_eq_getElem?_getD] using h0
   rw [e,Nat.min_self]
theorem trim_with (zs:List Int) (r n:Int):trimL (withL zs r n)=withL zs r n:=by
 unfold withL
 split <;> exact trim_trim _
theorem atV_with (zs:List Int) (r n q:Int) (h:1≤r∧r≤16):atV (withL zs r n) q=if q=r then n else atV zs q:=by
 split
 ·next e=>rw [e];exact with_at zs r n h
 ·next e =>
  by_cases hq:q<1
  ·unfold atV;rw [if_pos (.inl hq),if_pos (.inl hq)]
  ·obtain ⟨k,rfl⟩:∃ k:Nat,q=(k:Int)+1:=⟨(q-1).toNat,by omega⟩
   obtain ⟨m,rfl⟩:∃ m:Nat,r=(m:Int)+1:=⟨(r-1).toNat,by omega⟩;unfold withL;rw [if_pos h,atV_getD,trim_getD,atV_getD,show ((m:Int)+1).toNat-1=m by omega];have hkm:m≠k:=fun e2=>e (by rw [e2]);unfold setL;rw [List.getD_eq_getElem?_getD,List.getElem?_set_ne hkm,List.getElem?_append]
   split
   ·rw [List.getD_eq_getElem?_getD]
   ·next hj=>rw [List.getD_eq_getElem?_getD,List.getElem?_eq_none (by omega:zs.length≤k),List.getElem?_replicate];split <;> rfl
theorem getD_mem {L:List Wr} {k:Nat} (h:k<L.length):L.getD k wrZ ∈ L:=by
 rw [List.getD_eq_getElem?_getD,List.getElem?_eq_getElem h];exact List.getElem_mem h
end dep
namespace regn
open Go Go.RowKit base err cmp wire dep vec with_ writep wireb
structure Ch where
 se:ByteArray
 k:ByteArray
 v:ByteArray
 g:Bool
 l:Int
def Ch.cells (c:Ch):List Value:=[.string c.se,.string c.k,.string c.v,.bool c.g,.int .i64 c.l]
theorem Ch.len (c:Ch):c.cells.length=5:=rfl
def mkW (id:Int) (c:Ch) (ck:Int) (a:List Int) (d:Value):Wr:=⟨id,atV a id+1,ck+1,id,d,a,c.se,c.k,c.v,c.g,c.l⟩
def seen (ck:Int) (out:List Wr):Int:=out.foldl (fun m y=>max m y.t) ck
inductive Plan (id:Int) (ck0:Int) (ap0:List Int) (ws0:List Wr):List Ch→List Wr→List Wr→Int→List Int→List Wr→Prop
 | zero:Plan id ck0 ap0 ws0 [] [] [] ck0 ap0 ws0
 | one {cs:List Ch} {own all:List Wr} {ck:Int} {a:List Int} {ws:List Wr} (h:Plan id ck0 ap0 ws0 cs own all ck a ws) (c:Ch) {a':List Int} {ws' out:List Wr} (hck:ck<1099511627776)
   (hr:rightB (mkW id c ck a (.slice none 0 0))=true) (hst:dep.Steps (withL a id (atV a id+1)) ws a' ws' out) (hno:∀ j,j<ws'.length→readyB a' (ws'.getD j wrZ)=false) :
   Plan id ck0 ap0 ws0 (cs++[c]) (own++[mkW id c ck a (.slice none 0 0)]) (all++mkW id c ck a (.slice none 0 0) :: out.map Wr.abs) (seen (ck+1) out) a' ws'
def BndV (a:List Int):Prop:=(∀ r,0≤atV a r∧atV a r≤1099511627776)∧trimL a=a
def RngW (ws:List Wr):Prop:=∀ x ∈ ws,rightB x=true
theorem BndV.with_ {a:List Int} (h:BndV a) {r n:Int} (hr:1≤r∧r≤16) (hn:0≤n∧n≤1099511627776):BndV (withL a r n) :=
 ⟨fun q=>by
  rw [atV_with a r n q hr]
  split
  ·exact hn
  ·exact h.1 q,trim_with _ _ _⟩
theorem steps_bnd {ap:List Int} {ws:List Wr} {a:List Int} {l out:List Wr} (h:dep.Steps ap ws a l out) (hb:BndV ap) (hw:RngW ws):BndV a∧RngW l∧RngW out:=by
 induction h with
 | zero=>exact ⟨hb,hw,fun x hx=>(by cases hx)⟩
 | one h k hk hr hn ih =>
  rename_i a l out
  obtain ⟨h1,h2,h3⟩:=ih;have hm:l.getD k wrZ ∈ l:=getD_mem hk;have hp:=right_parts (h2 _ hm);refine ⟨h1.with_ ⟨hp.r0,hp.r1⟩ ⟨by have:=hp.n0;omega,hp.n1⟩,fun x hx=>h2 x (List.mem_of_mem_eraseIdx hx),fun x hx=>?_⟩
  rcases List.mem_append.1 hx with hx|hx
  ·exact h3 x hx
  ·rw [List.mem_singleton.1 hx];exact h2 _ hm
theorem seen_le {ck:Int} {out:List Wr} (h:ck≤1099511627776) (ho:RngW out):ck≤seen ck out∧seen ck out≤1099511627776:=by
 unfold seen
 induction out generalizing ck with
 | nil=>exact ⟨Int.le_refl _,h⟩
 | cons y out ih =>
  rw [List.foldl_cons];have hp:=right_parts (ho y (by simp));obtain ⟨h1,h2⟩:=ih (ck:=max ck y.t) (by have:=hp.t1;omega) (fun x hx=>ho x (by simp [hx]));exact ⟨by omega,h2⟩
theorem right_abs (x:Wr):rightB x.abs=rightB x:=rfl
theorem Plan.facts {id ck0:Int} {ap0:List Int} {ws0:List Wr} {cs:List Ch} {own all:List Wr} {ck:Int} {a:List Int} {ws:List Wr} (h:Plan id ck0 ap0 ws0 cs own all ck a ws)
  (hid:1≤id∧id≤16) (hc:0≤ck0∧ck0≤1099511627776) (hb:BndV ap0) (hw:RngW ws0) :
  (0≤ck∧ck≤1099511627776)∧BndV a∧RngW ws∧RngW own∧RngW all∧own.length=cs.length∧all.length+ws.length=cs.length+ws0.length:=by
 induction h with
 | zero=>exact ⟨hc,hb,hw,fun x hx=>(by cases hx),fun x hx=>(by cases hx),rfl,by simp⟩
 | one h c hck hr hst hno ih =>
  rename_i cs own all ck a ws a' ws' out
  obtain ⟨h1,h2,h3,h4,h5,h6,h7⟩:=ih;have hp:=right_parts hr;have hn0:=hp.n0;have hn1:=hp.n1;obtain ⟨s1,s2,s3⟩:=steps_bnd hst (h2.with_ hid ⟨by have:=(h2.1 id).1;omega,hn1⟩) h3;have hs:=seen_le (ck:=ck+1) (by omega) s3;have hl:=hst.ws_len;refine ⟨⟨by omega,hs.2⟩,s1,s2,fun x hx=>?_,fun x hx=>?_,by simp [h6],by simp;omega⟩
  ·rcases List.mem_append.1 hx with hx|hx
   ·exact h4 x hx
   ·rw [List.mem_singleton.1 hx];exact hr
  ·rcases List.mem_append.1 hx with hx|hx
   ·exact h5 x hx
   ·rcases List.mem_cons.1 hx with hx|hx
    ·rw [hx];exact hr
    ·obtain ⟨y,hy,rfl⟩:=List.mem_map.1 hx
     exact s3 y hy
theorem covers_self (a:List Int):coversB a a=true:=by
 unfold coversB;rw [List.all_eq_true];intro r _;simp
theorem right_pw_ex {y:Wr} (h:rightB y=true):∃ q:PW,q.Ok∧y=q.wr y.d:=by
 have hp:=right_parts h;obtain ⟨yr,yn,yt,ys,yd,yz,yse,yk,yv,yg,yl⟩:=y;obtain ⟨r0,r1,n0,n1,sr,t0,t1,z0,se1,k1,v1,l0,l1⟩:=hp;dsimp only at *
 have hz:∀ z ∈ yz,0≤z:=by
  intro z hz;unfold trB at z0;simp only [Bool.and_eq_true,List.all_eq_true] at z0;have:=z0.2.2 z hz;unfold okN at this;simp at this
  exact this.1
 have hzz:wireb.natI (yz.map Int.toNat)=yz:=by
  unfold wireb.natI;rw [List.map_map]
  conv=>rhs;rw [←List.map_id yz]
  refine List.map_congr_left fun z hz'=>?_;have:=hz z hz';simp
  omega
 have e:(⟨yr,yn,yt,ys,yd,yz,yse,yk,yv,yg,yl⟩:Wr)=(PW.mk yr.toNat yn.toNat yt.toNat (yz.map Int.toNat) yse.data.toList yk.data.toList yv.data.toList yg yl.toNat).wr yd:=by
  unfold PW.wr;dsimp only;rw [hzz,wireb.str_of,wireb.str_of,wireb.str_of,sr];simp only [Wr.mk.injEq,true_and];omega
 refine ⟨_,?_,e⟩;rw [←PW.right_iff,←wireb.right_pw _ yd,←e];exact h
end regn
namespace regn
open Go Go.RowKit base err lease fold
section
variable {w:World} {r:Nat} {x:Rg}
end
end regn
namespace err
open Go.RowKit base is_ Go.Extern.Stop Go.Stop Go.Extern
theorem noIsB (v:Value) (xT:TypeId) (w:World):(Instr.typeAssert (.iface 195 v) xT 138 true).run Tryz.prog w=.ok (.tuple #[.nilIface,.bool false]) w:=run_typeAssert_lacksB Tryz.underlying138 (by kernel_rfl) (by kernel_rfl) v xT w
theorem noUnwrapB (v:Value) (xT:TypeId) (w:World):(Instr.typeAssert (.iface 195 v) xT 141 true).run Tryz.prog w=.ok (.tuple #[.nilIface,.bool false]) w:=run_typeAssert_lacksB Tryz.underlying141 (by kernel_rfl) (by kernel_rfl) v xT w
theorem hasUnwrapsB (v:Value) (xT:TypeId) (w:World):(Instr.typeAssert (.iface 195 v) xT 142 true).run Tryz.prog w=.ok (.tuple #[.iface 195 v,.bool true]) w:=run_typeAssert_hasB Tryz.underlying142 (by kernel_rfl) v xT w
theorem methodUnwrapB (v : Value) (w : World) : (Go.method 543 195 v "Unwrap").run Tryz.prog w = .ok (335, v) w := by kernel_rfl
theorem is_self (c:Int) (w:World):Calls Tryz.prog 18 #[.iface 41 (.int .i64 c),.iface 41 (.int .i64 c),.bool true] w fun e w'=>e=.returned (.bool true)∧w'=w:=by
 have heq:=is_.eql_codes c c w;rw [show (c==c)=true from by simp] at heq;go_enter Tryz.func18,Tryz.ntmps18;go_wp2;refine wp_loop_rounds 1 ?_;rw [rounds_succ];go_wp2;go_ret
 exact ⟨rfl,rfl⟩
theorem unwrap_both (c:Int) (tx:TypeId) (x:Value) (w:World):Calls Tryz.prog 335 #[.agg #[.iface 41 (.int .i64 c),.iface tx x]] w fun e w'=>∃ g,e=.returned (.slice (some ⟨g,0,none⟩) 2 2)∧g<w'.heap.size∧w'.cell? ⟨g,0,none⟩=some (.iface 41 (.int .i64 c))∧Below w.heap.size w w':=by
 go_enter Tryz.func335,Tryz.ntmps335;go_wp2;go_ret
 exact ⟨_,rfl,by simp,by simp,(below_new w _).alloc (by simp) _⟩
theorem is_both2 (g g2:Nat) (c:Int) (tx:TypeId) (x:Value) (w:World) (h2:w.cell? ⟨g,2,none⟩=some (.iface 121 (.pointer (some ⟨g2,0,none⟩)))) (h3:w.cell? ⟨g2,2,none⟩=some (.iface 195 (.agg #[.iface 41 (.int .i64 c),.iface tx x]))) :
  Calls Tryz.prog 9 #[.iface 121 (.pointer (some ⟨g,0,none⟩)),.iface 41 (.int .i64 c)] w fun e w'=>e=.returned (.bool true)∧Below w.heap.size w w':=by
 have h8:=@run_callFunc_extern Tryz.prog 17 _ Extern.ReflectliteType.typeOf Tryz.func17 (by kernel_rfl) (by kernel_rfl) (by kernel_rfl) (by kernel_rfl);have h32 := @run_callFunc_extern Tryz.prog 325 _ (Extern.ReflectliteType.method fun t => do Extern.Rtype.noPackHeld "Comparable" t; pure (.bool (← typeInfo t).comparable)) Tryz.func325 (by kernel_rfl) (by kernel_rfl) (by kernel_rfl) (by kernel_rfl);have tT:=is_.isTypeOf;have cT:=is_.isComparable;have mR:=is_.methodComparable;have n1:=is_.noIsE;have n2:=is_.hasUnwrap;have n3:=noIsB;have n4:=noUnwrapB;have n5:=hasUnwrapsB;have mU:=is_.methodUnwrap;have mB:=methodUnwrapB;have heq:=is_.eql_codes c c w;have hty:=fun g:Nat=>run_eql_iface_types (P:=Tryz.prog) 121 41 (.pointer (some ⟨g,0,none⟩)) (.int .i64 c) Tryz.underlying31 (by decide) w;have hty2:=fun v:Value=>run_eql_iface_types (P:=Tryz.prog) 195 41 v (.int .i64 c) Tryz.underlying31 (by decide) w;go_enter Tryz.func9,Tryz.ntmps9;go_wp2;refine wp_loop_rounds 3 ?_;rw [rounds_succ];go_wp2;rw [rounds_succ];go_wp2;rw [rounds_succ];go_wp2_with fail;refine (unwrap_both c tx x w).mono ?_;rintro e w1 ⟨gs,rfl,hgs,hc,hb⟩;have HB:=qH hb;clear hb;go_wp2_with fail;refine wp_loop_rounds 1 ?_;rw [rounds_succ];go_wp2_with fail;refine (is_self c w1).mono ?_;rintro e w2 ⟨rfl,hw⟩;subst hw;go_wp2;go_ret
 exact ⟨rfl,HB.out⟩
end err
end Go.Proofs.YthlahcnglacekaaGreatDoor
