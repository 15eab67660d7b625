/- A part of the proof of RegionNone: CrashW. -/
import Derived.Test.YtdaphppdmnmicaaGreatDoorA02
import Derived.Test.YtdaphppdmnmicaaGreatDoorA01
import Derived.Deep.QuietTactic
import Derived.BigQuiet
namespace Go.Proofs.YtdaphppdmnmicaaGreatDoor.disk
open Go Go.RowKit base err rowc diskp monoj
section
variable {w w':World} {S:Nat→Prop} {g:Nat} {d:Dk}
def CrashR (S:Nat→Prop) (g:Nat) (d:Dk) (w:World) (e:Ending) (w':World):Prop:=e=.returned noResult∧DiskS w' S g d∧Keeps S w w'
theorem crash_disk {v v2:Value} (h:DiskF w S g d v) (hr:RowC w (g + 1) 5 v2 (d.b.take d.safe)) (ho:∀ i,v2.ownBlock=some i→v.ownBlock=some i) :
  DiskF ((((w.setCell ⟨g,0,none⟩ v2).setCell ⟨g,1,none⟩ (.int .i64 d.safe)).setCell ⟨g,4,none⟩ (.bool false)).setCell ⟨g,3,none⟩ (.int .i64 (-1))) S g (crash0 d) v2:=by
 have hk:Keeps (· = g) w ((((w.setCell ⟨g,0,none⟩ v2).setCell ⟨g,1,none⟩ (.int .i64 d.safe)).setCell ⟨g,4,none⟩ (.bool false)).setCell ⟨g,3,none⟩ (.int .i64 (-1))) :=
  (((Keeps.set1 w g 0 v2).trans (Keeps.set1 _ g 1 _)).trans (Keeps.set1 _ g 4 _)).trans (Keeps.set1 _ g 3 _)
 refine ⟨?_,hr.keeps hk (fun k hk e=>by have:=(hr.lt k hk).1;have h1:k=g:=e;omega),h.inG,fun i hi=>h.inV i (ho i hi),fun i hi=>Nat.lt_of_lt_of_le (h.small i hi) hk.size,⟨?_,?_,h.ok.room_,by show (-1:Int)≤-1;omega,by show (-1:Int)≤_;omega⟩⟩
 ·have:=(((h.blk.set_ 0 v2).set_ 1 (.int .i64 d.safe)).set_ 4 (.bool false)).set_ 3 (.int .i64 (-1))
  show Blk _ g 165 #[v2,.int .i64 d.safe,.int .i64 d.room,.int .i64 (-1),.bool false]
  simpa using this
 ·show d.safe≤(d.b.take d.safe).length
  rw [List.length_take]
  have:=h.ok.le
  omega
 ·show (d.b.take d.safe).length≤_
  rw [List.length_take]
  have:=h.ok.few
  omega
theorem crash_end {v v2:Value} {sf:Nat} (h:DiskF w' S g d v) (hr:RowC w' (g + 1) 5 v2 (d.b.take d.safe)) (ho:∀ i,v2.ownBlock=some i→v.ownBlock=some i) (hk:Keeps S w w') (hs:d.safe=sf) :
  CrashR S g (crash0 d) w (.returned noResult) ((((w'.setCell ⟨g,0,none⟩ v2).setCell ⟨g,1,none⟩ (.int .i64 sf)).setCell ⟨g,4,none⟩ (.bool false)).setCell ⟨g,3,none⟩ (.int .i64 (-1))).drew:=by
 subst hs
 have hk2:Keeps (· = g) w' ((((w'.setCell ⟨g,0,none⟩ v2).setCell ⟨g,1,none⟩ (.int .i64 d.safe)).setCell ⟨g,4,none⟩ (.bool false)).setCell ⟨g,3,none⟩ (.int .i64 (-1))):=(((Keeps.set1 w' g 0 v2).trans (Keeps.set1 _ g 1 (.int .i64 d.safe))).trans (Keeps.set1 _ g 4 (.bool false))).trans (Keeps.set1 _ g 3 (.int .i64 (-1)))
 have hd:DiskS _ S g (crash0 d):=⟨v2,crash_disk h hr ho⟩
 exact ⟨rfl,hd.drew,(hk.trans (hk2.more fun i _ e=>by have e:i=g:=e;subst e;exact h.inG)).trans Keeps.drew⟩
set_option maxRecDepth 10000 in
set_option maxHeartbeats 1600000 in
theorem crash_w (h:DiskS w S g d):Calls Tryz.prog 23 #[.pointer (some ⟨g,0,none⟩),.int .i64 0,.string ⟨#[]⟩] w (CrashR S g (crash0 d) w):=by
 obtain ⟨v,hf⟩:=h
 obtain ⟨A,c,rfl⟩:=hf.row.form
 have c0:w.cell? ⟨g,0,none⟩=_:=hf.blk.cell 0
 have c1:w.cell? ⟨g,1,none⟩=_:=hf.blk.cell 1
 have c4:w.cell? ⟨g,4,none⟩=_:=hf.blk.cell 4
 have c3:w.cell? ⟨g,3,none⟩=_:=hf.blk.cell 3
 have f0:=hf.blk.frozen 0
 have hlt:=hf.blk.lt
 have hle:=hf.ok.le
 have hfew:=hf.ok.few
 simp at c0 c1 c3 c4
 have HF:=Lib.hid hf
 clear hf
 obtain ⟨by_,hby⟩:∃ n:Nat,(d.b.length:Int) - (d.safe:Int) + 1=(n:Int):=⟨d.b.length - d.safe + 1,by omega⟩
 have hby0:0 < by_:=by omega
 have hw1:=IntWalk.i64_in ((d.b.length:Int) - (d.safe:Int)) (by omega)
 have hw2:=IntWalk.i64_in (by_:Int) (by omega)
 go_enter Tryz.func23,Tryz.ntmps23
 go_wp2_with fail
 go_quiet (fail)
 go_wp2_with fail
 go_loopw [30,8] (fun i _ wr=>i=.int .i64 0∧wr=w.drewN nq) (fun _ _ _=>0)
 case atStart=>exact ⟨rfl,rfl⟩
 case round =>
  obtain ⟨rfl,rfl⟩:=hrel
  have hk1:Keeps nobody w (w.drewN nq):=Keeps.drewN nq
  have HF1:=Lib.hid (HF.out.keeps hk1 (fun _ _ h=>h))
  have HK1:=Lib.hid (hk1.more (Y:=S) fun _ _ h=>h.elim)
  clear hk1 hw1 hw2 hby c0 c1 c3 c4 f0
  generalize w.drewN nq=w1 at *
  have c0:w1.cell? ⟨g,0,none⟩=_:=HF1.out.blk.cell 0
  have c1:w1.cell? ⟨g,1,none⟩=_:=HF1.out.blk.cell 1
  have c3:w1.cell? ⟨g,3,none⟩=_:=HF1.out.blk.cell 3
  have c4:w1.cell? ⟨g,4,none⟩=_:=HF1.out.blk.cell 4
  have f0:=HF1.out.blk.frozen 0
  have f1:=HF1.out.blk.frozen 1
  have f3:=HF1.out.blk.frozen 3
  have f4:=HF1.out.blk.frozen 4
  have hlt1:=HF1.out.blk.lt
  simp at c0 c1 c3 c4
  go_wp2_with fail
  rcases HF1.out.row.is with ⟨h1,h2⟩|⟨g',c',cur,h1,_,_,hlc,_⟩
  ·simp only [Value.slice.injEq] at h1
   obtain ⟨rfl,hl0,rfl⟩:=h1
   have hs0:d.safe=0:=by omega
   have hr2:=Lib.hid (show RowC w1 (g + 1) 5 (.slice none 0 0) (d.b.take d.safe) by rw [h2];simpa using RowC.none_ w1 (g + 1) 5)
   have hz:=Lib.hid hs0
   have ho2:=Lib.hid (show ∀ i,(Value.slice none 0 0).ownBlock=some i→(Value.slice none d.b.length 0).ownBlock=some i from fun i hi=>by cases hi)
   refine wp_region_monoJ (fun i=>i=g) [20] (by kernel_rfl) ?_
   iterate 4
    first|refine qJ 0 (v:=?_) ?_ ?_|refine qJ 1 (v:=?_) ?_ ?_|refine qJ 2 (v:=?_) ?_ ?_|refine qJ 3 (v:=?_) ?_ ?_
    rotate_left
    ·(intro W hSw;(first|(have hcW:=hSw.cells;try simp only [qSd] at hcW)|skip);go_simp <;> rfl)
    try simp only [qPA]
   refine wpMonoJ_read' 4 [17,18,19,20] (v:=?_) rfl (by kernel_rfl) (by kernel_rfl) (by kernel_rfl) (by rfl) (by kernel_rfl) (by rfl) (fun _ _ _ h=>h) (by rfl) ?_ ?_
   rotate_left
   ·(intro W hSw;(first|(have hcW:=hSw.cells;try simp only [qSd] at hcW)|skip);go_simp <;> rfl)
   try simp only [qPA]
   iterate 3
    first|refine qJ 5 (v:=?_) ?_ ?_|refine qJ 6 (v:=?_) ?_ ?_|refine qJ 7 (v:=?_) ?_ ?_
    rotate_left
    ·(intro W hSw;(first|(have hcW:=hSw.cells;try simp only [qSd] at hcW)|skip);go_simp <;> rfl)
    try simp only [qPA]
   refine wpMonoJ_read' 8 [10,17,18,19,20] (v:=?_) rfl (by kernel_rfl) (by kernel_rfl) (by kernel_rfl) (by rfl) (by kernel_rfl) (by rfl) (fun _ _ _ h=>h) (by rfl) ?_ ?_
   rotate_left
   ·(intro W hSw;(first|(have hcW:=hSw.cells;try simp only [qSd] at hcW)|skip);go_simp <;> rfl)
   try simp only [qPA]
   iterate 5
    first|refine qJ 9 (v:=?_) ?_ ?_|refine qJ 10 (v:=?_) ?_ ?_|refine qJ 11 (v:=?_) ?_ ?_|refine qJ 12 (v:=?_) ?_ ?_|refine qJ 13 (v:=?_) ?_ ?_
    rotate_left
    ·(intro W hSw;(first|(have hcW:=hSw.cells;try simp only [qSd] at hcW)|skip);go_simp <;> rfl)
    try simp only [qPA]
   refine wpMonoJ_read' 14 [16,17,18,19,20] (v:=?_) rfl (by kernel_rfl) (by kernel_rfl) (by kernel_rfl) (by rfl) (by kernel_rfl) (by rfl) (fun _ _ _ h=>h) (by rfl) ?_ ?_
   rotate_left
   ·(intro W hSw;(first|(have hcW:=hSw.cells;try simp only [qSd] at hcW)|skip);go_simp <;> rfl)
   try simp only [qPA]
   iterate 5
    first|refine qJ 15 (v:=?_) ?_ ?_|refine qJ 16 (v:=?_) ?_ ?_|refine qJ 17 (v:=?_) ?_ ?_|refine qJ 18 (v:=?_) ?_ ?_|refine qJ 19 (v:=?_) ?_ ?_
    rotate_left
    ·(intro W hSw;(first|(have hcW:=hSw.cells;try simp only [qSd] at hcW)|skip);go_simp <;> rfl)
    try simp only [qPA]
   refine wpMonoJ_one' 20 (by kernel_rfl) rfl (by rfl) (fun K hK=>?_)
   go_simp
   refine hK.out _ _ ?_ ?_
   ·exact moved (Keeps.set1 _ _ _ _) (by decide)
   clear hK K
   try simp only [Act.put]
   refine wpMonoJ_done (by kernel_rfl) ?_ _
   go_wp2_with fail
   have HR:=Lib.hid (crash_end HF1.out hr2.out ho2.out HK1.out hz.out)
   refine bodyPost_end (results_none rfl _ _ _) rfl ?_
   exact HR.out
  ·simp only [Value.slice.injEq,true_and] at h1
   obtain ⟨rfl,rfl⟩:=h1
   have hr2:=Lib.hid (HF1.out.row.cut hle)
   have hws:=IntWalk.i64_in (d.safe:Int) (by omega)
   have hsc:(d.safe:Int)≤(c:Int):=by omega
   have hsm:max (d.safe:Int) 0=(d.safe:Int):=by omega
   have ho2:=Lib.hid (show ∀ i,(Value.slice (some ⟨g',0,none⟩) d.safe d.safe).ownBlock=some i→(Value.slice (some ⟨g',0,none⟩) d.b.length c).ownBlock=some i from fun i hi=>hi)
   refine wp_region_monoJ (fun i=>i=g) [20] (by kernel_rfl) ?_
   iterate 4
    first|refine qJ 0 (v:=?_) ?_ ?_|refine qJ 1 (v:=?_) ?_ ?_|refine qJ 2 (v:=?_) ?_ ?_|refine qJ 3 (v:=?_) ?_ ?_
    rotate_left
    ·(intro W hSw;(first|(have hcW:=hSw.cells;try simp only [qSd] at hcW)|skip);go_simp <;> rfl)
    try simp only [qPA]
   refine wpMonoJ_read' 4 [17,18,19,20] (v:=?_) rfl (by kernel_rfl) (by kernel_rfl) (by kernel_rfl) (by rfl) (by kernel_rfl) (by rfl) (fun _ _ _ h=>h) (by rfl) ?_ ?_
   rotate_left
   ·(intro W hSw;(first|(have hcW:=hSw.cells;try simp only [qSd] at hcW)|skip);go_simp <;> rfl)
   try simp only [qPA]
   iterate 3
    first|refine qJ 5 (v:=?_) ?_ ?_|refine qJ 6 (v:=?_) ?_ ?_|refine qJ 7 (v:=?_) ?_ ?_
    rotate_left
    ·(intro W hSw;(first|(have hcW:=hSw.cells;try simp only [qSd] at hcW)|skip);go_simp <;> rfl)
    try simp only [qPA]
   refine wpMonoJ_read' 8 [10,17,18,19,20] (v:=?_) rfl (by kernel_rfl) (by kernel_rfl) (by kernel_rfl) (by rfl) (by kernel_rfl) (by rfl) (fun _ _ _ h=>h) (by rfl) ?_ ?_
   rotate_left
   ·(intro W hSw;(first|(have hcW:=hSw.cells;try simp only [qSd] at hcW)|skip);go_simp <;> rfl)
   try simp only [qPA]
   iterate 5
    first|refine qJ 9 (v:=?_) ?_ ?_|refine qJ 10 (v:=?_) ?_ ?_|refine qJ 11 (v:=?_) ?_ ?_|refine qJ 12 (v:=?_) ?_ ?_|refine qJ 13 (v:=?_) ?_ ?_
    rotate_left
    ·(intro W hSw;(first|(have hcW:=hSw.cells;try simp only [qSd] at hcW)|skip);go_simp <;> rfl)
    try simp only [qPA]
   refine wpMonoJ_read' 14 [16,17,18,19,20] (v:=?_) rfl (by kernel_rfl) (by kernel_rfl) (by kernel_rfl) (by rfl) (by kernel_rfl) (by rfl) (fun _ _ _ h=>h) (by rfl) ?_ ?_
   rotate_left
   ·(intro W hSw;(first|(have hcW:=hSw.cells;try simp only [qSd] at hcW)|skip);go_simp <;> rfl)
   try simp only [qPA]
   iterate 5
    first|refine qJ 15 (v:=?_) ?_ ?_|refine qJ 16 (v:=?_) ?_ ?_|refine qJ 17 (v:=?_) ?_ ?_|refine qJ 18 (v:=?_) ?_ ?_|refine qJ 19 (v:=?_) ?_ ?_
    rotate_left
    ·(intro W hSw;(first|(have hcW:=hSw.cells;try simp only [qSd] at hcW)|skip);go_simp <;> rfl)
    try simp only [qPA]
   refine wpMonoJ_one' 20 (by kernel_rfl) rfl (by rfl) (fun K hK=>?_)
   go_simp
   refine hK.out _ _ ?_ ?_
   ·exact moved (Keeps.set1 _ _ _ _) (by decide)
   clear hK K
   try simp only [Act.put]
   refine wpMonoJ_done (by kernel_rfl) ?_ _
   go_wp2_with fail
   have HR:=Lib.hid (crash_end HF1.out hr2.out ho2.out HK1.out rfl)
   refine bodyPost_end (results_none rfl _ _ _) rfl ?_
   exact HR.out
end
end Go.Proofs.YtdaphppdmnmicaaGreatDoor.disk
