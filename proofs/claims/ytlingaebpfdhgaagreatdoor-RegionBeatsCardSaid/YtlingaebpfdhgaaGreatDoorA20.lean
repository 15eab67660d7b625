/- A part of the proof of RegionBeats: GrantW, CrashW. -/
import Derived.Test.YtlingaebpfdhgaaGreatDoorA05
import Derived.Test.YtlingaebpfdhgaaGreatDoorA02
import Derived.Test.YtlingaebpfdhgaaGreatDoorA01
import Derived.Deep.QuietTactic
import Derived.BigQuiet
namespace Go.Proofs.YtlingaebpfdhgaaGreatDoor.lease
open Go Go.RowKit base err
section
variable {w:World}
def grantU (u:Nat→Int) (f t now:Nat):Nat→Int:=if t≤now∧u f < t + 12 then upd u f (t + 12) else u
def GrantR (g r n:Nat) (u:Nat→Int) (f t now:Nat) (w:World) (e:Ending) (w':World):Prop:=(∃ b,e=.returned (.bool b))∧LeaseB w' g r n (grantU u f t now)∧Keeps (· = g) w w'
set_option maxHeartbeats 1000000 in
theorem grant_w (g r n f t now:Nat) (u:Nat→Int) (w:World) (h:LeaseB w g r n u) (hf:isL r n f=true) (hf2:f≤16) (hn:now≤1099511627776) (ht:t≤1099511627776) :
  Calls Tryz.prog 102 #[.pointer (some ⟨g,0,none⟩),.int .i64 f,.int .i64 t,.int .i64 now] w (GrantR g r n u f t now w):=by
 have ha:=is_any g r n f u w h
 rw [hf] at ha
 have HA:=Lib.hid ha
 have H:=Lib.hid h
 have hlt:=h.lt
 have cf:w.cell? ⟨g,2 + f,none⟩=some (.int .i64 (u f)):=by
  have:=h.cell (2 + f)
  rw [this,List.getElem?_toArray,show 2 + f=f + 1 + 1 by omega,List.getElem?_cons_succ,List.getElem?_cons_succ]
  exact larr_get u (by omega)
 have ff:=h.frozen (2 + f)
 clear h ha hf
 have d4:decide ((1099511627776:Int) < (now:Int))=false:=decide_eq_false (by omega)
 have hwt:=IntWalk.i64_in ((t:Int) + 12) (by omega)
 have hf17:f < 17:=by omega
 by_cases h1:t≤now
 ·by_cases h2:u f < t + 12
  ·have d1:decide (now < t)=false:=decide_eq_false (by omega)
   have d2:decide ((t:Int) + 12≤u f)=false:=decide_eq_false (by omega)
   have HU:=Lib.hid (show grantU u f t now=upd u f (t + 12) from if_pos ⟨h1,h2⟩)
   clear h1 h2
   go_enter Tryz.func102,Tryz.ntmps102
   go_wp2_with fail
   refine HA.out.mono ?_
   rintro e w1 ⟨rfl,rfl⟩
   go_wp2_with fail
   go_ret
   refine ⟨⟨_,rfl⟩,?_,Keeps.set1 _ _ _ _⟩
   rw [HU.out]
   have hb:=H.out.set_ (2 + f) (.int .i64 ((t:Int) + 12))
   unfold LeaseB
   rw [List.setIfInBounds_toArray,show 2 + f=f + 1 + 1 by omega,List.set_cons_succ,List.set_cons_succ,larr_set u _ hf17] at hb
   rw [show 2 + f=f + 1 + 1 by omega]
   exact hb
  ·have d1:decide (now < t)=false:=decide_eq_false (by omega)
   have d2:decide ((t:Int) + 12≤u f)=true:=decide_eq_true (by omega)
   have HU:=Lib.hid (show grantU u f t now=u from if_neg (fun h=>h2 h.2))
   clear h1 h2
   go_enter Tryz.func102,Tryz.ntmps102
   go_wp2_with fail
   refine HA.out.mono ?_
   rintro e w1 ⟨rfl,rfl⟩
   go_wp2_with fail
   go_ret
   exact ⟨⟨_,rfl⟩,by rw [HU.out];exact H.out,Keeps.refl _ _⟩
 ·have d1:decide (now < t)=true:=decide_eq_true (by omega)
  have HU:=Lib.hid (show grantU u f t now=u from if_neg (fun h=>h1 h.1))
  clear h1
  go_enter Tryz.func102,Tryz.ntmps102
  go_wp2_with fail
  refine HA.out.mono ?_
  rintro e w1 ⟨rfl,rfl⟩
  go_wp2_with fail
  go_ret
  exact ⟨⟨_,rfl⟩,by rw [HU.out];exact H.out,Keeps.refl _ _⟩
def lapse (r n:Nat) (u:Nat→Int) (now i:Nat):Bool:=isL r n i && decide (u i≤now)
def GoodR (r n:Nat) (u:Nat→Int) (now:Nat) (w:World) (e:Ending) (w':World):Prop :=
 ((∀ i,i < 17→lapse r n u now i=false)∧e=.returned .nilIface∧Below w.heap.size w w') ∨ ((∃ i,i < 17∧lapse r n u now i=true)∧ErrNew 12 w e w')
set_option maxRecDepth 20000 in
set_option maxHeartbeats 1000000 in
theorem good_w (g r n now:Nat) (u:Nat→Int) (w:World) (h:LeaseB w g r n u) :
  Calls Tryz.prog 47 #[.pointer (some ⟨g,0,none⟩),.int .i64 now] w (GoodR r n u now w):=by
 have H:=Lib.hid h
 have hlt:=h.lt
 have l0:w.cell? ⟨g,2,none⟩=some (.int .i64 (u 0)):=h.cell 2
 have l1:w.cell? ⟨g,3,none⟩=some (.int .i64 (u 1)):=h.cell 3
 have l2:w.cell? ⟨g,4,none⟩=some (.int .i64 (u 2)):=h.cell 4
 have l3:w.cell? ⟨g,5,none⟩=some (.int .i64 (u 3)):=h.cell 5
 have l4:w.cell? ⟨g,6,none⟩=some (.int .i64 (u 4)):=h.cell 6
 have l5:w.cell? ⟨g,7,none⟩=some (.int .i64 (u 5)):=h.cell 7
 have l6:w.cell? ⟨g,8,none⟩=some (.int .i64 (u 6)):=h.cell 8
 have l7:w.cell? ⟨g,9,none⟩=some (.int .i64 (u 7)):=h.cell 9
 have l8:w.cell? ⟨g,10,none⟩=some (.int .i64 (u 8)):=h.cell 10
 have l9:w.cell? ⟨g,11,none⟩=some (.int .i64 (u 9)):=h.cell 11
 have l10:w.cell? ⟨g,12,none⟩=some (.int .i64 (u 10)):=h.cell 12
 have l11:w.cell? ⟨g,13,none⟩=some (.int .i64 (u 11)):=h.cell 13
 have l12:w.cell? ⟨g,14,none⟩=some (.int .i64 (u 12)):=h.cell 14
 have l13:w.cell? ⟨g,15,none⟩=some (.int .i64 (u 13)):=h.cell 15
 have l14:w.cell? ⟨g,16,none⟩=some (.int .i64 (u 14)):=h.cell 16
 have l15:w.cell? ⟨g,17,none⟩=some (.int .i64 (u 15)):=h.cell 17
 have l16:w.cell? ⟨g,18,none⟩=some (.int .i64 (u 16)):=h.cell 18
 clear h
 go_enter Tryz.func47,Tryz.ntmps47
 go_wp2_with fail
 clear l0 l1 l2 l3 l4 l5 l6 l7 l8 l9 l10 l11 l12 l13 l14 l15 l16
 obtain ⟨ar,har⟩:∃ ar,Hid (ar=(larr u).toArray):=⟨_,Lib.hid rfl⟩
 rw [show #[Value.int .i64 (u 0),.int .i64 (u 1),.int .i64 (u 2),.int .i64 (u 3),.int .i64 (u 4),.int .i64 (u 5),.int .i64 (u 6),.int .i64 (u 7),.int .i64 (u 8),.int .i64 (u 9),.int .i64 (u 10),.int .i64 (u 11),.int .i64 (u 12),.int .i64 (u 13),.int .i64 (u 14),.int .i64 (u 15),.int .i64 (u 16)]=ar from har.out.symm]
 go_loopw [15] (fun i wr=>∃ k:Nat,k≤17∧i=.int .i64 k∧(∀ i,i < k→lapse r n u now i=false)∧wr=w) (fun i _=>17 - (intOf i).toNat)
 case atStart=>exact ⟨0,by omega,rfl,fun i hi=>absurd hi (by omega),rfl⟩
 case round =>
  obtain ⟨k,hk,rfl,hp,rfl⟩:=hrel
  have HP:=Lib.hid hp
  by_cases hlk:k < 17
  ·have hg:=larr_get u hlk
   have HI:=Lib.hid (is_any g r n k u wr H.out)
   have hx:(Instr.index 100 (.agg ar) (.int .i64 k)).run Tryz.prog wr=.ok (.int .i64 (u k)) wr:=by rw [har.out];exact idx_run u k hlk wr
   have hke:∀ b,lapse r n u now k=b→b=false→∀ i,i < k + 1→lapse r n u now i=false:=fun b hb hf i hi=>by
    rcases Nat.lt_succ_iff_lt_or_eq.1 hi with h|rfl
    ·exact hp i h
    ·rw [hb,hf]
   have HKE:=Lib.hid hke
   have HL:=Lib.hid (show lapse r n u now k=(isL r n k && decide (u k≤now)) from rfl)
   clear hp hg hke
   go_wp2_with fail
   refine HI.out.mono ?_
   rintro e w1 ⟨rfl,hw1⟩
   subst hw1
   cases hb:isL r n k with
   | false =>
    have HF:=Lib.hid (HKE.out _ HL.out (by rw [hb];rfl))
    clear hb
    go_wp2_with fail
    go_roundw
    case rel=>exact ⟨k + 1,by omega,rfl,HF.out,trivial⟩
    case measure=>simp [intOf];omega
   | true =>
    by_cases hu:u k≤now
    ·have d1:decide (u k≤(now:Int))=true:=decide_eq_true hu
     have HT:=Lib.hid (show lapse r n u now k=true by rw [HL.out,hb,d1];rfl)
     clear hb hu
     go_wp2_with fail
     refine (at_any _ _ _ _).mono ?_
     rintro e w2 h2
     have HR:=Lib.hid (show GoodR r n u now w1 e w2 from .inr ⟨⟨k,hlk,HT.out⟩,h2⟩)
     obtain ⟨x,rfl,_⟩:=h2
     go_wp2_with fail
     go_ret
     exact HR.out
    ·have d1:decide (u k≤(now:Int))=false:=decide_eq_false hu
     have HF:=Lib.hid (HKE.out _ HL.out (by rw [hb,d1];rfl))
     clear hb hu
     go_wp2_with fail
     go_roundw
     case rel=>exact ⟨k + 1,by omega,rfl,HF.out,trivial⟩
     case measure=>simp [intOf];omega
  ·have h17:k=17:=by omega
   subst h17
   clear hk hlk hp
   go_wp2_with fail
   go_ret
   exact .inl ⟨HP.out,rfl,Below.refl _ _⟩
end
end Go.Proofs.YtlingaebpfdhgaaGreatDoor.lease
namespace Go.Proofs.YtlingaebpfdhgaaGreatDoor.disk
open Go Go.RowKit base err rowc diskp monoj
section
variable {w w':World} {S:Nat→Prop} {g:Nat} {d:Dk}
def CrashR (S:Nat→Prop) (g:Nat) (d:Dk) (w:World) (e:Ending) (w':World):Prop:=e=.returned noResult∧DiskS w' S g d∧Keeps S w w'
theorem crash_disk {v v2:Value} (h:DiskF w S g d v) (hr:RowC w (g + 1) 5 v2 (d.b.take d.safe)) (ho:∀ i,v2.ownBlock=some i→v.ownBlock=some i) :
  DiskF ((((w.setCell ⟨g,0,none⟩ v2).setCell ⟨g,1,none⟩ (.int .i64 d.safe)).setCell ⟨g,4,none⟩ (.bool false)).setCell ⟨g,3,none⟩ (.int .i64 (-1))) S g (crash0 d) v2:=by
 have hk:Keeps (· = g) w ((((w.setCell ⟨g,0,none⟩ v2).setCell ⟨g,1,none⟩ (.int .i64 d.safe)).setCell ⟨g,4,none⟩ (.bool false)).setCell ⟨g,3,none⟩ (.int .i64 (-1))) :=
  (((Keeps.set1 w g 0 v2).trans (Keeps.set1 _ g 1 _)).trans (Keeps.set1 _ g 4 _)).trans (Keeps.set1 _ g 3 _)
 refine ⟨?_,hr.keeps hk (fun k hk e=>by have:=(hr.lt k hk).1;have h1:k=g:=e;omega),h.inG,fun i hi=>h.inV i (ho i hi),fun i hi=>Nat.lt_of_lt_of_le (h.small i hi) hk.size,⟨?_,?_,h.ok.room_,by show (-1:Int)≤-1;omega,by show (-1:Int)≤_;omega⟩⟩
 ·have:=(((h.blk.set_ 0 v2).set_ 1 (.int .i64 d.safe)).set_ 4 (.bool false)).set_ 3 (.int .i64 (-1))
  show Blk _ g 142 #[v2,.int .i64 d.safe,.int .i64 d.room,.int .i64 (-1),.bool false]
  simpa using this
 ·show d.safe≤(d.b.take d.safe).length
  rw [List.length_take]
  have:=h.ok.le
  omega
 ·show (d.b.take d.safe).length≤_
  rw [List.length_take]
  have:=h.ok.few
  omega
theorem crash_end {v v2:Value} {sf:Nat} (h:DiskF w' S g d v) (hr:RowC w' (g + 1) 5 v2 (d.b.take d.safe)) (ho:∀ i,v2.ownBlock=some i→v.ownBlock=some i) (hk:Keeps S w w') (hs:d.safe=sf) :
  CrashR S g (crash0 d) w (.returned noResult) ((((w'.setCell ⟨g,0,none⟩ v2).setCell ⟨g,1,none⟩ (.int .i64 sf)).setCell ⟨g,4,none⟩ (.bool false)).setCell ⟨g,3,none⟩ (.int .i64 (-1))).drew:=by
 subst hs
 have hk2:Keeps (· = g) w' ((((w'.setCell ⟨g,0,none⟩ v2).setCell ⟨g,1,none⟩ (.int .i64 d.safe)).setCell ⟨g,4,none⟩ (.bool false)).setCell ⟨g,3,none⟩ (.int .i64 (-1))):=(((Keeps.set1 w' g 0 v2).trans (Keeps.set1 _ g 1 (.int .i64 d.safe))).trans (Keeps.set1 _ g 4 (.bool false))).trans (Keeps.set1 _ g 3 (.int .i64 (-1)))
 have hd:DiskS _ S g (crash0 d):=⟨v2,crash_disk h hr ho⟩
 exact ⟨rfl,hd.drew,(hk.trans (hk2.more fun i _ e=>by have e:i=g:=e;subst e;exact h.inG)).trans Keeps.drew⟩
set_option maxRecDepth 10000 in
set_option maxHeartbeats 1600000 in
theorem crash_w (h:DiskS w S g d):Calls Tryz.prog 17 #[.pointer (some ⟨g,0,none⟩),.int .i64 0,.string ⟨#[]⟩] w (CrashR S g (crash0 d) w):=by
 obtain ⟨v,hf⟩:=h
 obtain ⟨A,c,rfl⟩:=hf.row.form
 have c0:w.cell? ⟨g,0,none⟩=_:=hf.blk.cell 0
 have c1:w.cell? ⟨g,1,none⟩=_:=hf.blk.cell 1
 have c4:w.cell? ⟨g,4,none⟩=_:=hf.blk.cell 4
 have c3:w.cell? ⟨g,3,none⟩=_:=hf.blk.cell 3
 have f0:=hf.blk.frozen 0
 have hlt:=hf.blk.lt
 have hle:=hf.ok.le
 have hfew:=hf.ok.few
 simp at c0 c1 c3 c4
 have HF:=Lib.hid hf
 clear hf
 obtain ⟨by_,hby⟩:∃ n:Nat,(d.b.length:Int) - (d.safe:Int) + 1=(n:Int):=⟨d.b.length - d.safe + 1,by omega⟩
 have hby0:0 < by_:=by omega
 have hw1:=IntWalk.i64_in ((d.b.length:Int) - (d.safe:Int)) (by omega)
 have hw2:=IntWalk.i64_in (by_:Int) (by omega)
 go_enter Tryz.func17,Tryz.ntmps17
 go_wp2_with fail
 go_quiet (fail)
 go_wp2_with fail
 go_loopw [30,8] (fun i _ wr=>i=.int .i64 0∧wr=w.drewN nq) (fun _ _ _=>0)
 case atStart=>exact ⟨rfl,rfl⟩
 case round =>
  obtain ⟨rfl,rfl⟩:=hrel
  have hk1:Keeps nobody w (w.drewN nq):=Keeps.drewN nq
  have HF1:=Lib.hid (HF.out.keeps hk1 (fun _ _ h=>h))
  have HK1:=Lib.hid (hk1.more (Y:=S) fun _ _ h=>h.elim)
  clear hk1 hw1 hw2 hby c0 c1 c3 c4 f0
  generalize w.drewN nq=w1 at *
  have c0:w1.cell? ⟨g,0,none⟩=_:=HF1.out.blk.cell 0
  have c1:w1.cell? ⟨g,1,none⟩=_:=HF1.out.blk.cell 1
  have c3:w1.cell? ⟨g,3,none⟩=_:=HF1.out.blk.cell 3
  have c4:w1.cell? ⟨g,4,none⟩=_:=HF1.out.blk.cell 4
  have f0:=HF1.out.blk.frozen 0
  have f1:=HF1.out.blk.frozen 1
  have f3:=HF1.out.blk.frozen 3
  have f4:=HF1.out.blk.frozen 4
  have hlt1:=HF1.out.blk.lt
  simp at c0 c1 c3 c4
  go_wp2_with fail
  rcases HF1.out.row.is with ⟨h1,h2⟩|⟨g',c',cur,h1,_,_,hlc,_⟩
  ·simp only [Value.slice.injEq] at h1
   obtain ⟨rfl,hl0,rfl⟩:=h1
   have hs0:d.safe=0:=by omega
   have hr2:=Lib.hid (show RowC w1 (g + 1) 5 (.slice none 0 0) (d.b.take d.safe) by rw [h2];simpa using RowC.none_ w1 (g + 1) 5)
   have hz:=Lib.hid hs0
   have ho2:=Lib.hid (show ∀ i,(Value.slice none 0 0).ownBlock=some i→(Value.slice none d.b.length 0).ownBlock=some i from fun i hi=>by cases hi)
   refine wp_region_monoJ (fun i=>i=g) [20] (by kernel_rfl) ?_
   iterate 4
    first|refine qJ 0 (v:=?_) ?_ ?_|refine qJ 1 (v:=?_) ?_ ?_|refine qJ 2 (v:=?_) ?_ ?_|refine qJ 3 (v:=?_) ?_ ?_
    rotate_left
    ·(intro W hSw;(first|(have hcW:=hSw.cells;try simp only [qSd] at hcW)|skip);go_simp <;> rfl)
    try simp only [qPA]
   refine wpMonoJ_read' 4 [17,18,19,20] (v:=?_) rfl (by kernel_rfl) (by kernel_rfl) (by kernel_rfl) (by rfl) (by kernel_rfl) (by rfl) (fun _ _ _ h=>h) (by rfl) ?_ ?_
   rotate_left
   ·(intro W hSw;(first|(have hcW:=hSw.cells;try simp only [qSd] at hcW)|skip);go_simp <;> rfl)
   try simp only [qPA]
   iterate 3
    first|refine qJ 5 (v:=?_) ?_ ?_|refine qJ 6 (v:=?_) ?_ ?_|refine qJ 7 (v:=?_) ?_ ?_
    rotate_left
    ·(intro W hSw;(first|(have hcW:=hSw.cells;try simp only [qSd] at hcW)|skip);go_simp <;> rfl)
    try simp only [qPA]
   refine wpMonoJ_read' 8 [10,17,18,19,20] (v:=?_) rfl (by kernel_rfl) (by kernel_rfl) (by kernel_rfl) (by rfl) (by kernel_rfl) (by rfl) (fun _ _ _ h=>h) (by rfl) ?_ ?_
   rotate_left
   ·(intro W hSw;(first|(have hcW:=hSw.cells;try simp only [qSd] at hcW)|skip);go_simp <;> rfl)
   try simp only [qPA]
   iterate 5
    first|refine qJ 9 (v:=?_) ?_ ?_|refine qJ 10 (v:=?_) ?_ ?_|refine qJ 11 (v:=?_) ?_ ?_|refine qJ 12 (v:=?_) ?_ ?_|refine qJ 13 (v:=?_) ?_ ?_
    rotate_left
    ·(intro W hSw;(first|(have hcW:=hSw.cells;try simp only [qSd] at hcW)|skip);go_simp <;> rfl)
    try simp only [qPA]
   refine wpMonoJ_read' 14 [16,17,18,19,20] (v:=?_) rfl (by kernel_rfl) (by kernel_rfl) (by kernel_rfl) (by rfl) (by kernel_rfl) (by rfl) (fun _ _ _ h=>h) (by rfl) ?_ ?_
   rotate_left
   ·(intro W hSw;(first|(have hcW:=hSw.cells;try simp only [qSd] at hcW)|skip);go_simp <;> rfl)
   try simp only [qPA]
   iterate 5
    first|refine qJ 15 (v:=?_) ?_ ?_|refine qJ 16 (v:=?_) ?_ ?_|refine qJ 17 (v:=?_) ?_ ?_|refine qJ 18 (v:=?_) ?_ ?_|refine qJ 19 (v:=?_) ?_ ?_
    rotate_left
    ·(intro W hSw;(first|(have hcW:=hSw.cells;try simp only [qSd] at hcW)|skip);go_simp <;> rfl)
    try simp only [qPA]
   refine wpMonoJ_one' 20 (by kernel_rfl) rfl (by rfl) (fun K hK=>?_)
   go_simp
   refine hK.out _ _ ?_ ?_
   ·exact moved (Keeps.set1 _ _ _ _) (by decide)
   clear hK K
   try simp only [Act.put]
   refine wpMonoJ_done (by kernel_rfl) ?_ _
   go_wp2_with fail
   have HR:=Lib.hid (crash_end HF1.out hr2.out ho2.out HK1.out hz.out)
   refine bodyPost_end (results_none rfl _ _ _) rfl ?_
   exact HR.out
  ·simp only [Value.slice.injEq,true_and] at h1
   obtain ⟨rfl,rfl⟩:=h1
   have hr2:=Lib.hid (HF1.out.row.cut hle)
   have hws:=IntWalk.i64_in (d.safe:Int) (by omega)
   have hsc:(d.safe:Int)≤(c:Int):=by omega
   have hsm:max (d.safe:Int) 0=(d.safe:Int):=by omega
   have ho2:=Lib.hid (show ∀ i,(Value.slice (some ⟨g',0,none⟩) d.safe d.safe).ownBlock=some i→(Value.slice (some ⟨g',0,none⟩) d.b.length c).ownBlock=some i from fun i hi=>hi)
   refine wp_region_monoJ (fun i=>i=g) [20] (by kernel_rfl) ?_
   iterate 4
    first|refine qJ 0 (v:=?_) ?_ ?_|refine qJ 1 (v:=?_) ?_ ?_|refine qJ 2 (v:=?_) ?_ ?_|refine qJ 3 (v:=?_) ?_ ?_
    rotate_left
    ·(intro W hSw;(first|(have hcW:=hSw.cells;try simp only [qSd] at hcW)|skip);go_simp <;> rfl)
    try simp only [qPA]
   refine wpMonoJ_read' 4 [17,18,19,20] (v:=?_) rfl (by kernel_rfl) (by kernel_rfl) (by kernel_rfl) (by rfl) (by kernel_rfl) (by rfl) (fun _ _ _ h=>h) (by rfl) ?_ ?_
   rotate_left
   ·(intro W hSw;(first|(have hcW:=hSw.cells;try simp only [qSd] at hcW)|skip);go_simp <;> rfl)
   try simp only [qPA]
   iterate 3
    first|refine qJ 5 (v:=?_) ?_ ?_|refine qJ 6 (v:=?_) ?_ ?_|refine qJ 7 (v:=?_) ?_ ?_
    rotate_left
    ·(intro W hSw;(first|(have hcW:=hSw.cells;try simp only [qSd] at hcW)|skip);go_simp <;> rfl)
    try simp only [qPA]
   refine wpMonoJ_read' 8 [10,17,18,19,20] (v:=?_) rfl (by kernel_rfl) (by kernel_rfl) (by kernel_rfl) (by rfl) (by kernel_rfl) (by rfl) (fun _ _ _ h=>h) (by rfl) ?_ ?_
   rotate_left
   ·(intro W hSw;(first|(have hcW:=hSw.cells;try simp only [qSd] at hcW)|skip);go_simp <;> rfl)
   try simp only [qPA]
   iterate 5
    first|refine qJ 9 (v:=?_) ?_ ?_|refine qJ 10 (v:=?_) ?_ ?_|refine qJ 11 (v:=?_) ?_ ?_|refine qJ 12 (v:=?_) ?_ ?_|refine qJ 13 (v:=?_) ?_ ?_
    rotate_left
    ·(intro W hSw;(first|(have hcW:=hSw.cells;try simp only [qSd] at hcW)|skip);go_simp <;> rfl)
    try simp only [qPA]
   refine wpMonoJ_read' 14 [16,17,18,19,20] (v:=?_) rfl (by kernel_rfl) (by kernel_rfl) (by kernel_rfl) (by rfl) (by kernel_rfl) (by rfl) (fun _ _ _ h=>h) (by rfl) ?_ ?_
   rotate_left
   ·(intro W hSw;(first|(have hcW:=hSw.cells;try simp only [qSd] at hcW)|skip);go_simp <;> rfl)
   try simp only [qPA]
   iterate 5
    first|refine qJ 15 (v:=?_) ?_ ?_|refine qJ 16 (v:=?_) ?_ ?_|refine qJ 17 (v:=?_) ?_ ?_|refine qJ 18 (v:=?_) ?_ ?_|refine qJ 19 (v:=?_) ?_ ?_
    rotate_left
    ·(intro W hSw;(first|(have hcW:=hSw.cells;try simp only [qSd] at hcW)|skip);go_simp <;> rfl)
    try simp only [qPA]
   refine wpMonoJ_one' 20 (by kernel_rfl) rfl (by rfl) (fun K hK=>?_)
   go_simp
   refine hK.out _ _ ?_ ?_
   ·exact moved (Keeps.set1 _ _ _ _) (by decide)
   clear hK K
   try simp only [Act.put]
   refine wpMonoJ_done (by kernel_rfl) ?_ _
   go_wp2_with fail
   have HR:=Lib.hid (crash_end HF1.out hr2.out ho2.out HK1.out rfl)
   refine bodyPost_end (results_none rfl _ _ _) rfl ?_
   exact HR.out
end
end Go.Proofs.YtlingaebpfdhgaaGreatDoor.disk
