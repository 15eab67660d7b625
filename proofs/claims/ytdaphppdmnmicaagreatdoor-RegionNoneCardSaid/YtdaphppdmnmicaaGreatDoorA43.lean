/- A part of the proof of RegionNone: AwakeI, ArgsI, OwnI, PlainI, PushR, RegO, GetQ. -/
import Derived.Test.YtdaphppdmnmicaaGreatDoorA39
import Derived.Test.YtdaphppdmnmicaaGreatDoorA33
import Derived.Test.YtdaphppdmnmicaaGreatDoorProg
import Derived.Test.YtdaphppdmnmicaaGreatDoorA38
import Derived.Test.YtdaphppdmnmicaaGreatDoorA01
import Derived.Test.YtdaphppdmnmicaaGreatDoorA23
import Derived.Test.YtdaphppdmnmicaaGreatDoorA19
namespace Go.Proofs.YtdaphppdmnmicaaGreatDoor.dep
open Go Go.RowKit base rowe wire vec cmp with_ monoj err
def wrD (r n:Int) (d:Value) (z:List Int):Wr:=⟨r,n,1,r,d,z,⟨#[115]⟩,⟨#[]⟩,⟨#[]⟩,false,0⟩
theorem at_nil {x:Wr} {k:Nat} (h:At_ [] x k):k=0:=by have:=h.1;simpa using this
theorem at_one {d d':Value} {k:Nat} (h:At_ [wrD 2 1 d [0,0,1]] (wrD 3 1 d' []) k):k=1:=by
 have h1:=h.1
 simp only [List.length_cons,List.length_nil] at h1
 by_cases h0:k=0
 ·subst h0
  exact absurd (show cmpW (wrD 2 1 d [0,0,1]) (wrD 3 1 d' []) < 0 by rw [show cmpW (wrD 2 1 d [0,0,1]) (wrD 3 1 d' [])=-1 by kernel_rfl];decide) (h.2.2 0 (Nat.le_refl _) (by simp))
 ·omega
end Go.Proofs.YtdaphppdmnmicaaGreatDoor.dep
namespace Go.Proofs.YtdaphppdmnmicaaGreatDoor.dep
open Go Go.RowKit base rowe wire vec cmp with_ monoj err
def VecOk (w:World) (v:Value) (zs:List Int):Prop:=∃ A n c,v=.slice A n c∧Vec w w.heap.size A n c zs
theorem VecOk.below {w w':World} {v:Value} {zs:List Int} (h:VecOk w v zs) (hb:Below w.heap.size w w'):VecOk w' v zs:=by
 obtain ⟨A,n,c,h1,h2⟩:=h
 exact ⟨A,n,c,h1,(h2.below hb).more hb.size⟩
theorem VecOk.one {w:World} {v:Value} {zs:List Int} (h:VecOk w v zs):v.oneCell'=true:=by obtain ⟨A,n,c,rfl,_⟩:=h;rfl
structure Opd where
 k:Int
 x:Wr
 v:Value
 vz:List Int
def Opd.cells (o:Opd):List Value:=.int .i64 o.k :: (o.x.cells ++ [o.v])
theorem Opd.len (o:Opd):o.cells.length=12:=rfl
def OpOk (w:World) (o:Opd):Prop:=VecOk w o.x.d o.x.z∧VecOk w o.v o.vz
theorem OpOk.below {w w':World} {o:Opd} (h:OpOk w o) (hb:Below w.heap.size w w'):OpOk w' o:=⟨h.1.below hb,h.2.below hb⟩
def OpsR (w:World) (v:Value) (L:List Opd):Prop:=∃ A c,v=.slice A L.length c∧L.length≤maxLen∧L.length≤c∧Reads w w.heap.size 12 A L.length (L.flatMap Opd.cells)∧∀ o ∈ L,OpOk w o
theorem OpsR.below {w w':World} {v:Value} {L:List Opd} (h:OpsR w v L) (hb:Below w.heap.size w w'):OpsR w' v L:=by
 obtain ⟨A,c,h1,h2,h3,h4,h5⟩:=h
 exact ⟨A,c,h1,h2,h3,(h4.below hb).more hb.size,fun x hx=>(h5 x hx).below hb⟩
end Go.Proofs.YtdaphppdmnmicaaGreatDoor.dep
namespace Go.Proofs.YtdaphppdmnmicaaGreatDoor.dep
open Go Go.RowKit base rowe wire vec cmp with_ monoj err
def OwnR (vw:Value) (S:Nat→Prop) (g:Nat) (rg:Int) (ap:List Int) (L:List Wr) (dz:List Int) (w:World) (e:Ending) (w':World):Prop :=
 (coversB ap dz=false∧BadR 15 w e w') ∨ (coversB ap dz=true∧1099511627776≤atV ap rg∧BadR 3 w e w') ∨
  (coversB ap dz=true∧atV ap rg < 1099511627776∧∃ vo a l out S',e=.returned (.tuple #[vo,.nilIface])∧DrainI w S g rg (withL ap rg (atV ap rg + 1)) L vo w' a l out S'∧(∀ j,j < l.length→readyB a (l.getD j wrZ)=false)∧DrainM w g (fun i=>i=g ∨ vw.ownBlock=some i) vo w')
set_option maxRecDepth 100000 in
set_option maxHeartbeats 4000000 in
theorem own_any (g:Nat) (rg:Int) (S:Nat→Prop) (ap:List Int) (ws:List Wr) (va vw:Value) (A2:Option Addr) (n2 c2:Nat) (dz:List Int) (w:World) (h:InF w S g rg ap ws va vw) (hx:Vec w w.heap.size A2 n2 c2 dz) (h2:n2≤1000000) (hrg:1≤rg∧rg≤16) (hap:0≤atV ap rg) :
  Calls Tryz.prog 205 #[.pointer (some ⟨g,0,none⟩),.slice A2 n2 c2] w (OwnR vw S g rg ap ws dz w):=by
 obtain ⟨A1,c1,rfl,hva⟩:=h.vec
 have ha16:=h.afew
 have HVA:=Lib.hid hva
 have HF:=Lib.hid h
 have HV:=Lib.hid hx
 have gl:=h.blk.lt
 have y1:w.cell? ⟨g,1,none⟩=some (.slice A1 ap.length c1):=h.blk.cell 1
 clear h hx hva
 go_enter Tryz.func205,Tryz.ntmps205
 go_wp2_with fail
 refine wp_region_mono nobody (by kernel_rfl) ?_
 iterate 8
  first|refine qT 0 (v:=?_) ?_ ?_|refine qT 1 (v:=?_) ?_ ?_|refine qT 2 (v:=?_) ?_ ?_|refine qT 3 (v:=?_) ?_ ?_|refine qT 4 (v:=?_) ?_ ?_|refine qT 5 (v:=?_) ?_ ?_|refine qT 6 (v:=?_) ?_ ?_|refine qT 7 (v:=?_) ?_ ?_
  rotate_left
  ·(intro W hSw;((first|(have hg:=HF.out.blk.drew.keeps hSw (fun h=>h);have y0:W.cell? ⟨g,0,none⟩=some (.int .i64 rg):=hg.cell 0;have y1:W.cell? ⟨g,1,none⟩=some (.slice A1 ap.length c1):=hg.cell 1;have hl:=hg.lt)|skip));go_simp <;> rfl)
  try simp only [qPA]
 refine wpMono_one' 8 (by kernel_rfl) rfl (by rfl) (fun K hK=>?_)
 go_simp
 refine (at_any A1 ap.length c1 ap rg _ _ (HVA.out.below (Below.refl _ _).drew) (by omega)).mono ?_
 rintro e w4 ⟨rfl,rfl⟩
 refine hK.out _ _ ?_ ?_
 ·exact Keeps.refl _ _
 clear hK K
 try simp only [qPA]
 refine qT 9 (v:=?_) ?_ ?_;rotate_left
 ·(intro W hSw;((first|(have hg:=HF.out.blk.drew.keeps hSw (fun h=>h);have y0:W.cell? ⟨g,0,none⟩=some (.int .i64 rg):=hg.cell 0;have y1:W.cell? ⟨g,1,none⟩=some (.slice A1 ap.length c1):=hg.cell 1;have hl:=hg.lt)|skip));go_simp <;> rfl)
 try simp only [qPA]
 refine wpMono_done (by kernel_rfl) ?_ _
 have HB1:=Lib.hid (show Below w.heap.size w w.drew from (Below.refl _ _).drew)
 have HF1:=Lib.hid (HF.out.below HB1.out)
 have HV1:=Lib.hid (show Vec w.drew w.drew.heap.size A2 n2 c2 dz from HV.out.below HB1.out)
 have HA1:=Lib.hid (show Vec w.drew w.drew.heap.size A1 ap.length c1 ap from HVA.out.below HB1.out)
 clear y1 HF HV HVA gl
 generalize w.drew=w1 at *
 have gl:=HF1.out.blk.lt
 have y1:w1.cell? ⟨g,1,none⟩=some (.slice A1 ap.length c1):=HF1.out.blk.cell 1
 go_wp2_with fail
 refine (covers_any A1 ap.length c1 ap A2 n2 c2 dz w1 _ HA1.out HV1.out (by omega) h2).mono ?_
 rintro e w2 ⟨rfl,rfl⟩
 cases hcv:coversB ap dz with
 | false =>
  go_wp2_with fail
  refine (bad_own 15 _).mono ?_
  rintro e w9 h9
  have HR9:=Lib.hid (show OwnR vw S g rg ap ws dz w e w9 from .inl ⟨hcv,h9.of HB1.out⟩)
  obtain ⟨ge9,rfl,_⟩:=h9
  go_wp2
  exact bodyPost_ret (v:=.tuple #[.slice none 0 0,.iface 167 (.pointer (some ⟨ge9,0,none⟩))]) (by simp [results,Tryz.results205,go_sem]) rfl HR9.out
 | true =>
 by_cases hmx:1099511627776≤atV ap rg
 ·have dm:decide (1099511627776≤atV ap rg)=true:=by simpa using hmx
  go_wp2_with fail
  refine (bad_own 3 _).mono ?_
  rintro e w9 h9
  have HR9:=Lib.hid (show OwnR vw S g rg ap ws dz w e w9 from .inr (.inl ⟨hcv,hmx,h9.of HB1.out⟩))
  obtain ⟨ge9,rfl,_⟩:=h9
  go_wp2
  exact bodyPost_ret (v:=.tuple #[.slice none 0 0,.iface 167 (.pointer (some ⟨ge9,0,none⟩))]) (by simp [results,Tryz.results205,go_sem]) rfl HR9.out
 have dm:decide (1099511627776≤atV ap rg)=false:=by simpa using hmx
 have hw1:IntKind.i64.wrap (atV ap rg + 1)=atV ap rg + 1:=by rw [IntKind.wrap_i64];omega
 go_wp2_with fail
 clear dm
 clear y1 gl
 refine wp_region_monoJ (fun b=>b=g) [14] (by kernel_rfl) ?_
 iterate 4
  first|refine qJ 0 (v:=?_) ?_ ?_|refine qJ 1 (v:=?_) ?_ ?_|refine qJ 2 (v:=?_) ?_ ?_|refine qJ 3 (v:=?_) ?_ ?_
  rotate_left
  ·(intro W hSw;((first|(have hgW:=HF1.out.blk.drew.keeps (X:=nobody) hSw (fun h=>h);have a0:W.cell? ⟨g,0,none⟩=some (.int .i64 rg):=hgW.cell 0;have a1:W.cell? ⟨g,1,none⟩=some (.slice A1 ap.length c1):=hgW.cell 1;have al:=hgW.lt)|skip));go_simp <;> rfl)
  try simp only [qPA]
  (try rw [hw1])
 refine wpMonoJ_read' 4 [11,12,13,14] (v:=?_) rfl (by kernel_rfl) (by kernel_rfl) (by kernel_rfl) (by rfl) (by kernel_rfl) (by rfl) (fun _ _ _ h=>h) (by rfl) ?_ ?_
 rotate_left
 ·(intro W hSw;((first|(have hgW:=HF1.out.blk.drew.keeps (X:=nobody) hSw (fun h=>h);have a0:W.cell? ⟨g,0,none⟩=some (.int .i64 rg):=hgW.cell 0;have a1:W.cell? ⟨g,1,none⟩=some (.slice A1 ap.length c1):=hgW.cell 1;have al:=hgW.lt)|skip));go_simp <;> rfl)
 try simp only [qPA]
 (try rw [hw1])
 iterate 3
  first|refine qJ 5 (v:=?_) ?_ ?_|refine qJ 6 (v:=?_) ?_ ?_|refine qJ 7 (v:=?_) ?_ ?_
  rotate_left
  ·(intro W hSw;((first|(have hgW:=HF1.out.blk.drew.keeps (X:=nobody) hSw (fun h=>h);have a0:W.cell? ⟨g,0,none⟩=some (.int .i64 rg):=hgW.cell 0;have a1:W.cell? ⟨g,1,none⟩=some (.slice A1 ap.length c1):=hgW.cell 1;have al:=hgW.lt)|skip));go_simp <;> rfl)
  try simp only [qPA]
  (try rw [hw1])
 refine wpMonoJ_read' 8 [11,12,13,14] (v:=?_) rfl (by kernel_rfl) (by kernel_rfl) (by kernel_rfl) (by rfl) (by kernel_rfl) (by rfl) (fun _ _ _ h=>h) (by rfl) ?_ ?_
 rotate_left
 ·(intro W hSw;((first|(have hgW:=HF1.out.blk.drew.keeps (X:=nobody) hSw (fun h=>h);have a0:W.cell? ⟨g,0,none⟩=some (.int .i64 rg):=hgW.cell 0;have a1:W.cell? ⟨g,1,none⟩=some (.slice A1 ap.length c1):=hgW.cell 1;have al:=hgW.lt)|skip));go_simp <;> rfl)
 try simp only [qPA]
 (try rw [hw1])
 iterate 2
  first|refine qJ 9 (v:=?_) ?_ ?_|refine qJ 10 (v:=?_) ?_ ?_
  rotate_left
  ·(intro W hSw;((first|(have hgW:=HF1.out.blk.drew.keeps (X:=nobody) hSw (fun h=>h);have a0:W.cell? ⟨g,0,none⟩=some (.int .i64 rg):=hgW.cell 0;have a1:W.cell? ⟨g,1,none⟩=some (.slice A1 ap.length c1):=hgW.cell 1;have al:=hgW.lt)|skip));go_simp <;> rfl)
  try simp only [qPA]
  (try rw [hw1])
 refine wpMonoJ_one' 11 (by kernel_rfl) rfl (by rfl) (fun K hK=>?_)
 go_simp
 refine (with_any A1 ap.length c1 ap rg (atV ap rg + 1) w1.drew (show Vec w1.drew w1.drew.heap.size A1 ap.length c1 ap from HA1.out.below ((Below.refl _ w1).drew)) (by omega)).mono ?_
 rintro e w12 ⟨va',rfl,hown,hb12⟩
 obtain ⟨A5,c5,rfl⟩:=ownsRow_slice hown
 have hbw12:=below_ofDrew hb12
 have hg12:=HF1.out.blk.below hbw12 HF1.out.blk.lt
 have e1:w12.cell? ⟨g,1,none⟩=some (.slice A1 ap.length c1):=hg12.cell 1
 have ef:=hg12.frozen 1
 have el:=hg12.lt
 have HOWN:=Lib.hid hown
 have HBW12:=Lib.hid hbw12
 clear hown hbw12 hg12
 refine hK.out _ _ ?_ ?_
 ·exact .of_below hb12
 clear hK K
 try simp only [qPA]
 (try rw [hw1])
 iterate 2
  first|refine qJ 12 (v:=?_) ?_ ?_|refine qJ 13 (v:=?_) ?_ ?_
  rotate_left
  ·(intro W hSw;((first|(have hgW:=HF1.out.blk.drew.keeps (X:=nobody) hSw (fun h=>h);have a0:W.cell? ⟨g,0,none⟩=some (.int .i64 rg):=hgW.cell 0;have a1:W.cell? ⟨g,1,none⟩=some (.slice A1 ap.length c1):=hgW.cell 1;have al:=hgW.lt)|skip));go_simp <;> rfl)
  try simp only [qPA]
  (try rw [hw1])
 refine wpMonoJ_one' 14 (by kernel_rfl) rfl (by rfl) (fun K hK=>?_)
 go_simp
 refine hK.out _ _ ?_ ?_
 ·exact moved (Keeps.set1 w12 g 1 _) (by decide)
 clear hK K
 try simp only [Act.put]
 refine wpMonoJ_done (by kernel_rfl) ?_ _
 have hwl:(withL ap rg (atV ap rg + 1)).length≤16:=with_len ha16
 have HF12:=Lib.hid (HF1.out.putA (S':=fun i=>(S i ∨ w.heap.size≤i)∧i < w12.heap.size) (ap':=withL ap rg (atV ap rg + 1)) (va':=.slice A5 (withL ap rg (atV ap rg + 1)).length c5) HBW12.out HOWN.out hwl
  (fun i hi=>⟨.inl hi,Nat.lt_of_lt_of_le (HF1.out.small i hi) HBW12.out.size⟩) (fun i hi=>hi.2) (fun i hi=>⟨.inr (Nat.le_trans HB1.out.size (HOWN.out.lt i hi).1),(HOWN.out.lt i hi).2⟩))
 have HKW:=Lib.hid (show Keeps S w (w12.setCell ⟨g,1,none⟩ (.slice A5 (withL ap rg (atV ap rg + 1)).length c5)) from (Keeps.of_below (below_step HB1.out HBW12.out)).trans ((Keeps.set1 w12 g 1 _).more fun i _ e=>by rw [show i=g from e];exact HF1.out.inG))
 have HKM:=Lib.hid (show Keeps (fun i=>i=g ∨ vw.ownBlock=some i) w (w12.setCell ⟨g,1,none⟩ (.slice A5 (withL ap rg (atV ap rg + 1)).length c5)) from (Keeps.of_below (below_step HB1.out HBW12.out)).trans ((Keeps.set1 w12 g 1 _).more fun i _ e=>.inl e))
 generalize w12.setCell ⟨g,1,none⟩ (.slice A5 (withL ap rg (atV ap rg + 1)).length c5)=w13 at *
 clear e1 ef el
 go_wp2_with fail
 refine (drain_any g rg _ _ ws _ _ w13 HF12.out).mono ?_
 rintro e w14 ⟨vo,a,l,out,S3,rfl,hdr,hno,hdm⟩
 have HRR:=Lib.hid (show OwnR vw S g rg ap ws dz w (.returned (.tuple #[vo,.nilIface])) w14 from .inr (.inr ⟨hcv,hmx,vo,a,l,out,S3,rfl,hdr.from HKW.out (fun i hi=>hi.1),hno,hdm.from HKM.out (fun i h=>.inl h)⟩))
 obtain ⟨A14,c14,rfl⟩:=ownsRow_slice hdr.2.2.1
 clear hdr hno hdm
 go_wp2
 exact bodyPost_ret (v:=.tuple #[.slice A14 out.length c14,.nilIface]) (by simp [results,Tryz.results205,go_sem]) rfl HRR.out
theorem applied_any (g:Nat) (rg:Int) (S:Nat→Prop) (ap:List Int) (ws:List Wr) (va vw:Value) (w:World) (h:InF w S g rg ap ws va vw) :
  Calls Tryz.prog 57 #[.pointer (some ⟨g,0,none⟩)] w (OwnL w (trimL ap)):=by
 obtain ⟨A1,c1,rfl,hva⟩:=h.vec
 have ha16:=h.afew
 have HVA:=Lib.hid hva
 have gl:=h.blk.lt
 have y1:w.cell? ⟨g,1,none⟩=some (.slice A1 ap.length c1):=h.blk.cell 1
 clear h hva
 go_enter Tryz.func57,Tryz.ntmps57
 go_wp2_with fail
 refine (trim_any A1 ap.length c1 ap w HVA.out (by omega)).mono ?_
 rintro e w2 ⟨v,rfl,hown,hb⟩
 go_wp2_with fail
 go_ret
 exact ⟨v,rfl,hown,hb⟩
end Go.Proofs.YtdaphppdmnmicaaGreatDoor.dep
namespace Go.Proofs.YtdaphppdmnmicaaGreatDoor.dep
open Go Go.RowKit base rowe wire vec cmp with_ monoj err
theorem trimN_last (zs:List Int):∀ n,trimN zs n=0 ∨ zs.getD (trimN zs n - 1) 0 ≠ 0
 | 0=>.inl rfl
 | n + 1=>by
  unfold trimN
  split
  ·exact trimN_last zs n
  ·next h=>exact .inr h
theorem trim_trim (zs:List Int):trimL (trimL zs)=trimL zs:=by
 apply trim_self
 have hle:=trimN_le zs zs.length
 have hl:(trimL zs).length=trimN zs zs.length:=by unfold trimL;rw [List.length_take];omega
 have h0:=trimN_last zs zs.length
 unfold trimL at hl ⊢
 rw [List.length_take,hl]
 generalize trimN zs zs.length=k at *
 rcases h0 with rfl|h0
 ·rfl
 ·cases k with
  | zero=>rfl
  | succ k =>
   have e:trimN (zs.take (k + 1)) (k + 1)=k + 1:=by
    unfold trimN
    rw [if_neg]
    rw [List.getD_eq_getElem?_getD,List.getElem?_take,if_pos (by omega)]
    simpa [List.getD_eq_getElem?_getD] using h0
   rw [e,Nat.min_self]
theorem trim_with (zs:List Int) (r n:Int):trimL (withL zs r n)=withL zs r n:=by
 unfold withL
 split <;> exact trim_trim _
theorem atV_with (zs:List Int) (r n q:Int) (h:1≤r∧r≤16):atV (withL zs r n) q=if q=r then n else atV zs q:=by
 split
 ·next e=>rw [e];exact with_at zs r n h
 ·next e =>
  by_cases hq:q < 1
  ·unfold atV;rw [if_pos (.inl hq),if_pos (.inl hq)]
  ·obtain ⟨k,rfl⟩:∃ k:Nat,q=(k:Int) + 1:=⟨(q - 1).toNat,by omega⟩
   obtain ⟨m,rfl⟩:∃ m:Nat,r=(m:Int) + 1:=⟨(r - 1).toNat,by omega⟩
   unfold withL
   rw [if_pos h,atV_getD,trim_getD,atV_getD,show ((m:Int) + 1).toNat - 1=m by omega]
   have hkm:m ≠ k:=fun e2=>e (by rw [e2])
   unfold setL
   rw [List.getD_eq_getElem?_getD,List.getElem?_set_ne hkm,List.getElem?_append]
   split
   ·rw [List.getD_eq_getElem?_getD]
   ·next hj=>rw [List.getD_eq_getElem?_getD,List.getElem?_eq_none (by omega:zs.length≤k),List.getElem?_replicate];split <;> rfl
theorem cmpW_lt {x y:Wr}:cmpW x y < 0 ↔ x.r < y.r ∨ (x.r=y.r∧x.n < y.n):=by
 unfold cmpW or2 cmpI
 repeat' split
 all_goals omega
theorem cmpW_eq {x y:Wr}:cmpW x y=0 ↔ x.r=y.r∧x.n=y.n:=by
 unfold cmpW or2 cmpI
 repeat' split
 all_goals omega
theorem cmpW_trans {x y z:Wr} (h1:cmpW x y < 0) (h2:cmpW y z < 0):cmpW x z < 0:=by
 rw [cmpW_lt] at *
 omega
def Sorted (L:List Wr):Prop:=L.Pairwise fun a b=>cmpW a b < 0
theorem getD_mem {L:List Wr} {k:Nat} (h:k < L.length):L.getD k wrZ ∈ L:=by
 rw [List.getD_eq_getElem?_getD,List.getElem?_eq_getElem h]
 exact List.getElem_mem h
end Go.Proofs.YtdaphppdmnmicaaGreatDoor.dep
namespace Go.Proofs.YtdaphppdmnmicaaGreatDoor.regn
open Go Go.RowKit base err lease fold monoj rowe
section
variable {w:World} {r:Nat} {x:Rg}
theorem others_one (F:Value) (h:RegB w r x) (h1:x.id=1) (h2:x.n=1):Calls Tryz.prog 55 #[.pointer (some ⟨r,0,none⟩),F] w fun e w'=>e=.returned (.slice none 0 0)∧w'=w:=by
 have c0:=h.c0
 have c1:=h.c1
 have hlt:=h.lt
 rw [h1] at c0
 rw [h2] at c1
 clear h h1 h2
 go_enter Tryz.func55,Tryz.ntmps55
 go_wp2_with fail
 go_loopw [5,6] (fun o i wr=>o=.slice none 0 0∧(i=.int .i64 1 ∨ i=.int .i64 2)∧wr=w) (fun _ i _=>2 - (intOf i).toNat)
 case atStart=>exact ⟨rfl,.inl rfl,rfl⟩
 case round =>
  obtain ⟨rfl,hi,rfl⟩:=hrel
  rcases hi with rfl|rfl
  ·go_wp2_with fail
   go_roundw
   case rel=>exact ⟨rfl,.inr rfl,trivial⟩
   case measure=>simp [intOf]
  ·go_wp2_with fail
   go_ret
   exact ⟨rfl,rfl⟩
theorem push_one (A:Option Addr) (n c:Nat) (h:RegB w r x) (h1:x.id=1) (h2:x.n=1):Calls Tryz.prog 113 #[.pointer (some ⟨r,0,none⟩),.slice A n c] w fun e w'=>e=.returned (.slice none 0 0)∧Below w.heap.size w w':=by
 have hlt:=h.lt
 have HB:=Lib.hid (below_new w (.cells #[.slice A n c] 25))
 have HR:=Lib.hid (show RegB (w.alloc (.cells #[.slice A n c] 25)) r x from Blk.alloc h _)
 clear h
 go_enter Tryz.func113,Tryz.ntmps113
 go_wp2_with fail
 refine (others_one _ HR.out h1 h2).mono ?_
 rintro e w1 ⟨rfl,rfl⟩
 go_wp2_with fail
 go_ret
 exact ⟨rfl,HB.out⟩
end
end Go.Proofs.YtdaphppdmnmicaaGreatDoor.regn
namespace Go.Proofs.YtdaphppdmnmicaaGreatDoor.regn
open Go Go.RowKit base err lease fold disk diskp jrnp
theorem two_w (n:Nat) (hn:n≤1048576) (w:World):Calls Tryz.prog 6 #[.int .i64 n] w fun e w'=>∃ a b,e=.returned (.tuple #[.pointer (some ⟨a,0,none⟩),.pointer (some ⟨b,0,none⟩)])∧DiskS w' (· = a) a (newD n)∧DiskS w' (· = b) b (newD n)∧w.heap.size≤a∧a < b∧b < w'.heap.size∧Below w.heap.size w w':=by
 go_enter Tryz.func6,Tryz.ntmps6
 go_wp2_with fail
 refine (disk.new_any n hn w).mono ?_
 rintro e w1 ⟨rfl,hd1,hb1⟩
 have HD1:=Lib.hid hd1
 have HB1:=Lib.hid hb1
 have hs1:w.heap.size < w1.heap.size:=by obtain ⟨v,hv⟩:=hd1;exact hv.small _ rfl
 clear hd1 hb1
 go_wp2_with fail
 refine (disk.new_any n hn w1).mono ?_
 rintro e w2 ⟨rfl,hd2,hb2⟩
 have HD2:=Lib.hid hd2
 have HDa:=Lib.hid (HD1.out.below hb2)
 have HB2:=Lib.hid (HB1.out.trans (hb2.mono HB1.out.size))
 have hs2:w1.heap.size < w2.heap.size:=by obtain ⟨v,hv⟩:=hd2;exact hv.small _ rfl
 clear hd2 hb2
 go_wp2_with fail
 go_ret2
 exact ⟨_,_,rfl,HDa.out,HD2.out,Nat.le_refl _,hs1,hs2,HB2.out⟩
theorem well_new (n:Nat):Well (newD n) []:=⟨rfl,rfl,by show (-1:Int) < 0;omega,rfl,by simp,by show 0≤_;omega⟩
theorem start_len:(dev (startL 1 [])).length≤363:=by
 have h:=fun k (h1:1≤k) (h4:k≤4) pl (hp:pl≤1099511627776)=>seal_le (Part.mk k 1 pl []) ⟨h1,h4,by show 1≤1;omega,by show 1≤_;omega,hp,by show 0≤4096;omega,.inr rfl⟩ 0 (by show 0≤0;omega)
 have h1:=h 1 (by omega) (by omega) 0 (by omega)
 have h3:=h 3 (by omega) (by omega) 0 (by omega)
 have e:startL 1 []=[Part.mk 1 1 0 [],Part.mk 3 1 0 [],Part.mk 4 1 (dev [Part.mk 1 1 0 [],Part.mk 3 1 0 []]).length []]:=rfl
 have e2:(dev [Part.mk 1 1 0 [],Part.mk 3 1 0 []]).length≤242:=by simp only [dev,List.flatMap_cons,List.flatMap_nil,List.length_append,List.length_nil];omega
 have h4:=h 4 (by omega) (by omega) (dev [Part.mk 1 1 0 [],Part.mk 3 1 0 []]).length (by omega)
 rw [e]
 generalize (dev [Part.mk 1 1 0 [],Part.mk 3 1 0 []]).length=q at *
 simp only [dev,List.flatMap_cons,List.flatMap_nil,List.length_append,List.length_nil]
 omega
def freshD (db:Dk):Dk:={ db with b:=dev (startL 1 []),safe:=(dev (startL 1 [])).length }
def newX (id n:Nat) (m:ByteArray) (da db:Dk):RX:=⟨id,n,m,0,[],[],[],0,[],List.replicate n 0,[],0,fun _=>0,fun _=>0,0,1,freshD db,da⟩
theorem well_fresh {db:Dk} (h:Well db []):Well (freshD db) (startL 1 []):=by
 have hl:=start_len
 refine ⟨rfl,rfl,h.fuse,h.down,?_,by show (dev (startL 1 [])).length≤_;omega⟩
 have e:startL 1 []=[Part.mk 1 1 0 [],Part.mk 3 1 0 [],Part.mk 4 1 (dev [Part.mk 1 1 0 [],Part.mk 3 1 0 []]).length []]:=rfl
 have e2:(dev [Part.mk 1 1 0 [],Part.mk 3 1 0 []]).length≤363:=by rw [e] at hl;unfold dev at hl ⊢;simp only [List.flatMap_cons,List.flatMap_nil,List.length_append,List.length_nil] at hl ⊢;omega
 rw [e]
 intro p hp
 simp only [List.mem_cons,List.not_mem_nil,or_false] at hp
 rcases hp with rfl|rfl|rfl
 ·exact ⟨by show 1≤1;omega,by show 1≤4;omega,by show 1≤1;omega,by show 1≤_;omega,by show 0≤_;omega,by show 0≤4096;omega,.inr rfl⟩
 ·exact ⟨by show 1≤3;omega,by show 3≤4;omega,by show 1≤1;omega,by show 1≤_;omega,by show 0≤_;omega,by show 0≤4096;omega,.inr rfl⟩
 ·exact ⟨by show 1≤4;omega,by show 4≤4;omega,by show 1≤1;omega,by show 1≤_;omega,by show (dev _).length≤_;omega,by show 0≤4096;omega,.inr rfl⟩
theorem OpenR.regI {Sa Sb : Nat → Prop} {a b : Nat} {da db : Dk} {id n : Nat} {m : ByteArray} {w w' : World} {e : Ending} (h : OpenR Sb a b db id n m w e w') (hda : DiskS w Sa a da) (hab : ∀ i, Sa i → ¬ Sb i) (hsb : ∀ i, Sb i → i < w.heap.size) :
    ∃ p own, e = .returned (.tuple #[.pointer (some ⟨p.r, 0, none⟩), .nilIface]) ∧ RegI w' own p (newX id n m da db) ∧ p.gn = b ∧ p.gs = a ∧ (∀ i, own i = 5 ↔ Sa i) ∧ (∀ i, own i ≠ 0 → Sa i ∨ Sb i ∨ w.heap.size ≤ i) ∧ (∀ i, Sb i → own i = 4) ∧ Keeps Sb w w' := by
  obtain ⟨r, jn, gl, gc, gi, gf, gr, gs, bs, gt, bt, va, Sj, Si, Sq, he, h1, h2, h3, h4, h5, h6, h7, h8, h9, h10, h11, h12, hk, f, a1, a2, o1, o2, o3, o4, o5, o6, o7, o8, o9, o10, o11, o12, o13, o14, o15, o16⟩ := h
  have hsa : ∀ i, Sa i → i < w.heap.size := by obtain ⟨v, hv⟩ := hda; exact hv.small
  have hda' : DiskS w' Sa a da := hda.keeps hk (fun i hi hx => hab i hi hx)
  have ngt : gt ≠ bt := fun e => by
    subst e
    obtain ⟨es, clock, hb', _⟩ := h12.2.1
    have := h12.1
    unfold Blk at this
    rw [hb'] at this
    cases this
  have ngs : gs ≠ bs := h11.ne
  have si0 := o15 gi h8.inG
  have sq0 := o16 gf (by obtain ⟨_, _, _, _, _, h9⟩ := h9; exact h9.inG)
  have fj : ∀ i, Sj i → i < f ∧ i ≠ jn ∧ (i < w.heap.size ∨ gl < i) := fun i hi => ⟨(o5 i hi).1, fun e => h6 (e ▸ hi), (o5 i hi).2.imp (hsb i) (fun h => h)⟩
  have dja : ∀ i, Sj i → ¬ Sa i := fun i hi ha => by
    rcases (o5 i hi).2 with h | h
    · exact hab i ha h
    · have := hsa i ha; omega
  have hp : ([(1, (· = r)), (2, (· = gl)), (3, (· = jn)), (4, Sj), (5, Sa), (6, (· = gc)), (7, Si), (8, (· = gs)), (9, (· = bs)), (10, Sq), (11, (· = gt)), (12, (· = bt)), (13, (· = gr))] : List (Nat × (Nat → Prop))).Pairwise (fun a b => a.1 ≠ b.1 ∧ ∀ i, a.2 i → ¬ b.2 i) := by
    simp only [List.pairwise_cons, List.forall_mem_cons]
    repeat' apply And.intro
    all_goals first
      | exact List.Pairwise.nil
      | (intro q hq; cases hq; done)
      | (show (_ : Nat) ≠ _; decide)
      | (intro i e1 e2
         try dsimp only at e1 e2
         first
         | omega
         | (have z := fj i e1; omega) | (have z := fj i e2; omega)
         | (have z := hsa i e1; omega) | (have z := hsa i e2; omega)
         | (have z := o15 i e1; omega) | (have z := o15 i e2; omega)
         | (have z := o16 i e1; omega) | (have z := o16 i e2; omega)
         | (exact dja i e1 e2)
         | (have z := fj i e1; have z2 := o15 i e2; omega) | (have z := fj i e1; have z2 := o16 i e2; omega)
         | (have z := hsa i e1; have z2 := o15 i e2; omega) | (have z := hsa i e1; have z2 := o16 i e2; omega)
         | (have z := o15 i e1; have z2 := o16 i e2; omega))
  generalize hl : ([(1, (· = r)), (2, (· = gl)), (3, (· = jn)), (4, Sj), (5, Sa), (6, (· = gc)), (7, Si), (8, (· = gs)), (9, (· = bs)), (10, Sq), (11, (· = gt)), (12, (· = bt)), (13, (· = gr))] : List (Nat × (Nat → Prop))) = l at hp
  have h0 : ∀ q ∈ l, q.1 ≠ 0 := by
    rw [← hl]
    simp only [List.forall_mem_cons]
    repeat' apply And.intro
    all_goals first | (intro q hq; cases hq; done) | (show (_ : Nat) ≠ _; decide)
  have at_ : ∀ {t : Nat} {S : Nat → Prop} (i : Nat), (t, S) ∈ l → (ownOf l i = t ↔ S i) := fun i hq => ownOf_at hp h0 hq
  have mem : ∀ q : Nat × (Nat → Prop), q ∈ ([(1, (· = r)), (2, (· = gl)), (3, (· = jn)), (4, Sj), (5, Sa), (6, (· = gc)), (7, Si), (8, (· = gs)), (9, (· = bs)), (10, Sq), (11, (· = gt)), (12, (· = bt)), (13, (· = gr))] : List (Nat × (Nat → Prop))) → q ∈ l := fun q hq => hl ▸ hq
  have m1 := at_ r (mem (1, (· = r)) (by simp))
  have m2 := at_ gl (mem (2, (· = gl)) (by simp))
  have m3 := at_ jn (mem (3, (· = jn)) (by simp))
  have m4 := fun i => at_ i (mem (4, Sj) (by simp))
  have m5 := fun i => at_ i (mem (5, Sa) (by simp))
  have m6 := at_ gc (mem (6, (· = gc)) (by simp))
  have m7 := fun i => at_ i (mem (7, Si) (by simp))
  have m8 := at_ gs (mem (8, (· = gs)) (by simp))
  have m9 := at_ bs (mem (9, (· = bs)) (by simp))
  have m10 := fun i => at_ i (mem (10, Sq) (by simp))
  have m11 := at_ gt (mem (11, (· = gt)) (by simp))
  have m12 := at_ bt (mem (12, (· = bt)) (by simp))
  have m13 := at_ gr (mem (13, (· = gr)) (by simp))
  have e4 : (fun i => ownOf l i = 4) = Sj := setOf_eq m4
  have e5 : (fun i => ownOf l i = 5) = Sa := setOf_eq m5
  have e7 : (fun i => ownOf l i = 7) = Si := setOf_eq m7
  have e10 : (fun i => ownOf l i = 10) = Sq := setOf_eq m10
  have hsz := hk.size
  have hdj : ∀ i, Sj i → i < w'.heap.size := by obtain ⟨v, hv⟩ := h5; exact hv.small
  have hall : ∀ i, ownOf l i ≠ 0 → i < w'.heap.size ∧ (Sa i ∨ Sb i ∨ w.heap.size ≤ i) := fun i hi => by
    obtain ⟨q, hq, h⟩ := ownOf_mem hi
    rw [← hl] at hq
    simp only [List.mem_cons, List.not_mem_nil, or_false] at hq
    have k1 := h1.lt; have k2 := h2.lt; have k3 := h3.lt; have k6 := h7.lt; have k8 := h11.lt; have k9 := h11.ltm; have k11 := h12.1.lt; have k12 := h12.2.lt; have k13 := h10.lt
    rcases hq with rfl | rfl | rfl | rfl | rfl | rfl | rfl | rfl | rfl | rfl | rfl | rfl | rfl <;> dsimp only at h
    · omega
    · omega
    · omega
    · exact ⟨hdj i h, (h4.2 i h).elim (fun h => .inr (.inl h)) (fun h => .inr (.inr h))⟩
    · exact ⟨by have := hsa i h; omega, .inl h⟩
    · omega
    · exact ⟨h8.small i h, by have := o15 i h; omega⟩
    · omega
    · omega
    · exact ⟨by obtain ⟨_, _, _, _, _, h9⟩ := h9; exact h9.small i h, by have := o16 i h; omega⟩
    · omega
    · omega
    · omega
  refine ⟨⟨r, jn, b, a, gc, gi, gf, gr, gl, gs, bs, gt, bt, va, .slice none 0 0, .map (some (w.heap.size + 1))⟩, ownOf l, he, ⟨h1, h2, h3, by rw [e4]; exact h5, by rw [e5]; exact hda', h7, by rw [e7]; exact h8, h11, by rw [e10]; exact h9, h12, h10, m1.2 rfl, m2.2 rfl, m3.2 rfl, m6.2 rfl, m8.2 rfl, m9.2 rfl, m11.2 rfl, m12.2 rfl, m13.2 rfl, fun i hi => (hall i hi).1⟩, rfl, rfl, m5, fun i hi => (hall i hi).2, fun i hi => (m4 i).2 (h4.1 i hi), hk⟩
end Go.Proofs.YtdaphppdmnmicaaGreatDoor.regn
namespace Go.Proofs.YtdaphppdmnmicaaGreatDoor.regn
open Go Go.RowKit base map_ err cmp above merge rows Go.Maps regn err store
section
variable {w:World} {r:Nat} {x:Rg}
def GetQ (v:ByteArray) (w:World) (e:Ending) (w':World):Prop:=e=.returned (.tuple #[.string v,.nilIface])∧Below w.heap.size w w'
theorem get_q {gs bs:Nat} {L:List R} (s k:ByteArray) (h:RegB w r x) (hd:x.down=false) (hp:x.st=.pointer (some ⟨gs,0,none⟩)) (hs:StI w gs bs L) (h1:s.size≤maxLen) (h2:k.size≤maxLen) (hk:getC k (atL L (s,⟨#[]⟩)) (atL L (s,k))=0) :
  Calls Tryz.prog 15 #[.pointer (some ⟨r,0,none⟩),.string s,.string k] w (GetQ (atL L (s,k)).v w):=by
 have c6:=h.c6
 have hlt:=h.lt
 have HR:=Lib.hid h
 have HD:=Lib.hid (down_any h)
 have HG:=Lib.hid (get_any gs bs L s k w hs h1 h2 _ _ rfl rfl)
 unfold GetR at HG
 rw [hk] at HG
 rw [hp] at c6
 rw [hd] at HD
 generalize atL L (s,k)=cd at *
 clear h hd hp hs h1 h2 hk
 go_enter Tryz.func15,Tryz.ntmps15
 go_wp2_with fail
 refine HD.out.mono ?_
 rintro e w1 ⟨rfl,hw⟩
 subst hw
 go_wp2_with fail
 refine HG.out.mono ?_
 rintro e w2 ⟨er,rfl,h2,hb2⟩
 rcases h2 with ⟨_,rfl⟩|⟨h0,_⟩
 rotate_left
 ·exact absurd rfl h0
 rw [if_pos rfl]
 have HB2:=Lib.hid hb2
 have HR2:=Lib.hid (show RegB w2 r x from Blk.below HR.out hb2 hlt)
 clear hb2
 go_wp2_with fail
 refine (rat_nil HR2.out).mono ?_
 rintro e w3 ⟨rfl,hw⟩
 subst hw
 go_wp2_with fail
 go_ret2
 exact ⟨rfl,HB2.out⟩
end
end Go.Proofs.YtdaphppdmnmicaaGreatDoor.regn
