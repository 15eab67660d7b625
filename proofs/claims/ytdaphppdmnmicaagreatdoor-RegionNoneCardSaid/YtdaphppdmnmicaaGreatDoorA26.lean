/- A part of the proof of RegionNone: RefO, RefP, RefOp. -/
import Derived.Test.YtdaphppdmnmicaaGreatDoorA15
import Derived.Test.YtdaphppdmnmicaaGreatDoorA01
import Derived.Deep.OwnRows
namespace Go.Proofs.YtdaphppdmnmicaaGreatDoor.regn
open Go Go.RowKit Go.Lib base rowe rowc wireb appb
theorem open9_r (w:World):Calls Tryz.prog 256 #[.string ⟨#[]⟩,.int .i64 0] w fun e w'=>e=.returned (.tuple #[.string ⟨#[]⟩,.int .i64 0,.bool false])∧w'=w:=by
 go_enter Tryz.func256,Tryz.ntmps256
 go_wp2_with fail
 exact bodyPost_ret (v:=.tuple #[.string ⟨#[]⟩,.int .i64 0,.bool false]) (by simp [results,Tryz.results256,go_sem]) rfl ⟨rfl,rfl⟩
theorem whole_r (A:Option Addr) (c:Nat) (w:World):Calls Tryz.prog 98 #[.slice A 0 c] w fun e w'=>e=.returned (.bool false)∧w'=w:=by
 go_enter Tryz.func98,Tryz.ntmps98
 go_wp2_with fail
 go_loopw [3,4] (fun s i wr=>s=.int .i64 0∧i=.int .i64 0∧wr=w) (fun _ _ _=>0)
 case atStart=>exact ⟨rfl,rfl,rfl⟩
 case round =>
  obtain ⟨rfl,rfl,rfl⟩:=hrel
  go_wp2_with fail
  go_ret
  exact ⟨rfl,rfl⟩
section
variable {P:Program}
theorem results_cell2 {fn:Func} {p u:Tmp} {ty:TypeId} (h:fn.results=#[.cell p ty,.tmp u]) (tmps:Array Value) (w:World) (g:Nat) (t:TypeId) (cs:Array Value) (d:TypeDesc) (x:Value)
  (hp:tmps.getD p undef=.pointer (some ⟨g,0,none⟩)) (hx:tmps.getD u undef=x) (hg:Blk w g t cs)
  (hu:P.underlying ty=some d) (hd:(match d with|.struct _|.array _ _=>true|_=>false)=true) (hi:(P.info? ty).map (·.size)=some cs.size) :
  (results fn tmps).run P w=.ok (.tuple #[.agg cs,x]) w:=by
 have hp':tmps[p]?.getD undef=.pointer (some ⟨g,0,none⟩):=by simpa using hp
 have hx':tmps[u]?.getD undef=x:=by simpa using hx
 simp [results,h,hp',hx',asAddr,run_loadVar_row w g t ty cs (0,0) d hg hu hd hi]
theorem results_cell3 {fn:Func} {p u v:Tmp} {ty:TypeId} (h:fn.results=#[.cell p ty,.tmp u,.tmp v]) (tmps:Array Value) (w:World) (g:Nat) (t:TypeId) (cs:Array Value) (d:TypeDesc) (x y:Value)
  (hp:tmps.getD p undef=.pointer (some ⟨g,0,none⟩)) (hx:tmps.getD u undef=x) (hy:tmps.getD v undef=y) (hg:Blk w g t cs)
  (hu:P.underlying ty=some d) (hd:(match d with|.struct _|.array _ _=>true|_=>false)=true) (hi:(P.info? ty).map (·.size)=some cs.size) :
  (results fn tmps).run P w=.ok (.tuple #[.agg cs,x,y]) w:=by
 have hp':tmps[p]?.getD undef=.pointer (some ⟨g,0,none⟩):=by simpa using hp
 have hx':tmps[u]?.getD undef=x:=by simpa using hx
 have hy':tmps[v]?.getD undef=y:=by simpa using hy
 simp [results,h,hp',hx',hy',asAddr,run_loadVar_row w g t ty cs (0,0) d hg hu hd hi]
end
theorem at10_r (w:World):Calls Tryz.prog 177 #[.string ⟨#[]⟩,.int .i64 0] w fun e w'=>e=.returned (.tuple #[.agg #[.int .i64 0,.int .i64 0,.int .i64 0,.string ⟨#[]⟩],.int .i64 0,.bool false])∧Below w.heap.size w w':=by
 have HB:=Lib.hid (below_new w (.cells #[.int .i64 0,.int .i64 0,.int .i64 0,.string ⟨#[]⟩] 227))
 go_enter Tryz.func177,Tryz.ntmps177
 go_wp2_with fail
 refine (open9_r _).mono ?_
 rintro e w1 ⟨rfl,hw⟩
 subst hw
 go_wp2_with fail
 refine bodyPost_ret (v:=.tuple #[.agg #[.int .i64 0,.int .i64 0,.int .i64 0,.string ⟨#[]⟩],.int .i64 0,.bool false]) (results_cell3 (P:=Tryz.prog) rfl _ _ w.heap.size 227 #[.int .i64 0,.int .i64 0,.int .i64 0,.string ⟨#[]⟩] _ _ _ rfl rfl rfl (Blk.new w _ _) Tryz.underlying227 rfl (by kernel_rfl)) rfl ⟨rfl,HB.out⟩
def LookR (w:World) (e:Ending) (w':World):Prop:=∃ A c,e=.returned (.tuple #[.slice A 0 c,.int .i64 0,.bool false])∧Below w.heap.size w w'
set_option maxRecDepth 10000 in
theorem look_r (w:World):Calls Tryz.prog 96 #[.string ⟨#[]⟩] w (LookR w):=by
 have HB:=Lib.hid (below_new w (.cells #[] 227))
 go_enter Tryz.func96,Tryz.ntmps96
 go_wp2_with fail
 generalize w.alloc (.cells #[] 227)=w0 at *
 go_loopw [5,6,7,8,9] (fun l i _ _ _ wr=>l=.slice (some ⟨w.heap.size,0,none⟩) 0 0∧i=.int .i64 0∧wr=w0) (fun _ _ _ _ _ _=>0)
 case atStart=>exact ⟨rfl,rfl,rfl⟩
 case round =>
  obtain ⟨rfl,rfl,rfl⟩:=hrel
  go_wp2_with fail
  refine (at10_r _).mono ?_
  rintro e w1 ⟨rfl,hb1⟩
  have HB1:=Lib.hid ((HB.out.trans (hb1.mono HB.out.size)).trans ((below_new w1 (.cells #[.int .i64 0,.int .i64 0,.int .i64 0,.string ⟨#[]⟩] 227)).mono (Nat.le_trans HB.out.size hb1.size)))
  clear hb1
  go_wp2_with fail
  generalize w1.alloc (.cells #[.int .i64 0,.int .i64 0,.int .i64 0,.string ⟨#[]⟩] 227)=w2 at *
  go_loopw [10,11,12,13] (fun i _ _ _ wr=>i=.int .i64 1∧wr=w2) (fun _ _ _ _ _=>0)
  case atStart=>exact ⟨rfl,rfl⟩
  case round =>
   obtain ⟨rfl,rfl⟩:=hrel
   go_wp2_with fail
   exact bodyPost_ret (v:=.tuple #[.slice (some ⟨w.heap.size,0,none⟩) 0 0,.int .i64 0,.bool false]) (by simp [results,Tryz.results96,go_sem]) rfl ⟨_,_,rfl,HB1.out⟩
def Open10R (b:Nat) (w:World) (e:Ending) (w':World):Prop:=∃ g,e=.returned (.tuple #[.pointer (some ⟨g,0,none⟩),.slice none 0 0,.int .i64 0])∧Keeps (· = b) w w'
set_option maxRecDepth 10000 in
theorem open10_r (a b:Nat) (w:World) (ha:RD w a ⟨#[]⟩ ⟨#[]⟩ 1000) (hb:RD w b ⟨#[]⟩ ⟨#[]⟩ 1000):Calls Tryz.prog 37 #[.pointer (some ⟨a,0,none⟩),.pointer (some ⟨b,0,none⟩)] w (Open10R b w):=by
 have HA:=Lib.hid ha
 have HB:=Lib.hid hb
 have q4:w.cell? ⟨a,4,none⟩=some (.bool false):=ha.cell 4
 have p4:w.cell? ⟨b,4,none⟩=some (.bool false):=hb.cell 4
 have hal:=ha.lt
 have hbl:=hb.lt
 clear ha hb
 go_enter Tryz.func37,Tryz.ntmps37
 go_wp2_with fail
 refine (all_r w HA.out (by rw [no_size];omega)).mono ?_
 rintro e w1 ⟨rfl,hb1⟩
 have HA1:=Lib.hid (Blk.below HA.out hb1 hal)
 have HB1:=Lib.hid (Blk.below HB.out hb1 hbl)
 have HW1:=Lib.hid hb1
 have hs1:=hb1.size
 rw [show (⟨#[]⟩:ByteArray) ++ ⟨#[]⟩=⟨#[]⟩ from rfl]
 clear hb1 HA HB q4 p4
 go_wp2_with fail
 refine (look_r w1).mono ?_
 rintro e w2 ⟨A2,c2,rfl,hb2⟩
 have HA2:=Lib.hid (Blk.below HA1.out hb2 HA1.out.lt)
 have HB2:=Lib.hid (Blk.below HB1.out hb2 HB1.out.lt)
 have HW2:=Lib.hid (HW1.out.trans (hb2.mono hs1))
 have hs2:=HW2.out.size
 clear hb2 HA1 HB1 HW1
 go_wp2_with fail
 refine (all_r w2 HB2.out (by rw [no_size];omega)).mono ?_
 rintro e w3 ⟨rfl,hb3⟩
 have HA3:=Lib.hid (Blk.below HA2.out hb3 HA2.out.lt)
 have HB3:=Lib.hid (Blk.below HB2.out hb3 HB2.out.lt)
 have HW3:=Lib.hid (HW2.out.trans (hb3.mono hs2))
 have hs3:=HW3.out.size
 rw [show (⟨#[]⟩:ByteArray) ++ ⟨#[]⟩=⟨#[]⟩ from rfl]
 clear hb3 HA2 HB2 HW2
 go_wp2_with fail
 refine (look_r w3).mono ?_
 rintro e w4 ⟨A4,c4,rfl,hb4⟩
 have HA4:=Lib.hid (Blk.below HA3.out hb4 HA3.out.lt)
 have HB4:=Lib.hid (Blk.below HB3.out hb4 HB3.out.lt)
 have HW4:=Lib.hid (HW3.out.trans (hb4.mono hs3))
 have hs4:=HW4.out.size
 clear hb4 HA3 HB3 HW3
 go_wp2_with fail
 refine (whole_r A2 c2 w4).mono ?_
 rintro e w5 ⟨rfl,hw⟩
 subst hw
 go_wp2_with fail
 refine (whole_r A4 c4 _).mono ?_
 rintro e w6 ⟨rfl,hw⟩
 subst hw
 have HJ:=Lib.hid (Blk.new w6 224 #[.pointer (some ⟨a,0,none⟩),.pointer (some ⟨b,0,none⟩),.int .i64 0,.int .i64 0,.bool false])
 have HBJ:=Lib.hid (Blk.below HB4.out (below_new w6 (.cells #[.pointer (some ⟨a,0,none⟩),.pointer (some ⟨b,0,none⟩),.int .i64 0,.int .i64 0,.bool false] 224)) HB4.out.lt)
 have hb6:=HB4.out.lt
 have HWJ:=Lib.hid (HW4.out.trans ((below_new w6 (.cells #[.pointer (some ⟨a,0,none⟩),.pointer (some ⟨b,0,none⟩),.int .i64 0,.int .i64 0,.bool false] 224)).mono hs4))
 go_wp2_with fail
 refine (start_r w6.heap.size a b _ HJ.out HBJ.out hb6).mono ?_
 rintro e w7 ⟨rfl,hk7⟩
 have k1:Keeps (fun i=>i=w6.heap.size ∨ i=b) w w7:=(Keeps.of_below (X:=fun i=>i=w6.heap.size ∨ i=b) HWJ.out).trans hk7
 have HR:=Lib.hid (show Keeps (· = b) w w7 from ⟨k1.os,k1.tape,k1.output,k1.size,fun i hi hx=>k1.block i hi (fun e=>by
  rcases e with e|e
  ·omega
  ·exact hx e)⟩)
 clear k1
 clear hk7
 go_wp2_with fail
 exact bodyPost_ret (v:=.tuple #[.pointer (some ⟨w6.heap.size,0,none⟩),.slice none 0 0,.int .i64 0]) (by simp [results,Tryz.results37,go_sem]) rfl ⟨_,rfl,HR.out⟩
end Go.Proofs.YtdaphppdmnmicaaGreatDoor.regn
namespace Go.Proofs.YtdaphppdmnmicaaGreatDoor.regn
open Go Go.RowKit Go.Lib base rowe rowc wireb appb monoj
theorem wrong_r (w:World):Calls Tryz.prog 106 #[.slice none 0 0] w fun e w'=>e=.returned (.int .i64 (-1))∧w'=w:=by
 go_enter Tryz.func106,Tryz.ntmps106
 go_wp2_with fail
 go_loopw [3] (fun i wr=>i=.int .i64 1∧wr=w) (fun _ _=>0)
 case atStart=>exact ⟨rfl,rfl⟩
 case round =>
  obtain ⟨rfl,rfl⟩:=hrel
  go_wp2_with fail
  go_ret
  exact ⟨rfl,rfl⟩
theorem at6_r (r:Int) (w:World):Calls Tryz.prog 109 #[.slice none 0 0,.int .i64 r] w fun e w'=>e=.returned (.int .i64 0)∧w'=w:=by
 go_enter Tryz.func109,Tryz.ntmps109
 go_wp2_with fail
 go_loopw [5] (fun i wr=>i=.int .i64 0∧wr=w) (fun _ _=>0)
 case atStart=>exact ⟨rfl,rfl⟩
 case round =>
  obtain ⟨rfl,rfl⟩:=hrel
  go_wp2_with fail
  go_ret
  exact ⟨rfl,rfl⟩
def TwoR (w:World) (e:Ending) (w':World):Prop:=∃ g,e=.returned (.tuple #[.pointer (some ⟨g,0,none⟩),.bool true])∧Below w.heap.size w w'
set_option maxRecDepth 20000 in
set_option maxHeartbeats 2000000 in
theorem new20_r (a m:Nat) (h1:1≤a) (h2:a≤m) (h3:m≤16) (w:World):Calls Tryz.prog 108 #[.int .i64 a,.int .i64 m,.int .i64 0,.slice none 0 0] w (TwoR w):=by
 obtain ⟨i0,hi,hz⟩:=Option.map_eq_some_iff.1 refsum.int_info
 simp only [Prod.mk.injEq] at hz
 obtain ⟨hz0,hz1,hz2⟩:=hz
 have d1:decide ((m:Int) < 1)=false:=decide_eq_false (by omega)
 have d2:decide ((16:Int) < (m:Int))=false:=decide_eq_false (by omega)
 have d3:decide ((a:Int) < 1)=false:=decide_eq_false (by omega)
 have d4:decide (m < a)=false:=decide_eq_false (by omega)
 go_enter Tryz.func108,Tryz.ntmps108
 go_wp2_with fail
 go_loopw [11] (fun i wr'=>∃ k:Nat,k≤m∧i=.int .i64 k∧∃ vk,Blk wr' w.heap.size 346 #[.int .i64 a,.int .i64 m,.int .i64 0,.slice none 0 0,vk]∧wr'.ownsRow (w.heap.size + 1) 3 1 vk k ((List.replicate k (0:Int)).map (Value.int .i64))∧Below w.heap.size w wr') (fun i _=>m - (intOf i).toNat)
 case atStart=>exact ⟨0,by omega,rfl,_,Blk.new w 346 _,⟨rfl,.inl ⟨rfl,rfl⟩⟩,below_new _ _⟩
 case round =>
  obtain ⟨k,hk,rfl,vk,hb,hrow,hbw⟩:=hrel
  have hlt:=hb.lt
  obtain ⟨Ak,ck,rfl⟩:=ownsRow_slice hrow
  have Hbw:=Lib.hid hbw
  by_cases hkm:k < m
  ·have d7:decide ((k:Int) < (m:Int))=true:=decide_eq_true (by omega)
   have c4:wr.cell? ⟨w.heap.size,4,none⟩=some (.slice Ak k ck):=hb.cell 4
   have Hb:=Lib.hid hb
   have Hrow:=Lib.hid hrow
   clear hb hrow hbw
   go_wp2_with (at_builtin;refine wpList_append_newAt rfl (.tmp 50) (.tmp 52) _ rfl (w.heap.size + 1) 3 i0 _ 1 8 Tryz.underlying26 hi hz0 hz1 hz2 rfl (by decide) (.slice Ak k ck) k _ rfl Hrow.out 1 1 wr.heap.size rfl [.int .i64 0] rfl rfl (by simp [Value.oneCell']) (by unfold maxLen;omega) (by omega) hlt ?_;intro v5 w5 hown5 hbw5 hgr5 hwh5;obtain ⟨A5,c5,rfl⟩:=ownsRow_slice hown5;have hb5:=Hb.out.below hbw5 (Nat.lt_succ_self _);have k4:w5.cell? ⟨w.heap.size,4,none⟩=some (.slice Ak k ck):=hb5.cell 4;have kf:=hb5.frozen 4;have kl:=hb5.lt;have Hb5:=Lib.hid hb5;have Hown5:=Lib.hid hown5;have Hbw5:=Lib.hid (Hbw.out.trans (hbw5.mono (Nat.le_succ _)));clear hown5 hbw5 hgr5 hwh5 hb5)
   go_roundw
   case rel =>
    refine ⟨k + 1,by omega,by go_num,.slice A5 (k + 1) c5,?_,?_,?_⟩
    rotate_left
    ·have:=own_keeps (w':=w5.setCell ⟨w.heap.size,4,none⟩ (.slice A5 (k + 1) c5)) Hown5.out (Keeps.set1 w5 w.heap.size 4 _) (fun i hi e=>by omega)
     rw [List.replicate_succ',List.map_append]
     exact this
    ·exact Hbw5.out.setCell (p:=⟨w.heap.size,4,none⟩) (Nat.le_refl _) _
    ·have:=Hb5.out.set_ 4 (.slice A5 (k + 1) c5)
     simpa using this
   case measure=>simp [intOf];omega
  ·obtain rfl:m=k:=by omega
   have d7:decide ((m:Int) < (m:Int))=false:=by simp
   clear hb hrow hbw
   obtain ⟨wo,rfl⟩:∃ wo:World,wo=wr:=⟨_,rfl⟩
   go_wp2_with fail
   go_loopw [12] (fun i wr'=>i=.int .i64 0∧wr'=wo) (fun _ _=>0)
   case atStart=>exact ⟨rfl,rfl⟩
   case round =>
    obtain ⟨rfl,rfl⟩:=hrel
    go_wp2_with fail
    go_ret2
    exact ⟨_,rfl,Hbw.out⟩
theorem right_r (m:ByteArray) (w:World):Calls Tryz.prog 36 #[.string m,.int .i64 0] w fun e w'=>e=.returned (.bool (decide (0 < m.size∧m.size < 65)))∧w'=w:=by
 by_cases h1:0 < m.size
 ·have d1:decide ((0:Int) < (m.size:Int))=true:=decide_eq_true (by omega)
  by_cases h2:m.size < 65
  ·have d2:decide ((m.size:Int) < 65)=true:=decide_eq_true (by omega)
   rw [show decide (0 < m.size∧m.size < 65)=true from decide_eq_true ⟨h1,h2⟩]
   go_enter Tryz.func36,Tryz.ntmps36
   go_wp2_with fail
   go_ret
   exact ⟨rfl,rfl⟩
  ·have d2:decide ((m.size:Int) < 65)=false:=decide_eq_false (by omega)
   rw [show decide (0 < m.size∧m.size < 65)=false from decide_eq_false (fun h=>h2 h.2)]
   go_enter Tryz.func36,Tryz.ntmps36
   go_wp2_with fail
   go_ret
   exact ⟨rfl,rfl⟩
 ·have d1:decide ((0:Int) < (m.size:Int))=false:=decide_eq_false (by omega)
  rw [show decide (0 < m.size∧m.size < 65)=false from decide_eq_false (fun h=>h1 h.1)]
  go_enter Tryz.func36,Tryz.ntmps36
  go_wp2_with fail
  go_ret
  exact ⟨rfl,rfl⟩
theorem new22_bad (id n:Int) (h:n < 1 ∨ 16 < n ∨ id < 1 ∨ n < id) (w:World):Calls Tryz.prog 35 #[.int .i64 id,.int .i64 n] w fun e w'=>e=.returned (.tuple #[.pointer none,.bool false])∧w'=w:=by
 by_cases c1:n < 1
 ·have d1:decide (n < 1)=true:=decide_eq_true c1
  clear h c1
  go_enter Tryz.func35,Tryz.ntmps35
  go_wp2_with fail
  go_ret2
  exact ⟨rfl,rfl⟩
 have d1:decide (n < 1)=false:=decide_eq_false c1
 by_cases c2:16 < n
 ·have d2:decide (16 < n)=true:=decide_eq_true c2
  clear h c1 c2
  go_enter Tryz.func35,Tryz.ntmps35
  go_wp2_with fail
  go_ret2
  exact ⟨rfl,rfl⟩
 have d2:decide (16 < n)=false:=decide_eq_false c2
 by_cases c3:id < 1
 ·have d3:decide (id < 1)=true:=decide_eq_true c3
  clear h c1 c2 c3
  go_enter Tryz.func35,Tryz.ntmps35
  go_wp2_with fail
  go_ret2
  exact ⟨rfl,rfl⟩
 have d3:decide (id < 1)=false:=decide_eq_false c3
 have d4:decide (n < id)=true:=decide_eq_true (by omega)
 clear h c1 c2 c3
 go_enter Tryz.func35,Tryz.ntmps35
 go_wp2_with fail
 go_ret2
 exact ⟨rfl,rfl⟩
theorem new22_r (id n:Nat) (h1:1≤id) (h2:id≤n) (h3:n≤16) (w:World):Calls Tryz.prog 35 #[.int .i64 id,.int .i64 n] w (TwoR w):=by
 have d1:decide ((n:Int) < 1)=false:=decide_eq_false (by omega)
 have d2:decide ((16:Int) < (n:Int))=false:=decide_eq_false (by omega)
 have d3:decide ((id:Int) < 1)=false:=decide_eq_false (by omega)
 have d4:decide (n < id)=false:=decide_eq_false (by omega)
 have hmk:=run_make_row' (P:=Tryz.prog) 26 3 (.int .i64 0) 8 Tryz.underlying26 refsum.int_info rfl .i64 .i64 n (by omega) (by omega)
 go_enter Tryz.func35,Tryz.ntmps35
 go_wp2_with fail
 go_ret2
 exact ⟨_,rfl,below_alloc (below_new _ _) _⟩
def stZ:Array Value:=#[.int .i64 0,.slice none 0 0,.int .i64 0,.int .i64 0,.int .i64 0,.slice none 0 0,.slice none 0 0,.slice none 0 0]
set_option maxRecDepth 20000 in
set_option maxHeartbeats 2000000 in
theorem fold_r (id n:Nat) (m:ByteArray) (h1:1≤id) (h2:id≤n) (h3:n≤16) (w:World):Calls Tryz.prog 38 #[.agg #[.int .i64 id,.int .i64 n,.string m],.slice none 0 0] w fun e w'=>e=.returned (.tuple #[.agg stZ,.bool true])∧Below w.heap.size w w':=by
 obtain ⟨b,hb⟩:∃ b,w.heap.size=b:=⟨_,rfl⟩
 have HC:=Lib.hid (((Blk.new w 62 #[.int .i64 id,.int .i64 n,.string m]).alloc (.cells #[.int .i64 0,.slice none 0 0,.int .i64 0,.int .i64 0,.int .i64 0,.slice none 0 0,.slice none 0 0,.slice none 0 0] 130)).alloc (.cells #[.int .i64 0,.slice none 0 0,.int .i64 0,.int .i64 0,.int .i64 0,.slice none 0 0,.slice none 0 0,.slice none 0 0] 130))
 have HR:=Lib.hid ((Blk.newAt (w.alloc (.cells #[.int .i64 id,.int .i64 n,.string m] 62)) 130 #[.int .i64 0,.slice none 0 0,.int .i64 0,.int .i64 0,.int .i64 0,.slice none 0 0,.slice none 0 0,.slice none 0 0] (g:=w.heap.size + 1) (by simp)).alloc (.cells #[.int .i64 0,.slice none 0 0,.int .i64 0,.int .i64 0,.int .i64 0,.slice none 0 0,.slice none 0 0,.slice none 0 0] 130))
 have HS:=Lib.hid (Blk.newAt ((w.alloc (.cells #[.int .i64 id,.int .i64 n,.string m] 62)).alloc (.cells #[.int .i64 0,.slice none 0 0,.int .i64 0,.int .i64 0,.int .i64 0,.slice none 0 0,.slice none 0 0,.slice none 0 0] 130)) 130 #[.int .i64 0,.slice none 0 0,.int .i64 0,.int .i64 0,.int .i64 0,.slice none 0 0,.slice none 0 0,.slice none 0 0] (g:=w.heap.size + 1 + 1) (by simp))
 have HB:=Lib.hid (below_alloc (below_alloc (below_new w (.cells #[.int .i64 id,.int .i64 n,.string m] 62)) (.cells #[.int .i64 0,.slice none 0 0,.int .i64 0,.int .i64 0,.int .i64 0,.slice none 0 0,.slice none 0 0,.slice none 0 0] 130)) (.cells #[.int .i64 0,.slice none 0 0,.int .i64 0,.int .i64 0,.int .i64 0,.slice none 0 0,.slice none 0 0,.slice none 0 0] 130))
 go_enter Tryz.func38,Tryz.ntmps38
 go_wp2_with fail
 generalize ((w.alloc (.cells #[.int .i64 id,.int .i64 n,.string m] 62)).alloc (.cells #[.int .i64 0,.slice none 0 0,.int .i64 0,.int .i64 0,.int .i64 0,.slice none 0 0,.slice none 0 0,.slice none 0 0] 130)).alloc (.cells #[.int .i64 0,.slice none 0 0,.int .i64 0,.int .i64 0,.int .i64 0,.slice none 0 0,.slice none 0 0,.slice none 0 0] 130)=w0 at *
 rw [hb] at HC HR HS
 go_loopw [7,8,9,10] (fun l i _ _ wr=>l=.bool false∧i=.int .i64 0∧wr=w0) (fun _ _ _ _ _=>0)
 case atStart=>exact ⟨rfl,rfl,rfl⟩
 case round =>
  obtain ⟨rfl,rfl,rfl⟩:=hrel
  have c0:wr.cell? ⟨b,0,none⟩=some (.int .i64 id):=HC.out.cell 0
  have c1:wr.cell? ⟨b,1,none⟩=some (.int .i64 n):=HC.out.cell 1
  have s4:wr.cell? ⟨b + 1 + 1,4,none⟩=some (.int .i64 0):=HS.out.cell 4
  have s5:wr.cell? ⟨b + 1 + 1,5,none⟩=some (.slice none 0 0):=HS.out.cell 5
  have hcl:=HC.out.lt
  have hsl:=HS.out.lt
  go_wp2_with fail
  refine (new20_r id n h1 h2 h3 wr).mono ?_
  rintro e w1 ⟨gf,rfl,hb1⟩
  have HC1:=Lib.hid (Blk.below HC.out hb1 hcl)
  have HR1:=Lib.hid (Blk.below HR.out hb1 HR.out.lt)
  have HS1:=Lib.hid (Blk.below HS.out hb1 hsl)
  have HB1:=Lib.hid (HB.out.trans (hb1.mono HB.out.size))
  have hs1:=HB1.out.size
  clear hb1 HC HR HS HB c0 c1 s4 s5 hcl hsl
  go_wp2_with fail
  refine wp_region_mono (fun i=>i=b + 1) (by kernel_rfl) ?_
  have HCc:=Lib.hid (Blk.drew HC1.out)
  have HRc:=Lib.hid (Blk.drew HR1.out)
  have HSc:=Lib.hid (Blk.drew HS1.out)
  have HBc:=Lib.hid (HB1.out.drew)
  generalize w1.drew=Wc at *
  refine qT 0 (v:=?_) ?_ ?_;rotate_left
  ·(intro W hSw;first|((refine exec_loadR 130 (.tmp 6) ?_ (b + 1 + 1) 0 [.int .i64 0,.slice none 0 0,.int .i64 0,.int .i64 0,.int .i64 0,.slice none 0 0,.slice none 0 0,.slice none 0 0] ?_ Tryz.underlying130 rfl (by kernel_rfl) (fun q v hq=>((Blk.keeps HSc.out hSw (by omega)).cell (0 + q)).trans ((List.getElem?_toArray).trans (by rw [Nat.zero_add];exact hq))) <;> rfl))|((first|(have kc:=Blk.keeps HCc.out hSw (show ¬ b=b + 1 by omega);have ks:=Blk.keeps HSc.out hSw (show ¬ b + 1 + 1=b + 1 by omega);have x0:W.cell? ⟨b,0,none⟩=some (.int .i64 id):=kc.cell 0;have s1:W.cell? ⟨b + 1 + 1,1,none⟩=some (.slice none 0 0):=ks.cell 1;have s4:W.cell? ⟨b + 1 + 1,4,none⟩=some (.int .i64 0):=ks.cell 4;have s5:W.cell? ⟨b + 1 + 1,5,none⟩=some (.slice none 0 0):=ks.cell 5;have s6:W.cell? ⟨b + 1 + 1,6,none⟩=some (.slice none 0 0):=ks.cell 6;have kl:=kc.lt;have sl:=ks.lt)|skip);go_simp;done)|((first|(have kc:=Blk.keeps HCc.out hSw (show ¬ b=b + 1 by omega);have ks:=Blk.keeps HSc.out hSw (show ¬ b + 1 + 1=b + 1 by omega);have x0:W.cell? ⟨b,0,none⟩=some (.int .i64 id):=kc.cell 0;have s1:W.cell? ⟨b + 1 + 1,1,none⟩=some (.slice none 0 0):=ks.cell 1;have s4:W.cell? ⟨b + 1 + 1,4,none⟩=some (.int .i64 0):=ks.cell 4;have s5:W.cell? ⟨b + 1 + 1,5,none⟩=some (.slice none 0 0):=ks.cell 5;have s6:W.cell? ⟨b + 1 + 1,6,none⟩=some (.slice none 0 0):=ks.cell 6;have kl:=kc.lt;have sl:=ks.lt)|skip);go_simp;rfl))
  try simp only [qPA]
  iterate 3
   first|refine qT 1 (v:=?_) ?_ ?_|refine qT 2 (v:=?_) ?_ ?_|refine qT 3 (v:=?_) ?_ ?_
   rotate_left
   ·(intro W hSw;((first|(have kc:=Blk.keeps HCc.out hSw (show ¬ b=b + 1 by omega);have ks:=Blk.keeps HSc.out hSw (show ¬ b + 1 + 1=b + 1 by omega);have x0:W.cell? ⟨b,0,none⟩=some (.int .i64 id):=kc.cell 0;have s1:W.cell? ⟨b + 1 + 1,1,none⟩=some (.slice none 0 0):=ks.cell 1;have s4:W.cell? ⟨b + 1 + 1,4,none⟩=some (.int .i64 0):=ks.cell 4;have s5:W.cell? ⟨b + 1 + 1,5,none⟩=some (.slice none 0 0):=ks.cell 5;have s6:W.cell? ⟨b + 1 + 1,6,none⟩=some (.slice none 0 0):=ks.cell 6;have kl:=kc.lt;have sl:=ks.lt)|skip));go_simp <;> rfl)
   try simp only [qPA]
  refine qT 4 (v:=?_) ?_ ?_;rotate_left
  ·(intro W hSw;first|((refine exec_loadR 130 (.tmp 6) ?_ (b + 1 + 1) 0 [.int .i64 0,.slice none 0 0,.int .i64 0,.int .i64 0,.int .i64 0,.slice none 0 0,.slice none 0 0,.slice none 0 0] ?_ Tryz.underlying130 rfl (by kernel_rfl) (fun q v hq=>((Blk.keeps HSc.out hSw (by omega)).cell (0 + q)).trans ((List.getElem?_toArray).trans (by rw [Nat.zero_add];exact hq))) <;> rfl))|((first|(have kc:=Blk.keeps HCc.out hSw (show ¬ b=b + 1 by omega);have ks:=Blk.keeps HSc.out hSw (show ¬ b + 1 + 1=b + 1 by omega);have x0:W.cell? ⟨b,0,none⟩=some (.int .i64 id):=kc.cell 0;have s1:W.cell? ⟨b + 1 + 1,1,none⟩=some (.slice none 0 0):=ks.cell 1;have s4:W.cell? ⟨b + 1 + 1,4,none⟩=some (.int .i64 0):=ks.cell 4;have s5:W.cell? ⟨b + 1 + 1,5,none⟩=some (.slice none 0 0):=ks.cell 5;have s6:W.cell? ⟨b + 1 + 1,6,none⟩=some (.slice none 0 0):=ks.cell 6;have kl:=kc.lt;have sl:=ks.lt)|skip);go_simp;done)|((first|(have kc:=Blk.keeps HCc.out hSw (show ¬ b=b + 1 by omega);have ks:=Blk.keeps HSc.out hSw (show ¬ b + 1 + 1=b + 1 by omega);have x0:W.cell? ⟨b,0,none⟩=some (.int .i64 id):=kc.cell 0;have s1:W.cell? ⟨b + 1 + 1,1,none⟩=some (.slice none 0 0):=ks.cell 1;have s4:W.cell? ⟨b + 1 + 1,4,none⟩=some (.int .i64 0):=ks.cell 4;have s5:W.cell? ⟨b + 1 + 1,5,none⟩=some (.slice none 0 0):=ks.cell 5;have s6:W.cell? ⟨b + 1 + 1,6,none⟩=some (.slice none 0 0):=ks.cell 6;have kl:=kc.lt;have sl:=ks.lt)|skip);go_simp;rfl))
  try simp only [qPA]
  refine wpMono_one' 5 (by kernel_rfl) rfl (by rfl) (fun K hK=>?_)
  go_simp
  refine (wrong_r Wc).mono ?_
  rintro e w2 ⟨rfl,rfl⟩
  refine hK.out _ _ ?_ ?_
  ·exact .refl _ _
  clear hK K
  try simp only [qPA]
  iterate 4
   first|refine qT 6 (v:=?_) ?_ ?_|refine qT 7 (v:=?_) ?_ ?_|refine qT 8 (v:=?_) ?_ ?_|refine qT 9 (v:=?_) ?_ ?_
   rotate_left
   ·(intro W hSw;((first|(have kc:=Blk.keeps HCc.out hSw (show ¬ b=b + 1 by omega);have ks:=Blk.keeps HSc.out hSw (show ¬ b + 1 + 1=b + 1 by omega);have x0:W.cell? ⟨b,0,none⟩=some (.int .i64 id):=kc.cell 0;have s1:W.cell? ⟨b + 1 + 1,1,none⟩=some (.slice none 0 0):=ks.cell 1;have s4:W.cell? ⟨b + 1 + 1,4,none⟩=some (.int .i64 0):=ks.cell 4;have s5:W.cell? ⟨b + 1 + 1,5,none⟩=some (.slice none 0 0):=ks.cell 5;have s6:W.cell? ⟨b + 1 + 1,6,none⟩=some (.slice none 0 0):=ks.cell 6;have kl:=kc.lt;have sl:=ks.lt)|skip));go_simp <;> rfl)
   try simp only [qPA]
  refine qT 10 (v:=?_) ?_ ?_;rotate_left
  ·(intro W hSw;first|((refine exec_loadR 130 (.tmp 6) ?_ (b + 1 + 1) 0 [.int .i64 0,.slice none 0 0,.int .i64 0,.int .i64 0,.int .i64 0,.slice none 0 0,.slice none 0 0,.slice none 0 0] ?_ Tryz.underlying130 rfl (by kernel_rfl) (fun q v hq=>((Blk.keeps HSc.out hSw (by omega)).cell (0 + q)).trans ((List.getElem?_toArray).trans (by rw [Nat.zero_add];exact hq))) <;> rfl))|((first|(have kc:=Blk.keeps HCc.out hSw (show ¬ b=b + 1 by omega);have ks:=Blk.keeps HSc.out hSw (show ¬ b + 1 + 1=b + 1 by omega);have x0:W.cell? ⟨b,0,none⟩=some (.int .i64 id):=kc.cell 0;have s1:W.cell? ⟨b + 1 + 1,1,none⟩=some (.slice none 0 0):=ks.cell 1;have s4:W.cell? ⟨b + 1 + 1,4,none⟩=some (.int .i64 0):=ks.cell 4;have s5:W.cell? ⟨b + 1 + 1,5,none⟩=some (.slice none 0 0):=ks.cell 5;have s6:W.cell? ⟨b + 1 + 1,6,none⟩=some (.slice none 0 0):=ks.cell 6;have kl:=kc.lt;have sl:=ks.lt)|skip);go_simp;done)|((first|(have kc:=Blk.keeps HCc.out hSw (show ¬ b=b + 1 by omega);have ks:=Blk.keeps HSc.out hSw (show ¬ b + 1 + 1=b + 1 by omega);have x0:W.cell? ⟨b,0,none⟩=some (.int .i64 id):=kc.cell 0;have s1:W.cell? ⟨b + 1 + 1,1,none⟩=some (.slice none 0 0):=ks.cell 1;have s4:W.cell? ⟨b + 1 + 1,4,none⟩=some (.int .i64 0):=ks.cell 4;have s5:W.cell? ⟨b + 1 + 1,5,none⟩=some (.slice none 0 0):=ks.cell 5;have s6:W.cell? ⟨b + 1 + 1,6,none⟩=some (.slice none 0 0):=ks.cell 6;have kl:=kc.lt;have sl:=ks.lt)|skip);go_simp;rfl))
  try simp only [qPA]
  refine qT 11 (v:=?_) ?_ ?_;rotate_left
  ·(intro W hSw;((first|(have kc:=Blk.keeps HCc.out hSw (show ¬ b=b + 1 by omega);have ks:=Blk.keeps HSc.out hSw (show ¬ b + 1 + 1=b + 1 by omega);have x0:W.cell? ⟨b,0,none⟩=some (.int .i64 id):=kc.cell 0;have s1:W.cell? ⟨b + 1 + 1,1,none⟩=some (.slice none 0 0):=ks.cell 1;have s4:W.cell? ⟨b + 1 + 1,4,none⟩=some (.int .i64 0):=ks.cell 4;have s5:W.cell? ⟨b + 1 + 1,5,none⟩=some (.slice none 0 0):=ks.cell 5;have s6:W.cell? ⟨b + 1 + 1,6,none⟩=some (.slice none 0 0):=ks.cell 6;have kl:=kc.lt;have sl:=ks.lt)|skip));go_simp <;> rfl)
  try simp only [qPA]
  refine qT 12 (v:=?_) ?_ ?_;rotate_left
  ·(intro W hSw;first|((refine exec_loadR 130 (.tmp 6) ?_ (b + 1 + 1) 0 [.int .i64 0,.slice none 0 0,.int .i64 0,.int .i64 0,.int .i64 0,.slice none 0 0,.slice none 0 0,.slice none 0 0] ?_ Tryz.underlying130 rfl (by kernel_rfl) (fun q v hq=>((Blk.keeps HSc.out hSw (by omega)).cell (0 + q)).trans ((List.getElem?_toArray).trans (by rw [Nat.zero_add];exact hq))) <;> rfl))|((first|(have kc:=Blk.keeps HCc.out hSw (show ¬ b=b + 1 by omega);have ks:=Blk.keeps HSc.out hSw (show ¬ b + 1 + 1=b + 1 by omega);have x0:W.cell? ⟨b,0,none⟩=some (.int .i64 id):=kc.cell 0;have s1:W.cell? ⟨b + 1 + 1,1,none⟩=some (.slice none 0 0):=ks.cell 1;have s4:W.cell? ⟨b + 1 + 1,4,none⟩=some (.int .i64 0):=ks.cell 4;have s5:W.cell? ⟨b + 1 + 1,5,none⟩=some (.slice none 0 0):=ks.cell 5;have s6:W.cell? ⟨b + 1 + 1,6,none⟩=some (.slice none 0 0):=ks.cell 6;have kl:=kc.lt;have sl:=ks.lt)|skip);go_simp;done)|((first|(have kc:=Blk.keeps HCc.out hSw (show ¬ b=b + 1 by omega);have ks:=Blk.keeps HSc.out hSw (show ¬ b + 1 + 1=b + 1 by omega);have x0:W.cell? ⟨b,0,none⟩=some (.int .i64 id):=kc.cell 0;have s1:W.cell? ⟨b + 1 + 1,1,none⟩=some (.slice none 0 0):=ks.cell 1;have s4:W.cell? ⟨b + 1 + 1,4,none⟩=some (.int .i64 0):=ks.cell 4;have s5:W.cell? ⟨b + 1 + 1,5,none⟩=some (.slice none 0 0):=ks.cell 5;have s6:W.cell? ⟨b + 1 + 1,6,none⟩=some (.slice none 0 0):=ks.cell 6;have kl:=kc.lt;have sl:=ks.lt)|skip);go_simp;rfl))
  try simp only [qPA]
  iterate 3
   first|refine qT 13 (v:=?_) ?_ ?_|refine qT 14 (v:=?_) ?_ ?_|refine qT 15 (v:=?_) ?_ ?_
   rotate_left
   ·(intro W hSw;((first|(have kc:=Blk.keeps HCc.out hSw (show ¬ b=b + 1 by omega);have ks:=Blk.keeps HSc.out hSw (show ¬ b + 1 + 1=b + 1 by omega);have x0:W.cell? ⟨b,0,none⟩=some (.int .i64 id):=kc.cell 0;have s1:W.cell? ⟨b + 1 + 1,1,none⟩=some (.slice none 0 0):=ks.cell 1;have s4:W.cell? ⟨b + 1 + 1,4,none⟩=some (.int .i64 0):=ks.cell 4;have s5:W.cell? ⟨b + 1 + 1,5,none⟩=some (.slice none 0 0):=ks.cell 5;have s6:W.cell? ⟨b + 1 + 1,6,none⟩=some (.slice none 0 0):=ks.cell 6;have kl:=kc.lt;have sl:=ks.lt)|skip));go_simp <;> rfl)
   try simp only [qPA]
  refine qT 16 (v:=?_) ?_ ?_;rotate_left
  ·(intro W hSw;first|((refine exec_loadR 130 (.tmp 6) ?_ (b + 1 + 1) 0 [.int .i64 0,.slice none 0 0,.int .i64 0,.int .i64 0,.int .i64 0,.slice none 0 0,.slice none 0 0,.slice none 0 0] ?_ Tryz.underlying130 rfl (by kernel_rfl) (fun q v hq=>((Blk.keeps HSc.out hSw (by omega)).cell (0 + q)).trans ((List.getElem?_toArray).trans (by rw [Nat.zero_add];exact hq))) <;> rfl))|((first|(have kc:=Blk.keeps HCc.out hSw (show ¬ b=b + 1 by omega);have ks:=Blk.keeps HSc.out hSw (show ¬ b + 1 + 1=b + 1 by omega);have x0:W.cell? ⟨b,0,none⟩=some (.int .i64 id):=kc.cell 0;have s1:W.cell? ⟨b + 1 + 1,1,none⟩=some (.slice none 0 0):=ks.cell 1;have s4:W.cell? ⟨b + 1 + 1,4,none⟩=some (.int .i64 0):=ks.cell 4;have s5:W.cell? ⟨b + 1 + 1,5,none⟩=some (.slice none 0 0):=ks.cell 5;have s6:W.cell? ⟨b + 1 + 1,6,none⟩=some (.slice none 0 0):=ks.cell 6;have kl:=kc.lt;have sl:=ks.lt)|skip);go_simp;done)|((first|(have kc:=Blk.keeps HCc.out hSw (show ¬ b=b + 1 by omega);have ks:=Blk.keeps HSc.out hSw (show ¬ b + 1 + 1=b + 1 by omega);have x0:W.cell? ⟨b,0,none⟩=some (.int .i64 id):=kc.cell 0;have s1:W.cell? ⟨b + 1 + 1,1,none⟩=some (.slice none 0 0):=ks.cell 1;have s4:W.cell? ⟨b + 1 + 1,4,none⟩=some (.int .i64 0):=ks.cell 4;have s5:W.cell? ⟨b + 1 + 1,5,none⟩=some (.slice none 0 0):=ks.cell 5;have s6:W.cell? ⟨b + 1 + 1,6,none⟩=some (.slice none 0 0):=ks.cell 6;have kl:=kc.lt;have sl:=ks.lt)|skip);go_simp;rfl))
  try simp only [qPA]
  refine qT 17 (v:=?_) ?_ ?_;rotate_left
  ·(intro W hSw;((first|(have kc:=Blk.keeps HCc.out hSw (show ¬ b=b + 1 by omega);have ks:=Blk.keeps HSc.out hSw (show ¬ b + 1 + 1=b + 1 by omega);have x0:W.cell? ⟨b,0,none⟩=some (.int .i64 id):=kc.cell 0;have s1:W.cell? ⟨b + 1 + 1,1,none⟩=some (.slice none 0 0):=ks.cell 1;have s4:W.cell? ⟨b + 1 + 1,4,none⟩=some (.int .i64 0):=ks.cell 4;have s5:W.cell? ⟨b + 1 + 1,5,none⟩=some (.slice none 0 0):=ks.cell 5;have s6:W.cell? ⟨b + 1 + 1,6,none⟩=some (.slice none 0 0):=ks.cell 6;have kl:=kc.lt;have sl:=ks.lt)|skip));go_simp <;> rfl)
  try simp only [qPA]
  refine qT 18 (v:=?_) ?_ ?_;rotate_left
  ·(intro W hSw;first|((refine exec_loadR 130 (.tmp 6) ?_ (b + 1 + 1) 0 [.int .i64 0,.slice none 0 0,.int .i64 0,.int .i64 0,.int .i64 0,.slice none 0 0,.slice none 0 0,.slice none 0 0] ?_ Tryz.underlying130 rfl (by kernel_rfl) (fun q v hq=>((Blk.keeps HSc.out hSw (by omega)).cell (0 + q)).trans ((List.getElem?_toArray).trans (by rw [Nat.zero_add];exact hq))) <;> rfl))|((first|(have kc:=Blk.keeps HCc.out hSw (show ¬ b=b + 1 by omega);have ks:=Blk.keeps HSc.out hSw (show ¬ b + 1 + 1=b + 1 by omega);have x0:W.cell? ⟨b,0,none⟩=some (.int .i64 id):=kc.cell 0;have s1:W.cell? ⟨b + 1 + 1,1,none⟩=some (.slice none 0 0):=ks.cell 1;have s4:W.cell? ⟨b + 1 + 1,4,none⟩=some (.int .i64 0):=ks.cell 4;have s5:W.cell? ⟨b + 1 + 1,5,none⟩=some (.slice none 0 0):=ks.cell 5;have s6:W.cell? ⟨b + 1 + 1,6,none⟩=some (.slice none 0 0):=ks.cell 6;have kl:=kc.lt;have sl:=ks.lt)|skip);go_simp;done)|((first|(have kc:=Blk.keeps HCc.out hSw (show ¬ b=b + 1 by omega);have ks:=Blk.keeps HSc.out hSw (show ¬ b + 1 + 1=b + 1 by omega);have x0:W.cell? ⟨b,0,none⟩=some (.int .i64 id):=kc.cell 0;have s1:W.cell? ⟨b + 1 + 1,1,none⟩=some (.slice none 0 0):=ks.cell 1;have s4:W.cell? ⟨b + 1 + 1,4,none⟩=some (.int .i64 0):=ks.cell 4;have s5:W.cell? ⟨b + 1 + 1,5,none⟩=some (.slice none 0 0):=ks.cell 5;have s6:W.cell? ⟨b + 1 + 1,6,none⟩=some (.slice none 0 0):=ks.cell 6;have kl:=kc.lt;have sl:=ks.lt)|skip);go_simp;rfl))
  try simp only [qPA]
  refine wpMono_one' 19 (by kernel_rfl) rfl (by rfl) (fun K hK=>?_)
  go_simp
  refine (at6_r _ _).mono ?_
  rintro e w3 ⟨rfl,rfl⟩
  refine hK.out _ _ ?_ ?_
  ·exact .refl _ _
  clear hK K
  try simp only [qPA]
  iterate 2
   first|refine qT 20 (v:=?_) ?_ ?_|refine qT 21 (v:=?_) ?_ ?_
   rotate_left
   ·(intro W hSw;((first|(have kc:=Blk.keeps HCc.out hSw (show ¬ b=b + 1 by omega);have ks:=Blk.keeps HSc.out hSw (show ¬ b + 1 + 1=b + 1 by omega);have x0:W.cell? ⟨b,0,none⟩=some (.int .i64 id):=kc.cell 0;have s1:W.cell? ⟨b + 1 + 1,1,none⟩=some (.slice none 0 0):=ks.cell 1;have s4:W.cell? ⟨b + 1 + 1,4,none⟩=some (.int .i64 0):=ks.cell 4;have s5:W.cell? ⟨b + 1 + 1,5,none⟩=some (.slice none 0 0):=ks.cell 5;have s6:W.cell? ⟨b + 1 + 1,6,none⟩=some (.slice none 0 0):=ks.cell 6;have kl:=kc.lt;have sl:=ks.lt)|skip));go_simp <;> rfl)
   try simp only [qPA]
  refine wpMono_one' 22 (by kernel_rfl) rfl (by rfl) (fun K hK=>?_)
  refine wp_store_at 130 (.tmp 4) (.tmp 76) rfl (b + 1) 0 [.int .i64 0,.slice none 0 0,.int .i64 0,.int .i64 0,.int .i64 0,.slice none 0 0,.slice none 0 0,.slice none 0 0] rfl rfl HRc.out (by kernel_rfl) (by simp) rfl (fun w4 hq1 hq2 hq3=>?_)
  have HR4:=Lib.hid (show Blk w4 (b + 1) 130 #[.int .i64 0,.slice none 0 0,.int .i64 0,.int .i64 0,.int .i64 0,.slice none 0 0,.slice none 0 0,.slice none 0 0] from hq1)
  have HK4:=Lib.hid hq2
  have HB4:=Lib.hid (show Below w.heap.size w w4 from HBc.out.trans (hq2.below (B:=w.heap.size) (fun i hi e=>by have e:i=b + 1:=e;omega) HBc.out.size))
  clear hq1 hq2 hq3
  refine hK.out _ _ ?_ ?_
  ·exact HK4.out
  clear hK K
  try simp only [Act.put]
  refine qT 23 (v:=?_) ?_ ?_;rotate_left
  ·(intro W hSw;((first|(have kc:=Blk.keeps HCc.out hSw (show ¬ b=b + 1 by omega);have ks:=Blk.keeps HSc.out hSw (show ¬ b + 1 + 1=b + 1 by omega);have x0:W.cell? ⟨b,0,none⟩=some (.int .i64 id):=kc.cell 0;have s1:W.cell? ⟨b + 1 + 1,1,none⟩=some (.slice none 0 0):=ks.cell 1;have s4:W.cell? ⟨b + 1 + 1,4,none⟩=some (.int .i64 0):=ks.cell 4;have s5:W.cell? ⟨b + 1 + 1,5,none⟩=some (.slice none 0 0):=ks.cell 5;have s6:W.cell? ⟨b + 1 + 1,6,none⟩=some (.slice none 0 0):=ks.cell 6;have kl:=kc.lt;have sl:=ks.lt)|skip));go_simp <;> rfl)
  try simp only [qPA]
  refine wpMono_done (by kernel_rfl) ?_ _
  go_wp2_with fail
  refine bodyPost_ret (v:=.tuple #[.agg stZ,.bool true]) (results_cell2 (P:=Tryz.prog) rfl _ _ (b + 1) 130 stZ _ _ rfl rfl HR4.out Tryz.underlying130 rfl (by kernel_rfl)) rfl ⟨rfl,HB4.out⟩
end Go.Proofs.YtdaphppdmnmicaaGreatDoor.regn
namespace Go.Proofs.YtdaphppdmnmicaaGreatDoor.regn
open Go Go.RowKit Go.Lib base rowe rowc wireb appb monoj monok
def NoRg (w:World) (e:Ending) (w':World):Prop:=e=.returned (.tuple #[.pointer none,.int .i64 1])∧Below w.heap.size w w'
theorem open24_bad (va vb:Value) (id n:Int) (m:ByteArray) (h:n < 1 ∨ 16 < n ∨ id < 1 ∨ n < id) (w:World):Calls Tryz.prog 9 #[va,vb,.agg #[.int .i64 id,.int .i64 n,.string m]] w (NoRg w):=by
 have HB:=Lib.hid (below_new w (.cells #[.int .i64 id,.int .i64 n,.string m] 62))
 have HH:=Lib.hid h
 clear h
 go_enter Tryz.func9,Tryz.ntmps9
 go_wp2_with fail
 refine (new22_bad id n HH.out _).mono ?_
 rintro e w1 ⟨rfl,hw⟩
 subst hw
 go_wp2_with fail
 go_ret2
 exact ⟨rfl,HB.out⟩
theorem open24_ring (va vb:Value) (id n:Nat) (m:ByteArray) (h1:1≤id) (h2:id≤n) (h3:n≤16) (hm:m.size < 1 ∨ 64 < m.size) (w:World):Calls Tryz.prog 9 #[va,vb,.agg #[.int .i64 id,.int .i64 n,.string m]] w (NoRg w):=by
 have HB:=Lib.hid (below_new w (.cells #[.int .i64 id,.int .i64 n,.string m] 62))
 have HC:=Lib.hid (Blk.new w 62 #[.int .i64 id,.int .i64 n,.string m])
 have HM:=Lib.hid (show decide (0 < m.size∧m.size < 65)=false from decide_eq_false (by omega))
 clear hm
 go_enter Tryz.func9,Tryz.ntmps9
 go_wp2_with fail
 refine (new22_r id n h1 h2 h3 _).mono ?_
 rintro e w1 ⟨g,rfl,hb1⟩
 have HC1:=Lib.hid (Blk.below HC.out hb1 HC.out.lt)
 have HB1:=Lib.hid (HB.out.trans (hb1.mono HB.out.size))
 have q2:w1.cell? ⟨w.heap.size,2,none⟩=some (.string m):=HC1.out.cell 2
 have hl:=HC1.out.lt
 clear hb1
 go_wp2_with fail
 refine (right_r m w1).mono ?_
 rintro e w2 ⟨rfl,hw⟩
 subst hw
 rw [HM.out]
 go_wp2_with fail
 go_ret2
 exact ⟨rfl,HB1.out⟩
def OpenRR (b:Nat) (w:World) (e:Ending) (w':World):Prop:=∃ g,e=.returned (.tuple #[.pointer (some ⟨g,0,none⟩),.int .i64 0])∧Keeps (· = b) w w'
set_option maxRecDepth 20000 in
set_option maxHeartbeats 4000000 in
theorem open24_r (a b id n:Nat) (m:ByteArray) (h1:1≤id) (h2:id≤n) (h3:n≤16) (hm1:1≤m.size) (hm2:m.size≤64) (w:World) (ha:RD w a ⟨#[]⟩ ⟨#[]⟩ 1000) (hb:RD w b ⟨#[]⟩ ⟨#[]⟩ 1000) :
  Calls Tryz.prog 9 #[.pointer (some ⟨a,0,none⟩),.pointer (some ⟨b,0,none⟩),.agg #[.int .i64 id,.int .i64 n,.string m]] w (OpenRR b w):=by
 obtain ⟨i0,hi,hz⟩:=Option.map_eq_some_iff.1 refsum.int_info
 simp only [Prod.mk.injEq] at hz
 have HI:=Lib.hid (And.intro hi hz)
 clear hi hz
 obtain ⟨c,hc⟩:∃ c,w.heap.size=c:=⟨_,rfl⟩
 have hbn:=below_new w (.cells #[.int .i64 id,.int .i64 n,.string m] 62)
 have HB:=Lib.hid hbn
 have HC:=Lib.hid (Blk.new w 62 #[.int .i64 id,.int .i64 n,.string m])
 have HA:=Lib.hid (Blk.below ha hbn ha.lt)
 have HD:=Lib.hid (Blk.below hb hbn hb.lt)
 have hbl:=hb.lt
 have HM:=Lib.hid (show decide (0 < m.size∧m.size < 65)=true from decide_eq_true (by omega))
 clear hbn ha hb hm1 hm2
 go_enter Tryz.func9,Tryz.ntmps9
 go_wp2_with fail
 rw [hc] at HC
 refine (new22_r id n h1 h2 h3 _).mono ?_
 rintro e w1 ⟨gl,rfl,hb1⟩
 have HC1:=Lib.hid (Blk.below HC.out hb1 HC.out.lt)
 have HA1:=Lib.hid (Blk.below HA.out hb1 HA.out.lt)
 have HD1:=Lib.hid (Blk.below HD.out hb1 HD.out.lt)
 have HB1:=Lib.hid (HB.out.trans (hb1.mono HB.out.size))
 have q2:w1.cell? ⟨c,2,none⟩=some (.string m):=HC1.out.cell 2
 have hl:=HC1.out.lt
 clear hb1 HC HA HD HB
 go_wp2_with fail
 refine (right_r m w1).mono ?_
 rintro e w2 ⟨rfl,hw⟩
 subst hw
 rw [HM.out]
 go_wp2_with fail
 refine (open10_r a b w2 HA1.out HD1.out).mono ?_
 rintro e w3 ⟨gj,rfl,hk3⟩
 have HC3:=Lib.hid (Blk.keeps HC1.out hk3 (show ¬ c=b by omega))
 have HK3:=Lib.hid (show Keeps (· = b) w w3 from (Keeps.of_below HB1.out).trans hk3)
 have hs3:w.heap.size≤w3.heap.size:=HK3.out.size
 have hcl3:=HC3.out.lt
 clear hk3 HC1 HA1 HD1 HB1 q2 hl
 go_wp2_with (refine wpList_load_at rfl 62 (.tmp 5) rfl c 0 [.int .i64 id,.int .i64 n,.string m] rfl Tryz.underlying62 rfl (by kernel_rfl) (blk_cells HC3.out) ?_)
 refine (fold_r id n m h1 h2 h3 w3).mono ?_
 rintro e w4 ⟨rfl,hb4⟩
 have HC4:=Lib.hid (Blk.below HC3.out hb4 hcl3)
 have HK4:=Lib.hid (HK3.out.trans (Keeps.of_below (X:=(· = b)) hb4))
 have hs4:=Nat.le_trans hs3 hb4.size
 clear hb4 HC3 HK3
 unfold stZ
 have HS5:=Lib.hid (Blk.new w4 130 #[.int .i64 0,.slice none 0 0,.int .i64 0,.int .i64 0,.int .i64 0,.slice none 0 0,.slice none 0 0,.slice none 0 0])
 have HC5:=Lib.hid (Blk.alloc HC4.out (.cells #[.int .i64 0,.slice none 0 0,.int .i64 0,.int .i64 0,.int .i64 0,.slice none 0 0,.slice none 0 0,.slice none 0 0] 130))
 have HK5:=Lib.hid (HK4.out.trans (Keeps.alloc (X:=(· = b)) (.cells #[.int .i64 0,.slice none 0 0,.int .i64 0,.int .i64 0,.int .i64 0,.slice none 0 0,.slice none 0 0,.slice none 0 0] 130)))
 have hcl4:=HC4.out.lt
 have hcs:c < w4.heap.size:=hcl4
 go_wp2_with fail
 generalize w4.alloc (.cells #[.int .i64 0,.slice none 0 0,.int .i64 0,.int .i64 0,.int .i64 0,.slice none 0 0,.slice none 0 0,.slice none 0 0] 130)=w5 at *
 obtain ⟨sb,hsb⟩:∃ s,w4.heap.size=s:=⟨_,rfl⟩
 rw [hsb] at HS5 hcs hs4 ⊢
 obtain ⟨n1,hn1⟩:∃ k,n + 1=k:=⟨_,rfl⟩
 have hw1:IntKind.i64.wrap ((n:Int) + 1)=(n1:Int):=by rw [IntWalk.i64_in _ (by omega)];omega
 have hmk:=run_make_row' (P:=Tryz.prog) 26 3 (.int .i64 0) 8 Tryz.underlying26 refsum.int_info rfl .i64 .i64 n1 (by omega) (by omega)
 refine wp_region_mono (nobody) (by kernel_rfl) ?_
 have HCp:=Lib.hid (Blk.drew HC5.out)
 have HSp:=Lib.hid (Blk.drew HS5.out)
 have HKp:=Lib.hid (HK5.out.trans (Keeps.of_below (X:=(· = b)) (Below.refl _ w5).drew))
 generalize w5.drew=wp at *
 refine qT 0 (v:=?_) ?_ ?_;rotate_left
 ·(intro W hSw;first|((first|(refine exec_loadR 130 (.tmp 13) ?_ sb 0 [.int .i64 0,.slice none 0 0,.int .i64 0,.int .i64 0,.int .i64 0,.slice none 0 0,.slice none 0 0,.slice none 0 0] ?_ Tryz.underlying130 rfl (by kernel_rfl) (fun q v hq=>((Blk.keeps HSp.out hSw (fun h=>h)).cell (0 + q)).trans ((List.getElem?_toArray).trans (by rw [Nat.zero_add];exact hq))) <;> rfl)|(refine exec_loadR 62 (.tmp 5) ?_ c 0 [.int .i64 id,.int .i64 n,.string m] ?_ Tryz.underlying62 rfl (by kernel_rfl) (fun q v hq=>((Blk.keeps HCp.out hSw (fun h=>h)).cell (0 + q)).trans ((List.getElem?_toArray).trans (by rw [Nat.zero_add];exact hq))) <;> rfl)))|((first|(have kc:=Blk.keeps HCp.out hSw (fun h=>h);have x1:W.cell? ⟨c,1,none⟩=some (.int .i64 n):=kc.cell 1;have kl:=kc.lt)|skip);go_simp;done)|((first|(have kc:=Blk.keeps HCp.out hSw (fun h=>h);have x1:W.cell? ⟨c,1,none⟩=some (.int .i64 n):=kc.cell 1;have kl:=kc.lt)|skip);go_simp;rfl))
 try simp only [qPA]
 refine qT 1 (v:=?_) ?_ ?_;rotate_left
 ·(intro W hSw;((first|(have kc:=Blk.keeps HCp.out hSw (fun h=>h);have x1:W.cell? ⟨c,1,none⟩=some (.int .i64 n):=kc.cell 1;have kl:=kc.lt)|skip));go_simp <;> rfl)
 try simp only [qPA]
 refine qT 2 (v:=?_) ?_ ?_;rotate_left
 ·(intro W hSw;first|((first|(refine exec_loadR 130 (.tmp 13) ?_ sb 0 [.int .i64 0,.slice none 0 0,.int .i64 0,.int .i64 0,.int .i64 0,.slice none 0 0,.slice none 0 0,.slice none 0 0] ?_ Tryz.underlying130 rfl (by kernel_rfl) (fun q v hq=>((Blk.keeps HSp.out hSw (fun h=>h)).cell (0 + q)).trans ((List.getElem?_toArray).trans (by rw [Nat.zero_add];exact hq))) <;> rfl)|(refine exec_loadR 62 (.tmp 5) ?_ c 0 [.int .i64 id,.int .i64 n,.string m] ?_ Tryz.underlying62 rfl (by kernel_rfl) (fun q v hq=>((Blk.keeps HCp.out hSw (fun h=>h)).cell (0 + q)).trans ((List.getElem?_toArray).trans (by rw [Nat.zero_add];exact hq))) <;> rfl)))|((first|(have kc:=Blk.keeps HCp.out hSw (fun h=>h);have x1:W.cell? ⟨c,1,none⟩=some (.int .i64 n):=kc.cell 1;have kl:=kc.lt)|skip);go_simp;done)|((first|(have kc:=Blk.keeps HCp.out hSw (fun h=>h);have x1:W.cell? ⟨c,1,none⟩=some (.int .i64 n):=kc.cell 1;have kl:=kc.lt)|skip);go_simp;rfl))
 try simp only [qPA]
 iterate 2
  first|refine qT 3 (v:=?_) ?_ ?_|refine qT 4 (v:=?_) ?_ ?_
  rotate_left
  ·(intro W hSw;((first|(have kc:=Blk.keeps HCp.out hSw (fun h=>h);have x1:W.cell? ⟨c,1,none⟩=some (.int .i64 n):=kc.cell 1;have kl:=kc.lt)|skip));go_simp <;> rfl)
  try simp only [qPA]
 refine qT 5 (v:=?_) ?_ ?_;rotate_left
 ·(intro W hSw;first|((first|(refine exec_loadR 130 (.tmp 13) ?_ sb 0 [.int .i64 0,.slice none 0 0,.int .i64 0,.int .i64 0,.int .i64 0,.slice none 0 0,.slice none 0 0,.slice none 0 0] ?_ Tryz.underlying130 rfl (by kernel_rfl) (fun q v hq=>((Blk.keeps HSp.out hSw (fun h=>h)).cell (0 + q)).trans ((List.getElem?_toArray).trans (by rw [Nat.zero_add];exact hq))) <;> rfl)|(refine exec_loadR 62 (.tmp 5) ?_ c 0 [.int .i64 id,.int .i64 n,.string m] ?_ Tryz.underlying62 rfl (by kernel_rfl) (fun q v hq=>((Blk.keeps HCp.out hSw (fun h=>h)).cell (0 + q)).trans ((List.getElem?_toArray).trans (by rw [Nat.zero_add];exact hq))) <;> rfl)))|((first|(have kc:=Blk.keeps HCp.out hSw (fun h=>h);have x1:W.cell? ⟨c,1,none⟩=some (.int .i64 n):=kc.cell 1;have kl:=kc.lt)|skip);go_simp;done)|((first|(have kc:=Blk.keeps HCp.out hSw (fun h=>h);have x1:W.cell? ⟨c,1,none⟩=some (.int .i64 n):=kc.cell 1;have kl:=kc.lt)|skip);go_simp;rfl))
 try simp only [qPA]
 refine qT 6 (v:=?_) ?_ ?_;rotate_left
 ·(intro W hSw;((first|(have kc:=Blk.keeps HCp.out hSw (fun h=>h);have x1:W.cell? ⟨c,1,none⟩=some (.int .i64 n):=kc.cell 1;have kl:=kc.lt)|skip));go_simp <;> rfl)
 try simp only [qPA]
 refine wpMono_one' 7 (by kernel_rfl) rfl (by rfl) (fun K hK=>?_)
 go_simp
 have HC6:=Lib.hid (Blk.alloc HCp.out (.cells (madeCells #[.int .i64 0] n1) 3))
 have HS6:=Lib.hid (Blk.alloc HSp.out (.cells (madeCells #[.int .i64 0] n1) 3))
 have HK6:=Lib.hid (HKp.out.trans (Keeps.alloc (X:=(· = b)) (.cells (madeCells #[.int .i64 0] n1) 3)))
 obtain ⟨gz,hgz⟩:∃ g,wp.heap.size=g:=⟨_,rfl⟩
 have HX6:=Lib.hid (Keeps.of_below (X:=nobody) (below_new wp (.cells (madeCells #[.int .i64 0] n1) 3)))
 rw [hgz]
 generalize wp.alloc (.cells (madeCells #[.int .i64 0] n1) 3)=w6 at *
 refine hK.out _ _ ?_ ?_
 ·exact HX6.out
 clear hK K
 try simp only [qPA]
 refine qT 8 (v:=?_) ?_ ?_;rotate_left
 ·(intro W hSw;((first|(have kc:=Blk.keeps HCp.out hSw (fun h=>h);have x1:W.cell? ⟨c,1,none⟩=some (.int .i64 n):=kc.cell 1;have kl:=kc.lt)|skip));go_simp <;> rfl)
 try simp only [qPA]
 refine wpMono_one' 9 (by kernel_rfl) rfl (by rfl) (fun K hK=>?_)
 go_simp
 have HG7:=Lib.hid (Blk.new w6 135 #[.int .i64 id,.int .i64 n,.string m,.pointer (some ⟨gj,0,none⟩),.int .i64 0,.slice none 0 0,.int .i64 0,.int .i64 0,.int .i64 0,.slice none 0 0,.slice none 0 0,.slice none 0 0,.slice none 0 0,.slice none 0 0,.pointer (some ⟨gl,0,none⟩),.slice (some ⟨gz,0,none⟩) n1 n1,.slice none 0 0,.bool false])
 have HC7:=Lib.hid (Blk.alloc HC6.out (.cells #[.int .i64 id,.int .i64 n,.string m,.pointer (some ⟨gj,0,none⟩),.int .i64 0,.slice none 0 0,.int .i64 0,.int .i64 0,.int .i64 0,.slice none 0 0,.slice none 0 0,.slice none 0 0,.slice none 0 0,.slice none 0 0,.pointer (some ⟨gl,0,none⟩),.slice (some ⟨gz,0,none⟩) n1 n1,.slice none 0 0,.bool false] 135))
 have HS7:=Lib.hid (Blk.alloc HS6.out (.cells #[.int .i64 id,.int .i64 n,.string m,.pointer (some ⟨gj,0,none⟩),.int .i64 0,.slice none 0 0,.int .i64 0,.int .i64 0,.int .i64 0,.slice none 0 0,.slice none 0 0,.slice none 0 0,.slice none 0 0,.slice none 0 0,.pointer (some ⟨gl,0,none⟩),.slice (some ⟨gz,0,none⟩) n1 n1,.slice none 0 0,.bool false] 135))
 have HK7:=Lib.hid (HK6.out.trans (Keeps.alloc (X:=(· = b)) (.cells #[.int .i64 id,.int .i64 n,.string m,.pointer (some ⟨gj,0,none⟩),.int .i64 0,.slice none 0 0,.int .i64 0,.int .i64 0,.int .i64 0,.slice none 0 0,.slice none 0 0,.slice none 0 0,.slice none 0 0,.slice none 0 0,.pointer (some ⟨gl,0,none⟩),.slice (some ⟨gz,0,none⟩) n1 n1,.slice none 0 0,.bool false] 135)))
 have HX7:=Lib.hid (Keeps.of_below (X:=nobody) (below_new w6 (.cells #[.int .i64 id,.int .i64 n,.string m,.pointer (some ⟨gj,0,none⟩),.int .i64 0,.slice none 0 0,.int .i64 0,.int .i64 0,.int .i64 0,.slice none 0 0,.slice none 0 0,.slice none 0 0,.slice none 0 0,.slice none 0 0,.pointer (some ⟨gl,0,none⟩),.slice (some ⟨gz,0,none⟩) n1 n1,.slice none 0 0,.bool false] 135)))
 have hs6:=HS6.out.lt
 obtain ⟨gr,hgr⟩:∃ g,w6.heap.size=g:=⟨_,rfl⟩
 rw [hgr] at HG7 hs6 ⊢
 generalize w6.alloc (.cells #[.int .i64 id,.int .i64 n,.string m,.pointer (some ⟨gj,0,none⟩),.int .i64 0,.slice none 0 0,.int .i64 0,.int .i64 0,.int .i64 0,.slice none 0 0,.slice none 0 0,.slice none 0 0,.slice none 0 0,.slice none 0 0,.pointer (some ⟨gl,0,none⟩),.slice (some ⟨gz,0,none⟩) n1 n1,.slice none 0 0,.bool false] 135)=w7 at *
 refine hK.out _ _ ?_ ?_
 ·exact HX7.out
 clear hK K
 try simp only [qPA]
 refine qT 10 (v:=?_) ?_ ?_;rotate_left
 ·(intro W hSw;((first|(have kc:=Blk.keeps HCp.out hSw (fun h=>h);have x1:W.cell? ⟨c,1,none⟩=some (.int .i64 n):=kc.cell 1;have kl:=kc.lt)|skip));go_simp <;> rfl)
 try simp only [qPA]
 refine wpMono_done (by kernel_rfl) ?_ _
 clear HC5 HS5 HK5 HCp HSp HKp HC6 HS6 HK6 HX6 HX7 hmk hw1 HC4 HK4
 have hcr:c < gr:=by omega
 have hwr:w.heap.size≤gr:=by omega
 clear hgr hgz hsb hs3 hcl3 hcl4 hc
 go_wp2_with fail
 go_loopw [15] (fun i wr=>∃ k:Nat,i=.int .i64 k∧k≤n1∧∃ vk,Blk wr gr 135 #[.int .i64 id,.int .i64 n,.string m,.pointer (some ⟨gj,0,none⟩),.int .i64 0,.slice none 0 0,.int .i64 0,.int .i64 0,.int .i64 0,.slice none 0 0,.slice none 0 0,.slice none 0 0,.slice none 0 0,vk,.pointer (some ⟨gl,0,none⟩),.slice (some ⟨gz,0,none⟩) n1 n1,.slice none 0 0,.bool false]∧wr.ownsRow (gr + 1) 3 1 vk k ((List.replicate k (0:Int)).map (Value.int .i64))∧Below gr w7 wr) (fun i _=>n1 - (intOf i).toNat)
 case atStart=>exact ⟨0,rfl,by omega,_,HG7.out,⟨rfl,.inl ⟨rfl,rfl⟩⟩,Below.refl _ _⟩
 case round =>
  obtain ⟨k,rfl,hk,vk,hg,hrow,hbw⟩:=hrel
  obtain ⟨Ak,ck,rfl⟩:=ownsRow_slice hrow
  have HC:=Lib.hid (Blk.below HC7.out hbw hcr)
  have HS:=Lib.hid (Blk.below HS7.out hbw hs6)
  have HBW:=Lib.hid hbw
  have x1:wr.cell? ⟨c,1,none⟩=some (.int .i64 n):=HC.out.cell 1
  have xl:=HC.out.lt
  by_cases hkn:k≤n
  ·have dk:decide (k≤n)=true:=decide_eq_true hkn
   have dki:decide ((k:Int)≤(n:Int))=true:=decide_eq_true (by omega)
   have HG:=Lib.hid hg
   have HO:=Lib.hid hrow
   have HNG:=Lib.hid (show ¬ (Value.slice Ak k ck).ownBlock=some gr from fun e=>by have:=(hrow.lt gr e).1;omega)
   have HNS:=Lib.hid (show ¬ (Value.slice Ak k ck).ownBlock=some sb from fun e=>by have:=(hrow.lt sb e).1;omega)
   clear hg hrow hbw
   go_wp2_with fail
   refine wp_region_monoK (fun i=>(Value.slice Ak k ck).ownBlock=some i) [8] (fun i=>i=gr) [11] (by kernel_rfl) ?_
   have HGp:=Lib.hid (Blk.drew HG.out)
   have HSp:=Lib.hid (Blk.drew HS.out)
   have HOp:=Lib.hid (own_below HO.out (Below.refl _ wr).drew)
   have HBp:=Lib.hid (HBW.out.drew)
   generalize wr.drew=wp at *
   refine wpMonoK_take' 0 (v:=?_) rfl (by kernel_rfl) (by kernel_rfl) (by kernel_rfl) (fun _ _ _ h=>h) (by rfl) ?_ ?_
   rotate_left
   ·(intro W hSw;((first|(have hxW:=Blk.keeps HGp.out hSw HNG.out;have y13:W.cell? ⟨gr,13,none⟩=some (.slice Ak k ck):=hxW.cell 13;have exl:=hxW.lt;have hxS:=Blk.keeps HSp.out hSw HNS.out;have ys:W.cell? ⟨sb,4,none⟩=some (.int .i64 0):=hxS.cell 4;have exs:=hxS.lt)|(have hxS:=Blk.keeps HSp.out hSw (fun h=>by rcases h with h|h <;> first|exact HNS.out h|omega);have ys:W.cell? ⟨sb,4,none⟩=some (.int .i64 0):=hxS.cell 4;have exs:=hxS.lt)|skip));go_simp <;> rfl)
   try simp only [qPA]
   refine wpMonoK_take' 1 (v:=?_) rfl (by kernel_rfl) (by kernel_rfl) (by kernel_rfl) (fun _ _ _ h=>h) (by rfl) ?_ ?_
   rotate_left
   ·(intro W hSw;((first|(have hxW:=Blk.keeps HGp.out hSw HNG.out;have y13:W.cell? ⟨gr,13,none⟩=some (.slice Ak k ck):=hxW.cell 13;have exl:=hxW.lt;have hxS:=Blk.keeps HSp.out hSw HNS.out;have ys:W.cell? ⟨sb,4,none⟩=some (.int .i64 0):=hxS.cell 4;have exs:=hxS.lt)|(have hxS:=Blk.keeps HSp.out hSw (fun h=>by rcases h with h|h <;> first|exact HNS.out h|omega);have ys:W.cell? ⟨sb,4,none⟩=some (.int .i64 0):=hxS.cell 4;have exs:=hxS.lt)|skip));go_simp <;> rfl)
   try simp only [qPA]
   refine wpMonoK_take' 2 (v:=?_) rfl (by kernel_rfl) (by kernel_rfl) (by kernel_rfl) (fun _ _ _ h=>h) (by rfl) ?_ ?_
   rotate_left
   ·(intro W hSw;((first|(have hxW:=Blk.keeps HGp.out hSw HNG.out;have y13:W.cell? ⟨gr,13,none⟩=some (.slice Ak k ck):=hxW.cell 13;have exl:=hxW.lt;have hxS:=Blk.keeps HSp.out hSw HNS.out;have ys:W.cell? ⟨sb,4,none⟩=some (.int .i64 0):=hxS.cell 4;have exs:=hxS.lt)|(have hxS:=Blk.keeps HSp.out hSw (fun h=>by rcases h with h|h <;> first|exact HNS.out h|omega);have ys:W.cell? ⟨sb,4,none⟩=some (.int .i64 0):=hxS.cell 4;have exs:=hxS.lt)|skip));go_simp <;> rfl)
   try simp only [qPA]
   refine wpMonoK_take' 3 (v:=?_) rfl (by kernel_rfl) (by kernel_rfl) (by kernel_rfl) (fun _ _ _ h=>h) (by rfl) ?_ ?_
   rotate_left
   ·(intro W hSw;((first|(have hxW:=Blk.keeps HGp.out hSw HNG.out;have y13:W.cell? ⟨gr,13,none⟩=some (.slice Ak k ck):=hxW.cell 13;have exl:=hxW.lt;have hxS:=Blk.keeps HSp.out hSw HNS.out;have ys:W.cell? ⟨sb,4,none⟩=some (.int .i64 0):=hxS.cell 4;have exs:=hxS.lt)|(have hxS:=Blk.keeps HSp.out hSw (fun h=>by rcases h with h|h <;> first|exact HNS.out h|omega);have ys:W.cell? ⟨sb,4,none⟩=some (.int .i64 0):=hxS.cell 4;have exs:=hxS.lt)|skip));go_simp <;> rfl)
   try simp only [qPA]
   refine wpMonoK_read' 4 [8,9,10,11] (v:=?_) rfl (by kernel_rfl) (by kernel_rfl) (by kernel_rfl) (by kernel_rfl) (by rfl) (fun _ _ _ h=>h) (by rfl) ?_ ?_
   rotate_left
   ·(intro W hSw;((first|(have hxW:=Blk.keeps HGp.out hSw HNG.out;have y13:W.cell? ⟨gr,13,none⟩=some (.slice Ak k ck):=hxW.cell 13;have exl:=hxW.lt;have hxS:=Blk.keeps HSp.out hSw HNS.out;have ys:W.cell? ⟨sb,4,none⟩=some (.int .i64 0):=hxS.cell 4;have exs:=hxS.lt)|(have hxS:=Blk.keeps HSp.out hSw (fun h=>by rcases h with h|h <;> first|exact HNS.out h|omega);have ys:W.cell? ⟨sb,4,none⟩=some (.int .i64 0):=hxS.cell 4;have exs:=hxS.lt)|skip));go_simp <;> rfl)
   try simp only [qPA]
   refine wpMonoK_take' 5 (v:=?_) rfl (by kernel_rfl) (by kernel_rfl) (by kernel_rfl) (fun _ _ _ h=>h) (by rfl) ?_ ?_
   rotate_left
   ·(intro W hSw;((first|(have hxW:=Blk.keeps HGp.out hSw HNG.out;have y13:W.cell? ⟨gr,13,none⟩=some (.slice Ak k ck):=hxW.cell 13;have exl:=hxW.lt;have hxS:=Blk.keeps HSp.out hSw HNS.out;have ys:W.cell? ⟨sb,4,none⟩=some (.int .i64 0):=hxS.cell 4;have exs:=hxS.lt)|(have hxS:=Blk.keeps HSp.out hSw (fun h=>by rcases h with h|h <;> first|exact HNS.out h|omega);have ys:W.cell? ⟨sb,4,none⟩=some (.int .i64 0):=hxS.cell 4;have exs:=hxS.lt)|skip));go_simp <;> rfl)
   try simp only [qPA]
   refine wpMonoK_take' 6 (v:=?_) rfl (by kernel_rfl) (by kernel_rfl) (by kernel_rfl) (fun _ _ _ h=>h) (by rfl) ?_ ?_
   rotate_left
   ·(intro W hSw;((first|(have hxW:=Blk.keeps HGp.out hSw HNG.out;have y13:W.cell? ⟨gr,13,none⟩=some (.slice Ak k ck):=hxW.cell 13;have exl:=hxW.lt;have hxS:=Blk.keeps HSp.out hSw HNS.out;have ys:W.cell? ⟨sb,4,none⟩=some (.int .i64 0):=hxS.cell 4;have exs:=hxS.lt)|(have hxS:=Blk.keeps HSp.out hSw (fun h=>by rcases h with h|h <;> first|exact HNS.out h|omega);have ys:W.cell? ⟨sb,4,none⟩=some (.int .i64 0):=hxS.cell 4;have exs:=hxS.lt)|skip));go_simp <;> rfl)
   try simp only [qPA]
   refine wpMonoK_one' 7 (by kernel_rfl) rfl (by rfl) (fun K hK=>?_)
   go_simp
   have HGq:=Lib.hid (Blk.alloc HGp.out (.cells #[.int .i64 0] 3))
   have HOq:=Lib.hid (own_below HOp.out (below_new wp (.cells #[.int .i64 0] 3)))
   have hgl:=HGp.out.lt
   have HBq:=Lib.hid (HBp.out.trans ((below_new wp (.cells #[.int .i64 0] 3)).mono (Nat.le_of_lt hgl)))
   have HRe:=Lib.hid (Reads.newAt wp #[.int .i64 0] 3 (0,0) (g:=wp.heap.size) (n:=1) (size:=1) rfl rfl)
   refine hK.out _ _ ?_ ?_
   ·exact Go.Proofs.YtdaphppdmnmicaaGreatDoor.monok.stays (Keeps.of_below (below_new _ _))
   clear hK K
   try simp only [qPA]
   refine wpMonoK_one' 8 (by kernel_rfl) rfl (by rfl) (fun K hK=>?_)
   refine wp_append_any _ (.tmp 70) (.tmp 73) _ (by rfl) (gr + 1) 3 i0 _ 1 8 Tryz.underlying26 HI.out.1 HI.out.2.1 HI.out.2.2.1 HI.out.2.2.2 rfl (by omega) (.slice Ak k ck) k _ (by rfl) HOq.out _ _ 1 _ _ (by rfl) HRe.out (fun u hu=>by simp at hu;rcases hu with rfl;rfl) (by unfold maxLen;omega) (by omega) (by simp;omega) fun v8 w8 ho8 hg8 hv8=>?_
   obtain ⟨A8,c8,rfl⟩:=ownsRow_slice ho8
   have HO8:=Lib.hid ho8
   have hk8:Keeps (fun i=>(Value.slice Ak k ck).ownBlock=some i) (wp.alloc (.cells #[.int .i64 0] 3)) w8:=.grown hg8 fun i hi=>.inl hi
   have HG8:=Lib.hid (Blk.keeps HGq.out hk8 HNG.out)
   have HB8:=Lib.hid (HBq.out.trans (hk8.below (B:=gr) (fun i hi e=>by have:=(HOq.out.lt i e).1;omega) (by simp;omega)))
   have z13:=HG8.out.frozen 13
   have y13:w8.cell? ⟨gr,13,none⟩=some (.slice Ak k ck):=HG8.out.cell 13
   have l13:=HG8.out.lt
   refine hK.out _ _ ?_ ?_
   ·exact Go.Proofs.YtdaphppdmnmicaaGreatDoor.monok.moved hk8 (by decide)
   clear hK K
   try simp only [qPA]
   refine wpMonoK_take' 9 (v:=?_) rfl (by kernel_rfl) (by kernel_rfl) (by kernel_rfl) (fun _ _ _ h=>h) (by rfl) ?_ ?_
   rotate_left
   ·(intro W hSw;((first|(have hxW:=Blk.keeps HGp.out hSw HNG.out;have y13:W.cell? ⟨gr,13,none⟩=some (.slice Ak k ck):=hxW.cell 13;have exl:=hxW.lt;have hxS:=Blk.keeps HSp.out hSw HNS.out;have ys:W.cell? ⟨sb,4,none⟩=some (.int .i64 0):=hxS.cell 4;have exs:=hxS.lt)|(have hxS:=Blk.keeps HSp.out hSw (fun h=>by rcases h with h|h <;> first|exact HNS.out h|omega);have ys:W.cell? ⟨sb,4,none⟩=some (.int .i64 0):=hxS.cell 4;have exs:=hxS.lt)|skip));go_simp <;> rfl)
   try simp only [qPA]
   refine wpMonoK_take' 10 (v:=?_) rfl (by kernel_rfl) (by kernel_rfl) (by kernel_rfl) (fun _ _ _ h=>h) (by rfl) ?_ ?_
   rotate_left
   ·(intro W hSw;((first|(have hxW:=Blk.keeps HGp.out hSw HNG.out;have y13:W.cell? ⟨gr,13,none⟩=some (.slice Ak k ck):=hxW.cell 13;have exl:=hxW.lt;have hxS:=Blk.keeps HSp.out hSw HNS.out;have ys:W.cell? ⟨sb,4,none⟩=some (.int .i64 0):=hxS.cell 4;have exs:=hxS.lt)|(have hxS:=Blk.keeps HSp.out hSw (fun h=>by rcases h with h|h <;> first|exact HNS.out h|omega);have ys:W.cell? ⟨sb,4,none⟩=some (.int .i64 0):=hxS.cell 4;have exs:=hxS.lt)|skip));go_simp <;> rfl)
   try simp only [qPA]
   refine wpMonoK_one' 11 (by kernel_rfl) rfl (by rfl) (fun K hK=>?_)
   go_simp
   refine hK.out _ _ ?_ ?_
   ·exact Go.Proofs.YtdaphppdmnmicaaGreatDoor.monok.movedL (Keeps.set1 w8 gr 13 _) (by decide)
   clear hK K
   try simp only [Act.put]
   refine wpMonoK_done (by kernel_rfl) ?_ _
   have HG9:=Lib.hid (HG8.out.set_ 13 (.slice A8 (k + 1) c8))
   have HO9:=Lib.hid (own_keeps HO8.out (Keeps.set1 w8 gr 13 (.slice A8 (k + 1) c8)) (fun i hi e=>by have e:i=gr:=e;omega))
   have HB9:=Lib.hid (HB8.out.setCell (p:=⟨gr,13,none⟩) (Nat.le_refl _) (.slice A8 (k + 1) c8))
   go_wp2_with fail
   go_roundw
   case rel=>exact ⟨k + 1,by go_num,by omega,_,by simpa using HG9.out,by rw [List.replicate_succ',List.map_append];exact HO9.out,HB9.out⟩
   case measure=>simp [intOf];omega
  ·obtain rfl:k=n1:=by omega
   have dk:decide (k≤n)=false:=decide_eq_false hkn
   have dki:decide ((k:Int)≤(n:Int))=false:=decide_eq_false (by omega)
   have k1:Keeps (fun i=>i=b ∨ gr≤i) w wr:=(HK7.out.more fun _ _ h=>.inl h).trans (Keeps.lo hbw (fun i h=>.inr h))
   have HR:=Lib.hid (show Keeps (· = b) w wr from ⟨k1.os,k1.tape,k1.output,k1.size,fun i hi hx=>k1.block i hi (fun e=>by
    rcases e with e|e
    ·exact hx e
    ·omega)⟩)
   clear k1 hg hrow hbw
   go_wp2_with fail
   go_ret2
   exact ⟨_,rfl,HR.out⟩
end Go.Proofs.YtdaphppdmnmicaaGreatDoor.regn
