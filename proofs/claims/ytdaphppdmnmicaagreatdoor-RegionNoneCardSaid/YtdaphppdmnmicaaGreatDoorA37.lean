/- A part of the proof of RegionNone: RecsW, OpenJ. -/
import Derived.Test.YtdaphppdmnmicaaGreatDoorA34
import Derived.LaidEqlPtr
namespace Go.Proofs.YtdaphppdmnmicaaGreatDoor.jrn
open Go Go.RowKit Go.Lib base rowe err rowc wireb jrnp
theorem gen_w (A:Option Addr) (n c:Nat) (l:List Part) (v1 v2 v3 v4:Value) (w:World) (hl:l.length=n) (hn:n≤1048576) (hr:Reads w w.heap.size 4 A n (l.flatMap pcells)) :
  Calls Tryz.prog 73 #[.agg #[.slice A n c,v1,v2,v3,v4]] w fun e w'=>e=.returned (.int .i64 (genL l:Nat))∧Below w.heap.size w w':=by
 have HB:=Lib.hid (below_new w (.cells #[.slice A n c,v1,v2,v3,v4] 177))
 by_cases h0:n=0
 ·subst h0
  have:l=[]:=List.eq_nil_of_length_eq_zero hl
  subst this
  clear hr
  go_enter Tryz.func73,Tryz.ntmps73
  go_wp2_with fail
  go_ret
  exact ⟨rfl,HB.out⟩
 ·obtain ⟨b,off,rfl,hbb,hc⟩:=part_at hr hl (k:=0) (by omega)
  have h1:=four_of hc
  rw [Nat.zero_mul,Nat.add_zero] at h1
  obtain ⟨x0,x1,x2,x3⟩:=h1
  have hcons:l=l.getD 0 pZ :: l.drop 1:=by have:=drop_at (l:=l) (k:=0) (by omega);simpa using this
  generalize l.getD 0 pZ=f at *
  have HG:=Lib.hid (show genL l=if f.kind=1 then f.gen else 0 from by rw [hcons];rfl)
  have hne:(n == 0)=false:=by simp;omega
  have hnp:0 < n:=by omega
  clear hc hr hcons x2 x3
  by_cases hk:f.kind=1
  ·have hk1:((f.kind:Int) != 1)=false:=by simp;omega
   rw [if_pos hk] at HG
   clear hk
   go_enter Tryz.func73,Tryz.ntmps73
   go_wp2_with fail
   go_ret
   exact ⟨by rw [HG.out];rfl,HB.out⟩
  ·have hk1:((f.kind:Int) != 1)=true:=by simp;omega
   rw [if_neg hk] at HG
   clear hk
   go_enter Tryz.func73,Tryz.ntmps73
   go_wp2_with fail
   go_ret
   exact ⟨by rw [HG.out];rfl,HB.out⟩
theorem str_info:(Tryz.prog.info? 9).map (fun i=>(i.zero,i.size,i.bytes))=some (some (.string ⟨#[]⟩),1,16):=by kernel_rfl
theorem recs_next {l:List Part} {k:Nat} (h:k < l.length):recordsL (l.take (k + 1))=recordsL (l.take k) ++ (if (l.getD k pZ).kind=2 then [(l.getD k pZ).text] else []):=by
 have e:l.take (k + 1)=l.take k ++ [l.getD k pZ]:=by
  rw [List.take_succ_eq_append_getElem h,List.getD_eq_getElem?_getD,List.getElem?_eq_getElem h]
  rfl
 unfold recordsL
 rw [e,List.filter_append,List.map_append]
 congr 1
 generalize l.getD k pZ=p
 by_cases hk:p.kind=2
 ·rw [if_pos hk];simp [hk]
 ·rw [if_neg hk];simp [hk]
theorem recs_le (l:List Part):(recordsL l).length≤l.length:=by
 unfold recordsL
 rw [List.length_map]
 exact List.length_filter_le _ _
def OwnS (w:World) (base:Nat) (v:Value) (l:List (List UInt8)):Prop:=w.ownsRow base 9 1 v l.length (scells l)
theorem OwnS.none (w:World) (base:Nat):OwnS w base (.slice none 0 0) []:=⟨rfl,.inl ⟨rfl,rfl⟩⟩
theorem OwnS.form {w:World} {base:Nat} {v:Value} {l:List (List UInt8)} (h:OwnS w base v l):∃ A c,v=.slice A l.length c:=ownsRow_slice h
set_option maxRecDepth 10000 in
set_option maxHeartbeats 1600000 in
theorem records_w (A:Option Addr) (n c:Nat) (l:List Part) (v1 v2 v3 v4:Value) (w:World) (hl:l.length=n) (hn:n≤1048576) (hr:Reads w w.heap.size 4 A n (l.flatMap pcells)) :
  Calls Tryz.prog 79 #[.agg #[.slice A n c,v1,v2,v3,v4]] w fun e w'=>∃ v,e=.returned v∧OwnS w' w.heap.size v (recordsL l)∧Below w.heap.size w w':=by
 obtain ⟨i0,hi,hz⟩:=Option.map_eq_some_iff.1 str_info
 simp only [Prod.mk.injEq] at hz
 obtain ⟨hz0,hz1,hz2⟩:=hz
 have HB:=Lib.hid (below_new w (.cells #[.slice A n c,v1,v2,v3,v4] 177))
 have HR:=Lib.hid hr
 clear hr
 go_enter Tryz.func79,Tryz.ntmps79
 go_wp2_with fail
 generalize w.alloc (.cells #[.slice A n c,v1,v2,v3,v4] 177)=w0 at *
 go_loopw [3,9,5] (fun o i _ wr=>∃ k:Nat,i=.int .i64 k∧k≤n∧OwnS wr w.heap.size o (recordsL (l.take k))∧Below w.heap.size w wr) (fun _ i _ _=>n - (intOf i).toNat)
 case atStart=>exact ⟨0,rfl,by omega,OwnS.none _ _,HB.out⟩
 case round =>
  obtain ⟨k,rfl,hk,hown,hbw⟩:=hrel
  have hsz:=hbw.size
  by_cases hkn:k < n
  ·have dk:decide ((k:Int) < (n:Int))=true:=decide_eq_true (by omega)
   obtain ⟨b,off,rfl,hbb,hc⟩:=part_at (HR.out.below hbw) hl hkn
   obtain ⟨e0,e1,e2,e3⟩:=four_of hc
   have hbl:b < wr.heap.size:=by omega
   have HNX:=Lib.hid (recs_next (l:=l) (k:=k) (by omega))
   have hle:=recs_le (l.take k)
   rw [List.length_take] at hle
   generalize l.getD k pZ=p at *
   obtain ⟨q,hq⟩:∃ q,recordsL (l.take k)=q:=⟨_,rfl⟩
   rw [hq] at hown hle HNX
   have Hown:=Lib.hid (show (wr.alloc (.cells #[.int .i64 p.kind,.int .i64 p.gen,.int .i64 p.place,.string (str p.text)] 184)).ownsRow w.heap.size 9 1 _ q.length (scells q) from own_below hown (below_new _ _))
   have Hbw:=Lib.hid (below_alloc hbw (.cells #[.int .i64 p.kind,.int .i64 p.gen,.int .i64 p.place,.string (str p.text)] 184))
   clear hown hbw hc
   by_cases hk2:p.kind=2
   ·have d2:((p.kind:Int) == 2)=true:=by simp;omega
    rw [if_pos hk2] at HNX
    clear hk2
    go_wp2_with (at_builtin;refine wpList_append_newAt rfl (.tmp 16) (.tmp 19) _ rfl w.heap.size 9 i0 _ 1 16 Tryz.underlying78 hi hz0 hz1 hz2 rfl (by decide) _ q.length _ rfl Hown.out 1 1 (wr.heap.size + 1) (by simp) [_] rfl rfl (by simp [Value.oneCell']) (by unfold maxLen;omega) (by omega) (by simp;omega) ?_;intro v1 w5 hown1 hbw1 hgr1 hwh1;have Hown1:=Lib.hid hown1;have Hbw1:=Lib.hid (Hbw.out.trans hbw1);clear hown1 hbw1 hgr1 hwh1)
    go_roundw
    case rel =>
     refine ⟨k + 1,by go_num,by omega,?_,Hbw1.out⟩
     have h:=Hown1.out
     rw [HNX.out]
     unfold OwnS
     rw [List.length_append]
     have e:scells (q ++ [p.text])=scells q ++ [.string (str p.text)]:=by simp [scells]
     rw [e]
     exact h
    case measure=>simp [intOf];omega
   ·have d2:((p.kind:Int) == 2)=false:=by simp;omega
    rw [if_neg hk2,List.append_nil] at HNX
    clear hk2
    go_wp2_with fail
    go_roundw
    case rel=>exact ⟨k + 1,by go_num,by omega,by rw [HNX.out];exact Hown.out,Hbw.out⟩
    case measure=>simp [intOf];omega
  ·obtain rfl:n=k:=by omega
   have dk:decide ((n:Int) < (n:Int))=false:=by simp
   rw [show l.take n=l from by rw [← hl];exact List.take_length] at hown
   have Hown:=Lib.hid hown
   have Hbw:=Lib.hid hbw
   clear hown hbw
   go_wp2_with fail
   go_ret
   exact ⟨_,rfl,Hown.out,Hbw.out⟩
end Go.Proofs.YtdaphppdmnmicaaGreatDoor.jrn
namespace Go.Proofs.YtdaphppdmnmicaaGreatDoor.jrn
open Go Go.RowKit Go.Lib base rowe err rowc wireb jrnp diskp disk monoj
section
variable {w w':World} {Sa Sb:Nat→Prop} {a b:Nat} {da db:Dk}
def FreshR (Sb:Nat→Prop) (a b:Nat) (db:Dk) (w:World) (e:Ending) (w':World):Prop :=
 ∃ j Sb',e=.returned (.tuple #[.pointer (some ⟨j,0,none⟩),.slice none 0 0,.nilIface])∧w.heap.size≤j∧JrnB w' j b a 1∧Grow Sb Sb' w∧DiskS w' Sb' b db∧¬ Sb' j∧Keeps Sb w w'
theorem disk_in {S:Nat→Prop} {g:Nat} {d:Dk} (h:DiskS w S g d):S g:=by obtain ⟨v,h⟩:=h;exact h.inG
theorem disk_info:(Tryz.prog.info? 165).map (·.size)=some 5:=by kernel_rfl
theorem disk_ne {S S':Nat→Prop} {a b:Nat} {d d':Dk} (h:DiskS w S a d) (h':DiskS w S' b d') (hne:¬ a=b):(binOp .eql 48 (.pointer (some ⟨a,0,none⟩)) (.pointer (some ⟨b,0,none⟩))).run Tryz.prog w=.ok (.bool false) w:=by
 obtain ⟨j,hj,hs⟩:=Option.map_eq_some_iff.1 disk_info
 obtain ⟨v,h⟩:=h
 obtain ⟨v',h'⟩:=h'
 exact run_eql_ptr_other w Tryz.underlying48 hj (by omega) (fun e=>hne (by injection e)) h.blk h'.blk
set_option maxRecDepth 10000 in
set_option maxHeartbeats 3200000 in
theorem open_fresh (hda:DiskS w Sa a da) (hdb:DiskS w Sb b db) (hwa:Well da []) (hwb:Well db []) (hab:∀ i,Sa i→¬ Sb i) (hroom:(dev (startL 1 [])).length≤db.room) :
  Calls Tryz.prog 29 #[.pointer (some ⟨a,0,none⟩),.pointer (some ⟨b,0,none⟩)] w (FreshR Sb a b { db with b:=dev (startL 1 []),safe:=(dev (startL 1 [])).length } w):=by
 have hne:¬ a=b:=fun e=>hab a (disk_in hda) (by rw [e];exact disk_in hdb)
 have heq:=disk_ne hda hdb hne
 have hna:=hwa.down
 have hnb:=hwb.down
 have hfb:=hwb.fuse
 have HDA:=Lib.hid hda
 have HDB:=Lib.hid hdb
 have HWA:=Lib.hid hwa
 have HWB:=Lib.hid hwb
 clear hda hdb hwa hwb
 go_enter Tryz.func29,Tryz.ntmps29
 go_wp2_with fail
 refine (down_any HDA.out).mono ?_
 rintro e w1 ⟨rfl,rfl⟩
 rw [hna]
 go_wp2_with fail
 refine (down_any HDB.out).mono ?_
 rintro e w1 ⟨rfl,rfl⟩
 rw [hnb]
 go_wp2_with fail
 refine (scan_w [] _ HDA.out HWA.out).mono ?_
 rintro e w2 ⟨vpa,vea,rfl,hpa,hea,hb2⟩
 obtain ⟨Aa,ca,rfl⟩:=hpa.form
 obtain ⟨Ba,ba,rfl⟩:=hea.form
 have HDB2:=Lib.hid (HDB.out.below hb2)
 have HDA2:=Lib.hid (HDA.out.below hb2)
 have HB2:=Lib.hid hb2
 clear hpa hea hb2
 rw [show (dev ([]:List Part)).length=0 from rfl,show ordered []=false from rfl,show (endsL []).length=0 from rfl]
 go_wp2_with fail
 refine (scan_w [] _ (HDB2.out.below (below_new _ _)) HWB.out).mono ?_
 rintro e w3 ⟨vpb,veb,rfl,hpb,heb,hb3⟩
 obtain ⟨Ab,cb,rfl⟩:=hpb.form
 obtain ⟨Eb,eb,rfl⟩:=heb.form
 have hsz2:(w2.alloc (.cells #[.slice Aa 0 ca,.slice Ba 0 ba,.int .i64 0,.bool false,.bool false] 177)).heap.size=w2.heap.size + 1:=by simp
 rw [hsz2] at hpb heb hb3
 obtain ⟨ga,hga⟩:∃ x,w2.heap.size=x:=⟨_,rfl⟩
 have HGA:=Lib.hid ((Blk.new w2 177 #[.slice Aa 0 ca,.slice Ba 0 ba,.int .i64 0,.bool false,.bool false]).below hb3 (by omega))
 have hb23:Below w2.heap.size w2 w3:=(below_new w2 (.cells #[.slice Aa 0 ca,.slice Ba 0 ba,.int .i64 0,.bool false,.bool false] 177)).trans (hb3.mono (by omega))
 have HDA3:=Lib.hid (HDA2.out.below hb23)
 have HDB3:=Lib.hid (HDB2.out.below hb23)
 have HB3:=Lib.hid (HB2.out.trans (hb23.mono HB2.out.size))
 have HPB:=Lib.hid hpb
 have hga1:w1.heap.size≤ga:=by have:=HB2.out.size;omega
 have hga3:ga < w3.heap.size:=by have:=hb3.size;omega
 rw [hga] at HGA ⊢
 clear hpb heb hb3 hb23 HDA2 HDB2 HB2 hsz2
 rw [show (dev ([]:List Part)).length=0 from rfl,show ordered []=false from rfl,show (endsL []).length=0 from rfl]
 have x3:w3.cell? ⟨ga,3,none⟩=_:=HGA.out.cell 3
 have x4:w3.cell? ⟨ga,4,none⟩=_:=HGA.out.cell 4
 simp at x3 x4
 go_wp2_with fail
 go_quiet (fail)
 go_wp2_with fail
 go_quiet (fail)
 rename_i nq1
 go_wp2_with fail
 have hbn:∀ m,Below w3.heap.size w3 (((w3.alloc (.cells #[.slice Ab 0 cb,.slice Eb 0 eb,.int .i64 0,.bool false,.bool false] 177)).drewN m).alloc (.cells #[.pointer (some ⟨a,0,none⟩),.pointer (some ⟨b,0,none⟩),.int .i64 0,.bool false] 181)):=fun m =>
  below_alloc (below_drewN (below_new w3 _) m) _
 have hjn:∀ m,JrnB (((w3.alloc (.cells #[.slice Ab 0 cb,.slice Eb 0 eb,.int .i64 0,.bool false,.bool false] 177)).drewN m).alloc (.cells #[.pointer (some ⟨a,0,none⟩),.pointer (some ⟨b,0,none⟩),.int .i64 0,.bool false] 181)) (w3.heap.size + 1) a b 0:=fun m=>Blk.newAt _ _ _ (by simp)
 have HBN:=Lib.hid hbn
 have HJN:=Lib.hid hjn
 have hsmall:∀ i,Sb i→i < w3.heap.size:=by obtain ⟨v,hv⟩:=HDB3.out;exact hv.small
 refine (start_w (w3.heap.size + 1) a b 0 0 0 none [] (by omega) rfl (by omega) (fun s h=>by cases h) Reads.none_ (HJN.out _) (HDB3.out.below (HBN.out _)) (fun h=>by have:=hsmall _ h;omega) (fun _ _ h=>by cases h) hnb hfb hroom).mono ?_
 rintro e w6 ⟨rfl,Sb',hg6,hd6,hk6,hj6⟩
 have HR:=Lib.hid (show FreshR Sb a b { db with b:=dev (startL 1 []),safe:=(dev (startL 1 [])).length } w1 (.returned (.tuple #[.pointer (some ⟨(w3.heap.size + 1),0,none⟩),.slice none 0 0,.nilIface])) w6 from by
  have hbw:=HB3.out.trans ((HBN.out (nq1 + nq)).mono HB3.out.size)
  refine ⟨_,Sb',rfl,by have:=HB3.out.size;omega,hj6,⟨hg6.1,fun i hi=>(hg6.2 i hi).imp id fun h=>Nat.le_trans hbw.size h⟩,hd6,?_,?_⟩
  ·intro h
   rcases hg6.2 _ h with h|h
   ·have:=hsmall _ h;omega
   ·simp at h
    omega
  ·have hk:Keeps Sb w1 _:=Keeps.of_below hbw
   refine ⟨hk6.os.trans hk.os,hk6.tape.trans hk.tape,hk6.output.trans hk.output,Nat.le_trans hk.size hk6.size,fun i hi hs=>(hk6.block i (Nat.lt_of_lt_of_le hi hk.size) (fun h=>?_)).trans (hk.block i hi hs)⟩
   rcases h with h|h
   ·exact hs h
   ·have:=HB3.out.size;omega)
 clear hg6 hd6 hk6 hj6 hbn hjn x3 x4
 go_wp2_with fail
 go_ret3
 exact HR.out
def AgainR (a b:Nat) (l:List Part) (w:World) (e:Ending) (w':World):Prop :=
 ∃ j v,e=.returned (.tuple #[.pointer (some ⟨j,0,none⟩),v,.nilIface])∧w.heap.size≤j∧JrnB w' j b a (genL l)∧OwnS w' w.heap.size v (recordsL l)∧v.ownBlock ≠ some j∧Below w.heap.size w w'
set_option maxRecDepth 10000 in
set_option maxHeartbeats 3200000 in
theorem open_again (l : List Part) (hda : DiskS w Sa a da) (hdb : DiskS w Sb b db) (hwa : Well da []) (hwb : Well db l) (hab : ∀ i, Sa i → ¬ Sb i) (ho : ordered l = true) (hl0 : 0 < l.length) (hlast : (l.getD (l.length - 1) pZ).kind = 4) :
    Calls Tryz.prog 29 #[.pointer (some ⟨a, 0, none⟩), .pointer (some ⟨b, 0, none⟩)] w (AgainR a b l w) := by
  have hne : ¬ a = b := fun e => hab a (disk_in hda) (by rw [e]; exact disk_in hdb)
  have heq := disk_ne hda hdb hne
  have hna := hwa.down
  have hnb := hwb.down
  have hfew := few_dev l
  have hdl : (dev l).length ≤ 1048576 := by rw [← hwb.b]; exact hwb.few
  have hbl := hwb.b
  have HDA := Lib.hid hda
  have HDB := Lib.hid hdb
  have HWA := Lib.hid hwa
  have HWB := Lib.hid hwb
  clear hda hdb hwa hwb
  go_enter Tryz.func29, Tryz.ntmps29
  go_wp2_with fail
  refine (down_any HDA.out).mono ?_
  rintro e w1 ⟨rfl, rfl⟩
  rw [hna]
  go_wp2_with fail
  refine (down_any HDB.out).mono ?_
  rintro e w1 ⟨rfl, rfl⟩
  rw [hnb]
  go_wp2_with fail
  refine (scan_w [] _ HDA.out HWA.out).mono ?_
  rintro e w2 ⟨vpa, vea, rfl, hpa, hea, hb2⟩
  obtain ⟨Aa, ca, rfl⟩ := hpa.form
  obtain ⟨Ba, ba, rfl⟩ := hea.form
  have HDB2 := Lib.hid (HDB.out.below hb2)
  have HDA2 := Lib.hid (HDA.out.below hb2)
  have HB2 := Lib.hid hb2
  clear hpa hea hb2
  rw [show (dev ([] : List Part)).length = 0 from rfl, show ordered [] = false from rfl, show (endsL []).length = 0 from rfl]
  go_wp2_with fail
  refine (scan_w l _ (HDB2.out.below (below_new _ _)) HWB.out).mono ?_
  rintro e w3 ⟨vpb, veb, rfl, hpb, heb, hb3⟩
  obtain ⟨Ab, cb, rfl⟩ := hpb.form
  obtain ⟨Eb, eb, rfl⟩ := heb.form
  have hsz2 : (w2.alloc (.cells #[.slice Aa 0 ca, .slice Ba 0 ba, .int .i64 0, .bool false, .bool false] 177)).heap.size = w2.heap.size + 1 := by simp
  rw [hsz2] at hpb heb hb3
  obtain ⟨ga, hga⟩ : ∃ x, w2.heap.size = x := ⟨_, rfl⟩
  have HGA := Lib.hid ((Blk.new w2 177 #[.slice Aa 0 ca, .slice Ba 0 ba, .int .i64 0, .bool false, .bool false]).below hb3 (by omega))
  have hb23 : Below w2.heap.size w2 w3 := (below_new w2 (.cells #[.slice Aa 0 ca, .slice Ba 0 ba, .int .i64 0, .bool false, .bool false] 177)).trans (hb3.mono (by omega))
  have HDA3 := Lib.hid (HDA2.out.below hb23)
  have HDB3 := Lib.hid (HDB2.out.below hb23)
  have HB3 := Lib.hid (HB2.out.trans (hb23.mono HB2.out.size))
  have HPB := Lib.hid hpb
  have hga1 : w1.heap.size ≤ ga := by have := HB2.out.size; omega
  have hga3 : ga < w3.heap.size := by have := hb3.size; omega
  rw [hga] at HGA ⊢
  clear hpb heb hb3 hb23 HDA2 HDB2 HB2 hsz2
  have hel : (endsL l).length = l.length := by unfold endsL; simp
  rw [ho, hel]
  obtain ⟨n, hn⟩ : ∃ n, l.length = n := ⟨_, rfl⟩
  obtain ⟨L, hL⟩ : ∃ n, (dev l).length = n := ⟨_, rfl⟩
  rw [hn, hL]
  rw [hn] at HPB hfew hl0 hlast
  rw [hL] at hfew hdl
  have x0 : w3.cell? ⟨ga, 0, none⟩ = _ := HGA.out.cell 0
  have x1 : w3.cell? ⟨ga, 1, none⟩ = _ := HGA.out.cell 1
  have x2 : w3.cell? ⟨ga, 2, none⟩ = _ := HGA.out.cell 2
  have x3 : w3.cell? ⟨ga, 3, none⟩ = _ := HGA.out.cell 3
  have x4 : w3.cell? ⟨ga, 4, none⟩ = _ := HGA.out.cell 4
  simp at x0 x1 x2 x3 x4
  go_wp2_with fail
  go_quiet (fail)
  go_wp2_with fail
  go_quiet (fail)
  rename_i nq1
  go_wp2_with fail
  have hb34 : Below w3.heap.size w3 ((w3.alloc (.cells #[.slice Ab n cb, .slice Eb n eb, .int .i64 L, .bool false, .bool true] 177)).drewN (nq1 + nq)) := below_drewN (below_new w3 _) _
  have HGB := Lib.hid ((Blk.new w3 177 #[.slice Ab n cb, .slice Eb n eb, .int .i64 L, .bool false, .bool true]).drewN (nq1 + nq))
  have HGA4 := Lib.hid (HGA.out.below hb34 hga3)
  have HDB4 := Lib.hid (HDB3.out.below hb34)
  have HB4 := Lib.hid (HB3.out.trans (hb34.mono HB3.out.size))
  have HPB4 := Lib.hid (own_below HPB.out hb34)
  have hs4 := hb34.size
  obtain ⟨gb, hgb⟩ : ∃ x, w3.heap.size = x := ⟨_, rfl⟩
  have hgab : ga < gb := by omega
  rw [hgb] at HGB ⊢
  clear HGA HDA3 HDB3 HB3 HPB hb34 x0 x1 x2 x3 x4
  generalize (w3.alloc (.cells #[.slice Ab n cb, .slice Eb n eb, .int .i64 L, .bool false, .bool true] 177)).drewN (nq1 + nq) = w4 at *
  refine (gen_w Aa 0 ca [] (.slice Ba 0 ba) (.int .i64 0) (.bool false) (.bool false) _ rfl (by omega) Reads.none_).mono ?_
  rintro e w5 ⟨rfl, hb5⟩
  have HGA := Lib.hid (HGA4.out.below hb5 HGA4.out.lt)
  have HGB5 := Lib.hid (HGB.out.below hb5 HGB.out.lt)
  have HDB5 := Lib.hid (HDB4.out.below hb5)
  have HPB5 := Lib.hid (own_below HPB4.out hb5)
  have HB5 := Lib.hid (HB4.out.trans (hb5.mono HB4.out.size))
  rw [show ((genL [] : Nat) : Int) = 0 from rfl]
  clear hb5 HGA4 HGB HDB4 HPB4 HB4
  have x4 : w5.cell? ⟨ga, 4, none⟩ = _ := HGA.out.cell 4
  have gl := HGA.out.lt
  simp at x4
  go_wp2_with fail
  go_quiet (fail)
  go_wp2_with fail
  have hb56 : Below w5.heap.size w5 ((w5.alloc (.cells #[.pointer (some ⟨a, 0, none⟩), .pointer (some ⟨b, 0, none⟩), .int .i64 0, .bool false] 181)).drewN nq) := below_drewN (below_new w5 _) _
  have HGA6 := Lib.hid (HGA.out.below hb56 gl)
  have HGB6 := Lib.hid (HGB5.out.below hb56 HGB5.out.lt)
  have HDB6 := Lib.hid (HDB5.out.below hb56)
  have HPB6 := Lib.hid (own_below HPB5.out hb56)
  have HB6 := Lib.hid (HB5.out.trans (hb56.mono HB5.out.size))
  clear HGA HGB5 HDB5 HPB5 HB5 x4 hb56
  generalize (w5.alloc (.cells #[.pointer (some ⟨a, 0, none⟩), .pointer (some ⟨b, 0, none⟩), .int .i64 0, .bool false] 181)).drewN nq = w6 at *
  have hpb6 := own_below HPB6.out (Below.refl w6.heap.size w6).drew
  rw [hn] at hpb6
  have HRB6 := Lib.hid (Reads.of_own hpb6)
  clear hpb6
  refine wp_region_monoJ (fun i => i = ga) [7] (by kernel_rfl) ?_
  iterate 4
    first | refine qJ 0 (v := ?_) ?_ ?_ | refine qJ 1 (v := ?_) ?_ ?_ | refine qJ 2 (v := ?_) ?_ ?_ | refine qJ 3 (v := ?_) ?_ ?_
    rotate_left
    · (intro W hSw; (first | (have hxW := HGB6.out.drew.keeps hSw (by omega); have y0 : W.cell? ⟨gb, 0, none⟩ = some (.slice Ab n cb) := hxW.cell 0; have y1 : W.cell? ⟨gb, 1, none⟩ = some (.slice Eb n eb) := hxW.cell 1; have y2 : W.cell? ⟨gb, 2, none⟩ = some (.int .i64 L) := hxW.cell 2; have y3 : W.cell? ⟨gb, 3, none⟩ = some (.bool false) := hxW.cell 3; have y4 : W.cell? ⟨gb, 4, none⟩ = some (.bool true) := hxW.cell 4; have exl := hxW.lt) | skip); go_simp <;> rfl)
    try simp only [qPA]
  refine wpMonoJ_one' 4 (by kernel_rfl) rfl (by rfl) (fun K hK => ?_)
  go_simp
  refine (gen_w Ab n cb l (.slice Eb n eb) (.int .i64 L) (.bool false) (.bool true) _ hn (by omega) HRB6.out).mono ?_
  rintro e w7 ⟨rfl, hb7⟩
  have hb67 : Below w6.heap.size w6 w7 := (Below.refl _ w6).drew.trans hb7
  have HGA7 := Lib.hid (HGA6.out.below hb67 HGA6.out.lt)
  have HGB7 := Lib.hid (HGB6.out.below hb67 HGB6.out.lt)
  have HDB7 := Lib.hid (HDB6.out.below hb67)
  have HPB7 := Lib.hid (own_below HPB6.out hb67)
  have HB7 := Lib.hid (HB6.out.trans (hb67.mono HB6.out.size))
  have HBW := Lib.hid hb7
  clear hb7 hb67
  refine hK.out _ _ (.of_below HBW.out) ?_
  clear hK K
  try simp only [qPA]
  refine qJ 5 (v := ?_) ?_ ?_; rotate_left
  · (intro W hSw
     go_simp; first | done | rfl)
  try simp only [qPA]
  refine wpMonoJ_two' 6 7 (by kernel_rfl) rfl (by rfl) rfl (by rfl) (fun K hK => ?_) (fun K hK => ?_)
  · skip
    go_simp
    have hb78 := below_new w7 (.cells #[.pointer (some ⟨b, 0, none⟩), .pointer (some ⟨a, 0, none⟩), .int .i64 (genL l : Nat), .bool false] 181)
    have HJ8 := Lib.hid (show JrnB (w7.alloc (.cells #[.pointer (some ⟨b, 0, none⟩), .pointer (some ⟨a, 0, none⟩), .int .i64 (genL l : Nat), .bool false] 181)) w7.heap.size b a (genL l) from Blk.new _ _ _)
    have HGA8 := Lib.hid (HGA7.out.below hb78 HGA7.out.lt)
    have HDB8 := Lib.hid (HDB7.out.below hb78)
    have HPB8 := Lib.hid (own_below HPB7.out hb78)
    have HB8 := Lib.hid (HB7.out.trans (hb78.mono HB7.out.size))
    refine hK.out _ _ (Keeps.alloc _) ?_
    clear hK K
    try simp only [qPA]
    clear hb78
    obtain ⟨jj, hjj⟩ : ∃ x, w7.heap.size = x := ⟨_, rfl⟩
    have hgaj : ga < jj := by have := HGA7.out.lt; omega
    rw [hjj] at HJ8 ⊢
    generalize w7.alloc (.cells #[.pointer (some ⟨b, 0, none⟩), .pointer (some ⟨a, 0, none⟩), .int .i64 (genL l : Nat), .bool false] 181) = w8 at *
    refine wpMonoJ_one' 7 (by kernel_rfl) rfl (by rfl) (fun K hK => ?_)
    refine wp_store_at 177 (.tmp 8) (.tmp 152) rfl ga 0 [.slice Ab n cb, .slice Eb n eb, .int .i64 L, .bool false, .bool true] rfl rfl HGA8.out rfl (by simp) rfl (fun w9 hq1 hq2 hq3 => ?_)
    refine hK.out _ _ (moved hq2 (by decide)) ?_
    clear hK K
    try simp only [Act.put]
    refine qJ 8 (v := ?_) ?_ ?_; rotate_left
    · (intro W hSw
       go_simp; first | done | rfl)
    try simp only [qPA]
    refine wpMonoJ_done (by kernel_rfl) ?_ _
    have hsm : ∀ i, Sb i → i < w1.heap.size := by obtain ⟨v, hv⟩ := HDB.out; exact hv.small
    have HJ9 := Lib.hid (show JrnB w9 jj b a (genL l) from HJ8.out.keeps hq2 (by omega))
    have HGA9 := Lib.hid (show Blk w9 ga 177 #[.slice Ab n cb, .slice Eb n eb, .int .i64 L, .bool false, .bool true] from hq1)
    have HDB9 := Lib.hid (HDB8.out.keeps hq2 (fun i hi e => by have h1 : i = ga := e; have := hsm i hi; omega))
    have HPB9 := Lib.hid (base.own_keeps HPB8.out hq2 (fun i hi e => by omega))
    have HB9 := Lib.hid (HB8.out.trans (hq2.below (B := w1.heap.size) (fun i hi e => by omega) HB8.out.size))
    clear hq1 hq2 hq3
    have z0 : w9.cell? ⟨ga, 0, none⟩ = _ := HGA9.out.cell 0
    have z1 : w9.cell? ⟨ga, 1, none⟩ = _ := HGA9.out.cell 1
    have z2 : w9.cell? ⟨ga, 2, none⟩ = _ := HGA9.out.cell 2
    have z3 : w9.cell? ⟨ga, 3, none⟩ = _ := HGA9.out.cell 3
    have z4 : w9.cell? ⟨ga, 4, none⟩ = _ := HGA9.out.cell 4
    have zl := HGA9.out.lt
    have j0 : w9.cell? ⟨jj, 0, none⟩ = _ := HJ9.out.cell 0
    have jl := HJ9.out.lt
    simp at z0 z1 z2 z3 z4 j0
    have hlen : (if db.down then 0 else db.b.length) = L := by rw [hnb, hbl, hL]; rfl
    go_wp2_with fail
    refine wp_region_mono nobody (by kernel_rfl) ?_
    iterate 6
      first | refine qT 0 (v := ?_) ?_ ?_ | refine qT 1 (v := ?_) ?_ ?_ | refine qT 2 (v := ?_) ?_ ?_ | refine qT 3 (v := ?_) ?_ ?_ | refine qT 4 (v := ?_) ?_ ?_ | refine qT 5 (v := ?_) ?_ ?_
      rotate_left
      · (intro W hSw; (have hcW := hSw.cells; try simp only [qSd] at hcW); go_simp <;> rfl)
      try simp only [qPA]
    refine wpMono_one' 6 (by kernel_rfl) rfl (by rfl) (fun K hK => ?_)
    go_simp
    refine (len_any HDB9.out.drew).mono ?_
    rintro e w10 ⟨rfl, rfl⟩
    rw [hlen]
    refine hK.out _ _ ?_ ?_
    · exact .refl _ _
    clear hK K
    try simp only [qPA]
    refine qT 7 (v := ?_) ?_ ?_; rotate_left
    · (intro W hSw; (have hcW := hSw.cells; try simp only [qSd] at hcW); go_simp <;> rfl)
    try simp only [qPA]
    refine wpMono_done (by kernel_rfl) ?_ _
    have hpb9 := own_below HPB9.out (Below.refl w9.heap.size w9).drew
    rw [hn] at hpb9
    have HRD := Lib.hid (Reads.of_own hpb9)
    obtain ⟨m, rfl⟩ : ∃ m, n = m + 1 := ⟨n - 1, by omega⟩
    obtain ⟨bp, op, rfl, hbpl, hcp⟩ := part_at HRD.out hn (k := m) (by omega)
    obtain ⟨e0, _, _, _⟩ := four_of hcp
    rw [Nat.add_sub_cancel] at hlast
    rw [hlast] at e0
    have e0 : w9.cell? ⟨bp, op + m * 4, none⟩ = some (.int .i64 4) := e0
    have dLL : decide ((L : Int) < (L : Int)) = false := by simp
    clear hpb9 hcp hlast
    go_wp2_with fail
    refine (records_w (some ⟨bp, op, none⟩) (m + 1) cb l (.slice Eb (m + 1) eb) (.int .i64 L) (.bool false) (.bool true) _ hn (by omega) HRD.out).mono ?_
    rintro e w11 ⟨vr, rfl, hor, hb11⟩
    obtain ⟨Ar, cr, rfl⟩ := hor.form
    have hsz9 := HB9.out.size
    have HR := Lib.hid (show AgainR a b l w1 (.returned (.tuple #[.pointer (some ⟨jj, 0, none⟩), .slice Ar (recordsL l).length cr, .nilIface])) w11 from
      ⟨jj, _, rfl, by omega, HJ9.out.drew.below hb11 (by simpa using jl), own_low' hor (by simpa using hsz9), fun e => by have := (hor.lt jj e).1; simp at this; omega, HB9.out.drew.trans (hb11.mono (by simpa using hsz9))⟩)
    clear hor hb11
    go_wp2_with fail
    go_ret3
    exact HR.out
  · skip
    refine wp_store_at 177 (.tmp 8) (.tmp 152) rfl ga 0 [.slice Ab n cb, .slice Eb n eb, .int .i64 L, .bool false, .bool true] rfl rfl HGA7.out rfl (by simp) rfl (fun w8 hq1 hq2 hq3 => ?_)
    refine hK.out _ _ (moved hq2 (by decide)) ?_
    clear hK K
    try simp only [Act.put]
    have hsm : ∀ i, Sb i → i < w1.heap.size := by obtain ⟨v, hv⟩ := HDB.out; exact hv.small
    have HGA8 := Lib.hid (show Blk w8 ga 177 #[.slice Ab n cb, .slice Eb n eb, .int .i64 L, .bool false, .bool true] from hq1)
    have HDB8 := Lib.hid (HDB7.out.keeps hq2 (fun i hi e => by have h1 : i = ga := e; have := hsm i hi; omega))
    have HPB8 := Lib.hid (base.own_keeps HPB7.out hq2 (fun i hi e => by omega))
    have HB8 := Lib.hid (HB7.out.trans (hq2.below (B := w1.heap.size) (fun i hi e => by omega) HB7.out.size))
    clear hq1 hq2 hq3
    refine wpMonoJ_one' 6 (by kernel_rfl) rfl (by rfl) (fun K hK => ?_)
    go_simp
    have hb89 := below_new w8 (.cells #[.pointer (some ⟨b, 0, none⟩), .pointer (some ⟨a, 0, none⟩), .int .i64 (genL l : Nat), .bool false] 181)
    have HJ9 := Lib.hid (show JrnB (w8.alloc (.cells #[.pointer (some ⟨b, 0, none⟩), .pointer (some ⟨a, 0, none⟩), .int .i64 (genL l : Nat), .bool false] 181)) w8.heap.size b a (genL l) from Blk.new _ _ _)
    have HGA9 := Lib.hid (HGA8.out.below hb89 HGA8.out.lt)
    have HDB9 := Lib.hid (HDB8.out.below hb89)
    have HPB9 := Lib.hid (own_below HPB8.out hb89)
    have HB9 := Lib.hid (HB8.out.trans (hb89.mono HB8.out.size))
    refine hK.out _ _ (Keeps.alloc _) ?_
    clear hK K
    try simp only [qPA]
    clear hb89
    obtain ⟨jj, hjj⟩ : ∃ x, w8.heap.size = x := ⟨_, rfl⟩
    have hgaj : ga < jj := by have := HGA8.out.lt; omega
    rw [hjj] at HJ9 ⊢
    generalize w8.alloc (.cells #[.pointer (some ⟨b, 0, none⟩), .pointer (some ⟨a, 0, none⟩), .int .i64 (genL l : Nat), .bool false] 181) = w9 at *
    refine qJ 8 (v := ?_) ?_ ?_; rotate_left
    · (intro W hSw
       go_simp; first | done | rfl)
    try simp only [qPA]
    refine wpMonoJ_done (by kernel_rfl) ?_ _
    have z0 : w9.cell? ⟨ga, 0, none⟩ = _ := HGA9.out.cell 0
    have z1 : w9.cell? ⟨ga, 1, none⟩ = _ := HGA9.out.cell 1
    have z2 : w9.cell? ⟨ga, 2, none⟩ = _ := HGA9.out.cell 2
    have z3 : w9.cell? ⟨ga, 3, none⟩ = _ := HGA9.out.cell 3
    have z4 : w9.cell? ⟨ga, 4, none⟩ = _ := HGA9.out.cell 4
    have zl := HGA9.out.lt
    have j0 : w9.cell? ⟨jj, 0, none⟩ = _ := HJ9.out.cell 0
    have jl := HJ9.out.lt
    simp at z0 z1 z2 z3 z4 j0
    have hlen : (if db.down then 0 else db.b.length) = L := by rw [hnb, hbl, hL]; rfl
    go_wp2_with fail
    refine wp_region_mono nobody (by kernel_rfl) ?_
    iterate 6
      first | refine qT 0 (v := ?_) ?_ ?_ | refine qT 1 (v := ?_) ?_ ?_ | refine qT 2 (v := ?_) ?_ ?_ | refine qT 3 (v := ?_) ?_ ?_ | refine qT 4 (v := ?_) ?_ ?_ | refine qT 5 (v := ?_) ?_ ?_
      rotate_left
      · (intro W hSw; (have hcW := hSw.cells; try simp only [qSd] at hcW); go_simp <;> rfl)
      try simp only [qPA]
    refine wpMono_one' 6 (by kernel_rfl) rfl (by rfl) (fun K hK => ?_)
    go_simp
    refine (len_any HDB9.out.drew).mono ?_
    rintro e w10 ⟨rfl, rfl⟩
    rw [hlen]
    refine hK.out _ _ ?_ ?_
    · exact .refl _ _
    clear hK K
    try simp only [qPA]
    refine qT 7 (v := ?_) ?_ ?_; rotate_left
    · (intro W hSw; (have hcW := hSw.cells; try simp only [qSd] at hcW); go_simp <;> rfl)
    try simp only [qPA]
    refine wpMono_done (by kernel_rfl) ?_ _
    have hpb9 := own_below HPB9.out (Below.refl w9.heap.size w9).drew
    rw [hn] at hpb9
    have HRD := Lib.hid (Reads.of_own hpb9)
    obtain ⟨m, rfl⟩ : ∃ m, n = m + 1 := ⟨n - 1, by omega⟩
    obtain ⟨bp, op, rfl, hbpl, hcp⟩ := part_at HRD.out hn (k := m) (by omega)
    obtain ⟨e0, _, _, _⟩ := four_of hcp
    rw [Nat.add_sub_cancel] at hlast
    rw [hlast] at e0
    have e0 : w9.cell? ⟨bp, op + m * 4, none⟩ = some (.int .i64 4) := e0
    have dLL : decide ((L : Int) < (L : Int)) = false := by simp
    clear hpb9 hcp hlast
    go_wp2_with fail
    refine (records_w (some ⟨bp, op, none⟩) (m + 1) cb l (.slice Eb (m + 1) eb) (.int .i64 L) (.bool false) (.bool true) _ hn (by omega) HRD.out).mono ?_
    rintro e w11 ⟨vr, rfl, hor, hb11⟩
    obtain ⟨Ar, cr, rfl⟩ := hor.form
    have hsz9 := HB9.out.size
    have HR := Lib.hid (show AgainR a b l w1 (.returned (.tuple #[.pointer (some ⟨jj, 0, none⟩), .slice Ar (recordsL l).length cr, .nilIface])) w11 from
      ⟨jj, _, rfl, by omega, HJ9.out.drew.below hb11 (by simpa using jl), own_low' hor (by simpa using hsz9), fun e => by have := (hor.lt jj e).1; simp at this; omega, HB9.out.drew.trans (hb11.mono (by simpa using hsz9))⟩)
    clear hor hb11
    go_wp2_with fail
    go_ret3
    exact HR.out
end
end Go.Proofs.YtdaphppdmnmicaaGreatDoor.jrn
