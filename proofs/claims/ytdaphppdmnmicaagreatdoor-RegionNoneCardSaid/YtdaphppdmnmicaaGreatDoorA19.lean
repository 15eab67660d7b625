/- A part of the proof of RegionNone: StoreM, GetS. -/
import Derived.Test.YtdaphppdmnmicaaGreatDoorA18
import Derived.Test.YtdaphppdmnmicaaGreatDoorA01
import Derived.Test.YtdaphppdmnmicaaGreatDoorA02
import Derived.DeepKeys4
namespace Go.Proofs.YtdaphppdmnmicaaGreatDoor.store
open Go Go.RowKit base map_ err cmp above merge rows Go.Maps
def nameV (x:Nm):Value:=.agg #[.string x.1,.string x.2]
theorem nameCells:Tryz.prog.cellsOf 290=2:=by kernel_rfl
theorem laidOut:laidOutB Tryz.prog=true:=by kernel_rfl
theorem name_law:WideMaps.KeyLaw Tryz.prog 290:=deep_law_laid laidOut (m:=2) (by omega) (by decide +kernel) (by kernel_rfl) (by kernel_rfl)
def okName (x:Nm):Prop:=x.1.size≤maxLen∧x.2.size≤maxLen
theorem name_key (x:Nm) (h:okName x):∃ l,keyOf Tryz.prog 290 (nameV x)=some l:=by
 obtain ⟨a,b⟩:=x
 obtain ⟨h1,h2⟩:=h
 simp only at h1 h2
 have hk:Tryz.prog.keyType 290=true:=by kernel_rfl
 have e3:Tryz.prog.cellsOf 9=1:=by kernel_rfl
 have hl:∀ d,Tryz.prog.keyLits (d + 2) 290 [.string a,.string b]=some [.string a.data.toList,.string b.data.toList]:=fun d=>by
  simp [Program.keyLits,Tryz.underlying290,Tryz.underlying9,nameCells,e3,h1,h2]
 have hpos:0 < Tryz.prog.types.size:=by decide +kernel
 have hsz:∃ d,Tryz.prog.types.size + 1=d + 2:=⟨Tryz.prog.types.size - 1,by omega⟩
 obtain ⟨d,hd⟩:=hsz
 unfold nameV keyOf
 simp only [Tryz.underlying290]
 rw [hk,hd]
 simp [Value.formed,Tryz.underlying290,nameCells,Value.cells,hl]
def nameE:Emb Tryz.prog 290 Nm where
 en:=nameV
 inj:=fun {x y} h=>by
  obtain ⟨a,b⟩:=x
  obtain ⟨c,d⟩:=y
  simp [nameV] at h
  simp [h]
 ok:=okName
 key:=name_key
theorem keyed:Keyed Tryz.prog 290:=Keyed.of_law name_law
theorem zero_cell (w:World):(zeroValue 267).run Tryz.prog w=.ok (cval zeroC) w:=by kernel_rfl
abbrev mapT:TypeId:=286
structure StI (w:World) (g bm:Nat) (L:List R):Prop where
 blk:Blk w g 288 #[.map (some bm)]
 map:∃ m,MapM nameE w bm m∧∀ x,getM m x=(getL L x).map cval
 up:Rising L
section
variable {X:Nat→Prop} {w w':World} {g bm:Nat} {L:List R}
theorem StI.keeps (h:StI w g bm L) (hk:Keeps X w w') (h1:¬ X g) (h2:¬ X bm):StI w' g bm L :=
 ⟨h.blk.keeps hk h1,by obtain ⟨m,hm,he⟩:=h.map;exact ⟨m,hm.keeps hk h2,he⟩,h.up⟩
theorem StI.below (h:StI w g bm L) (hb:Below w.heap.size w w'):StI w' g bm L:=h.keeps (X:=nobody) (.of_below hb) (fun h=>h) (fun h=>h)
theorem StI.ne (h:StI w g bm L):g ≠ bm:=by obtain ⟨m,hm,_⟩:=h.map;exact hm.not_blk h.blk
theorem StI.lt (h:StI w g bm L):g < w.heap.size:=h.blk.lt
theorem StI.ltm (h:StI w g bm L):bm < w.heap.size:=by obtain ⟨m,hm,_⟩:=h.map;exact hm.lt
theorem StI.ok (h:StI w g bm L):∀ p ∈ L,okName p.1:=by
 obtain ⟨m,hm,he⟩:=h.map
 intro p hp
 have h1:=getL_of h.up (x:=p.1) (c:=p.2) hp
 have h2:=get_mem (m:=m) (x:=p.1) (v:=cval p.2) (by rw [he,h1];rfl)
 obtain ⟨_,_,_,_,_,hok⟩:=hm
 exact hok _ h2
def atL (L:List R) (x:Nm):C:=(getL L x).getD zeroC
theorem getD_at (L:List R) (x:Nm):((getL L x).map cval).getD (cval zeroC)=cval (atL L x):=by
 unfold atL
 cases getL L x <;> rfl
theorem StI.look (h:StI w g bm L) {x:Nm} (hx:okName x):(Instr.lookup mapT (.map (some bm)) (nameV x) false).run Tryz.prog w=.ok (cval (atL L x)) w:=by
 obtain ⟨m,hm,he⟩:=h.map
 have:=hm.look keyed Tryz.underlying286 (zero_cell w) (x:=x) hx
 rw [he,getD_at] at this
 exact this
theorem StI.look_ok (h:StI w g bm L) {x:Nm} (hx:okName x):(Instr.lookup mapT (.map (some bm)) (nameV x) true).run Tryz.prog w=.ok (.tuple #[cval (atL L x),.bool (getL L x).isSome]) w:=by
 obtain ⟨m,hm,he⟩:=h.map
 have:=hm.look_ok keyed Tryz.underlying286 (zero_cell w) (x:=x) hx
 rw [he,getD_at] at this
 rw [show (getL L x).isSome=((getL L x).map cval).isSome by cases getL L x <;> rfl]
 exact this
theorem StI.put (h:StI w g bm L) {x:Nm} (hx:okName x) (c:C) :
  ∃ w',(Instr.mapUpdate mapT (.map (some bm)) (nameV x) (cval c)).run Tryz.prog w=.ok () w'∧StI w' g bm (putL L x c)∧Keeps (· = bm) w w':=by
 obtain ⟨m,hm,he⟩:=h.map
 obtain ⟨w',h1,h2,h3⟩:=hm.put keyed Tryz.underlying286 (x:=x) hx (cval c)
 refine ⟨w',h1,⟨h.blk.keeps h3 h.ne,⟨_,h2,fun y=>?_⟩,rising_put h.up x c⟩,h3⟩
 rw [get_put,getL_put L h.up,he]
 by_cases e:y=x
 ·rw [if_pos e,if_pos e];rfl
 ·rw [if_neg e,if_neg e]
end
theorem new_any (w:World):Calls Tryz.prog 173 #[] w fun e w'=>e=.returned (.pointer (some ⟨(w.heap.size + 1),0,none⟩))∧StI w' (w.heap.size + 1) w.heap.size []∧Below w.heap.size w w':=by
 have hmm:=@run_makeMap Tryz.prog
 have hN:StI ((w.alloc (.map #[] 0)).alloc (.cells #[.map (some w.heap.size)] 288)) (w.heap.size + 1) w.heap.size [] :=
  ⟨Blk.newAt _ _ _ (by simp),⟨[],(MapM.new nameE w).below (below_new _ _),fun _=>rfl⟩,rising_nil⟩
 have hb:=below_alloc (below_new w (.map #[] 0)) (.cells #[.map (some w.heap.size)] 288)
 have HN:=Lib.hid hN
 have Hb:=Lib.hid hb
 clear hN hb
 go_enter Tryz.func173,Tryz.ntmps173
 go_wp2
 go_ret
 exact ⟨rfl,HN.out,Hb.out⟩
end Go.Proofs.YtdaphppdmnmicaaGreatDoor.store
namespace Go.Proofs.YtdaphppdmnmicaaGreatDoor.store
open Go Go.RowKit base map_ err cmp above merge rows Go.Maps monoj
set_option maxRecDepth 100000 in
set_option maxHeartbeats 1000000 in
theorem head_any (g bm:Nat) (L:List R) (s:ByteArray) (w:World) (h:StI w g bm L) (hs:s.size≤maxLen) :
  Calls Tryz.prog 134 #[.pointer (some ⟨g,0,none⟩),.string s] w fun e w'=>e=.returned (cval (atL L (s,⟨#[]⟩)))∧Below w.heap.size w w':=by
 have hlk:=(h.below (below_new w (.cells #[.int .i64 0,.int .i64 0,.string ⟨#[]⟩,.bool false,.int .i64 0] 267))).look (x:=(s,⟨#[]⟩)) ⟨hs,Nat.zero_le _⟩
 have hm0:(w.alloc (.cells #[.int .i64 0,.int .i64 0,.string ⟨#[]⟩,.bool false,.int .i64 0] 267)).cell? ⟨g,0,none⟩=some (.map (some bm)):=(h.blk.below (below_new _ _) h.blk.lt).cell 0
 have hgl:=(h.blk.below (below_new w (.cells #[.int .i64 0,.int .i64 0,.string ⟨#[]⟩,.bool false,.int .i64 0] 267)) h.blk.lt).lt
 generalize atL L (s,⟨#[]⟩)=c at hlk ⊢
 obtain ⟨t,r,v,gn,l⟩:=c
 unfold cval at *
 dsimp only at hlk
 unfold nameV at hlk
 dsimp only at hlk
 clear h
 go_enter Tryz.func134,Tryz.ntmps134
 go_wp2
 exact bodyPost_ret (v:=.agg #[.int .i64 t,.int .i64 r,.string v,.bool gn,.int .i64 l]) (by simp [results,Tryz.results134,go_sem]) rfl ⟨rfl,below_new _ _⟩
theorem bad_any (n c:Int) (w:World):Calls Tryz.prog 146 #[.int .i64 n,.int .i64 c] w (ErrNew c w):=by
 go_enter Tryz.func146,Tryz.ntmps146
 go_wp2_with fail
 refine (err.at_any _ _ _ _).mono ?_
 rintro e w1 ⟨v,rfl,h1,h2,h3,h4⟩
 go_wp2_with fail
 go_ret
 exact ⟨v,rfl,h1,h2,h3,h4⟩
def visC (c:C):Bool:=decide (0 < c.t) && !c.g
def getC (k:ByteArray) (ch cd:C):Int:=if k.toList.isEmpty=true then 1 else if visC ch=false then 14 else if visC cd=false then 7 else 0
def GetK (c:Int) (cd:C) (w:World) (e:Ending) (w':World):Prop:=∃ er,e=.returned (.tuple #[.string (if c=0 then cd.v else ⟨#[]⟩),er])∧EO w' er c∧Below w.heap.size w w'
def GetR (k:ByteArray) (ch cd:C) (w:World) (e:Ending) (w':World):Prop:=GetK (getC k ch cd) cd w e w'
set_option maxRecDepth 100000 in
set_option maxHeartbeats 2000000 in
theorem get_any (g bm:Nat) (L:List R) (s k:ByteArray) (w:World) (h:StI w g bm L) (hs:s.size≤maxLen) (hk:k.size≤maxLen) (ch cd:C) (hc:atL L (s,⟨#[]⟩)=ch) (hd:atL L (s,k)=cd) :
  Calls Tryz.prog 59 #[.pointer (some ⟨g,0,none⟩),.string s,.string k] w (fun e w'=>GetR k ch cd w e w'):=by
 have H:=Lib.hid h
 clear h
 cases hke:k.toList.isEmpty with
 | true =>
  have hg:getC k ch cd=1:=by unfold getC;rw [if_pos hke]
  go_enter Tryz.func59,Tryz.ntmps59
  go_wp2_with fail
  refine (bad_any _ _ _).mono ?_
  rintro e w1 ⟨v,rfl,h1,h2,h3,_⟩
  obtain ⟨ge,rfl⟩:=h1.form
  have HR:=Lib.hid (show GetR k ch cd w (.returned (.tuple #[.string ⟨#[]⟩,.iface 167 (.pointer (some ⟨ge,0,none⟩))])) w1 by unfold GetR;rw [hg];exact ⟨_,rfl,.inr ⟨by decide,h1,h2⟩,h3⟩)
  clear h1 h2 h3
  go_wp2
  exact bodyPost_ret (v:=.tuple #[.string ⟨#[]⟩,.iface 167 (.pointer (some ⟨ge,0,none⟩))]) (by simp [results,Tryz.results59,go_sem]) rfl HR.out
 | false =>
 obtain ⟨t,r,v,gn,l⟩:=ch
 go_enter Tryz.func59,Tryz.ntmps59
 go_wp2_with fail
 refine (head_any g bm L s w H.out hs).mono ?_
 rintro e w1 ⟨rfl,hb1⟩
 rw [hc]
 have HB1:=Lib.hid hb1
 have H1:=Lib.hid (H.out.below hb1)
 clear hb1 H
 unfold cval
 dsimp only
 go_wp2_with fail
 refine (visible_any t r v gn l w1).mono ?_
 rintro e w2 ⟨rfl,hb2⟩
 have HB2:=Lib.hid (below_step HB1.out hb2)
 have H2:=Lib.hid (H1.out.below hb2)
 clear hb2 HB1 H1
 cases hv:(decide (0 < t) && !gn) with
 | false =>
  have hg:getC k ⟨t,r,v,gn,l⟩ cd=14:=by unfold getC visC;rw [if_neg (by rw [hke];decide),if_pos hv]
  go_wp2_with fail
  refine (bad_any _ _ _).mono ?_
  rintro e w3 ⟨v3,rfl,h1,h2,h3,_⟩
  obtain ⟨ge,rfl⟩:=h1.form
  have HR:=Lib.hid (show GetR k ⟨t,r,v,gn,l⟩ cd w (.returned (.tuple #[.string ⟨#[]⟩,.iface 167 (.pointer (some ⟨ge,0,none⟩))])) w3 by unfold GetR;rw [hg];exact ⟨_,rfl,.inr ⟨by decide,h1,h2⟩,below_step HB2.out h3⟩)
  clear h1 h2 h3
  go_wp2
  exact bodyPost_ret (v:=.tuple #[.string ⟨#[]⟩,.iface 167 (.pointer (some ⟨ge,0,none⟩))]) (by simp [results,Tryz.results59,go_sem]) rfl HR.out
 | true =>
  have hlk:=H2.out.look (x:=(s,k)) ⟨hs,hk⟩
  rw [hd] at hlk
  have hg0:w2.cell? ⟨g,0,none⟩=some (.map (some bm)):=H2.out.blk.cell 0
  have hgl:=H2.out.blk.lt
  have hgc:getC k ⟨t,r,v,gn,l⟩ cd=if visC cd=false then 7 else 0:=by unfold getC;rw [if_neg (by rw [hke];decide),if_neg (by unfold visC;rw [hv];decide)]
  obtain ⟨t2,r2,v2,gn2,l2⟩:=cd
  unfold cval nameV at hlk
  dsimp only at hlk
  have HGC:=Lib.hid hgc
  clear hc hd hgc
  go_wp2_with fail
  refine (visible_any t2 r2 v2 gn2 l2 _).mono ?_
  rintro e w3 ⟨rfl,hb3⟩
  have hb23:=(below_new w2 (.cells #[.int .i64 t2,.int .i64 r2,.string v2,.bool gn2,.int .i64 l2] 267))
  have HB3:=Lib.hid (below_step (below_step HB2.out hb23) hb3)
  have q1:w3.cell? ⟨w2.heap.size,2,none⟩=some (.string v2):=((Blk.new w2 267 #[.int .i64 t2,.int .i64 r2,.string v2,.bool gn2,.int .i64 l2]).below hb3 (by simp)).cell 2
  have ql:=((Blk.new w2 267 #[.int .i64 t2,.int .i64 r2,.string v2,.bool gn2,.int .i64 l2]).below hb3 (by simp)).lt
  clear hb3 hb23 hlk hg0 hgl HB2 H2
  cases hv2:(decide (0 < t2) && !gn2) with
  | false =>
   have hg:getC k ⟨t,r,v,gn,l⟩ ⟨t2,r2,v2,gn2,l2⟩=7:=by rw [HGC.out,if_pos (by unfold visC;exact hv2)]
   go_wp2_with fail
   refine (bad_any _ _ _).mono ?_
   rintro e w4 ⟨v3,rfl,h1,h2,h3,_⟩
   obtain ⟨ge,rfl⟩:=h1.form
   have HR:=Lib.hid (show GetR k ⟨t,r,v,gn,l⟩ ⟨t2,r2,v2,gn2,l2⟩ w (.returned (.tuple #[.string ⟨#[]⟩,.iface 167 (.pointer (some ⟨ge,0,none⟩))])) w4 by unfold GetR;rw [hg];exact ⟨_,rfl,.inr ⟨by decide,h1,h2⟩,below_step HB3.out h3⟩)
   clear h1 h2 h3
   go_wp2
   exact bodyPost_ret (v:=.tuple #[.string ⟨#[]⟩,.iface 167 (.pointer (some ⟨ge,0,none⟩))]) (by simp [results,Tryz.results59,go_sem]) rfl HR.out
  | true =>
   have hg:getC k ⟨t,r,v,gn,l⟩ ⟨t2,r2,v2,gn2,l2⟩=0:=by rw [HGC.out,if_neg (by unfold visC;rw [hv2];decide)]
   have HR:=Lib.hid (show GetR k ⟨t,r,v,gn,l⟩ ⟨t2,r2,v2,gn2,l2⟩ w (.returned (.tuple #[.string v2,.nilIface])) w3 by unfold GetR;rw [hg];exact ⟨_,rfl,.inl ⟨rfl,rfl⟩,HB3.out⟩)
   go_wp2
   exact bodyPost_ret (v:=.tuple #[.string v2,.nilIface]) (by simp [results,Tryz.results59,go_sem]) rfl HR.out
end Go.Proofs.YtdaphppdmnmicaaGreatDoor.store
