/- A part of the proof of RegionNone: BeginR, FoldT, RecP, OpenM, AwakeP. -/
import Derived.Test.YtdaphppdmnmicaaGreatDoorA44
import Derived.Test.YtdaphppdmnmicaaGreatDoorA25
import Derived.Test.YtdaphppdmnmicaaGreatDoorA45
import Derived.Test.YtdaphppdmnmicaaGreatDoorA11
import Derived.Test.YtdaphppdmnmicaaGreatDoorA41
import Derived.Test.YtdaphppdmnmicaaGreatDoorA43
namespace Go.Proofs.YtdaphppdmnmicaaGreatDoor.regn
open Go Go.RowKit base err cmp wire dep vec jrnp jrn writep wireb framew wirep monoj
section
variable {w:World} {own:Nat→Nat} {p:RP} {x:RX}
theorem write_one (cs:List Ch) (A:Option Addr) (n c:Nat) (lp:List Part) (h:RegI w own p x) (hok:x.Ok lp) (hl:cs.length=n) (hn:n≤1000) (hr:Reads w w.heap.size 5 A n (cs.flatMap Ch.cells)) (hLf:x.Lf.length≤800000) (h1:x.id=1) (h2:x.n=1) :
  Calls Tryz.prog 11 #[.pointer (some ⟨p.r,0,none⟩),.slice A n c] w (MakeI own p x lp (.slice none 0 0) [] cs w):=by
 have HD:=Lib.hid (down_any h.reg)
 have HM:=Lib.hid (make_one (w:=w) cs A n c (.slice none 0 0) [] lp h hok (OwnS.none _ _) (by simp) (by simp) (fun i hi=>by cases hi) hl hn hr hLf h1 h2)
 have hlt:=h.reg.lt
 clear h hok hr
 go_enter Tryz.func11,Tryz.ntmps11
 go_wp2_with fail
 refine HD.out.mono ?_
 rintro e w1 ⟨rfl,hw⟩
 subst hw
 rw [show (rgOf p x).down=false from rfl]
 go_wp2_with fail
 refine HM.out.mono ?_
 rintro e w2 h3
 have HQ:=Lib.hid h3
 obtain ⟨v,v2,o2,rfl,_,_,h5⟩:=h3
 rcases h5 with ⟨rfl,gi,v7,v8,x',o1,_,_,hv⟩|⟨rfl,k,c2,_,_,⟨g,_,rfl,_⟩,_⟩
 ·have hv:=hv h2
  subst hv
  go_wp2_with fail
  go_ret2
  exact HQ.out
 ·go_wp2_with fail
  go_ret2
  exact HQ.out
def recN (k n:Nat):List UInt8:=numW k ++ numW n
theorem recN_len (k n:Nat) (hk:k≤100) (hn:n≤4611686018427387903):(recN k n).length≤1000:=by
 unfold recN
 have h1:=numW_len 8 k (by omega)
 have h2:=numW_len 8 n (by omega)
 rw [List.length_append]
 omega
theorem applyL_made (L:List Wr):∀ x:RX,(applyL x L).made=x.made∧(applyL x L).se=x.se:=by
 induction L with
 | nil=>intro x;exact ⟨rfl,rfl⟩
 | cons y L ih=>intro x;exact ih (applyX x y)
theorem MadeX.made {x x':RX} {l:List Part} {rs0:List (List UInt8)} {cs:List Ch} {o:List Wr} (h:MadeX x l rs0 cs x' o):x'.made=x.made∧x'.se=x.se:=by
 obtain ⟨_,_,_,_,_,ps,_,_,_,_,rfl,_⟩:=h
 exact applyL_made (ps.map pabs) (putX x l _)
def BeginI (own:Nat→Nat) (p:RP) (x:RX) (l:List Part) (m:Nat) (u:ByteArray) (life:Int) (w:World) (e:Ending) (w':World):Prop :=
 ∃ s v v2 own',e=.returned (.tuple #[.string s,v,v2])∧Grown own own' w∧Keeps (tags own [1,4,6,9,10]) w w' ∧
  ((v2=.nilIface∧v=.slice none 0 0∧s=quota.str (dec.nm x.id m)∧∃ (gi:Nat) (v7 v8:Value) (x':RX) (o1:List Wr),RegI w' own' { p with gi:=gi,va:=v7,vw:=v8 } { x' with made:=m,se:=x'.se } ∧
    MadeX x l [recN 4 m] [⟨s,⟨#[]⟩,u,false,life⟩] x' o1) ∨
   (s=⟨#[]⟩∧v=.slice none 0 0∧∃ k c,NoMake x l [recN 4 m] [⟨quota.str (dec.nm x.id m),⟨#[]⟩,u,false,life⟩] c∧k≤2∧ErrD w' (k + 1) v2 c∧RegI w' own' p x))
set_option maxRecDepth 20000 in
set_option maxHeartbeats 4000000 in
theorem begin_one (m:Nat) (u:ByteArray) (life:Int) (lp:List Part) (h:RegI w own p x) (hok:x.Ok lp) (hu:u.size≤maxLen) (hT:quota.Tabs w) (hLf:x.Lf.length≤800000) (hL:x.L.length≤1000000) (hS:quota.Short x.L) (hE:x.ep.length≤1000000) (h1:x.id=1) (h2:x.n=1)
  (hcan:tab.canC x.ep u 1=0) (hl1:0≤life) (hl2:life≤1099511627776) (hop:quota.opensL x.L x.id < 32) (hm:x.made + 1=m) (hm2:m≤1099511627776) :
  Calls Tryz.prog 12 #[.pointer (some ⟨p.r,0,none⟩),.string u,.int .i64 life] w (BeginI own p x lp m u life w):=by
 have HD:=Lib.hid (down_any h.reg)
 have HC:=Lib.hid (tab.can_any p.gt p.bt x.ep u 1 w h.tab hu hE)
 have c8:w.cell? ⟨p.r,8,none⟩=some (.pointer (some ⟨p.gt,0,none⟩)):=h.reg.c8
 have hlt:=h.reg.lt
 have HR:=Lib.hid h
 have HOK:=Lib.hid hok
 have HT:=Lib.hid hT
 have HS:=Lib.hid hS
 have HCAN:=Lib.hid hcan
 have HOP:=Lib.hid hop
 have d1:decide (life < 0)=false:=decide_eq_false (by omega)
 have d2:decide ((1099511627776:Int) < life)=false:=decide_eq_false (by omega)
 have H1:=Lib.hid h1
 have H2:=Lib.hid h2
 have HM:=Lib.hid hm
 clear h hok hT hS hcan hop h1 h2 hm
 go_enter Tryz.func12,Tryz.ntmps12
 go_wp2_with fail
 refine HD.out.mono ?_
 rintro e w1 ⟨rfl,hw⟩
 subst hw
 rw [show (rgOf p x).down=false from rfl]
 go_wp2_with fail
 refine HC.out.mono ?_
 rintro e w1 ⟨v,rfl,heo,hb1⟩
 rw [HCAN.out] at heo
 obtain rfl:v=.nilIface:=by
  rcases heo with ⟨_,h⟩|⟨h,_⟩
  ·exact h
  ·exact absurd rfl h
 have HR1:=Lib.hid (HR.out.below hb1)
 have HT1:=Lib.hid (HT.out.below hb1)
 have HB1:=Lib.hid hb1
 have hs1:=hb1.size
 clear heo hb1 c8 HC HD
 have c0:w1.cell? ⟨p.r,0,none⟩=some (.int .i64 x.id):=HR1.out.reg.c0
 have c6:w1.cell? ⟨p.r,6,none⟩=some (.pointer (some ⟨p.st,0,none⟩)):=HR1.out.reg.c6
 have hlt1:p.r < w1.heap.size:=by omega
 go_wp2_with fail
 refine wp_region_mono nobody (by kernel_rfl) ?_
 iterate 9
  first|refine qT 0 (v:=?_) ?_ ?_|refine qT 1 (v:=?_) ?_ ?_|refine qT 2 (v:=?_) ?_ ?_|refine qT 3 (v:=?_) ?_ ?_|refine qT 4 (v:=?_) ?_ ?_|refine qT 5 (v:=?_) ?_ ?_|refine qT 6 (v:=?_) ?_ ?_|refine qT 7 (v:=?_) ?_ ?_|refine qT 8 (v:=?_) ?_ ?_
  rotate_left
  ·(intro W hSw;(have hcW:=hSw.cells;try simp only [qSd] at hcW);go_simp <;> rfl)
  try simp only [qPA]
 refine wpMono_one' 9 (by kernel_rfl) rfl (by rfl) (fun K hK=>?_)
 go_simp
 refine (quota.room_any p.st p.sb x.L x.id w1.drew HR1.out.drew.sto hL HS.out (HT1.out.below (Below.refl _ _).drew)).mono ?_
 rintro e w2 ⟨v,rfl,hb2,hv⟩
 obtain rfl:v=.nilIface:=by
  rcases hv with ⟨_,h⟩|⟨h,_⟩
  ·exact h
  ·have:=HOP.out;omega
 have HB2:=Lib.hid hb2
 clear hb2 hv
 refine hK.out _ _ ?_ ?_
 ·exact .of_below HB2.out
 clear hK K
 try simp only [qPA]
 refine qT 10 (v:=?_) ?_ ?_;rotate_left
 ·(intro W hSw;(have hcW:=hSw.cells;try simp only [qSd] at hcW);go_simp <;> rfl)
 try simp only [qPA]
 refine wpMono_done (by kernel_rfl) ?_ _
 have hb12:Below w1.heap.size w1 w2:=((Below.refl _ _).drew).trans HB2.out
 have HR2:=Lib.hid (HR1.out.below hb12)
 have HT2:=Lib.hid (HT1.out.below hb12)
 have HBw2:=Lib.hid (HB1.out.trans (hb12.mono hs1))
 have hs2:=HBw2.out.size
 clear hb12 HB2 HB1 HR1 HT1 c0 c6 hlt1
 have c0:w2.cell? ⟨p.r,0,none⟩=some (.int .i64 x.id):=HR2.out.reg.c0
 have c11:w2.cell? ⟨p.r,11,none⟩=some (.int .i64 x.made):=HR2.out.reg.c11
 have hlt2:p.r < w2.heap.size:=by omega
 have hd1:=HOK.out.d1
 have hw1:IntKind.i64.wrap (x.made + 1)=(m:Int):=by have:=HM.out;rw [IntKind.wrap_i64];omega
 go_wp2_with fail
 refine wp_region_mono nobody (by kernel_rfl) ?_
 iterate 10
  first|refine qT 0 (v:=?_) ?_ ?_|refine qT 1 (v:=?_) ?_ ?_|refine qT 2 (v:=?_) ?_ ?_|refine qT 3 (v:=?_) ?_ ?_|refine qT 4 (v:=?_) ?_ ?_|refine qT 5 (v:=?_) ?_ ?_|refine qT 6 (v:=?_) ?_ ?_|refine qT 7 (v:=?_) ?_ ?_|refine qT 8 (v:=?_) ?_ ?_|refine qT 9 (v:=?_) ?_ ?_
  rotate_left
  ·(intro W hSw;(have hcW:=hSw.cells;try simp only [qSd] at hcW);go_simp <;> rfl)
  try simp only [qPA]
  (try rw [hw1])
 refine wpMono_one' 10 (by kernel_rfl) rfl (by rfl) (fun K hK=>?_)
 go_simp
 refine (quota.name_any x.id m w2.drew (HT2.out.below (Below.refl _ _).drew)).mono ?_
 rintro e w3 h3
 rcases h3 with ⟨a3,b3,ha3,hb3,_,rfl,hb3b⟩|⟨hbad,_⟩
 rotate_left
 ·exfalso
  have:=HOK.out.i1;have:=HOK.out.i2;have:=HOK.out.i3;have:=HM.out
  rcases hbad with h|h|h|h <;> omega
 obtain rfl:a3=x.id:=by omega
 obtain rfl:m=b3:=by omega
 have HB3:=Lib.hid hb3b
 clear ha3 hb3 hb3b
 refine hK.out _ _ ?_ ?_
 ·exact .of_below HB3.out
 clear hK K
 try simp only [qPA]
 (try rw [hw1])
 iterate 5
  first|refine qT 11 (v:=?_) ?_ ?_|refine qT 12 (v:=?_) ?_ ?_|refine qT 13 (v:=?_) ?_ ?_|refine qT 14 (v:=?_) ?_ ?_|refine qT 15 (v:=?_) ?_ ?_
  rotate_left
  ·(intro W hSw;(have hcW:=hSw.cells;try simp only [qSd] at hcW);go_simp <;> rfl)
  try simp only [qPA]
  (try rw [hw1])
 refine wpMono_done (by kernel_rfl) ?_ _
 have hb23:Below w2.heap.size w2 w3:=((Below.refl _ _).drew).trans HB3.out
 have HR3:=Lib.hid (HR2.out.below hb23)
 have HBw3:=Lib.hid (HBw2.out.trans (hb23.mono hs2))
 have hs3:=HBw3.out.size
 clear hb23 HB3 HBw2 HR2 HT2 c0 c11 hlt2
 obtain ⟨s,hs⟩:∃ s,quota.str (dec.nm x.id m)=s:=⟨_,rfl⟩
 rw [hs]
 have HNM:=Lib.hid hs
 clear hs
 have c11:w3.cell? ⟨p.r,11,none⟩=some (.int .i64 x.made):=HR3.out.reg.c11
 have hlt3:p.r < w3.heap.size:=by omega
 go_wp2_with fail
 refine (num_record 4 m w3 (by omega) (by omega)).mono ?_
 rintro e w4 ⟨rfl,hb4⟩
 have HR4:=Lib.hid (HR3.out.below hb4)
 have HBw4:=Lib.hid (HBw3.out.trans (hb4.mono hs3))
 have hs4:=HBw4.out.size
 clear hb4 HBw3 HR3 c11 hlt3
 rw [show numW 4 ++ numW m=recN 4 m from rfl]
 have hrl:=recN_len 4 m (by omega) (by omega)
 obtain ⟨rc,hrc⟩:∃ rc,recN 4 m=rc:=⟨_,rfl⟩
 rw [hrc] at hrl ⊢
 have HRC:=Lib.hid hrc
 clear hrc
 go_wp2_with fail
 have hb5:=below_alloc (below_new w4 (.cells #[.string (str rc)] 9)) (.cells #[.string s,.string ⟨#[]⟩,.string u,.bool false,.int .i64 life] 87)
 have HR5:=Lib.hid (HR4.out.below hb5)
 have HA5:=Lib.hid (show OwnS ((w4.alloc (.cells #[.string (str rc)] 9)).alloc (.cells #[.string s,.string ⟨#[]⟩,.string u,.bool false,.int .i64 life] 87)) 0 (.slice (some ⟨w4.heap.size,0,none⟩) 1 1) [rc] from
  ⟨rfl,.inr ⟨w4.heap.size,1,#[.string (str rc)],rfl,Nat.zero_le _,Blk.alloc (Blk.new w4 9 #[.string (str rc)]) _,Nat.le_refl _,by unfold maxLen;omega,rfl,rfl⟩⟩)
 have HC5:=Lib.hid (show Reads ((w4.alloc (.cells #[.string (str rc)] 9)).alloc (.cells #[.string s,.string ⟨#[]⟩,.string u,.bool false,.int .i64 life] 87)) ((w4.alloc (.cells #[.string (str rc)] 9)).alloc (.cells #[.string s,.string ⟨#[]⟩,.string u,.bool false,.int .i64 life] 87)).heap.size 5 (some ⟨w4.heap.size + 1,0,none⟩) 1 ([(⟨s,⟨#[]⟩,u,false,life⟩:Ch)].flatMap Ch.cells) from by
  have:=Reads.newAt (w4.alloc (.cells #[.string (str rc)] 9)) #[.string s,.string ⟨#[]⟩,.string u,.bool false,.int .i64 life] 87 (0,0) (g:=w4.heap.size + 1) (n:=1) (size:=5) (by simp) rfl
  simpa [Ch.cells] using this)
 have HBw5:=Lib.hid (HBw4.out.trans (hb5.mono hs4))
 have hz4:own w4.heap.size=0:=HR4.out.zero (Nat.le_refl _)
 clear hb5
 generalize (w4.alloc (.cells #[.string (str rc)] 9)).alloc (.cells #[.string s,.string ⟨#[]⟩,.string u,.bool false,.int .i64 life] 87)=w5 at *
 refine (make_one (w:=w5) [⟨s,⟨#[]⟩,u,false,life⟩] _ 1 1 _ [rc] lp HR5.out HOK.out HA5.out (by simpa using hrl) (by simp) (fun i hi=>by injection hi with hi;rw [← hi];exact hz4) rfl (by omega) HC5.out hLf H1.out H2.out).mono ?_
 rintro e w6 ⟨v,v2,o6,rfl,hg6,hk6,h6⟩
 have HG6:=Lib.hid (hg6.later HBw5.out.size)
 have HK6:=Lib.hid (show Keeps (tags own [1,4,6,9,10]) _ w6 from ((Keeps.of_below HBw5.out).trans hk6).more (fun i hi h=>h.elim id fun h=>by injection h with h;simp only at h;omega))
 clear hg6 hk6
 rcases h6 with ⟨rfl,gi,v7,v8,x',o1,hr6,hmx,hv⟩|⟨rfl,k,c,hc,hk3,he6,hr6⟩
 ·obtain rfl:=hv H2.out
  have hmade:x'.made=x.made:=hmx.made.1
  have HR6:=Lib.hid hr6
  have HMX:=Lib.hid hmx
  have c11:w6.cell? ⟨p.r,11,none⟩=some (.int .i64 x.made):=by rw [← hmade];exact hr6.reg.c11
  have z11:=hr6.reg.frozen 11
  have hl6:p.r < w6.heap.size:=hr6.reg.lt
  clear hr6 hmx hv
  go_wp2_with fail
  have hks:Keeps (· = p.r) w6 (w6.setCell ⟨p.r,11,none⟩ (.int .i64 m)):=Keeps.set1 _ _ _ _
  have ho1:=HR6.out.o1
  have hset:=HR6.out.setReg (md:=m) (s:=x'.se) (HR6.out.reg.s11 m) hks (fun i (e:i=p.r)=>by rw [e];exact ho1)
  have HQ:=Lib.hid (show BeginI own p x lp m u life _ (.returned (.tuple #[.string s,.slice none 0 0,.nilIface])) (w6.setCell ⟨p.r,11,none⟩ (.int .i64 m)) from
   ⟨s,_,_,o6,rfl,HG6.out,Keeps.tags HK6.out HG6.out (l2:=[1]) (hks.more (fun i _ e=>by have e:i=p.r:=e;rw [e];exact ⟨by rw [ho1];decide,by rw [ho1];decide⟩)) (fun _ h=>h) (by decide),
    .inl ⟨rfl,rfl,HNM.out.symm,gi,v7,v8,x',o1,hset,by rw [HRC.out];exact HMX.out⟩⟩)
  clear hset hks
  exact bodyPost_ret (v:=.tuple #[.string s,.slice none 0 0,.nilIface]) (by simp [results,Tryz.results12,go_sem]) rfl HQ.out
 ·have HQ:=Lib.hid (show BeginI own p x lp m u life _ (.returned (.tuple #[.string ⟨#[]⟩,.slice none 0 0,v2])) w6 from ⟨_,_,_,o6,rfl,HG6.out,HK6.out,.inr ⟨rfl,rfl,k,c,by rw [HRC.out,HNM.out];exact hc,hk3,he6,hr6⟩⟩)
  obtain ⟨g0,v',rfl,_⟩:=he6
  clear hr6
  go_wp2_with fail
  exact bodyPost_ret (v:=.tuple #[.string ⟨#[]⟩,.slice none 0 0,.iface 167 (.pointer (some ⟨g0,0,none⟩))]) (by simp [results,Tryz.results12,go_sem]) rfl HQ.out
end
end Go.Proofs.YtdaphppdmnmicaaGreatDoor.regn
namespace Go.Proofs.YtdaphppdmnmicaaGreatDoor.regn
open Go Go.RowKit base err rowe rows store fold monoj monok wireb wirep writep inp
def FoldT (own:Nat→Nat) (p:FP) (x:FX) (w:World) (e:Ending) (w':World):Prop :=
 e=.returned .nilIface∧∃ own' p',FoldI w' own' p' x∧p'.f=p.f∧p'.gt=p.gt∧p'.bt=p.bt∧Grown own own' w∧Keeps (tags own [1,9,10]) w w'
section
variable {w:World} {own:Nat→Nat} {p:FP} {x:FX}
theorem begin_i (h:FoldI w own p x) (hL:x.st=false→x.L=[]):Calls Tryz.prog 33 #[.pointer (some ⟨p.f,0,none⟩)] w fun e w'=>e=.returned .nilIface∧∃ own' gs bs,FoldI w' own' { p with gs:=gs,bs:=bs } { x with st:=true }∧Grown own own' w∧Keeps (tags own [1]) w w':=by
 cases hst:x.st with
 | true =>
  refine (begin_old p.f (foOf p x) w h.fo hst).mono ?_
  rintro e w' ⟨rfl,rfl⟩
  have hx:({ x with st:=true }:FX)=x:=by rw [← hst]
  exact ⟨rfl,own,p.gs,p.bs,by rw [hx];exact h,Grown.refl _ _,.refl _ _⟩
 | false =>
  refine (begin_new p.f (foOf p x) w h.fo hst rfl).mono ?_
  rintro e w' ⟨g,bm,rfl,hf,hs,hg,hbm,hk⟩
  have q:∀ {i t},own i=t→t ≠ 1→¬ (i=p.f):=fun {i t} h1 h2 h3=>h2 (by rw [← h1,h3];exact h.o1)
  have hz:∀ i,w.heap.size≤i→own i=0:=fun i hi=>h.zero hi
  have hlt:∀ {i},own i ≠ 0→i ≠ g∧i ≠ bm:=fun {i} hi=>by have:=h.small i hi;omega
  have hne:g ≠ bm:=hs.ne
  have e1:∀ {i t},own i=t→t ≠ 0→(if i=g then 8 else if i=bm then 9 else own i)=t:=fun {i t} h1 h2=>by
   have h3:=hlt (i:=i) (by rw [h1];exact h2)
   rw [if_neg h3.1,if_neg h3.2];exact h1
  have e2:∀ {i t},(if i=g then 8 else if i=bm then 9 else own i)=t→t ≠ 8→t ≠ 9→own i=t:=fun {i t} h1 h2 h3=>by
   split at h1
   ·exact absurd h1.symm h2
   ·split at h1
    ·exact absurd h1.symm h3
    ·exact h1
  have e10:(fun i=>(if i=g then 8 else if i=bm then 9 else own i)=10)=fun i=>own i=10:=setOf_eq fun i=>⟨fun h=>e2 h (by decide) (by decide),fun h=>e1 h (by decide)⟩
  have hks:Keeps (tags own [1]) w w':=hk.more fun i _ e=>by have e:i=p.f:=e;rw [e];exact ⟨by rw [h.o1];decide,by rw [h.o1];decide⟩
  refine ⟨rfl,fun i=>if i=g then 8 else if i=bm then 9 else own i,g,bm,⟨hf,dep.own_keeps h.app hk (fun i hi=>q (h.apS i hi) (by decide)),fun i hi=>e1 (h.apS i hi) (by decide),h.a16,by rw [e10];exact h.fd.keeps hk (fun _ hi=>q hi (by decide)),
   fun _=>⟨by rw [hL hst];exact hs,by rw [if_pos rfl],by rw [if_neg hne.symm,if_pos rfl]⟩,h.tab.keeps hk (q h.o11 (by decide)) (q h.o12 (by decide)),e1 h.o1 (by decide),e1 h.o11 (by decide),e1 h.o12 (by decide),fun i hi=>?_⟩,fun i=>?_,hks⟩
  ·by_cases h1:i=g
   ·rw [h1];exact hs.lt
   ·by_cases h2:i=bm
    ·rw [h2];exact hs.ltm
    ·simp only [if_neg h1,if_neg h2] at hi
     exact Nat.lt_of_lt_of_le (h.small i hi) hk.size
  ·by_cases h1:i=g
   ·exact .inr (.inr (by omega))
   ·by_cases h2:i=bm
    ·exact .inr (.inr (by omega))
    ·refine .inl ?_
     show (if i=g then 8 else if i=bm then 9 else own i)=own i
     rw [if_neg h1,if_neg h2]
theorem numI7 (k:Nat) (r:List UInt8) (hk:k≤7):numI 7 (some (numW k ++ r))=(k,some r):=numI_back r hk (by omega)
set_option maxRecDepth 20000 in
set_option maxHeartbeats 4000000 in
theorem take_made (m:Nat) (h:FoldI w own p x) (hL:x.st=false→x.L=[]) (hm:m≤1099511627776) :
  Calls Tryz.prog 31 #[.pointer (some ⟨p.f,0,none⟩),.string (str (recN 4 m))] w (FoldT own p { x with made:=max x.made m,st:=true,fi:=false } w):=by
 have hsl:(str (recN 4 m)).size≤maxLen:=by rw [str_size];have:=recN_len 4 m (by omega) (by omega);unfold maxLen;omega
 have hn1:=numI7 4 (numW m) (by omega)
 have hn2:numI 1099511627776 (some (numW m))=(m,some []):=by have:=numI_back (most:=1099511627776) (n:=m) [] hm (by omega);rwa [List.append_nil] at this
 have HN1:=Lib.hid hn1
 have HN2:=Lib.hid hn2
 have HS:=Lib.hid (show (str (recN 4 m)).data.toList=numW 4 ++ numW m by rw [str_list];rfl)
 have H:=Lib.hid h
 have HL:=Lib.hid hL
 have hlt:=h.fo.lt
 generalize str (recN 4 m)=s at *
 clear h hn1 hn2 hL
 go_enter Tryz.func31,Tryz.ntmps31
 go_wp2_with fail
 refine (read_in w s hsl).mono ?_
 rintro e w1 ⟨rfl,hi1,hb1⟩
 rw [HS.out] at hi1
 have HI1:=Lib.hid hi1
 have HF1:=Lib.hid (H.out.below hb1)
 have HB1:=Lib.hid hb1
 obtain ⟨gI,hgI⟩:∃ g,w.heap.size=g:=⟨_,rfl⟩
 rw [hgI] at HI1 ⊢
 have hgl:gI < w1.heap.size:=HI1.out.lt
 clear hi1 hb1
 go_wp2_with fail
 refine (num_in 7 HI1.out).mono ?_
 rintro e w2 ⟨rfl,hi2,hk2⟩
 rw [HN1.out] at hi2 ⊢
 have hng:∀ i,own i ≠ 0→i < gI:=fun i hi=>by rw [← hgI];exact H.out.small i hi
 have HF2:=Lib.hid (HF1.out.keeps hk2 (fun i hi e=>by have:=hng i hi;have e:i=gI:=e;omega))
 have HI2:=Lib.hid hi2
 have HK2:=Lib.hid (show Keeps (fun i=>tags own [1,9,10] i ∨ gI≤i) w w2 from ((Keeps.of_below (X:=nobody) HB1.out).more fun _ _ h=>h.elim).trans (hk2.more fun i _ e=>by have e:i=gI:=e;exact .inr (by omega)))
 clear hi2 hk2 HI1 HF1 HB1 hgl
 have c12:w2.cell? ⟨p.f,12,none⟩=some (.bool x.fi):=HF2.out.fo.cell 12
 have z12:=HF2.out.fo.frozen 12
 have hfl:p.f < w2.heap.size:=HF2.out.fo.lt
 have ho1:=HF2.out.o1
 go_wp2_with fail
 have hks:Keeps (· = p.f) w2 (w2.setCell ⟨p.f,12,none⟩ (.bool false)):=Keeps.set1 _ _ _ _
 have HF3:=Lib.hid (HF2.out.setFo (x':={ x with fi:=false }) (HF2.out.fo.set_ 12 (.bool false)) hks (fun i (e:i=p.f)=>by rw [e];exact ho1) rfl rfl rfl rfl rfl)
 have HI3:=Lib.hid (HI2.out.keeps hks (fun i hi e=>by have e:i=p.f:=e;have:=hng p.f (by rw [ho1];decide);omega))
 have HK3:=Lib.hid (HK2.out.trans (hks.more fun i _ e=>by have e:i=p.f:=e;rw [e];exact .inl ⟨by rw [ho1];decide,by rw [ho1];decide⟩))
 clear hks HF2 HI2 HK2 c12 z12 hfl
 generalize w2.setCell ⟨p.f,12,none⟩ (.bool false)=w3 at *
 refine (begin_i HF3.out HL.out).mono ?_
 rintro e w4 ⟨rfl,o4,gs4,bs4,hf4,hg4,hk4⟩
 have HF4:=Lib.hid (show FoldI w4 o4 { p with gs:=gs4,bs:=bs4 } { x with st:=true,fi:=false } from hf4)
 have HG4:=Lib.hid (show Grown own o4 w from hg4.later HK3.out.size)
 have hog:o4 gI=0:=hg4.zero (by rw [← hgI];exact H.out.zero (Nat.le_refl _)) HI3.out.lt
 have HI4:=Lib.hid (HI3.out.keeps hk4 (fun i hi e=>by have:=hng i e.2;omega))
 have HK4:=Lib.hid (HK3.out.trans (hk4.more fun i _ e=>.inl ⟨by have:=e.1;revert this;generalize own i=t;intro h;simp at h;rw [h];decide,e.2⟩))
 clear hf4 hg4 hk4 HF3 HI3 HK3
 have hfg:¬ p.f=gI:=fun e=>by have:=hng p.f (by rw [ho1];decide);omega
 have c3:w4.cell? ⟨p.f,3,none⟩=some (.int .i64 x.made):=HF4.out.fo.cell 3
 have hfl:p.f < w4.heap.size:=HF4.out.fo.lt
 have hil:gI < w4.heap.size:=HI4.out.lt
 go_wp2_with fail
 refine wp_region_monoK (fun i=>i=gI) [7] (fun i=>i=p.f) [12] (by kernel_rfl) ?_
 refine wpMonoK_take' 0 (v:=?_) rfl (by kernel_rfl) (by kernel_rfl) (by kernel_rfl) (fun _ _ _ h=>h) (by rfl) ?_ ?_
 rotate_left
 ·(intro W hSw;(first|(have hg:=HF4.out.fo.drew.keeps (X:=fun i=>i=gI) hSw hfg;have k3:W.cell? ⟨p.f,3,none⟩=some (.int .i64 x.made):=hg.cell 3;have kl:=hg.lt)|skip);go_simp <;> rfl)
 try simp only [qPA]
 refine wpMonoK_take' 1 (v:=?_) rfl (by kernel_rfl) (by kernel_rfl) (by kernel_rfl) (fun _ _ _ h=>h) (by rfl) ?_ ?_
 rotate_left
 ·(intro W hSw;(first|(have hg:=HF4.out.fo.drew.keeps (X:=fun i=>i=gI) hSw hfg;have k3:W.cell? ⟨p.f,3,none⟩=some (.int .i64 x.made):=hg.cell 3;have kl:=hg.lt)|skip);go_simp <;> rfl)
 try simp only [qPA]
 refine wpMonoK_take' 2 (v:=?_) rfl (by kernel_rfl) (by kernel_rfl) (by kernel_rfl) (fun _ _ _ h=>h) (by rfl) ?_ ?_
 rotate_left
 ·(intro W hSw;(first|(have hg:=HF4.out.fo.drew.keeps (X:=fun i=>i=gI) hSw hfg;have k3:W.cell? ⟨p.f,3,none⟩=some (.int .i64 x.made):=hg.cell 3;have kl:=hg.lt)|skip);go_simp <;> rfl)
 try simp only [qPA]
 refine wpMonoK_take' 3 (v:=?_) rfl (by kernel_rfl) (by kernel_rfl) (by kernel_rfl) (fun _ _ _ h=>h) (by rfl) ?_ ?_
 rotate_left
 ·(intro W hSw;(first|(have hg:=HF4.out.fo.drew.keeps (X:=fun i=>i=gI) hSw hfg;have k3:W.cell? ⟨p.f,3,none⟩=some (.int .i64 x.made):=hg.cell 3;have kl:=hg.lt)|skip);go_simp <;> rfl)
 try simp only [qPA]
 refine wpMonoK_take' 4 (v:=?_) rfl (by kernel_rfl) (by kernel_rfl) (by kernel_rfl) (fun _ _ _ h=>h) (by rfl) ?_ ?_
 rotate_left
 ·(intro W hSw;(first|(have hg:=HF4.out.fo.drew.keeps (X:=fun i=>i=gI) hSw hfg;have k3:W.cell? ⟨p.f,3,none⟩=some (.int .i64 x.made):=hg.cell 3;have kl:=hg.lt)|skip);go_simp <;> rfl)
 try simp only [qPA]
 refine wpMonoK_read' 5 [8,9,10,11,12] (v:=?_) rfl (by kernel_rfl) (by kernel_rfl) (by kernel_rfl) (by kernel_rfl) (by rfl) (fun _ _ _ h=>h) (by rfl) ?_ ?_
 rotate_left
 ·(intro W hSw;(first|(have hg:=HF4.out.fo.drew.keeps (X:=fun i=>i=gI) hSw hfg;have k3:W.cell? ⟨p.f,3,none⟩=some (.int .i64 x.made):=hg.cell 3;have kl:=hg.lt)|skip);go_simp <;> rfl)
 try simp only [qPA]
 refine wpMonoK_take' 6 (v:=?_) rfl (by kernel_rfl) (by kernel_rfl) (by kernel_rfl) (fun _ _ _ h=>h) (by rfl) ?_ ?_
 rotate_left
 ·(intro W hSw;(first|(have hg:=HF4.out.fo.drew.keeps (X:=fun i=>i=gI) hSw hfg;have k3:W.cell? ⟨p.f,3,none⟩=some (.int .i64 x.made):=hg.cell 3;have kl:=hg.lt)|skip);go_simp <;> rfl)
 try simp only [qPA]
 refine wpMonoK_one' 7 (by kernel_rfl) rfl (by rfl) (fun K hK=>?_)
 go_simp
 refine (num_in 1099511627776 HI4.out.drew).mono ?_
 rintro e w5 ⟨rfl,hi5,hk5⟩
 rw [HN2.out] at hi5 ⊢
 have hf5:=HF4.out.drew.keeps hk5 (fun i hi e=>by have e:i=gI:=e;rw [e] at hi;exact hi hog)
 have HF5:=Lib.hid hf5
 have HI5:=Lib.hid hi5
 have HK5:=Lib.hid hk5
 have e3:w5.cell? ⟨p.f,3,none⟩=some (.int .i64 x.made):=hf5.fo.cell 3
 have z3:=hf5.fo.frozen 3
 have fl5:=hf5.fo.lt
 clear hf5 hi5 hk5
 refine hK.out _ _ ?_ ?_
 ·exact Go.Proofs.YtdaphppdmnmicaaGreatDoor.monok.moved HK5.out (by decide)
 clear hK K
 refine wpMonoK_take' 8 (v:=?_) rfl (by kernel_rfl) (by kernel_rfl) (by kernel_rfl) (fun _ _ _ h=>h) (by rfl) ?_ ?_
 rotate_left
 ·(intro W hSw;(first|(have hg:=HF4.out.fo.drew.keeps (X:=fun i=>i=gI) hSw hfg;have k3:W.cell? ⟨p.f,3,none⟩=some (.int .i64 x.made):=hg.cell 3;have kl:=hg.lt)|skip);go_simp <;> rfl)
 try simp only [qPA]
 refine wpMonoK_take' 9 (v:=?_) rfl (by kernel_rfl) (by kernel_rfl) (by kernel_rfl) (fun _ _ _ h=>h) (by rfl) ?_ ?_
 rotate_left
 ·(intro W hSw;(first|(have hg:=HF4.out.fo.drew.keeps (X:=fun i=>i=gI) hSw hfg;have k3:W.cell? ⟨p.f,3,none⟩=some (.int .i64 x.made):=hg.cell 3;have kl:=hg.lt)|skip);go_simp <;> rfl)
 try simp only [qPA]
 refine wpMonoK_take' 10 (v:=?_) rfl (by kernel_rfl) (by kernel_rfl) (by kernel_rfl) (fun _ _ _ h=>h) (by rfl) ?_ ?_
 rotate_left
 ·(intro W hSw;(first|(have hg:=HF4.out.fo.drew.keeps (X:=fun i=>i=gI) hSw hfg;have k3:W.cell? ⟨p.f,3,none⟩=some (.int .i64 x.made):=hg.cell 3;have kl:=hg.lt)|skip);go_simp <;> rfl)
 try simp only [qPA]
 refine wpMonoK_take' 11 (v:=?_) rfl (by kernel_rfl) (by kernel_rfl) (by kernel_rfl) (fun _ _ _ h=>h) (by rfl) ?_ ?_
 rotate_left
 ·(intro W hSw;(first|(have hg:=HF4.out.fo.drew.keeps (X:=fun i=>i=gI) hSw hfg;have k3:W.cell? ⟨p.f,3,none⟩=some (.int .i64 x.made):=hg.cell 3;have kl:=hg.lt)|skip);go_simp <;> rfl)
 try simp only [qPA]
 refine wpMonoK_one' 12 (by kernel_rfl) rfl (by rfl) (fun K hK=>?_)
 go_simp
 refine hK.out _ _ ?_ ?_
 ·exact Go.Proofs.YtdaphppdmnmicaaGreatDoor.monok.movedL (Keeps.set1 _ _ _ _) (by decide)
 clear hK K
 try simp only [Act.put]
 refine wpMonoK_done (by kernel_rfl) ?_ _
 have ho4:=HF4.out.o1
 have hks:Keeps (· = p.f) w5 (w5.setCell ⟨p.f,3,none⟩ (.int .i64 (max x.made m))):=Keeps.set1 _ _ _ _
 have HF6:=Lib.hid (HF5.out.setFo (x':={ x with made:=max x.made m,st:=true,fi:=false }) (HF5.out.fo.set_ 3 (.int .i64 (max x.made m))) hks (fun i (e:i=p.f)=>by rw [e];exact ho4) rfl rfl rfl rfl rfl)
 have HI6:=Lib.hid (HI5.out.keeps hks (fun i hi e=>by have e:i=p.f:=e;have:=hng p.f (by rw [ho1];decide);omega))
 have HK6:=Lib.hid (show Keeps (fun i=>tags own [1,9,10] i ∨ gI≤i) w (w5.setCell ⟨p.f,3,none⟩ (.int .i64 (max x.made m))) from
  (HK4.out.trans ((Keeps.drew.trans HK5.out).more fun i _ e=>by have e:i=gI:=e;exact .inr (by omega))).trans (hks.more fun i _ e=>by have e:i=p.f:=e;rw [e];exact .inl ⟨by rw [ho1];decide,by rw [ho1];decide⟩))
 clear hks HF4 HF5 HI4 HI5 HK4 HK5 c3 hfl hil e3 z3 fl5
 generalize w5.setCell ⟨p.f,3,none⟩ (.int .i64 (max x.made m))=w6 at *
 go_wp2_with fail
 refine (end_in HI6.out).mono ?_
 rintro e w7 ⟨v,rfl,heo,hb7⟩
 obtain rfl:v=.nilIface:=by
  rcases heo with ⟨_,h⟩|⟨h,_⟩
  ·exact h
  ·exact absurd rfl h
 have HQ:=Lib.hid (show FoldT own p { x with made:=max x.made m,st:=true,fi:=false } w (.returned .nilIface) w7 from
  ⟨rfl,o4,_,HF6.out.below hb7,rfl,rfl,rfl,HG4.out,(HK6.out.trans (.of_below hb7)).more fun i hi e=>e.elim id fun e=>by omega⟩)
 clear heo hb7
 go_wp2_with fail
 go_ret
 exact HQ.out
def FoldTW (own:Nat→Nat) (p:FP) (x:FX) (q:PW) (w:World) (e:Ending) (w':World):Prop:=∃ d,FoldT own p (writeX { x with st:=true,fi:=false } (q.wr d)) w e w'
set_option maxRecDepth 20000 in
set_option maxHeartbeats 4000000 in
theorem take_write (q:PW) (h:FoldI w own p x) (hL:x.st=false→x.L=[]) (hq:q.Ok) (hat:(q.n:Int)=vec.atV x.ap q.r + 1) (hcv:vec.coversB x.ap (natI q.d)=true) (hLf:x.Lf.length < 900000) :
  Calls Tryz.prog 31 #[.pointer (some ⟨p.f,0,none⟩),.string (str (recW q))] w (FoldTW own p x q w):=by
 have hbl:=writep.bytes_len hq
 have hsl:(str (recW q)).size≤maxLen:=by rw [str_size];have:=rec_len hq;unfold maxLen;omega
 have hn1:=numI7 1 (textW q.bytes) (by omega)
 have hn2:textI 65536 (some (textW q.bytes))=(q.bytes,some []):=by have:=textI_back (most:=65536) (s:=q.bytes) [] (by omega) (by omega);rwa [List.append_nil] at this
 have HN1:=Lib.hid hn1
 have HN2:=Lib.hid hn2
 have HS:=Lib.hid (show (str (recW q)).data.toList=numW 1 ++ textW q.bytes by rw [str_list];rfl)
 have H:=Lib.hid h
 have HL:=Lib.hid hL
 have HQ0:=Lib.hid hq
 have HAT:=Lib.hid hat
 have HCV:=Lib.hid hcv
 have hlt:=h.fo.lt
 have HD:=Lib.hid (decode_b (str q.bytes) (by rw [str_size];unfold maxLen;omega))
 rw [str_list,read_write hq] at HD
 have HBY:=Lib.hid (show (⟨q.bytes.toArray⟩:ByteArray)=str q.bytes from rfl)
 generalize str (recW q)=s at *
 clear h hn1 hn2 hL hq hat hcv
 go_enter Tryz.func31,Tryz.ntmps31
 go_wp2_with fail
 refine (read_in w s hsl).mono ?_
 rintro e w1 ⟨rfl,hi1,hb1⟩
 rw [HS.out] at hi1
 have HI1:=Lib.hid hi1
 have HF1:=Lib.hid (H.out.below hb1)
 have HB1:=Lib.hid hb1
 obtain ⟨gI,hgI⟩:∃ g,w.heap.size=g:=⟨_,rfl⟩
 rw [hgI] at HI1 ⊢
 have hgl:gI < w1.heap.size:=HI1.out.lt
 clear hi1 hb1
 go_wp2_with fail
 refine (num_in 7 HI1.out).mono ?_
 rintro e w2 ⟨rfl,hi2,hk2⟩
 rw [HN1.out] at hi2 ⊢
 have hng:∀ i,own i ≠ 0→i < gI:=fun i hi=>by rw [← hgI];exact H.out.small i hi
 have HF2:=Lib.hid (HF1.out.keeps hk2 (fun i hi e=>by have:=hng i hi;have e:i=gI:=e;omega))
 have HI2:=Lib.hid hi2
 have HK2:=Lib.hid (show Keeps (fun i=>tags own [1,9,10] i ∨ gI≤i) w w2 from ((Keeps.of_below (X:=nobody) HB1.out).more fun _ _ h=>h.elim).trans (hk2.more fun i _ e=>by have e:i=gI:=e;exact .inr (by omega)))
 clear hi2 hk2 HI1 HF1 HB1 hgl
 have c12:w2.cell? ⟨p.f,12,none⟩=some (.bool x.fi):=HF2.out.fo.cell 12
 have z12:=HF2.out.fo.frozen 12
 have hfl:p.f < w2.heap.size:=HF2.out.fo.lt
 have ho1:=HF2.out.o1
 go_wp2_with fail
 have hks:Keeps (· = p.f) w2 (w2.setCell ⟨p.f,12,none⟩ (.bool false)):=Keeps.set1 _ _ _ _
 have HF3:=Lib.hid (HF2.out.setFo (x':={ x with fi:=false }) (HF2.out.fo.set_ 12 (.bool false)) hks (fun i (e:i=p.f)=>by rw [e];exact ho1) rfl rfl rfl rfl rfl)
 have HI3:=Lib.hid (HI2.out.keeps hks (fun i hi e=>by have e:i=p.f:=e;have:=hng p.f (by rw [ho1];decide);omega))
 have HK3:=Lib.hid (HK2.out.trans (hks.more fun i _ e=>by have e:i=p.f:=e;rw [e];exact .inl ⟨by rw [ho1];decide,by rw [ho1];decide⟩))
 clear hks HF2 HI2 HK2 c12 z12 hfl
 generalize w2.setCell ⟨p.f,12,none⟩ (.bool false)=w3 at *
 refine (begin_i HF3.out HL.out).mono ?_
 rintro e w4 ⟨rfl,o4,gs4,bs4,hf4,hg4,hk4⟩
 have HF4:=Lib.hid (show FoldI w4 o4 { p with gs:=gs4,bs:=bs4 } { x with st:=true,fi:=false } from hf4)
 have HG4:=Lib.hid (show Grown own o4 w from hg4.later HK3.out.size)
 have hog:o4 gI=0:=hg4.zero (by rw [← hgI];exact H.out.zero (Nat.le_refl _)) HI3.out.lt
 have HI4:=Lib.hid (HI3.out.keeps hk4 (fun i hi e=>by have:=hng i e.2;omega))
 have HK4:=Lib.hid (HK3.out.trans (hk4.more fun i _ e=>.inl ⟨by have:=e.1;revert this;generalize own i=t;intro h;simp at h;rw [h];decide,e.2⟩))
 clear hf4 hg4 hk4 HF3 HI3 HK3
 have hil:gI < w4.heap.size:=HI4.out.lt
 go_wp2_with fail
 refine (text_in 65536 HI4.out).mono ?_
 rintro e w5 ⟨rfl,hi5,hk5⟩
 rw [HN2.out] at hi5 ⊢
 rw [HBY.out]
 have HF5:=Lib.hid (HF4.out.keeps hk5 (fun i hi e=>by have e:i=gI:=e;rw [e] at hi;exact hi hog))
 have HI5:=Lib.hid hi5
 have HK5:=Lib.hid (HK4.out.trans (hk5.more fun i _ e=>by have e:i=gI:=e;exact .inr (by omega)))
 clear hi5 hk5 HF4 HI4 HK4
 go_wp2_with fail
 refine (HD.out w5).mono ?_
 rintro e w6 ⟨cs,er,rfl,hb6,rfl,d,rfl,hd6⟩
 obtain ⟨A,c,rfl⟩:=ownsRow_slice hd6
 have hf6:=HF5.out.below hb6
 have hz6:∀ i,(Value.slice A q.d.length c).ownBlock=some i→w5.heap.size≤i:=fun i hi=>(hd6.lt i hi).1
 have HN6:=Lib.hid (show wire.NumsO w6 0 (.slice A q.d.length c) (natI q.d) from ⟨by
  have h:=ownI_low' (show w6.ownsRow w5.heap.size 3 1 (.slice A q.d.length c) q.d.length (encN q.d) from hd6) (Nat.zero_le _)
  have e:(natI q.d).length=q.d.length:=by unfold natI;rw [List.length_map]
  rw [e];exact h,by unfold natI;rw [List.length_map];have:=(trN_all HQ0.out.tr).1;omega⟩)
 have HF6:=Lib.hid hf6
 have HI6:=Lib.hid (HI5.out.below hb6)
 have HK6:=Lib.hid (HK5.out.trans (.of_below hb6))
 have hz0:∀ i,(Value.slice A q.d.length c).ownBlock=some i→o4 i=0:=fun i hi=>HF5.out.zero (hz6 i hi)
 have hs5:w.heap.size≤w5.heap.size:=HK5.out.size
 clear hb6 hd6 hf6 HF5 HI5 HK5
 go_wp2_with (refine wpList_store_blk rfl 34 (.tmp 11) (.tmp 115) rfl w6.heap.size (q.wr (.slice A q.d.length c)).cells rfl rfl (Blk.new w6 34 #[.int .i64 0,.int .i64 0,.int .i64 0,.int .i64 0,.slice none 0 0,.string ⟨#[]⟩,.string ⟨#[]⟩,.string ⟨#[]⟩,.bool false,.int .i64 0]) (by kernel_rfl) rfl (wire.oneAll (q.wr (.slice A q.d.length c)) rfl) ?_;intro w7 ho7 hk7 hs7)
 have hb7:Below w6.heap.size w6 w7:=(below_new w6 (.cells #[.int .i64 0,.int .i64 0,.int .i64 0,.int .i64 0,.slice none 0 0,.string ⟨#[]⟩,.string ⟨#[]⟩,.string ⟨#[]⟩,.bool false,.int .i64 0] 34)).trans (hk7.below (fun i hi e=>by omega) (by simp))
 have HF7:=Lib.hid (HF6.out.below hb7)
 have HI7:=Lib.hid (HI6.out.below hb7)
 have HN7:=Lib.hid (HN6.out.below hb7)
 have HK7:=Lib.hid (HK6.out.trans (.of_below hb7))
 have HO7:=Lib.hid ho7
 clear ho7 hk7 hb7 HF6 HI6 HN6 HK6
 refine (end_in HI7.out).mono ?_
 rintro e w8 ⟨v,rfl,heo,hb8⟩
 obtain rfl:v=.nilIface:=by
  rcases heo with ⟨_,h⟩|⟨h,_⟩
  ·exact h
  ·exact absurd rfl h
 have HF8:=Lib.hid (HF7.out.below hb8)
 have HN8:=Lib.hid (HN7.out.below hb8)
 have HK8:=Lib.hid (HK7.out.trans (.of_below hb8))
 have HO8:=Lib.hid (Blk.below HO7.out hb8 HO7.out.lt)
 clear heo hb8 HF7 HI7 HN7 HK7 HO7
 go_wp2_with fail
 refine (both_nil w8).mono ?_
 rintro e w9 ⟨rfl,rfl⟩
 go_wp2_with (refine wpList_load_at rfl 34 (.tmp 11) rfl w6.heap.size 0 (q.wr (.slice A q.d.length c)).cells rfl Tryz.underlying34 rfl (by kernel_rfl) (fun j v hj=>by rw [Nat.zero_add,HO8.out.cell j];simpa using hj) ?_)
 refine (fwrite_w (q.wr (.slice A q.d.length c)) HF8.out rfl HN8.out hz0 hLf (by show (str q.se).size≤maxLen;rw [str_size];have:=HQ0.out.s64;unfold maxLen;omega) (by show (str q.k).size≤maxLen;rw [str_size];have:=HQ0.out.k32;unfold maxLen;omega)
  ⟨by show (0:Int)≤(q.t:Int);omega,by show (q.t:Int)≤_;have:=HQ0.out.tm;unfold maxNum at this;omega⟩ ⟨by show (1:Int)≤(q.r:Int);have:=HQ0.out.r1;omega,by show (q.r:Int)≤16;have:=HQ0.out.r16;omega⟩
  ⟨by show (1:Int)≤(q.n:Int);have:=HQ0.out.n1;omega,by show (q.n:Int)≤_;have:=HQ0.out.nm;unfold maxNum at this;omega⟩ HAT.out HCV.out).mono ?_
 rintro e w10 ⟨rfl,o10,va10,vf10,hf10,hg10,hk10⟩
 have HR:=Lib.hid (show FoldTW own p x q w (.returned .nilIface) w10 from ⟨.slice A q.d.length c,rfl,o10,_,hf10,rfl,rfl,rfl,fun i=>by
   have hs8:=HK8.out.size
   rcases hg10 i with h|h|h|h
   ·rw [h];exact HG4.out i
   ·exact .inr (.inl h)
   ·exact .inr (.inr (by omega))
   ·exact .inr (.inr (by have:=hz6 i h;omega)),
  (Keeps.tagsX HK8.out HG4.out hk10 (fun _ h=>h)).more fun i hi e=>e.elim id fun e=>by omega⟩)
 clear hf10 hg10 hk10
 go_wp2_with fail
 go_ret
 exact HR.out
end
end Go.Proofs.YtdaphppdmnmicaaGreatDoor.regn
namespace Go.Proofs.YtdaphppdmnmicaaGreatDoor.regn
open Go Go.RowKit base err rowe rows store fold wireb wirep writep
inductive Rc where
 | made (m:Nat)
 | write (q:PW)
def Rc.bytes:Rc→List UInt8
 | .made m=>recN 4 m
 | .write q=>recW q
def FX.abs (x:FX):FX:={ x with Lf:=x.Lf.map wire.Wr.abs }
def stepF (x:FX):Rc→FX
 | .made m=>{ x with made:=max x.made m,st:=true,fi:=false }
 | .write q=>writeX { x with st:=true,fi:=false } (pabs q)
def OkF (x:FX):Rc→Prop
 | .made m=>m≤1099511627776
 | .write q=>q.Ok∧(q.n:Int)=vec.atV x.ap q.r + 1∧vec.coversB x.ap (natI q.d)=true
def foldF (x:FX) (l:List Rc):FX:=l.foldl stepF x
def AllF:FX→List Rc→Prop
 | _,[]=>True
 | x,r :: l=>OkF x r∧AllF (stepF x r) l
theorem foldF_snoc (x:FX) (l:List Rc) (r:Rc):foldF x (l ++ [r])=stepF (foldF x l) r:=by unfold foldF;rw [List.foldl_append];rfl
theorem AllF.at_:∀ {l:List Rc} {x:FX} (_:AllF x l) {k:Nat} (hk:k < l.length),OkF (foldF x (l.take k)) l[k]
 | [],_,_,_,hk=>absurd hk (by simp)
 | _ :: _,_,h,0,_=>h.1
 | r :: l,x,h,k + 1,hk=>by
  have:=AllF.at_ (l:=l) (x:=stepF x r) h.2 (k:=k) (by simpa using hk)
  exact this
theorem abs_write (x:FX) (q:PW) (d:Value):(writeX { x with st:=true,fi:=false } (q.wr d)).abs=writeX { x.abs with st:=true,fi:=false } (pabs q):=by
 unfold writeX FX.abs
 simp only [FX.mk.injEq,true_and,and_true]
 refine ⟨rfl,rfl,?_,rfl⟩
 show (if ((q.r:Nat):Int)=(x.id:Int) then _ else _:List wire.Wr).map wire.Wr.abs=if ((q.r:Nat):Int)=(x.id:Int) then _ else _
 split
 ·rw [List.map_append];rfl
 ·rfl
def RcR (own:Nat→Nat) (p:FP) (x:FX) (r:Rc) (w:World) (e:Ending) (w':World):Prop :=
 e=.returned .nilIface∧∃ own' p' x',FoldI w' own' p' x'∧x'.abs=stepF x.abs r∧x'.Lf.length≤x.Lf.length + 1∧x'.st=true∧p'.f=p.f∧p'.gt=p.gt∧p'.bt=p.bt∧Grown own own' w∧Keeps (tags own [1,9,10]) w w'
theorem take_rc {w:World} {own:Nat→Nat} {p:FP} {x:FX} (r:Rc) (h:FoldI w own p x) (hL:x.st=false→x.L=[]) (hr:OkF x.abs r) (hLf:x.Lf.length < 900000) :
  Calls Tryz.prog 31 #[.pointer (some ⟨p.f,0,none⟩),.string (str r.bytes)] w (RcR own p x r w):=by
 cases r with
 | made m =>
  refine (take_made m h hL hr).mono ?_
  rintro e w' ⟨rfl,o,p',hf,h1,h2,h3,hg,hk⟩
  exact ⟨rfl,o,p',_,hf,rfl,by show x.Lf.length≤_;omega,rfl,h1,h2,h3,hg,hk⟩
 | write q =>
  refine (take_write q h hL hr.1 hr.2.1 hr.2.2 hLf).mono ?_
  rintro e w' ⟨d,rfl,o,p',hf,h1,h2,h3,hg,hk⟩
  refine ⟨rfl,o,p',_,hf,abs_write x q d,?_,rfl,h1,h2,h3,hg,hk⟩
  unfold writeX
  dsimp only
  split
  ·simp
  ·omega
theorem addAll_abs (rg bs:Nat):∀ (L acc:List wire.Wr),feed.addAll rg bs acc L=feed.addAll rg bs acc (L.map wire.Wr.abs)
 | [],_=>rfl
 | y :: L,acc=>by
  show (if feed.addC rg bs acc y=0 then feed.addAll rg bs (acc ++ [y.abs]) L else none)=(if feed.addC rg bs acc y.abs=0 then feed.addAll rg bs (acc ++ [y.abs.abs]) (L.map wire.Wr.abs) else none)
  rw [addAll_abs rg bs L (acc ++ [y.abs])]
  rfl
theorem newL_abs (rg nn bs:Int) (L:List wire.Wr):feed.newL rg nn bs L=feed.newL rg nn bs (L.map wire.Wr.abs):=by
 unfold feed.newL
 rw [addAll_abs]
end Go.Proofs.YtdaphppdmnmicaaGreatDoor.regn
namespace Go.Proofs.YtdaphppdmnmicaaGreatDoor.regn
open Go Go.RowKit base err lease fold monoj rowe jrnp jrn wireb
def fold0 (id:Nat):FX:=⟨id,0,[],0,0,0,[],[],[],false,true⟩
structure OkY (id n:Nat) (y:FX) (L2:List wire.Wr) (key:Nat):Prop where
 c1:0≤y.ck
 c2:y.ck≤1099511627776
 head:(dep.headB id y.ap || y.ap.any dep.numB)=false
 new:feed.newL id n y.base y.Lf=some L2
 last:((y.base.toNat + L2.length:Nat):Int)=vec.atV y.ap id
 ky:y.key=key
 k2:key≤1099511627776
def OpenM (a b:Nat) (id n:Nat) (m:ByteArray) (l:List Part) (y:FX) (L2:List wire.Wr) (key:Nat) (w:World) (e:Ending) (w':World):Prop :=
 ∃ r jn gl gc gi gf gr gs bs gt bt va,∃ Si Sq:Nat→Prop,e=.returned (.tuple #[.pointer (some ⟨r,0,none⟩),.nilIface]) ∧
  RegB w' r ⟨id,n,m,.pointer (some ⟨jn,0,none⟩),.pointer (some ⟨gc,0,none⟩),.pointer (some ⟨gi,0,none⟩),.pointer (some ⟨gs,0,none⟩),.pointer (some ⟨gf,0,none⟩),.pointer (some ⟨gt,0,none⟩),.pointer (some ⟨gr,0,none⟩),.pointer (some ⟨gl,0,none⟩),y.made,fun _=>0,.map (some (w.heap.size + 1)),false⟩ ∧
  LeaseB w' gl id n (fun _=>0)∧jrn.JrnB w' jn b a (genL l) ∧
  clock.Clk w' gc y.ck id∧dep.InF w' Si gi id y.ap [] va (.slice none 0 0)∧feed.FeedS w' Sq gf id n y.base.toNat L2 (List.replicate n y.base)∧ringw.RingB w' gr m key∧store.StI w' gs bs y.L∧tab.Tab w' gt bt y.ep∧Keeps nobody w w' ∧
  ∃ f h a1 a2,w.heap.size < r∧r < gl∧gl < jn∧jn < f∧(f≤gs∧gs < h)∧(f≤bs∧bs < h)∧(f≤gt∧gt < h)∧(f≤bt∧bt < h)∧(gs ≠ bs∧gs ≠ gt∧gs ≠ bt∧bs ≠ gt∧bs ≠ bt∧gt ≠ bt)∧h≤gc∧gc < a1∧(∀ i,Si i→a1≤i∧i < a2)∧(∀ i,Sq i→a2≤i∧i < gr)
theorem fold0_i {w:World} {f gt bt:Nat} (id:Nat) (hf:FoldB w f ⟨id,0,.slice none 0 0,0,0,0,.slice none 0 0,.slice none 0 0,.slice none 0 0,.pointer none,.pointer (some ⟨gt,0,none⟩),false,true⟩) (ht:tab.Tab w gt bt []) (h1:f < gt) (h2:f < bt) (hne:gt ≠ bt) :
  FoldI w (fun i=>if i=f then 1 else if i=gt then 11 else if i=bt then 12 else 0) ⟨f,0,0,gt,bt,.slice none 0 0,.slice none 0 0⟩ (fold0 id) :=
 ⟨hf,⟨rfl,.inl ⟨rfl,rfl⟩⟩,fun i hi=>(by cases hi),by show 0≤16;omega,wire.OW.none _ _ _,fun h=>absurd (show false=true from h) (by decide),ht,
  if_pos rfl,(if_neg (show ¬ gt=f by omega)).trans (if_pos rfl),(if_neg (show ¬ bt=f by omega)).trans ((if_neg hne.symm).trans (if_pos rfl)),fun i hi=>by
   have hfl:=hf.lt
   have h3:=ht.1.lt
   have h4:=ht.2.lt
   by_cases e1:i=f
   ·omega
   ·by_cases e2:i=gt
    ·omega
    ·by_cases e3:i=bt
     ·omega
     ·simp only [if_neg e1,if_neg e2,if_neg e3] at hi
      exact absurd rfl hi⟩
set_option maxRecDepth 20000 in
set_option maxHeartbeats 4000000 in
theorem open_m (Sa Sb:Nat→Prop) (a b:Nat) (da db:diskp.Dk) (id n:Nat) (m:ByteArray) (l:List Part) (rs:List Rc) (L2:List wire.Wr) (key:Nat) (w:World) (hda:disk.DiskS w Sa a da) (hdb:disk.DiskS w Sb b db) (hwa:jrnp.Well da []) (hwb:jrnp.Well db l) (hab:∀ i,Sa i→¬ Sb i)
  (ho:ordered l=true) (hl0:0 < l.length) (hlast:(l.getD (l.length - 1) pZ).kind=4)
  (hrec:recordsL l=rs.map Rc.bytes) (hrl:rs.length < 900000) (hall:AllF (fold0 id) rs) (hy:OkY id n (foldF (fold0 id) rs) L2 key)
  (h1:1≤id) (h2:id≤n) (h3:n≤16) (m1:1≤m.size) (m2:m.size≤64) :
  Calls Tryz.prog 8 #[.pointer (some ⟨a,0,none⟩),.pointer (some ⟨b,0,none⟩),.agg #[.int .i64 id,.int .i64 n,.string m]] w (OpenM a b id n m l (foldF (fold0 id) rs) L2 key w):=by
 have HDA:=Lib.hid hda
 have HDB:=Lib.hid hdb
 have HWA:=Lib.hid hwa
 have HWB:=Lib.hid hwb
 have HAB:=Lib.hid hab
 have HO:=Lib.hid ho
 have HL0:=Lib.hid hl0
 have HLA:=Lib.hid hlast
 have HRE:=Lib.hid hrec
 have HAL:=Lib.hid hall
 have HY:=Lib.hid hy
 obtain ⟨N,hN⟩:∃ N,rs.length=N:=⟨_,rfl⟩
 have HN:=Lib.hid hN
 rw [hN] at hrl
 clear hda hdb hwa hwb hab ho hl0 hlast hrec hall hy hN
 have hmm:=@run_makeMap Tryz.prog
 go_enter Tryz.func8,Tryz.ntmps8
 go_wp2_with fail
 clear hmm
 refine (lease.new_ok id n h1 h2 h3 _).mono ?_
 rintro e w2 ⟨rfl,hls,hb2⟩
 have e3:∀ (o1 o2 o3:Obj),(((w.alloc o1).alloc o2).alloc o3).heap.size=w.heap.size + 3:=by intros;simp
 have hr2:RegB w2 (w.heap.size + 1 + 1) ⟨id,n,m,.pointer none,.pointer none,.pointer none,.pointer none,.pointer none,.pointer none,.pointer none,.pointer none,0,fun _=>0,.map (some (w.heap.size + 1)),false⟩ :=
  Blk.below (Blk.newAt _ _ _ (by simp)) hb2 (by rw [e3];omega)
 have hc2:Blk w2 w.heap.size 23 #[.int .i64 id,.int .i64 n,.string m]:=Blk.below (Blk.alloc (Blk.alloc (Blk.new w _ _) _) _) hb2 (by rw [e3];omega)
 have hbw:Below w.heap.size w w2:=(below_alloc (below_alloc (below_new w _) _) _).trans (hb2.mono (by rw [e3];omega))
 have hszz:=hb2.size
 rw [e3] at hls hszz ⊢
 clear hb2 e3
 obtain ⟨c,hc⟩:∃ c,w.heap.size=c:=⟨_,rfl⟩
 rw [hc] at hr2 hc2 hls hszz ⊢
 obtain ⟨r,hre⟩:∃ r,c + 1 + 1=r:=⟨_,rfl⟩
 obtain ⟨gl,hgl⟩:∃ gl,c + 3=gl:=⟨_,rfl⟩
 rw [hre] at hr2 ⊢
 rw [hgl] at hls hszz ⊢
 have hcr:¬ c=r:=by omega
 have hrc:¬ r=c:=by omega
 have k2:w2.cell? ⟨c,2,none⟩=some (.string m):=hc2.cell 2
 have hcl:=hc2.lt
 have HR2:=Lib.hid hr2
 have HC2:=Lib.hid hc2
 have HL2:=Lib.hid hls
 have HB2:=Lib.hid hbw
 have v10:=hr2.c10
 have z10:=hr2.frozen 10
 have hrl2:=hr2.lt
 have hll:=hls.lt
 clear hr2 hc2 hls hbw
 go_wp2_with fail
 have hb3a:Below w.heap.size w (w2.setCell ⟨r,10,none⟩ (.pointer (some ⟨gl,0,none⟩))):=HB2.out.setCell (by show w.heap.size≤r;omega) _
 have hR3:RegB (w2.setCell ⟨r,10,none⟩ (.pointer (some ⟨gl,0,none⟩))) r _:=HR2.out.s10 (.pointer (some ⟨gl,0,none⟩))
 have hC3:=Blk.far HC2.out (p:=⟨r,10,none⟩) (by simpa using hcr) (.pointer (some ⟨gl,0,none⟩))
 have hL3:LeaseB (w2.setCell ⟨r,10,none⟩ (.pointer (some ⟨gl,0,none⟩))) gl id n (fun _=>0):=Blk.far HL2.out (p:=⟨r,10,none⟩) (by simp;omega) (.pointer (some ⟨gl,0,none⟩))
 have HR3:=Lib.hid hR3
 have HC3:=Lib.hid hC3
 have HL3:=Lib.hid hL3
 have HB3:=Lib.hid hb3a
 clear v10 z10 k2 hR3 hC3 hL3 hb3a
 generalize w2.setCell ⟨r,10,none⟩ (.pointer (some ⟨gl,0,none⟩))=w3 at *
 refine (ringw.new_ok m 0 m1 m2 (by omega) w3).mono ?_
 rintro e w4 ⟨rfl,_,hb4⟩
 have HR4:=Lib.hid (show RegB w4 r _ from Blk.below HR3.out hb4 HR3.out.lt)
 have HC4:=Lib.hid (Blk.below HC3.out hb4 HC3.out.lt)
 have HL4:=Lib.hid (show LeaseB w4 gl id n (fun _=>0) from Blk.below HL3.out hb4 HL3.out.lt)
 have hb4w:Below w.heap.size w w4:=HB3.out.trans (hb4.mono HB3.out.size)
 have hs4:=hb4w.size
 have HB4:=Lib.hid hb4w
 clear hb4 hb4w
 have k0:w4.cell? ⟨c,0,none⟩=some (.int .i64 id):=HC4.out.cell 0
 have hcl4:=HC4.out.lt
 have hgl4:=HL4.out.lt
 have HDA4:=Lib.hid (HDA.out.below HB4.out)
 have HDB4:=Lib.hid (HDB.out.below HB4.out)
 go_wp2_with fail
 refine (jrn.open_again l HDA4.out HDB4.out HWA.out HWB.out HAB.out HO.out HL0.out HLA.out).mono ?_
 rintro e w5 ⟨jn,v,rfl,hj1,hj2,hj3,_,hj6⟩
 obtain ⟨Ar,cr,rfl⟩:=hj3.form
 have hrn:(recordsL l).length=N:=by rw [HRE.out,List.length_map,HN.out]
 have HR5:=Lib.hid (show RegB w5 r _ from Blk.below HR4.out hj6 HR4.out.lt)
 have HC5:=Lib.hid (Blk.below HC4.out hj6 HC4.out.lt)
 have HL5:=Lib.hid (show LeaseB w5 gl id n (fun _=>0) from Blk.below HL4.out hj6 HL4.out.lt)
 have HJ5:=Lib.hid hj2
 have HV5:=Lib.hid hj3
 have hs5:=hj6.size
 have HK5:=Lib.hid (HB4.out.trans (hj6.mono HB4.out.size))
 rw [hrn]
 have v3:w5.cell? ⟨r,3,none⟩=some (.pointer none):=HR5.out.c3
 have z3:=HR5.out.frozen 3
 have k0':w5.cell? ⟨c,0,none⟩=some (.int .i64 id):=HC5.out.cell 0
 have hcl5:=HC5.out.lt
 have hrl5:=HR5.out.lt
 have hjl5:=HJ5.out.lt
 clear hj2 hj3 hj6 k0
 go_wp2_with fail
 have hk6:Keeps (· = r) w5 ((w5.setCell ⟨r,3,none⟩ (.pointer (some ⟨jn,0,none⟩))).alloc (.cells (Fo.mk id 0 (.slice none 0 0) 0 0 0 (.slice none 0 0) (.slice none 0 0) (.slice none 0 0) (.pointer none) (.pointer none) false true).cells 114)) :=
  (Keeps.set1 w5 r 3 (.pointer (some ⟨jn,0,none⟩))).trans ((Keeps.of_below (X:=nobody) (below_new _ _)).more fun _ _ h=>h.elim)
 have hR6:RegB ((w5.setCell ⟨r,3,none⟩ (.pointer (some ⟨jn,0,none⟩))).alloc (.cells (Fo.mk id 0 (.slice none 0 0) 0 0 0 (.slice none 0 0) (.slice none 0 0) (.slice none 0 0) (.pointer none) (.pointer none) false true).cells 114)) r _:=Blk.alloc (HR5.out.s3 (.pointer (some ⟨jn,0,none⟩))) _
 have hF6:FoldB ((w5.setCell ⟨r,3,none⟩ (.pointer (some ⟨jn,0,none⟩))).alloc (.cells (Fo.mk id 0 (.slice none 0 0) 0 0 0 (.slice none 0 0) (.slice none 0 0) (.slice none 0 0) (.pointer none) (.pointer none) false true).cells 114)) w5.heap.size ⟨id,0,.slice none 0 0,0,0,0,.slice none 0 0,.slice none 0 0,.slice none 0 0,.pointer none,.pointer none,false,true⟩:=Blk.newAt _ _ _ (by simp)
 have HK6:=Lib.hid hk6
 have HR6:=Lib.hid hR6
 have HF6:=Lib.hid hF6
 clear hk6 hR6 hF6 v3 z3 k0'
 refine (new.new_any none 0 0 [] _ ⟨rfl,by simp,by simp,Reads.none_⟩ (by omega) (by simp)).mono ?_
 rintro e w7 h7
 rcases h7 with ⟨_,gt,bt,rfl,ht1,ht2,ht3,hb7⟩|⟨hbad,_⟩
 rotate_left
 ·exact absurd ⟨trivial,by simp,by simp⟩ hbad
 obtain ⟨f,hf⟩:∃ f,w5.heap.size=f:=⟨_,rfl⟩
 have hfs:f < w7.heap.size:=by have h8:=hb7.size;simp at h8;omega
 have hR7:=Blk.below HR6.out hb7 HR6.out.lt
 have hF7:=Blk.below HF6.out hb7 HF6.out.lt
 rw [hf] at hF7 ⊢
 have HR7:=Lib.hid (show RegB w7 r _ from hR7)
 have HF7:=Lib.hid (show FoldB w7 f ⟨id,0,.slice none 0 0,0,0,0,.slice none 0 0,.slice none 0 0,.slice none 0 0,.pointer none,.pointer none,false,true⟩ from hF7)
 have HT7:=Lib.hid ht3
 have hb7':=hb7.size
 have hgt:f < gt:=by simp at ht1;omega
 have hbt:f < bt:=by simp at ht2;omega
 have HK7:=Lib.hid (HK6.out.trans ((Keeps.of_below (X:=nobody) hb7).more fun _ _ h=>h.elim))
 clear hb7 hb7' ht1 ht2 ht3 hR7 hF7
 have v10:w7.cell? ⟨f,10,none⟩=some (.pointer none):=HF7.out.cell 10
 have z10:=HF7.out.frozen 10
 have hfr:¬ f=r:=by omega
 have hrf:¬ r=f:=by omega
 go_wp2_with fail
 have hk8:Keeps (· = f) w7 (w7.setCell ⟨f,10,none⟩ (.pointer (some ⟨gt,0,none⟩))):=Keeps.set1 _ _ _ _
 have hF8:FoldB (w7.setCell ⟨f,10,none⟩ (.pointer (some ⟨gt,0,none⟩))) f ⟨id,0,.slice none 0 0,0,0,0,.slice none 0 0,.slice none 0 0,.slice none 0 0,.pointer none,.pointer (some ⟨gt,0,none⟩),false,true⟩:=HF7.out.set_ 10 (.pointer (some ⟨gt,0,none⟩))
 have HR8:=Lib.hid (show RegB (w7.setCell ⟨f,10,none⟩ (.pointer (some ⟨gt,0,none⟩))) r _ from Blk.keeps HR7.out hk8 hrf)
 have HT8:=Lib.hid (HT7.out.keeps hk8 (fun e=>by have e:gt=f:=e;omega) (fun e=>by have e:bt=f:=e;omega))
 have ngt:gt ≠ bt:=fun e=>by
  subst e
  obtain ⟨es,clock,hb',_⟩:=HT8.out.2.1
  have:=HT8.out.1
  unfold Blk at this
  rw [hb'] at this
  cases this
 have HI8:=Lib.hid (fold0_i id hF8 HT8.out hgt hbt ngt)
 have HKF:=Lib.hid ((HK7.out.more (Y:=fun i=>i=r ∨ i=f) fun _ _ h=>.inl h).trans (hk8.more fun _ _ h=>.inr h))
 have hvf:∀ j,(Value.slice Ar N cr).ownBlock=some j→w4.heap.size≤j∧j < f:=fun j hj=>by
  rw [← hf];exact HV5.out.lt j (by rw [hrn];exact hj)
 have HVF:=Lib.hid hvf
 have HV8:=Lib.hid (show OwnS (w7.setCell ⟨f,10,none⟩ (.pointer (some ⟨gt,0,none⟩))) w4.heap.size (.slice Ar N cr) (rs.map Rc.bytes) from by
  have h:=dep.own_keeps HV5.out HKF.out (fun j hj=>by
   rw [hrn] at hj
   have:=hvf j hj
   have:=HR4.out.lt
   rintro (e|e) <;> omega)
  rw [hrn,HRE.out] at h
  unfold OwnS
  rw [List.length_map,HN.out]
  exact h)
 have hs8:f < (w7.setCell ⟨f,10,none⟩ (.pointer (some ⟨gt,0,none⟩))).heap.size:=by simpa using hfs
 clear hk8 hF8 v10 z10 hvf
 generalize w7.setCell ⟨f,10,none⟩ (.pointer (some ⟨gt,0,none⟩))=w8 at *
 go_loopw [84,15,16,6,7] (fun i _ _ _ _ wr=>∃ (k:Nat) (own:Nat→Nat) (p:FP) (x:FX),i=.int .i64 k∧k≤N∧FoldI wr own p x∧p.f=f∧x.abs=foldF (fold0 id) (rs.take k)∧(x.st=false→x.L=[])∧x.Lf.length≤k∧(∀ i,own i ≠ 0→f≤i)∧Keeps (fun i=>f≤i) w8 wr) (fun i _ _ _ _ _=>N - (intOf i).toNat)
 case atStart =>
  refine ⟨0,_,_,_,rfl,by omega,HI8.out,rfl,rfl,fun _=>rfl,by show 0≤0;omega,fun i hi=>?_,.refl _ _⟩
  by_cases e1:i=f
  ·omega
  ·by_cases e2:i=gt
   ·omega
   ·by_cases e3:i=bt
    ·omega
    ·simp only [if_neg e1,if_neg e2,if_neg e3] at hi
     exact absurd rfl hi
 case round =>
  obtain ⟨k,own,p,x,rfl,hk,hI,hpf,habs,hst,hLf,hown,hkw⟩:=hrel
  have HI:=Lib.hid hI
  have HAB2:=Lib.hid habs
  have HST:=Lib.hid hst
  have HLF:=Lib.hid hLf
  have HOW:=Lib.hid hown
  have HKW:=Lib.hid hkw
  have HPF:=Lib.hid hpf
  clear hI habs hst hLf hown hkw hpf
  by_cases hkn:k < N
  ·have dk:decide ((k:Int) < (N:Int))=true:=decide_eq_true (by omega)
   have hkr:k < rs.length:=by rw [HN.out];exact hkn
   have hlen:(rs.map Rc.bytes).length=N:=by rw [List.length_map,HN.out]
   have hor:OwnS _ w4.heap.size (.slice Ar N cr) (rs.map Rc.bytes):=dep.own_keeps HV8.out HKW.out (fun j hj e=>by have:=HVF.out j hj;have e:f≤j:=e;omega)
   have hrd:=Reads.of_own (by have h:=hor;unfold OwnS at h;rw [hlen] at h;exact h)
   obtain ⟨bv,off,rfl,hbb⟩:=hrd.at_some (by omega)
   have hcv:_root_.Go.World.cell? _ ⟨bv,off + k,none⟩=some (.string (str rs[k].bytes)):=hrd.get (by omega) (by simp only [scells,List.map_map,List.getElem?_map,List.getElem?_eq_getElem hkr,Option.map_some];rfl)
   have hok:=HAL.out.at_ hkr
   have htk:rs.take (k + 1)=rs.take k ++ [rs[k]]:=List.take_succ_eq_append_getElem hkr
   rw [← HAB2.out] at hok
   have HS1:=Lib.hid (show foldF (fold0 id) (rs.take (k + 1))=stepF x.abs rs[k] by rw [htk,foldF_snoc,HAB2.out])
   have ht:=take_rc rs[k] HI.out HST.out hok (by have:=HLF.out;omega)
   rw [HPF.out] at ht
   have HT:=Lib.hid ht
   clear ht hok htk hor hrd hlen
   generalize rs[k]=rc at *
   obtain ⟨Tb,hTb⟩:∃ y,str rc.bytes=y:=⟨_,rfl⟩
   rw [hTb] at hcv HT
   have HTB:=Lib.hid hTb
   clear hTb
   go_wp2_with fail
   refine HT.out.mono ?_
   rintro e wn ⟨rfl,own',p',x',hI',ha',hl',hst',hpf',_,_,hgr,hkn'⟩
   have hsz:=HKW.out.size
   have HI':=Lib.hid hI'
   have HA':=Lib.hid (ha'.trans HS1.out.symm)
   have HF':=Lib.hid (hpf'.trans HPF.out)
   have HL':=Lib.hid (show x'.Lf.length≤k + 1 by have:=HLF.out;omega)
   have HS':=Lib.hid (show x'.st=false→x'.L=[] from fun e=>by rw [hst'] at e;cases e)
   have HOW':=Lib.hid (show ∀ i,own' i ≠ 0→f≤i from fun i hi=>by
    rcases hgr i with h|h|h
    ·exact HOW.out i (by rw [← h];exact hi)
    ·exact absurd h hi
    ·omega)
   have HKW':=Lib.hid (HKW.out.trans (hkn'.more fun i _ e=>HOW.out i e.2))
   clear hI' ha' hl' hst' hpf' hgr hkn' HT HI HST HLF HOW HKW
   go_wp2_with fail
   go_roundw
   case rel=>exact ⟨k + 1,own',p',x',by go_num,by omega,HI'.out,HF'.out,HA'.out,HS'.out,HL'.out,HOW'.out,HKW'.out⟩
   case measure=>simp [intOf];omega
  ·obtain rfl:N=k:=by omega
   have dk:decide ((N:Int) < (N:Int))=false:=by simp
   have htk:rs.take N=rs:=by rw [← HN.out];exact List.take_length
   rw [htk] at HAB2
   have ht:=begin_i HI.out HST.out
   rw [HPF.out] at ht
   have HT:=Lib.hid ht
   have hbf:=HKW.out.below (B:=f) (fun i hi e=>by have e:f≤i:=e;omega) (by omega)
   have HRw:=Lib.hid (show RegB wr r _ from Blk.below HR8.out hbf (by omega))
   have hsw:=HKW.out.size
   clear ht hbf htk
   go_wp2_with fail
   refine HT.out.mono ?_
   rintro e w9 ⟨rfl,o9,gs,bs,hI9,hg9,hk9⟩
   have hs9:=hk9.size
   have hI9':=hI9
   have HI9:=Lib.hid hI9
   have HO9:=Lib.hid (show ∀ i,o9 i ≠ 0→f≤i from fun i hi=>by
    rcases hg9 i with h|h|h
    ·exact HOW.out i (by rw [← h];exact hi)
    ·exact absurd h hi
    ·omega)
   have HK9:=Lib.hid (HKW.out.trans (hk9.more fun i _ e=>HOW.out i e.2))
   have HR9:=Lib.hid (show RegB w9 r _ from Blk.keeps HRw.out hk9 (fun e=>by have:=HOW.out r e.2;omega))
   clear hI9 hI9' hg9 hk9 HT HI HST HOW HKW HRw
   go_wp2_with fail
   obtain ⟨y,hyy⟩:∃ y,foldF (fold0 id) rs=y:=⟨_,rfl⟩
   have HYY:=Lib.hid (show OkY id n y L2 key by rw [← hyy];exact HY.out)
   have HXA:=Lib.hid (show x.abs=y by rw [← hyy];exact HAB2.out)
   have HYE:=Lib.hid hyy
   clear hyy
   have q2:x.ck=y.ck:=by have h:=congrArg FX.ck HXA.out;exact h
   have q3:x.ap=y.ap:=by have h:=congrArg FX.ap HXA.out;exact h
   have q4:x.made=y.made:=by have h:=congrArg FX.made HXA.out;exact h
   have q5:x.key=y.key:=by have h:=congrArg FX.key HXA.out;exact h
   have q6:x.base=y.base:=by have h:=congrArg FX.base HXA.out;exact h
   have q7:x.Lf.map wire.Wr.abs=y.Lf:=by have h:=congrArg FX.Lf HXA.out;exact h
   have q8:x.L=y.L:=by have h:=congrArg FX.L HXA.out;exact h
   have q9:x.ep=y.ep:=by have h:=congrArg FX.ep HXA.out;exact h
   have hfo:FoldB w9 f (foOf { p with gs:=gs,bs:=bs } { x with st:=true }):=HI9.out.fo
   have hpre:Pre w9 r f ⟨id,n,m,.pointer (some ⟨jn,0,none⟩),.pointer none,.pointer none,.pointer none,.pointer none,.pointer none,.pointer none,.pointer (some ⟨gl,0,none⟩),0,fun _=>0,.map (some (c + 1)),false⟩ (foOf { p with gs:=gs,bs:=bs } { x with st:=true }) x.ap x.Lf L2 key gs p.gt (fun i=>o9 i=7 ∨ o9 i=10) :=
    ⟨rfl,rfl,HR9.out,hfo,hfr,by show (1:Int)≤(id:Int);omega,by show (id:Int)≤(n:Int);omega,by show (n:Int)≤16;omega,by show 0≤x.ck;rw [q2];exact HYY.out.c1,by show x.ck≤_;rw [q2];exact HYY.out.c2,m1,m2,HI9.out.app,fun i hi=>.inl (HI9.out.apS i hi),HI9.out.a16,by rw [q3];exact HYY.out.head,HI9.out.fd.more (fun _ h=>.inr h),
     fun e=>by have:=HO9.out r (by rcases e with e|e <;> rw [e] <;> decide);omega,fun i e=>HI9.out.small i (by rcases e with e|e <;> rw [e] <;> decide),by show feed.newL id n x.base x.Lf=some L2;rw [newL_abs,q7,q6];exact HYY.out.new,by show ((x.base.toNat + L2.length:Nat):Int)=vec.atV x.ap id;rw [q6,q3];exact HYY.out.last,by show x.key=key;rw [q5];exact HYY.out.ky,HYY.out.k2⟩
   refine (load_w r f _ _ x.ap x.Lf L2 key gs p.gt _ w9 hpre).mono ?_
   rintro e w10 ⟨rfl,h10⟩
   have H10:=Lib.hid h10
   clear h10 hpre
   have Q2:=Lib.hid q2
   have Q3:=Lib.hid q3
   have Q4:=Lib.hid q4
   have Q6:=Lib.hid q6
   have Q8:=Lib.hid q8
   have Q9:=Lib.hid q9
   clear q2 q3 q4 q5 q6 q7 q8 q9 hfo
   go_wp2_with fail
   refine (both_nil _).mono ?_
   rintro e w11 ⟨rfl,rfl⟩
   go_wp2_with fail
   go_ret2
   obtain ⟨gc,gi,gf,gr,va,Si,Sq,t1,_,t3,t4,t5,t6,t7,a1,a2,t8,t9,t10,t11⟩:=H10.out
   have hq9:∀ {i t},o9 i=t→t ≠ 0→f≤i∧i < w9.heap.size∧i ≠ r:=fun {i t} h1 h2=>by
    have h3:o9 i ≠ 0:=by rw [h1];exact h2
    have h4:=HO9.out i h3
    have h5:=HI9.out.small i h3
    omega
   obtain ⟨hsto,hs8',hs9''⟩:=HI9.out.sto rfl
   have hs8':o9 gs=8:=hs8'
   have hs9'':o9 bs=9:=hs9''
   have z8:=hq9 hs8' (by decide)
   have z9:=hq9 hs9'' (by decide)
   have z11:=hq9 (show o9 p.gt=11 from HI9.out.o11) (by decide)
   have z12:=hq9 (show o9 p.bt=12 from HI9.out.o12) (by decide)
   have ne:∀ {i j s t},o9 i=s→o9 j=t→s ≠ t→i ≠ j:=fun {i j s t} h1 h2 h3 e=>h3 (by rw [← h1,← h2,e])
   have hK:Keeps (fun i=>i=r ∨ f≤i) w5 w11:=(((HKF.out.more (Y:=fun i=>i=r ∨ f≤i) fun _ _ h=>h.elim .inl (fun h=>.inr (by omega))).trans (HK9.out.more fun _ _ h=>.inr h))).trans (t7.more fun _ _ h=>.inl h)
   rw [HYE.out]
   refine ⟨r,jn,gl,gc,gi,gf,gr,gs,bs,p.gt,p.bt,va,Si,Sq,rfl,?_,?_,?_,?_,?_,?_,t6,?_,?_,?_,f,w9.heap.size,a1,a2,?_,?_,?_,?_,⟨z8.1,z8.2.1⟩,⟨z9.1,z9.2.1⟩,⟨z11.1,z11.2.1⟩,⟨z12.1,z12.2.1⟩,⟨ne hs8' hs9'' (by decide),ne hs8' HI9.out.o11 (by decide),ne hs8' HI9.out.o12 (by decide),ne hs9'' HI9.out.o11 (by decide),ne hs9'' HI9.out.o12 (by decide),ne HI9.out.o11 HI9.out.o12 (by decide)⟩,t8,t9,t10,t11⟩
   ·rw [hc,← Q4.out]
    exact t1
   ·exact Blk.keeps HL5.out hK (fun e=>by rcases e with e|e <;> omega)
   ·exact Blk.keeps HJ5.out hK (fun e=>by rcases e with e|e <;> omega)
   ·rw [← Q2.out];exact t3
   ·rw [← Q3.out];exact t4
   ·rw [← Q6.out];exact t5
   ·rw [← Q8.out];exact hsto.keeps t7 (fun e=>z8.2.2 e) (fun e=>z9.2.2 e)
   ·rw [← Q9.out];exact HI9.out.tab.keeps t7 (fun e=>z11.2.2 e) (fun e=>z12.2.2 e)
   ·have k1:Keeps (fun i=>i=r ∨ f≤i) w w11:=((Keeps.of_below (X:=nobody) HK5.out).more fun _ _ h=>h.elim).trans hK
    exact ⟨k1.os,k1.tape,k1.output,k1.size,fun i hb _=>k1.block i hb (fun e=>by rcases e with e|e <;> omega)⟩
   all_goals omega
end Go.Proofs.YtdaphppdmnmicaaGreatDoor.regn
namespace Go.Proofs.YtdaphppdmnmicaaGreatDoor.regn
open Go Go.RowKit base err wire dep vec with_ jrnp diskp jrn writep wireb wirep
theorem steps_nil {ap a:List Int} {l out:List Wr} (h:dep.Steps ap [] a l out):a=ap∧l=[]∧out=[]:=by
 induction h with
 | zero=>exact ⟨rfl,rfl,rfl⟩
 | one h k hk hr hn ih =>
  obtain ⟨_,h2,_⟩:=ih
  rw [h2] at hk
  simp at hk
theorem plan_zero {id ck0:Int} {ap0:List Int} {ws0 own all:List Wr} {ck:Int} {a:List Int} {ws:List Wr} (h:Plan id ck0 ap0 ws0 [] own all ck a ws):own=[]∧all=[]∧ck=ck0∧a=ap0∧ws=ws0:=by
 generalize hcs:([]:List Ch)=cs at h
 cases h with
 | zero=>exact ⟨rfl,rfl,rfl,rfl,rfl⟩
 | one=>simp at hcs
theorem plan_single {id ck0:Int} {ap0:List Int} {c:Ch} {own all:List Wr} {ck:Int} {a:List Int} {ws:List Wr} (h:Plan id ck0 ap0 [] [c] own all ck a ws) :
  own=[mkW id c ck0 ap0 (.slice none 0 0)]∧all=[mkW id c ck0 ap0 (.slice none 0 0)]∧ck=ck0 + 1∧a=withL ap0 id (atV ap0 id + 1)∧ws=[]:=by
 generalize hcs:[c]=cs at h
 cases h with
 | zero=>simp at hcs
 | one h c' hck hr hst hno =>
  rename_i cs1 own1 all1 ck1 a1 ws1 out
  obtain ⟨e1,e2⟩:cs1=[]∧c'=c:=by
   cases cs1 with
   | nil=>simp at hcs;exact ⟨rfl,hcs.symm⟩
   | cons y l=>simp at hcs
  subst e1 e2
  obtain ⟨h1,h2,h3,h4,h5⟩:=plan_zero h
  subst h1 h2 h3 h4 h5
  obtain ⟨s1,s2,s3⟩:=steps_nil hst
  subst s1 s2 s3
  exact ⟨rfl,rfl,rfl,rfl,rfl⟩
theorem natI_inj:∀ {v u:List Nat},natI v=natI u→v=u
 | [],[],_=>rfl
 | [],_ :: _,h=>by simp [natI] at h
 | _ :: _,[],h=>by simp [natI] at h
 | a :: v,b :: u,h=>by
  unfold natI at h
  rw [List.map_cons,List.map_cons] at h
  injection h with h1 h2
  rw [show a=b by omega,natI_inj (v:=v) (u:=u) h2]
theorem str_inj {a b:List UInt8} (h:wireb.str a=wireb.str b):a=b:=by
 rw [← wireb.str_list a,← wireb.str_list b,h]
theorem pabs_inj {q q':PW} (h:pabs q=pabs q'):q=q':=by
 obtain ⟨r,n,t,d,se,k,v,g,l⟩:=q
 obtain ⟨r',n',t',d',se',k',v',g',l'⟩:=q'
 simp only [pabs,PW.wr,Wr.mk.injEq] at h
 obtain ⟨a,b,c,_,_,e,f,g,i,j,k⟩:=h
 rw [PW.mk.injEq]
 exact ⟨by omega,by omega,by omega,natI_inj e,str_inj f,str_inj g,str_inj i,j,by omega⟩
theorem map_one {ps:List PW} {q:PW} (h:[pabs q]=ps.map pabs):ps=[q]:=by
 match ps,h with
 | [],h=>simp at h
 | [p],h =>
  simp only [List.map_cons,List.map_nil,List.cons.injEq,and_true] at h
  rw [pabs_inj h]
 | _ :: _ :: _,h=>simp at h
theorem map_nil {ws1 ws:List Wr} (h:ws1.map Wr.abs=ws.map Wr.abs) (hw:ws=[]):ws1=[]:=by
 subst hw
 simpa using h
theorem nomake_one {x:RX} {l:List Part} {rs0:List (List UInt8)} {ch:Ch} {c:Int} {q:PW} (hws:x.ws=[]) (hck:x.ck < 1099511627776) (hq:mkW x.id ch x.ck x.ap (.slice none 0 0)=pabs q) (hr:q.Ok) (hn:rs0.length≤300)
  (hp:(dev (putL x.gen l (rs0 ++ [recW q]))).length≤x.dn.room):¬ NoMake x l rs0 [ch] c:=by
 rintro (h|h)
 ·obtain ⟨ws1,cs1,c0,cs2,own,all,ck,a,ws,hab,hcs,hpl,hh⟩:=h
  have e:=map_nil hab hws
  obtain ⟨e1,e2⟩:cs1=[]∧c0=ch:=by
   cases cs1 with
   | nil=>simp at hcs;exact ⟨rfl,hcs.1.symm⟩
   | cons y l=>simp at hcs
  subst e1 e2 e
  obtain ⟨_,_,h3,h4,_⟩:=plan_zero hpl
  subst h3 h4
  rcases hh with ⟨_,h⟩|⟨_,_,h⟩
  ·omega
  ·rw [hq] at h
   have h2:rightB (pabs q)=true:=by
    have:=wireb.right_pw q (.slice none 0 0)
    exact this.trans ((PW.right_iff q).2 hr)
   rw [h2] at h
   cases h
 ·obtain ⟨ws1,o,all,ck,a,ws,ps,hab,hpl,hps,hok,hne,h⟩:=h
  have e:=map_nil hab hws
  subst e
  obtain ⟨_,h2,_⟩:=plan_single hpl
  rw [hps,hq] at h2
  have:=map_one h2.symm
  subst this
  simp only [List.map_cons,List.map_nil] at h
  rcases h with ⟨_,h⟩|⟨_,_,h⟩
  ·simp at h;omega
  ·exact h hp
theorem made_one {x x':RX} {l:List Part} {rs0:List (List UInt8)} {ch:Ch} {o:List Wr} {q:PW} (h:MadeX x l rs0 [ch] x' o) (hws:x.ws=[]) (hq:mkW x.id ch x.ck x.ap (.slice none 0 0)=pabs q) :
  x'=takesX x l (rs0 ++ [recW q]) [q] (withL x.ap x.id (atV x.ap x.id + 1)) []:=by
 obtain ⟨ws1,all,ck,a,ws,ps,hab,hpl,hps,hok,hx,_⟩:=h
 have e:=map_nil hab hws
 subst e
 obtain ⟨_,h2,_,h4,h5⟩:=plan_single hpl
 rw [hps,hq] at h2
 have:=map_one h2.symm
 subst this h4 h5
 exact hx
theorem mark_le {g pl:Nat} (h1:1≤g) (h2:g≤1099511627776) (hp:pl≤1099511627776):(Part.mk 4 g pl []).sealed.length≤121:=by
 have:=seal_le (Part.mk 4 g pl []) ⟨by show 1≤4;omega,by show 4≤4;omega,h1,h2,hp,by show 0≤4096;omega,.inr rfl⟩ 0 (by show 0≤0;omega)
 omega
theorem put_few {g K:Nat} {l:List Part} {rs:List (List UInt8)} (h1:1≤g) (h2:g≤1099511627776) (hl:(dev l).length≤K) (hK:K≤100000) (hn:rs.length≤10) (hrs:∀ s ∈ rs,s.length≤1000):(dev (putL g l rs)).length≤K + rs.length * 2121 + 121:=by
 rw [put_len]
 have h3:=jrnp.recs_le g (dev l).length 1000 rs h1 h2 (by omega) (by omega) hrs
 have h4:(dev (l ++ recsL g (dev l).length rs)).length≤K + rs.length * 2121:=by rw [dev_app,List.length_append];omega
 have h5:=mark_le (g:=g) (pl:=(dev (l ++ recsL g (dev l).length rs)).length) h1 h2 (by omega)
 omega
theorem well_crash {d:Dk} {l:List Part} (h:Well d l):Well (crash0 d) l:=by
 have e:d.b.take d.safe=d.b:=by rw [h.safe];exact List.take_length
 refine ⟨?_,?_,by show (-1:Int) < 0;omega,rfl,h.ok,?_⟩
 ·show d.b.take d.safe=_;rw [e];exact h.b
 ·show d.safe=(d.b.take d.safe).length;rw [e];exact h.safe
 ·show (d.b.take d.safe).length≤_;rw [e];exact h.few
end Go.Proofs.YtdaphppdmnmicaaGreatDoor.regn
