/- Part of GateRetires. -/
import Derived.Test.YthlahcnglacekaaGreatDoorB46
import Derived.Test.YthlahcnglacekaaGreatDoorB31
set_option maxRecDepth 100000
set_option maxHeartbeats 16000000
namespace Go.Proofs.YthlahcnglacekaaGreatDoor
namespace regn
open Go Go.RowKit base err rowe rows store fold wireb wirep writep
inductive Rc where
 | made (m:Nat)
 | write (q:PW)
def stepF (x:FX):Rc→FX
 | .made m=>{ x with made:=max x.made m,st:=true,fi:=false }
 | .write q=>writeX { x with st:=true,fi:=false } (pabs q)
def foldF (x:FX) (l:List Rc):FX:=l.foldl stepF x
end regn
namespace regn
open Go Go.RowKit base err lease fold monoj rowe jrnp jrn wireb
def fold0 (id:Nat):FX:=⟨id,0,[],0,0,0,[],[],[],false,true⟩
end regn
namespace regn
open Go Go.RowKit base err lease fold disk diskp jrnp
end regn
namespace regn
open Go Go.RowKit base err wire dep vec with_ jrnp diskp jrn writep wireb wirep store rows merge
def nm11:ByteArray:=⟨#[49,45,49]⟩
def chB:Ch:=⟨nm11,⟨#[]⟩,⟨#[97,110,110]⟩,false,0⟩
def chW:Ch:=⟨nm11,⟨#[97]⟩,⟨#[120]⟩,false,0⟩
def qB:PW:=⟨1,1,1,[],[49,45,49],[],[97,110,110],false,0⟩
def qW:PW:=⟨1,2,2,[1],[49,45,49],[97],[120],false,0⟩
theorem nm_one:quota.str (dec.nm 1 1)=nm11:=by
 unfold dec.nm;rw [dec.dec_small (by omega)];rfl
theorem okB:qB.Ok:=(PW.right_iff _).1 (by decide)
theorem okW:qW.Ok:=(PW.right_iff _).1 (by decide)
theorem mkB:mkW ((1:Nat):Int) chB 0 [] (.slice none 0 0)=pabs qB:=rfl
theorem mkWW:mkW ((1:Nat):Int) chW 1 [1] (.slice none 0 0)=pabs qW:=rfl
def m1:ByteArray:=⟨#[109]⟩
def x0 (da db:Dk):RX:=newX 1 1 m1 da db
def l0:List Part:=startL 1 []
def rs1:List (List UInt8):=[recN 4 1,recW qB]
theorem rs1_le:∀ s ∈ rs1,s.length≤1000:=by
 intro s hs;unfold rs1 at hs;simp only [List.mem_cons,List.not_mem_nil,or_false] at hs
 rcases hs with rfl|rfl
 ·exact recN_len 4 1 (by omega) (by omega)
 ·exact rec_len okB
theorem at_one (r:Int):atV [1] r=if r=1 then 1 else 0:=by
 unfold atV
 by_cases h:r=1
 ·subst h;rfl
 ·rw [if_neg h,if_pos]
  simp
  omega
def rcs:List Rc:=[.made 1,.write qB,.write qW]
def y2:FX:=foldF (fold0 1) rcs
theorem sto2:y2.L=takeL (takeL [] (nm11,⟨#[]⟩) ⟨1,1,⟨#[97,110,110]⟩,false,0⟩) (nm11,⟨#[97]⟩) ⟨2,1,⟨#[120]⟩,false,0⟩:=rfl
theorem get_ch:atL y2.L (nm11,⟨#[]⟩)=⟨1,1,⟨#[97,110,110]⟩,false,0⟩:=by
 rw [sto2];unfold atL;rw [getL_take (rising_take rising_nil _ _),if_neg (by decide),getL_take rising_nil,if_pos rfl];rfl
theorem get_cd:atL y2.L (nm11,⟨#[97]⟩)=⟨2,1,⟨#[120]⟩,false,0⟩:=by
 rw [sto2];unfold atL;rw [getL_take (rising_take rising_nil _ _),if_pos rfl,getL_take rising_nil,if_neg (by decide)];rfl
theorem get_c:getC ⟨#[97]⟩ (atL y2.L (nm11,⟨#[]⟩)) (atL y2.L (nm11,⟨#[97]⟩))=0:=by
 rw [get_ch,get_cd];unfold getC;rw [ByteArray.toList_eq,if_neg (by decide),if_neg (by decide),if_neg (by decide)]
end regn
namespace gatew
open Go Go.RowKit base regn disk jrnp diskp
def dG:Dk:=newD 1048576
theorem open_l (n:Nat) (w:World) (h1:1≤n) (h2:n≤16):Calls Tryz.prog 6 #[.int .i64 n] w fun e w'=>∃ p own,e=.returned (.pointer (some ⟨p.r,0,none⟩))∧RegI w' own p (newX 1 n m1 dG dG)∧(∀ i,own i≠0→w.heap.size≤i)∧Below w.heap.size w w':=by
 go_enter Tryz.func6,Tryz.ntmps6;go_wp2_with fail;refine (disk.new_any 1048576 (by omega) w).mono ?_;rintro e w1 ⟨rfl,hd1,hb1⟩;have HD1:=qH hd1;have HB1:=qH hb1;have hs1:w.heap.size<w1.heap.size:=by obtain ⟨v,hv⟩:=hd1;exact hv.small _ rfl
 clear hd1 hb1;go_wp2_with fail;refine (disk.new_any 1048576 (by omega) w1).mono ?_;rintro e w2 ⟨rfl,hd2,hb2⟩;have HD2:=qH (show DiskS w2 (· = w1.heap.size) w1.heap.size dG from hd2);have HDa:=qH (show DiskS w2 (· = w.heap.size) w.heap.size dG from HD1.out.below hb2);have HB2:=qH (HB1.out.trans (hb2.mono HB1.out.size));have hs2:w1.heap.size<w2.heap.size:=by obtain ⟨v,hv⟩:=hd2;exact hv.small _ rfl
 clear hd2 hb2 HD1 HB1;go_wp2_with fail;refine (open_w (· = w.heap.size) (· = w1.heap.size) w.heap.size w1.heap.size dG dG 1 n m1 w2 HDa.out HD2.out (well_new _) (well_new _) (fun i e1 e2=>by omega) (by have:=start_len;show _≤1048576;omega) (by omega) (by omega) (by omega) (by decide) (by decide)).mono ?_;rintro e w3 h3;obtain ⟨p,own,rfl,hr3,hpn,hps,ho5,hot,ho4,hk3⟩:=OpenR.regI h3 HDa.out (fun i e1 e2=>by have e1:i=w.heap.size:=e1;have e2:i=w1.heap.size:=e2;omega) (fun i e=>by have e:i=w1.heap.size:=e;omega);have HR3:=qH hr3
 have HO3:=qH (show ∀ i,own i≠0→w.heap.size≤i from fun i hi=>by
  rcases hot i hi with h|h|h
  ·have h:i=w.heap.size:=h;omega
  ·have h:i=w1.heap.size:=h;omega
  ·omega)
 have HB3:=qH (HB2.out.trans (hk3.below (B:=w.heap.size) (fun i hi e=>by have e:i=w1.heap.size:=e;omega) HB2.out.size));clear h3 hr3 hpn hps ho5 hot ho4 hk3 HD2 HDa HB2;go_wp2_with fail;go_ret
 exact ⟨p,own,rfl,HR3.out,HO3.out,HB3.out⟩
end gatew
namespace gatew
open Go Go.RowKit Go.Lib base rowe err wireb claimp tokw regn ringw monoj fold
def headT (m:List UInt8) (y:PC):List UInt8:=nameB.data.toList++61 :: tokL m y
structure Well (x:RX) (y:PC) (t:Int) (rg:Int) (l:Int):Prop where
 ok:y.Ok
 m1:1≤x.m.size
 m2:x.m.size≤64
 key:x.key≤1099511627776
 live:x.key≤y.ke+2
 ep:list.getL x.ep (str y.us)=(y.ep:Int)
 cov:vec.coversB (vec.trimL x.ap) (natI y.cx)=true
 head:store.atL x.L (str y.se,⟨#[]⟩)=⟨t,rg,str y.us,false,l⟩
 vis:0<t
theorem who_ok {own:Nat→Nat} {p:RP} {x:RX} {y:PC} {t rg l:Int} (w:World) (h:RegI w own p x) (hT:bake.Tabs w) (hw:Well x y t rg l) :
  Calls Tryz.prog 16 #[.pointer (some ⟨p.r,0,none⟩),.string (str (headT x.m.data.toList y))] w (TokR y w):=by
 have hcb:=below_new w (.cells zeroC.toArray 37);have h0:=h.below hcb;have HT0:=qH hT;have HX0:=qH (Blk.new w 37 zeroC.toArray);have HCB:=qH hcb;have HR0:=qH h0;have hs0:(w.alloc (.cells zeroC.toArray 37)).heap.size=w.heap.size+1:=by simp
 have HD0:=qH (down_any h0.reg)
 have hhs:(str (headT x.m.data.toList y)).size≤4096:=by
  have:=tok_len (m:=x.m.data.toList) hw.ok;rw [str_size] at this ⊢;unfold headT;rw [List.length_append,List.length_cons];show 7+_≤_;omega
 have HF:=qH (fun w'=>cookw.find_one (str (headT x.m.data.toList y)) nameB (str (tokL x.m.data.toList y)) w' (by rw [str_list,str_list];rfl) hhs (by decide +kernel) (tok_oct _ _));clear h hT hcb h0 hhs;unfold zeroC at *;go_enter Tryz.func16,Tryz.ntmps16;go_wp2_with fail;generalize w.alloc _=w0 at *;refine HD0.out.mono ?_;rintro e w1 ⟨rfl,hw1⟩;subst hw1;go_wp2_with fail;refine (HF.out _).mono ?_;rintro e w2 ⟨rfl,hb2⟩;have HR2:=qH (HR0.out.below hb2);have HX2:=qH (HX0.out.below hb2 (by omega));have HB2:=qH (HCB.out.trans (hb2.mono (by omega)));have hs2:=hb2.size;clear hb2 HR0 HX0 HCB HD0 HF;go_wp2_with fail;refine (ring_any HR2.out.reg rfl rfl HR2.out.ring hw.m1 hw.m2 hw.key).mono ?_;rintro e w3 ⟨g,rfl,hrb,hb3⟩;have HR3:=qH (HR2.out.below hb3);have HX3:=qH (HX2.out.below hb3 (by omega));have HB3:=qH (HB2.out.trans (hb3.mono (by omega)));have hs3:=hb3.size;have HG3:=qH hrb;clear hb3 hrb HR2 HX2 HB2;have HT3:=qH (HT0.out.below HB3.out);obtain ⟨mx,hmx⟩:=HT3.out.m;go_wp2_with fail;refine (tok_read g x.m x.key y mx w3 HG3.out hw.m2 hw.key hw.ok hw.live hmx).mono ?_;rintro e w4 ⟨d,rfl,hn4,hb4⟩;obtain ⟨Ad,nd,cd,rfl,hcap1,hcap2,hcap3⟩:=hn4.1;have HR4:=qH (HR3.out.below hb4);have HX4:=qH (HX3.out.below hb4 (by omega));have HB4:=qH (HB3.out.trans (hb4.mono (by omega)));have hs4:=hb4.size;have HN4:=qH hn4;clear hb4 hn4 HR3 HX3 HB3 HG3 HT3 hmx;obtain ⟨gc,hgc⟩:∃ gc,w4.heap.size=gc:=⟨_,rfl⟩;have HGC:=qH (show Blk (w4.alloc (.cells zeroC.toArray 37)) gc 37 zeroC.toArray from Blk.newAt _ _ _ hgc.symm);have hcb4:=below_new w4 (.cells zeroC.toArray 37);have HX4a:=qH (HX4.out.alloc (.cells zeroC.toArray 37));have HR4a:=qH (HR4.out.below hcb4);have HL4a:=qH hcb4;have HSM:=qH (show ∀ i,own i≠0→i<gc from by rw [←hgc];exact HR4.out.small);rw [hgc] at HL4a hs4;clear HX4 HR4 hcb4
 go_wp2_with (refine wpList_store_blk rfl 37 (.tmp 8) (.tmp 31) rfl gc (y.cells (.slice Ad nd cd)) (by rw [←hgc];rfl) rfl HGC.out (by kernel_rfl) rfl rfl ?_;intro w5 ho5 hk5 hs5;have hc5:=cells6 ho5;have hl5:=ho5.lt;obtain ⟨p0,p1,p2,p3,p4,p5⟩:=hc5)
 have HC5:=qH ho5;have HR5:=qH (HR4a.out.keeps hk5 (fun i hi e=>by have:=HSM.out i hi;omega));have HX5:=qH (HX4a.out.keeps hk5 (by omega));have HL5:=qH (HL4a.out.trans (hk5.below (fun i hi e=>by omega) (by rw [←hgc];simp)));clear ho5 hk5 hs5 HGC HX4a HR4a HL4a p0 p1 p2 p3 p4 p5;have hus:(str y.us).size≤maxLen:=by rw [str_size];have:=hw.ok.u32;unfold maxLen;omega
 have hse:(str y.se).size≤maxLen:=by rw [str_size];have:=hw.ok.s64;unfold maxLen;omega
 have hH:=head_r (str y.se) HR5.out.reg rfl rfl HR5.out.sto hse;rw [hw.head] at hH;unfold merge.cval at hH;dsimp only at hH;refine hH.mono ?_;rintro e w6 ⟨rfl,hb6⟩;have HC6:=qH (HC5.out.below hb6 (by omega));have HR6:=qH (HR5.out.below hb6);have HX6:=qH (HX5.out.below hb6 (by omega));have HL6:=qH (HL5.out.trans (hb6.mono (by omega)));have hs6:=hb6.size;clear hb6 hH HC5 HR5 HX5 HL5;obtain ⟨gh,hgh⟩:∃ gh,w6.heap.size=gh:=⟨_,rfl⟩;have hcb6:=below_new w6 (.cells #[.int .i64 0,.int .i64 0,.string ⟨#[]⟩,.bool false,.int .i64 0] 130);have HGH:=qH (show Blk (w6.alloc (.cells #[.int .i64 0,.int .i64 0,.string ⟨#[]⟩,.bool false,.int .i64 0] 130)) gh 130 #[.int .i64 0,.int .i64 0,.string ⟨#[]⟩,.bool false,.int .i64 0] from Blk.newAt _ _ _ hgh.symm);have HC6a:=qH (HC6.out.below hcb6 (by omega));have HR6a:=qH (HR6.out.below hcb6);have HX6a:=qH (HX6.out.below hcb6 (by omega));have HL6a:=qH (HL6.out.trans (hcb6.mono (by omega)));rw [hgh] at hs6;clear HC6 HR6 HX6 HL6 hcb6
 go_wp2_with (refine wpList_store_blk rfl 130 (.tmp 9) (.tmp 40) rfl gh [.int .i64 t,.int .i64 rg,.string (str y.us),.bool false,.int .i64 l] (by rw [←hgh];rfl) rfl HGH.out (by kernel_rfl) rfl rfl ?_;intro w7 ho7 hk7 hs7;have HC7:=qH (HC6a.out.keeps hk7 (by omega));obtain ⟨p0,p1,p2,p3,p4,p5⟩:=cells6 HC7.out;have hl7:=HC7.out.lt;have hm7:=ho7.lt)
 have HG7:=qH ho7;have HR7:=qH (HR6a.out.keeps hk7 (fun i hi e=>by have:=HSM.out i hi;omega));have HX7:=qH (HX6a.out.keeps hk7 (by omega));have HL7:=qH (HL6a.out.trans (hk7.below (fun i hi e=>by omega) (by omega)));have hE:=epoch_any (str y.us) HR7.out.reg rfl rfl HR7.out.tab hus;rw [hw.ep] at hE;clear ho7 hk7 hs7 HGH HC6a HR6a HX6a HL6a;refine hE.mono ?_;rintro e w8 ⟨rfl,hw8⟩;subst hw8;clear hE;have hne:¬ (y.ep:Int)<(y.ep:Int):=by omega
 have HVN:=qH (show vec.Vec w8 w8.heap.size Ad nd cd (natI y.cx) from by
  obtain ⟨A',m',c',e',l1,_,r1⟩:=HN4.out.2 w8 (by omega) (fun b o hb hlt=>HL7.out.cell (p:=⟨b,o,none⟩) (by show b<gc;omega));obtain ⟨rfl,rfl,rfl⟩:=Value.slice.inj e';exact ⟨l1,hcap1,hcap2,r1,hcap3⟩)
 go_wp2_with fail
 have htl:(vec.trimL x.ap).length≤16:=by
  have h1:=HR7.out.inb.afew;unfold vec.trimL;rw [List.length_take];omega
 have hnl:nd≤1000000:=by
  have h1:=HVN.out.1;rw [natI_len] at h1;have h2:=hw.ok.tr;unfold writep.trN at h2;simp only [Bool.and_eq_true,decide_eq_true_eq] at h2;omega
 have hcov:=hw.cov;refine wp_region_mono nobody (by kernel_rfl) ?_
 iterate 3
  first|refine qT 0 (v:=?_) ?_ ?_|refine qT 2 (v:=?_) ?_ ?_|refine qT 3 (v:=?_) ?_ ?_
  rotate_left
  ·(intro W hSw;(have hcW:=hSw.cells;try simp only [qSd] at hcW);go_simp <;> rfl)
  try simp only [qPA]
 refine wpMono_one' 1 (by kernel_rfl) rfl (by rfl) (fun K hK=>?_)
 go_simp
 refine (applied_r (HR7.out.drew).reg rfl rfl (HR7.out.drew).inb).mono ?_;rintro e w9 ⟨v9,rfl,ho9,hb9⟩;obtain ⟨A9,c9,rfl,hv9⟩:=vec.Vec.of_own ho9;have HB9:=qH hb9;have HV9:=qH hv9;have HVN9:=qH (show vec.Vec w9 w9.heap.size Ad nd cd (natI y.cx) from ⟨HVN.out.1,HVN.out.2.1,HVN.out.2.2.1,(HVN.out.2.2.2.1.below ((Below.refl _ _).drew.trans hb9)).more hb9.size,HVN.out.2.2.2.2⟩);clear ho9 hb9 hv9;refine hK.out _ _ ?_ ?_
 ·exact .of_below HB9.out
 clear hK K
 try simp only [qPA]
 refine wpMono_one' 4 (by kernel_rfl) rfl (by rfl) (fun K hK=>?_)
 go_simp
 refine (vec.covers_any A9 _ c9 _ Ad nd cd _ w9 w9.heap.size HV9.out HVN9.out (by omega) hnl).mono ?_;rintro e w10 ⟨rfl,hw10⟩;subst hw10;rw [hcov];refine hK.out _ _ ?_ ?_
 ·exact Keeps.refl _ _
 clear hK K
 try simp only [qPA]
 iterate 2
  first|refine qT 5 (v:=?_) ?_ ?_|refine qT 6 (v:=?_) ?_ ?_
  rotate_left
  ·(intro W hSw;(have hcW:=hSw.cells;try simp only [qSd] at hcW);go_simp <;> rfl)
  try simp only [qPA]
 refine wpMono_done (by kernel_rfl) ?_ _;rename World=>w10;have hb10:Below w8.heap.size w8 w10:=(Below.refl _ _).drew.trans HB9.out;have HG10:=qH (HG7.out.below hb10 hm7);have HC10:=qH (HC7.out.below hb10 hl7);have HX10:=qH (HX7.out.below hb10 (by omega));have HL10:=qH (HL7.out.trans (hb10.mono (by omega)));have hs10:=hb10.size;have g0:w10.cell? ⟨gh,0,none⟩=some (.int .i64 t):=HG10.out.cell 0;have g1:w10.cell? ⟨gh,1,none⟩=some (.int .i64 rg):=HG10.out.cell 1;have g2:w10.cell? ⟨gh,2,none⟩=some (.string (str y.us)):=HG10.out.cell 2;have g3:w10.cell? ⟨gh,3,none⟩=some (.bool false):=HG10.out.cell 3;have g4:w10.cell? ⟨gh,4,none⟩=some (.int .i64 l):=HG10.out.cell 4;have hg10:=HG10.out.lt;clear p0 p1 p2 p3 p4 p5 HG7 HC7 HX7 HL7 HR7 HB9 HV9 HVN9 HVN hb10;go_wp2_with fail;refine (above.visible_any t rg (str y.us) false l w10).mono ?_;rintro e w11 ⟨rfl,hb11⟩;rw [decide_eq_true hw.vis];have HC11:=qH (HC10.out.below hb11 (by omega));have HX11:=qH (HX10.out.below hb11 (by omega));have HL11:=qH (HL10.out.trans (hb11.mono (by omega)));have k2:w11.cell? ⟨gh,2,none⟩=some (.string (str y.us)):=(HG10.out.below hb11 hg10).cell 2;have hs11:=hb11.size;obtain ⟨p0,p1,p2,p3,p4,p5⟩:=cells6 HC11.out;have hc11:=HC11.out.lt;clear g0 g1 g2 g3 g4 hb11 HC10 HX10 HL10
 go_wp2_with (refine wpList_store_blk rfl 37 (.tmp 4) (.tmp 79) rfl w.heap.size (y.cells (.slice Ad nd cd)) rfl rfl HX11.out (by kernel_rfl) rfl rfl ?_;intro w12 ho12 hk12 hs12)
 clear p0 p1 p2 p3 p4 p5;unfold PC.cells at ho12;obtain ⟨p0,p1,p2,p3,p4,p5⟩:=cells6 ho12;have HFIN:=qH (show TokR y w (.returned (.tuple #[.agg ⟨y.cells (.slice Ad nd cd)⟩,.nilIface])) w12 from ⟨_,rfl,HN4.out.far (by omega) (by omega) (fun b o hl hb=>(hk12.cell o (by omega) (by omega)).trans (HL11.out.cell (p:=⟨b,o,none⟩) (by show b<gc;omega))),(HB4.out.trans (HL11.out.mono (by omega))).trans (hk12.below (fun i hi e=>by omega) (by omega))⟩);clear ho12 hk12;exact bodyPost_ret (v:=.tuple #[.agg ⟨y.cells (.slice Ad nd cd)⟩,.nilIface]) (by unfold PC.cells;simp [results,Tryz.results16,go_sem,p0,p1,p2,p3,p4,p5]) rfl HFIN.out
end gatew
namespace gatew
open Go Go.RowKit Go.Lib base rowe err regn store
theorem number_nil (w:World):Calls Tryz.prog 103 #[.nilIface] w fun e w'=>e=.returned (.int .i64 0)∧w'=w:=by
 go_enter Tryz.func103,Tryz.ntmps103;go_wp2_with fail;go_ret
 exact ⟨rfl,rfl⟩
theorem cells4 {w:World} {g:Nat} {T:TypeId} {a0 a1 a2 a3:Value} (h:Blk w g T #[a0,a1,a2,a3]) :
  w.cell? ⟨g,0,none⟩=some a0∧w.cell? ⟨g,1,none⟩=some a1∧w.cell? ⟨g,2,none⟩=some a2∧w.cell? ⟨g,3,none⟩=some a3:=⟨h.cell 0,h.cell 1,h.cell 2,h.cell 3⟩
def respL (c v:ByteArray) (f:Bool) (n:Int):List Value:=[.string c,.string v,.bool f,.int .i64 n]
theorem get_ok {own:Nat→Nat} {p:RP} {x:RX} (s k:ByteArray) (w:World) (h:RegI w own p x) (h1:s.size≤maxLen) (h2:k.size≤maxLen) (hne:k.toList.isEmpty=false) (hk:getC k (atL x.L (s,⟨#[]⟩)) (atL x.L (s,k))=0) :
  Calls Tryz.prog 42 #[.pointer (some ⟨p.r,0,none⟩),.string s,.string k] w fun e w'=>e=.returned (.tuple #[.agg ⟨respL ⟨#[]⟩ (atL x.L (s,k)).v true 0⟩,.nilIface])∧Below w.heap.size w w':=by
 have hcb:=below_new w (.cells (respL ⟨#[]⟩ ⟨#[]⟩ false 0).toArray 28);have h0:=h.below hcb;have HX0:=qH (Blk.new w 28 (respL ⟨#[]⟩ ⟨#[]⟩ false 0).toArray);have HCB:=qH hcb;have hs0:(w.alloc (.cells (respL ⟨#[]⟩ ⟨#[]⟩ false 0).toArray 28)).heap.size=w.heap.size+1:=by simp
 have HQ:=qH (get_q s k h0.reg rfl rfl h0.sto h1 h2 hk);clear h h0 hcb;obtain ⟨V,hV⟩:∃ V,(atL x.L (s,k)).v=V:=⟨_,rfl⟩;rw [hV] at HQ ⊢;clear hV hk;unfold respL at *;go_enter Tryz.func42,Tryz.ntmps42;go_wp2_with fail;generalize w.alloc _=w0 at *;refine HQ.out.mono ?_;rintro e w1 ⟨rfl,hb1⟩;have HX1:=qH (HX0.out.below hb1 (by omega));have HB1:=qH (HCB.out.trans (hb1.mono (by omega)));have hs1:=hb1.size;clear HX0 HCB hb1 HQ;go_wp2_with fail;refine (number_nil w1).mono ?_;rintro e w2 ⟨rfl,hw2⟩;subst hw2
 go_wp2_with (refine wpList_store_blk rfl 28 (.tmp 6) (.tmp 28) rfl w.heap.size [.string ⟨#[]⟩,.string V,.bool true,.int .i64 0] rfl rfl HX1.out (by kernel_rfl) rfl rfl ?_;intro w3 ho hk3 hs3)
 obtain ⟨p0,p1,p2,p3⟩:=cells4 ho;have HFB:=qH (HB1.out.trans (hk3.below (B:=w.heap.size) (fun i hi e=>by omega) (by omega)));clear ho hk3;exact bodyPost_ret (v:=.tuple #[.agg ⟨[.string ⟨#[]⟩,.string V,.bool true,.int .i64 0]⟩,.nilIface]) (by simp [results,Tryz.results42,go_sem,p0,p1,p2,p3]) rfl ⟨rfl,HFB.out⟩
end gatew
namespace gatew
open Go Go.RowKit Go.Lib base rowe err wireb claimp regn store
def reqL (op:Int) (ck us k v:ByteArray) (life:Int):List Value:=[.int .i64 op,.string ck,.string us,.string k,.string v,.int .i64 life]
theorem put_w {own:Nat→Nat} {p:RP} {x:RX} (y:PC) (d:Value) (ck us k v:ByteArray) (life:Int) (lp:List jrnp.Part) (w:World) (h:RegI w own p x) (hok:x.Ok lp) (hv:v.size≤128) (hf:quota.fitsC x.L (str y.se) k=0) (hL:x.L.length≤1000000) (hs:y.se.length≤64)
  (hLf:x.Lf.length≤800000) (h1:x.id=1) (h2:x.n=1) :
  Calls Tryz.prog 43 #[.pointer (some ⟨p.r,0,none⟩),.agg ⟨y.cells d⟩,.agg ⟨reqL 3 ck us k v life⟩] w fun e w'=>∃ w4,Below w.heap.size w w4∧RegI w4 own p x∧MakeI own p x lp (.slice none 0 0) [] [⟨str y.se,k,v,false,0⟩] w4 e w':=by
 have hsm:∀ i,own i≠0→i<w.heap.size:=h.small;have hse:(str y.se).size≤maxLen:=by rw [str_size];unfold maxLen;omega
 obtain ⟨W1,hW1⟩:∃ W1,((w.alloc (.cells (y.cells d).toArray 37)).alloc (.cells (reqL 3 ck us k v life).toArray 23)).alloc (.cells #[.string (str y.se),.string k,.string ⟨#[]⟩,.bool false,.int .i64 0] 210)=W1:=⟨_,rfl⟩;have hcb:Below w.heap.size w W1:=by rw [←hW1];exact ((below_new w _).alloc (by simp) _).alloc (by simp <;> omega) _
 have hX:Blk W1 w.heap.size 37 (y.cells d).toArray:=by rw [←hW1];exact ((Blk.new w _ _).alloc _).alloc _
 have hQ:Blk W1 (w.heap.size+1) 23 (reqL 3 ck us k v life).toArray:=by rw [←hW1];exact (Blk.newAt _ _ _ (by simp)).alloc _
 have hC:Blk W1 (w.heap.size+2) 210 #[.string (str y.se),.string k,.string ⟨#[]⟩,.bool false,.int .i64 0]:=by rw [←hW1];exact Blk.newAt _ _ _ (by simp)
 have h0:=h.below hcb;have HFT:=qH (fits_r (str y.se) k h0.reg rfl rfl h0.sto hL hse hf);have hvz:¬ (128:Int)<(v.size:Int):=by omega
 have HW1:=qH hW1;have HX:=qH hX;have HQ:=qH hQ;have HC:=qH hC;have HR0:=qH h0;have HCB:=qH hcb;have HLF:=qH hLf;have HID:=qH h1;have HNN:=qH h2;have HOK:=qH hok;clear hf hL hW1 hX hQ hC h0 hcb hLf h1 h2 hok h hse hs;unfold PC.cells reqL at *;go_enter Tryz.func43,Tryz.ntmps43
 go_wp2_with (go_at_call 104;rw [HW1.out];refine HFT.out.mono ?_;rintro e w2 ⟨rfl,hb2⟩;go_loud (have HQ2:=qH (HQ.out.below hb2 HQ.out.lt);have HC2:=qH (HC.out.below hb2 HC.out.lt);have q4:w2.cell? ⟨w.heap.size+1,4,none⟩=some (.string v):=HQ2.out.cell 4;have k2:w2.cell? ⟨w.heap.size+2,2,none⟩=some (.string ⟨#[]⟩):=HC2.out.cell 2;have f2:=HC2.out.frozen 2;have hq2:=HQ2.out.lt;have hc2:=HC2.out.lt;have HR2:=qH (HR0.out.below hb2);have HB2:=qH (HCB.out.trans (hb2.mono HCB.out.size))))
 obtain ⟨gc,hgc⟩:∃ gc,w.heap.size+2=gc:=⟨_,rfl⟩;rw [show w.heap.size+1+1=gc from hgc];rw [hgc] at HC2;obtain ⟨W4,hW4⟩:∃ W4,w2.setCell ⟨gc,2,none⟩ (.string v)=W4:=⟨_,rfl⟩;have hk4:Keeps (fun i=>i=gc) w2 W4:=by rw [←hW4];exact Keeps.set1 _ _ _ _
 have hc4:Blk W4 gc 210 #[.string (str y.se),.string k,.string v,.bool false,.int .i64 0]:=by rw [←hW4];exact HC2.out.set_ 2 (.string v)
 have hrd:Reads W4 W4.heap.size 5 (some ⟨gc,0,none⟩) 1 ([(⟨str y.se,k,v,false,0⟩:Ch)].flatMap Ch.cells) :=
  ⟨rfl,fun _=>⟨gc,0,rfl,hc4.lt,fun j hj=>by rw [Nat.zero_add,hc4.cell j];simp [Ch.cells]⟩⟩
 have HR4:=qH (HR2.out.keeps hk4 (fun i hi e=>by have:=hsm i hi;omega));have HB4:=qH (HB2.out.trans (hk4.below (fun i hi e=>by omega) HB2.out.size));rw [hW4];have HW:=qH (write_one [(⟨str y.se,k,v,false,0⟩:Ch)] (some ⟨gc,0,none⟩) 1 1 lp HR4.out HOK.out rfl (by omega) hrd HLF.out HID.out HNN.out);clear hk4 hc4 hrd HC2 HQ2 HR2 HB2 q4 k2 f2 hq2 hc2 hW4;refine HW.out.mono ?_;rintro e w5 hm;have HM:=qH hm;obtain ⟨v1,v2,own5,rfl,_⟩:=hm;clear HW;go_wp2_with fail;go_ret2
 exact ⟨W4,HB4.out,HR4.out,HM.out⟩
end gatew
namespace gatew
open Go Go.RowKit Go.Lib base rowe err wireb claimp tokw regn
theorem gwho_ok {own:Nat→Nat} {p:RP} {x:RX} {y:PC} {t rg l:Int} (w:World) (h:RegI w own p x) (hT:bake.Tabs w) (hw:Well x y t rg l) :
  Calls Tryz.prog 8 #[.pointer (some ⟨p.r,0,none⟩),.string (str (headT x.m.data.toList y))] w (TokR y w):=by
 have hcb:=below_new w (.cells zeroC.toArray 37);have HRD:=qH (who_ok (w.alloc (.cells zeroC.toArray 37)) (h.below hcb) (hT.below hcb) hw);have HX0:=qH (Blk.new w 37 zeroC.toArray);have HB0:=qH hcb;have hs0:(w.alloc (.cells zeroC.toArray 37)).heap.size=w.heap.size+1:=by simp
 clear h hT hcb;unfold zeroC at *;go_enter Tryz.func8,Tryz.ntmps8;go_wp2_with fail;generalize w.alloc _=w1 at *;refine HRD.out.mono ?_;rintro e w2 ⟨d,rfl,hn2,hb2⟩;obtain ⟨Ad,nd,cd,rfl,_⟩:=hn2.1;have HX2:=qH (HX0.out.below hb2 (by omega));have HB2:=qH (HB0.out.trans (hb2.mono (by omega)));have HN2:=qH hn2;have hs2:=hb2.size;clear hb2 hn2 HX0 HB0 HRD;obtain ⟨gc,hgc⟩:∃ gc,w2.heap.size=gc:=⟨_,rfl⟩;have HGC:=qH (show Blk (w2.alloc (.cells zeroC.toArray 37)) gc 37 zeroC.toArray from Blk.newAt _ _ _ hgc.symm);have HX2a:=qH (HX2.out.alloc (.cells zeroC.toArray 37));have HL2a:=qH (below_new w2 (.cells zeroC.toArray 37));rw [hgc] at HL2a hs2;clear HX2
 go_wp2_with (first|(refine wpList_store_blk rfl 37 (.tmp 4) (.tmp 19) rfl w.heap.size (y.cells (.slice Ad nd cd)) rfl rfl HX3.out (by kernel_rfl) rfl rfl ?_;intro w4 ho4 hk4 hs4)|(refine wpList_store_blk rfl 37 (.tmp 6) (.tmp 12) rfl gc (y.cells (.slice Ad nd cd)) (by rw [←hgc];rfl) rfl HGC.out (by kernel_rfl) rfl rfl ?_;intro w3 ho3 hk3 hs3;have hc3:=cells6 ho3;have hl3:=ho3.lt;have HX3:=qH (HX2a.out.keeps hk3 (by omega));have HL3:=qH (HL2a.out.trans (hk3.below (fun i hi e=>by omega) (by rw [←hgc];simp)));obtain ⟨p0,p1,p2,p3,p4,p5⟩:=hc3;clear hk3 hs3 ho3 HGC HX2a HL2a))
 clear p0 p1 p2 p3 p4 p5;unfold PC.cells at ho4;obtain ⟨p0,p1,p2,p3,p4,p5⟩:=cells6 ho4;have HFIN:=qH (show TokR y w (.returned (.tuple #[.agg ⟨y.cells (.slice Ad nd cd)⟩,.nilIface])) w4 from ⟨_,rfl,HN2.out.far (by omega) (by omega) (fun b o hl hb=>(hk4.cell o (by omega) (by omega)).trans (HL3.out.cell (p:=⟨b,o,none⟩) (by show b<gc;omega))),(HB2.out.trans (HL3.out.mono (by omega))).trans (hk4.below (fun i hi e=>by omega) (by omega))⟩);clear ho4 hk4;exact bodyPost_ret (v:=.tuple #[.agg ⟨y.cells (.slice Ad nd cd)⟩,.nilIface]) (by unfold PC.cells;simp [results,Tryz.results8,go_sem,p0,p1,p2,p3,p4,p5]) rfl HFIN.out
end gatew
namespace gatew
open Go Go.RowKit Go.Lib base rowe err regn lease
end gatew
namespace gatew
open Go Go.RowKit Go.Lib base rowe err wireb claimp tokw regn ringw monoj fold
theorem who_old {own:Nat→Nat} {p:RP} {x:RX} {y:PC} (w:World) (h:RegI w own p x) (hT:bake.Tabs w) (hok:y.Ok) (m1:1≤x.m.size) (m2:x.m.size≤64) (hkey:x.key≤1099511627776) (hl:¬ x.key≤y.ke+2) :
  Calls Tryz.prog 16 #[.pointer (some ⟨p.r,0,none⟩),.string (str (headT x.m.data.toList y))] w (OldE 1 w):=by
 have hcb:=below_new w (.cells zeroC.toArray 37);have h0:=h.below hcb;have HT0:=qH hT;have HX0:=qH (Blk.new w 37 zeroC.toArray);have HCB:=qH hcb;have HR0:=qH h0;have hs0:(w.alloc (.cells zeroC.toArray 37)).heap.size=w.heap.size+1:=by simp
 have HD0:=qH (down_any h0.reg)
 have hhs:(str (headT x.m.data.toList y)).size≤4096:=by
  have:=tok_len (m:=x.m.data.toList) hok;rw [str_size] at this ⊢;unfold headT;rw [List.length_append,List.length_cons];show 7+_≤_;omega
 have HF:=qH (fun w'=>cookw.find_one (str (headT x.m.data.toList y)) nameB (str (tokL x.m.data.toList y)) w' (by rw [str_list,str_list];rfl) hhs (by decide +kernel) (tok_oct _ _));clear h hT hcb h0 hhs;unfold zeroC at *;go_enter Tryz.func16,Tryz.ntmps16;go_wp2_with fail;generalize w.alloc _=w0 at *;refine HD0.out.mono ?_;rintro e w1 ⟨rfl,hw1⟩;subst hw1;go_wp2_with fail;refine (HF.out _).mono ?_;rintro e w2 ⟨rfl,hb2⟩;have HR2:=qH (HR0.out.below hb2);have HX2:=qH (HX0.out.below hb2 (by omega));have HB2:=qH (HCB.out.trans (hb2.mono (by omega)));have hs2:=hb2.size;clear hb2 HR0 HX0 HCB HD0 HF;go_wp2_with fail;refine (ring_any HR2.out.reg rfl rfl HR2.out.ring m1 m2 hkey).mono ?_;rintro e w3 ⟨g,rfl,hrb,hb3⟩;have HR3:=qH (HR2.out.below hb3);have HX3:=qH (HX2.out.below hb3 (by omega));have HB3:=qH (HB2.out.trans (hb3.mono (by omega)));have hs3:=hb3.size;have HG3:=qH hrb;clear hb3 hrb HR2 HX2 HB2;have HT3:=qH (HT0.out.below HB3.out);obtain ⟨mx,hmx⟩:=HT3.out.m;go_wp2_with fail;refine (tok_old g x.m x.key y mx w3 HG3.out hkey hok hl hmx).mono ?_;rintro e w4 ⟨⟨ge,rfl,hge,he⟩,hb4⟩;have HX4:=qH (HX3.out.below hb4 (by omega));have HB4:=qH (HB3.out.trans (hb4.mono (by omega)));have hs4:=hb4.size;have HE4:=qH he;clear hb4 he HR3 HX3 HB3 HG3 HT3 hmx;have hcb5:=below_new w4 (.cells zeroC.toArray 37);have HX5:=qH (HX4.out.below hcb5 (by omega));have HB5:=qH (HB4.out.trans (hcb5.mono (by omega)));have HE5:=qH (HE4.out.below hcb5);have hs5:=hcb5.size;clear hcb5 HX4 HB4 HE4;unfold zeroC at *
 go_wp2_with (refine wpList_store_blk rfl 37 (.tmp 4) (.tmp 35) rfl w.heap.size [.string ⟨#[]⟩,.string ⟨#[]⟩,.int .i64 0,.int .i64 0,.int .i64 0,.slice none 0 0] rfl rfl HX5.out (by kernel_rfl) rfl rfl ?_;intro w10 ho10 hk10 hs10)
 have HE10:=qH (HE5.out.far (HX5.out.cell 2) hk10);obtain ⟨p0,p1,p2,p3,p4,p5⟩:=cells6 ho10;have HFIN:=qH (show OldE 1 w (.returned (.tuple #[.agg ⟨zeroC⟩,.iface 121 (.pointer (some ⟨ge,0,none⟩))])) w10 from ⟨⟨_,rfl,by omega,HE10.out⟩,HB5.out.trans (hk10.below (fun i hi e=>by omega) (by omega))⟩);clear ho10 hk10;exact bodyPost_ret (v:=.tuple #[.agg ⟨zeroC⟩,.iface 121 (.pointer (some ⟨ge,0,none⟩))]) (by unfold zeroC;simp [results,Tryz.results16,go_sem,p0,p1,p2,p3,p4,p5]) rfl HFIN.out
theorem gwho_old {own:Nat→Nat} {p:RP} {x:RX} {y:PC} (w:World) (h:RegI w own p x) (hT:bake.Tabs w) (hok:y.Ok) (m1:1≤x.m.size) (m2:x.m.size≤64) (hkey:x.key≤1099511627776) (hl:¬ x.key≤y.ke+2) :
  Calls Tryz.prog 8 #[.pointer (some ⟨p.r,0,none⟩),.string (str (headT x.m.data.toList y))] w (OldE 2 w):=by
 have hcb:=below_new w (.cells zeroC.toArray 37);have HRD:=qH (who_old (w.alloc (.cells zeroC.toArray 37)) (h.below hcb) (hT.below hcb) hok m1 m2 hkey hl);have HX0:=qH (Blk.new w 37 zeroC.toArray);have HB0:=qH hcb;have hs0:(w.alloc (.cells zeroC.toArray 37)).heap.size=w.heap.size+1:=by simp
 clear h hT hcb;unfold zeroC at *;go_enter Tryz.func8,Tryz.ntmps8;go_wp2_with fail;generalize w.alloc _=w1 at *;refine HRD.out.mono ?_;rintro e w2 ⟨⟨ge,rfl,hge,he⟩,hb2⟩;have HE:=qH he;have HX2:=qH (HX0.out.below hb2 (by omega));have HB2:=qH (HB0.out.trans (hb2.mono (by omega)));have hs2:=hb2.size;clear hb2 HX0 HB0 HRD he;have hcb3:=below_new w2 (.cells zeroC.toArray 37);have HX3:=qH (HX2.out.below hcb3 (by omega));have HB3:=qH (HB2.out.trans (hcb3.mono (by omega)));have HE3:=qH (HE.out.below hcb3);have hs3:=hcb3.size;clear hcb3 HX2 HB2 HE;unfold zeroC at *;go_wp2_with fail;generalize w2.alloc _=w3 at *;refine (errJ_wrap _ _ HE3.out).mono ?_;rintro e w4 ⟨⟨g,rfl,hg,he4⟩,hb4⟩;have HX4:=qH (HX3.out.below hb4 (by omega));have HB4:=qH (HB3.out.trans (hb4.mono (by omega)));have HE4:=qH he4;have hs4:=hb4.size;clear hb4 he4 HX3 HB3 HE3
 go_wp2_with (refine wpList_store_blk rfl 37 (.tmp 4) (.tmp 16) rfl w.heap.size [.string ⟨#[]⟩,.string ⟨#[]⟩,.int .i64 0,.int .i64 0,.int .i64 0,.slice none 0 0] rfl rfl HX4.out (by kernel_rfl) rfl rfl ?_;intro w10 ho10 hk10 hs10)
 have HE10:=qH (HE4.out.far (HX4.out.cell 2) hk10);obtain ⟨p0,p1,p2,p3,p4,p5⟩:=cells6 ho10;have HFIN:=qH (show OldE 2 w (.returned (.tuple #[.agg ⟨zeroC⟩,.iface 121 (.pointer (some ⟨g,0,none⟩))])) w10 from ⟨⟨_,rfl,by omega,HE10.out⟩,HB4.out.trans (hk10.below (fun i hi e=>by omega) (by omega))⟩);clear ho10 hk10;exact bodyPost_ret (v:=.tuple #[.agg ⟨zeroC⟩,.iface 121 (.pointer (some ⟨g,0,none⟩))]) (by unfold zeroC;simp [results,Tryz.results8,go_sem,p0,p1,p2,p3,p4,p5]) rfl HFIN.out
end gatew
end Go.Proofs.YthlahcnglacekaaGreatDoor
