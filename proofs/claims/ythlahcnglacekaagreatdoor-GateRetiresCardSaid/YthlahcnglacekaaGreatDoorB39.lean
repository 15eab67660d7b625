/- Part of GateRetires. -/
import Derived.Test.YthlahcnglacekaaGreatDoorB27
import Derived.LaidEqlPtr
set_option maxRecDepth 100000
set_option maxHeartbeats 16000000
namespace Go.Proofs.YthlahcnglacekaaGreatDoor
namespace jrn
open Go Go.RowKit Go.Lib base rowe err rowc wireb jrnp diskp disk framew monoj
theorem str_app (a b:List UInt8):str a++str b=str (a++b):=by
 apply ByteArray.ext
 simp [str]
theorem reads_keeps {X:Nat→Prop} {w w':World} {B size n:Nat} {A:Option Addr} {xs:List Value} (h:Reads w B size A n xs) (hk:Keeps X w w') (hx:∀ b off,A=some ⟨b,off,none⟩→¬ X b) (hB:B≤w.heap.size):Reads w' B size A n xs :=
 ⟨h.1,fun hn=>by
  obtain ⟨b,off,e,hb,hc⟩:=h.2 hn;exact ⟨b,off,e,hb,fun j hj=>(hk.cell (off+j) (Nat.lt_of_lt_of_le hb hB) (hx b off e)).trans (hc j hj)⟩⟩
section
variable {w w1 w':World} {S:Nat→Prop} {g:Nat} {d:Dk}
def StartR (S:Nat→Prop) (j gn gs gen:Nat) (d:Dk) (w:World) (e:Ending) (w':World):Prop :=
 e=.returned .nilIface∧∃ S',Grow S S' w∧DiskS w' S' gs d∧Keeps (fun i=>S i∨i=j) w w'∧JrnB w' j gs gn gen
theorem start_w (j gn gs gen n c : Nat) (A : Option Addr) (rs : List (List UInt8)) (h2 : gen + 1 ≤ 1099511627776) (hl : rs.length = n) (hn : n ≤ 1000000) (hrs : ∀ s ∈ rs, s.length ≤ 4096)
    (hr : Reads w w.heap.size 1 A n (scells rs)) (hj : JrnB w j gn gs gen) (hd : DiskS w S gs d) (hjS : ¬ S j) (hAS : ∀ b off, A = some ⟨b, off, none⟩ → ¬ S b) (hdn : d.down = false) (hfu : d.fuse<0) (hroom : (dev (startL (gen+1) rs)).length ≤ d.room) :
    Calls Tryz.prog 71 #[.pointer (some ⟨j, 0, none⟩), .slice A n c] w (StartR S j gn gs (gen+1) { d with b := dev (startL (gen+1) rs), safe := (dev (startL (gen+1) rs)).length } w) := by
  have c0 : w.cell? ⟨j, 0, none⟩ = _ := hj.cell 0;have c1 : w.cell? ⟨j, 1, none⟩ = _ := hj.cell 1;have c2 : w.cell? ⟨j, 2, none⟩ = _ := hj.cell 2;have hlt := hj.lt;simp at c0 c1 c2
  obtain ⟨G, hG⟩ : ∃ G, gen+1 = G := ⟨_, rfl⟩;have hg0 : (gen : Int)+1 = (G : Int) := by omega
  have hG1 : 1 ≤ G := by omega
  rw [hG] at hroom h2 ⊢;have hsw := start_well G rs hdn hfu hroom
  have hcw : cutD d 0 = ({ d with b := [], safe := 0 }, 0) := by
    have := cut_well (n := 0) hdn hfu (Nat.zero_le _)
    simpa using this
  have hok := hd.ok_
  have hwr : writeJ { d with b := [], safe := 0 } G 0 (startT { d with b := [], safe := 0 } G rs) = ({ d with b := dev (startL G rs), safe := (dev (startL G rs)).length }, 0) := by
    rw [←hsw];unfold startJ;rw [hcw, if_pos rfl]
  have htl : (startT { d with b := [], safe := 0 } G rs).length ≤ 1048576 := by
    have h3 : startL G rs = ([Part.mk 1 G 0 []]++recsL G 0 rs++[Part.mk 3 G 0 []])++[Part.mk 4 G (dev ([Part.mk 1 G 0 []]++recsL G 0 rs++[Part.mk 3 G 0 []])).length []] := rfl;rw [h3, dev_app, List.length_append] at hroom
    have h4 : startT { d with b := [], safe := 0 } G rs = dev ([Part.mk 1 G 0 []]++recsL G 0 rs++[Part.mk 3 G 0 []]) := by
      unfold startT framesB;have hs : safeD { d with b := [], safe := 0 } = 0 := safe_well (d := { d with b := [], safe := 0 }) hdn;rw [hs, dev_app, dev_app, recs_dev];simp [dev]
    rw [h4];have := hok.room_;omega
  have HST := qH (show (Part.mk 1 G 0 []).sealed++framesB { d with b := [], safe := 0 } G rs++(Part.mk 3 G 0 []).sealed = startT { d with b := [], safe := 0 } G rs from rfl)
  have hfl : (framesB { d with b := [], safe := 0 } G rs).length ≤ 1048576 := by
    have := congrArg List.length HST.out;rw [List.length_append, List.length_append] at this;omega
  have HB1 := qH (fun w => part_seal ⟨1, G, 0, []⟩ ⟨by show 1 ≤ 1; omega, by show 1 ≤ 4; omega, hG1, h2, by show 0 ≤ _; omega, by show 0 ≤ 4096; omega, .inr rfl⟩ w);have HB3 := qH (fun w => part_seal ⟨3, G, 0, []⟩ ⟨by show 1 ≤ 3; omega, by show 3 ≤ 4; omega, hG1, h2, by show 0 ≤ _; omega, by show 0 ≤ 4096; omega, .inr rfl⟩ w);have HC := qH (fun (w : World) (h : DiskS w S gs d) => cut_any 0 (Nat.zero_le _) h);rw [show ((0 : Nat) : Int) = 0 from rfl, hcw] at HC;have HJ := qH hj;have HR := qH hr;have HD := qH hd;have HRS := qH hrs;have HP := qH hwr;clear hj hr hd hrs hwr hsw hcw hok hroom hdn hfu;generalize ({ d with b := dev (startL G rs), safe := (dev (startL G rs)).length } : Dk) = d' at *;generalize ({ d with b := [], safe := 0 } : Dk) = d0 at *;generalize startT d0 G rs = T at *;generalize hb1 : (Part.mk 1 G 0 []).sealed = q1 at *;generalize hb3 : (Part.mk 3 G 0 []).sealed = q3 at *;generalize hF : framesB d0 G rs = F at *;go_enter Tryz.func71, Tryz.ntmps71;go_wp2_with fail
  go_quiet (fail)
  rename_i nq
  go_wp2_with fail;have hkq : Keeps S w (w.drewN nq) := Keeps.drewN nq;have HD1 := qH (HD.out.below (below_drewN (Below.refl _ _) nq));refine (HC.out _ HD1.out).mono ?_;rintro e w1 h3;obtain ⟨rfl, S1, hg1, hd1, hk1⟩ := OpR.well h3 rfl;have HG1 := qH (show Grow S S1 w from ⟨hg1.1, hg1.2⟩);have HD1 := qH hd1;have HK1 := qH (hkq.trans hk1);have HJ1 := qH (show JrnB w1 j gn gs gen from HJ.out.keeps HK1.out hjS);have hsm : ∀ i, S i → i<w.heap.size := by obtain ⟨v, hv⟩ := HD.out; exact hv.small
  clear h3 hg1 hd1 hk1 hkq HC HD c0 c1 c2;have HR1 := qH ((reads_keeps HR.out HK1.out hAS (Nat.le_refl _)).more HK1.out.size);have HB1' := qH (show Calls Tryz.prog 135 #[.agg #[.int .i64 1, .int .i64 G, .int .i64 0, .string ⟨#[]⟩]] w1 fun e w' => e = .returned (.string (str q1)) ∧ Below w1.heap.size w1 w' from HB1.out w1);clear HB1 HR HJ;go_wp2_with fail;refine HB1'.out.mono ?_;rintro e w2 ⟨rfl, hb2⟩;have HD2 := qH (HD1.out.below hb2);have HJ2 := qH (show JrnB w2 j gn gs gen from HJ1.out.below hb2 HJ1.out.lt);have HR2 := qH ((HR1.out.below hb2).more hb2.size);have HK2 := qH (HK1.out.trans (.of_below hb2));clear hb2 HB1' HD1 HJ1 HR1 HK1;go_wp2_with fail;have HFR := qH (frames_w j G n c A rs hG1 h2 hl hn HRS.out (by rw [hF]; exact hfl) HR2.out HD2.out);rw [hF] at HFR;refine HFR.out.mono ?_;rintro e w3 ⟨rfl, hb3'⟩;have HD3 := qH (HD2.out.below hb3');have HJ3 := qH (show JrnB w3 j gn gs gen from HJ2.out.below hb3' HJ2.out.lt);have HK3 := qH (HK2.out.trans (.of_below hb3'));clear hb3' HD2 HJ2 HR2 HK2 HFR;have hap := str_app q1 F;have HB3' := qH (show Calls Tryz.prog 135 #[.agg #[.int .i64 3, .int .i64 G, .int .i64 0, .string ⟨#[]⟩]] w3 fun e w' => e = .returned (.string (str q3)) ∧ Below w3.heap.size w3 w' from HB3.out w3);have z1 : (str q1).size = q1.length := str_size q1;have z2 : (str F).size = F.length := str_size F;have z3 : (str q3).size = q3.length := str_size q3
  have zz : q1.length+F.length+q3.length ≤ 1048576 := by
    have := congrArg List.length HST.out;rw [List.length_append, List.length_append] at this;omega
  have z4 : (str (q1++F)).size = q1.length+F.length := by rw [str_size, List.length_append]
  go_wp2_with fail;refine HB3'.out.mono ?_;rintro e w4 ⟨rfl, hb4⟩;have HD4 := qH (HD3.out.below hb4);have HJ4 := qH (show JrnB w4 j gn gs gen from HJ3.out.below hb4 HJ3.out.lt);have HK4 := qH (HK3.out.trans (.of_below hb4));have hap2 : str (q1++F)++str q3 = str T := by rw [str_app, HST.out]
  have zT : (str T).size = T.length := str_size T;have HWR := qH (write_any j G 0 (str T) hG1 h2 (by rw [zT]; exact htl) (Nat.zero_le _) HD4.out);rw [str_list, HP.out, show ((0 : Nat) : Int) = 0 from rfl] at HWR;clear hb4 HB3' HB3 HD3 HJ3 HK3;go_wp2_with fail;refine HWR.out.mono ?_;rintro e w5 h5;obtain ⟨rfl, S2, hg5, hd5, hk5⟩ := OpR.well h5 rfl
  have hjS1 : ¬ S1 j := fun h => by rcases HG1.out.2 j h with h | h; · exact hjS h
                                    · omega
  have hj5 : JrnB w5 j gn gs gen := HJ4.out.keeps hk5 hjS1;have HG5 := qH (HG1.out.trans hg5 HK4.out.size)
  have hjS2 : ¬ S2 j := fun h => by rcases HG5.out.2 j h with h | h; · exact hjS h
                                    · omega
  have HD5 := qH hd5;have HK5 := qH (grow_keeps HG1.out HK4.out hk5);have HJ5 := qH hj5;clear h5 hg5 hd5 hk5 HWR hap hap2 z1 z2 z3 z4 zz zT;go_wp2_with fail;have x0 : w5.cell? ⟨j, 0, none⟩ = _ := hj5.cell 0;have x1 : w5.cell? ⟨j, 1, none⟩ = _ := hj5.cell 1;have x2 : w5.cell? ⟨j, 2, none⟩ = _ := hj5.cell 2;have f0 := hj5.frozen 0;have f1 := hj5.frozen 1;have f2 := hj5.frozen 2;have xl := hj5.lt;simp at x0 x1 x2
  clear hj5;refine wp_region_monoJ (fun i => i = j) [14, 17, 20] (by kernel_rfl) ?_
  iterate 6
    first | refine qJ 0 (v := ?_) ?_ ?_ | refine qJ 1 (v := ?_) ?_ ?_ | refine qJ 2 (v := ?_) ?_ ?_ | refine qJ 3 (v := ?_) ?_ ?_ | refine qJ 4 (v := ?_) ?_ ?_ | refine qJ 5 (v := ?_) ?_ ?_
    rotate_left
    · (intro W hSw; (first | (have hcW := hSw.cells; try simp only [qSd] at hcW) | skip); go_simp <;> rfl)
    try simp only [qPA]
  refine wpMonoJ_read' 6 [12, 13, 14, 15, 16, 17, 18, 19, 20] (v := ?_) rfl (by kernel_rfl) (by kernel_rfl) (by kernel_rfl) (by rfl) (by kernel_rfl) (by rfl) (fun _ _ _ h => h) (by rfl) ?_ ?_;rotate_left
  · (intro W hSw; (first | (have hcW := hSw.cells; try simp only [qSd] at hcW) | skip); go_simp <;> rfl)
  try simp only [qPA]
  iterate 3
    first | refine qJ 7 (v := ?_) ?_ ?_ | refine qJ 8 (v := ?_) ?_ ?_ | refine qJ 9 (v := ?_) ?_ ?_
    rotate_left
    · (intro W hSw; (first | (have hcW := hSw.cells; try simp only [qSd] at hcW) | skip); go_simp <;> rfl)
    try simp only [qPA]
  refine wpMonoJ_read' 10 [12, 13, 14, 15, 16, 17, 18, 19, 20] (v := ?_) rfl (by kernel_rfl) (by kernel_rfl) (by kernel_rfl) (by rfl) (by kernel_rfl) (by rfl) (fun _ _ _ h => h) (by rfl) ?_ ?_;rotate_left
  · (intro W hSw; (first | (have hcW := hSw.cells; try simp only [qSd] at hcW) | skip); go_simp <;> rfl)
  try simp only [qPA]
  iterate 3
    first | refine qJ 11 (v := ?_) ?_ ?_ | refine qJ 12 (v := ?_) ?_ ?_ | refine qJ 13 (v := ?_) ?_ ?_
    rotate_left
    · (intro W hSw; (first | (have hcW := hSw.cells; try simp only [qSd] at hcW) | skip); go_simp <;> rfl)
    try simp only [qPA]
  refine wpMonoJ_one' 14 (by kernel_rfl) rfl (by rfl) (fun K hK => ?_)
  go_simp
  refine hK.out _ _ ?_ ?_
  · exact moved (Keeps.set1 _ _ _ _) (by decide)
  clear hK K
  try simp only [Act.put]
  iterate 2
    first | refine qJ 15 (v := ?_) ?_ ?_ | refine qJ 16 (v := ?_) ?_ ?_
    rotate_left
    · (intro W hSw; (first | (have hcW := hSw.cells; try simp only [qSd] at hcW) | skip); go_simp <;> rfl)
    try simp only [qPA]
  refine wpMonoJ_one' 17 (by kernel_rfl) rfl (by rfl) (fun K hK => ?_)
  go_simp
  refine hK.out _ _ ?_ ?_
  · exact moved (Keeps.set1 _ _ _ _) (by decide)
  clear hK K
  try simp only [Act.put]
  iterate 2
    first | refine qJ 18 (v := ?_) ?_ ?_ | refine qJ 19 (v := ?_) ?_ ?_
    rotate_left
    · (intro W hSw; (first | (have hcW := hSw.cells; try simp only [qSd] at hcW) | skip); go_simp <;> rfl)
    try simp only [qPA]
  refine wpMonoJ_one' 20 (by kernel_rfl) rfl (by rfl) (fun K hK => ?_)
  go_simp
  refine hK.out _ _ ?_ ?_
  · exact moved (Keeps.set1 _ _ _ _) (by decide)
  clear hK K
  try simp only [Act.put]
  refine wpMonoJ_done (by kernel_rfl) ?_ _
  have hk6 : Keeps (fun i => i = j) w5 (((w5.setCell ⟨j, 0, none⟩ (.pointer (some ⟨gs, 0, none⟩))).setCell ⟨j, 1, none⟩ (.pointer (some ⟨gn, 0, none⟩))).setCell ⟨j, 2, none⟩ (.int .i64 G)).drew :=
    (((Keeps.set1 w5 j 0 (.pointer (some ⟨gs, 0, none⟩))).trans (Keeps.set1 _ j 1 (.pointer (some ⟨gn, 0, none⟩)))).trans (Keeps.set1 _ j 2 (.int .i64 G))).trans Keeps.drew
  have hj6 : JrnB (((w5.setCell ⟨j, 0, none⟩ (.pointer (some ⟨gs, 0, none⟩))).setCell ⟨j, 1, none⟩ (.pointer (some ⟨gn, 0, none⟩))).setCell ⟨j, 2, none⟩ (.int .i64 G)).drew j gs gn G := by
    have := (((HJ5.out.set_ 0 (.pointer (some ⟨gs, 0, none⟩))).set_ 1 (.pointer (some ⟨gn, 0, none⟩))).set_ 2 (.int .i64 G)).drew;unfold JrnB
    simpa using this
  have HR := qH (show StartR S j gn gs G d' w (.returned .nilIface) (((w5.setCell ⟨j, 0, none⟩ (.pointer (some ⟨gs, 0, none⟩))).setCell ⟨j, 1, none⟩ (.pointer (some ⟨gn, 0, none⟩))).setCell ⟨j, 2, none⟩ (.int .i64 G)).drew from
    ⟨rfl, S2, HG5.out, HD5.out.keeps hk6 (fun i hi e => by have h : i = j := e; subst h; exact hjS2 hi), (HK5.out.more fun _ _ h => .inl h).trans (hk6.more fun _ _ h => .inr h), hj6⟩)
  clear hk6 hj6;generalize (((w5.setCell ⟨j, 0, none⟩ (.pointer (some ⟨gs, 0, none⟩))).setCell ⟨j, 1, none⟩ (.pointer (some ⟨gn, 0, none⟩))).setCell ⟨j, 2, none⟩ (.int .i64 G)).drew = w6 at *;go_wp2_with fail;go_ret
  exact HR.out
end
end jrn
namespace jrn
open Go Go.RowKit Go.Lib base rowe err rowc wireb jrnp
theorem str_info:(Tryz.prog.info? 9).map (fun i=>(i.zero,i.size,i.bytes))=some (some (.string ⟨#[]⟩),1,16):=by kernel_rfl
theorem recs_le (l:List Part):(recordsL l).length≤l.length:=by
 unfold recordsL;rw [List.length_map];exact List.length_filter_le _ _
def OwnS (w:World) (base:Nat) (v:Value) (l:List (List UInt8)):Prop:=w.ownsRow base 9 1 v l.length (scells l)
theorem OwnS.none (w:World) (base:Nat):OwnS w base (.slice none 0 0) []:=⟨rfl,.inl ⟨rfl,rfl⟩⟩
theorem OwnS.form {w:World} {base:Nat} {v:Value} {l:List (List UInt8)} (h:OwnS w base v l):∃ A c,v=.slice A l.length c:=ownsRow_slice h
end jrn
namespace jrn
open Go Go.RowKit Go.Lib base rowe err rowc wireb jrnp diskp disk monoj
section
variable {w w':World} {Sa Sb:Nat→Prop} {a b:Nat} {da db:Dk}
def FreshR (Sb:Nat→Prop) (a b:Nat) (db:Dk) (w:World) (e:Ending) (w':World):Prop :=
 ∃ j Sb',e=.returned (.tuple #[.pointer (some ⟨j,0,none⟩),.slice none 0 0,.nilIface])∧w.heap.size≤j∧JrnB w' j b a 1∧Grow Sb Sb' w∧DiskS w' Sb' b db∧¬ Sb' j∧Keeps Sb w w'
theorem disk_in {S:Nat→Prop} {g:Nat} {d:Dk} (h:DiskS w S g d):S g:=by obtain ⟨v,h⟩:=h;exact h.inG
theorem disk_info:(Tryz.prog.info? 88).map (·.size)=some 5:=by kernel_rfl
theorem disk_ne {S S':Nat→Prop} {a b:Nat} {d d':Dk} (h:DiskS w S a d) (h':DiskS w S' b d') (hne:¬ a=b):(binOp .eql 47 (.pointer (some ⟨a,0,none⟩)) (.pointer (some ⟨b,0,none⟩))).run Tryz.prog w=.ok (.bool false) w:=by
 obtain ⟨j,hj,hs⟩:=Option.map_eq_some_iff.1 disk_info;obtain ⟨v,h⟩:=h;obtain ⟨v',h'⟩:=h';exact run_eql_ptr_other w Tryz.underlying47 hj (by omega) (fun e=>hne (by injection e)) h.blk h'.blk
theorem open_fresh (hda:DiskS w Sa a da) (hdb:DiskS w Sb b db) (hwa:Well da []) (hwb:Well db []) (hab:∀ i,Sa i→¬ Sb i) (hroom:(dev (startL 1 [])).length≤db.room) :
  Calls Tryz.prog 31 #[.pointer (some ⟨a,0,none⟩),.pointer (some ⟨b,0,none⟩)] w (FreshR Sb a b { db with b:=dev (startL 1 []),safe:=(dev (startL 1 [])).length } w):=by
 have hne:¬ a=b:=fun e=>hab a (disk_in hda) (by rw [e];exact disk_in hdb);have heq:=disk_ne hda hdb hne;have hna:=hwa.down;have hnb:=hwb.down;have hfb:=hwb.fuse;have HDA:=qH hda;have HDB:=qH hdb;have HWA:=qH hwa;have HWB:=qH hwb;clear hda hdb hwa hwb;go_enter Tryz.func31,Tryz.ntmps31;go_wp2_with fail;refine (down_any HDA.out).mono ?_;rintro e w1 ⟨rfl,rfl⟩;rw [hna];go_wp2_with fail;refine (down_any HDB.out).mono ?_;rintro e w1 ⟨rfl,rfl⟩;rw [hnb];go_wp2_with fail;refine (scan_w [] _ HDA.out HWA.out).mono ?_;rintro e w2 ⟨vpa,vea,rfl,hpa,hea,hb2⟩;obtain ⟨Aa,ca,rfl⟩:=hpa.form;obtain ⟨Ba,ba,rfl⟩:=hea.form;have HDB2:=qH (HDB.out.below hb2);have HDA2:=qH (HDA.out.below hb2);have HB2:=qH hb2;clear hpa hea hb2;rw [show (dev ([]:List Part)).length=0 from rfl,show ordered []=false from rfl,show (endsL []).length=0 from rfl];go_wp2_with fail;refine (scan_w [] _ (HDB2.out.below (below_new _ _)) HWB.out).mono ?_;rintro e w3 ⟨vpb,veb,rfl,hpb,heb,hb3⟩;obtain ⟨Ab,cb,rfl⟩:=hpb.form;obtain ⟨Eb,eb,rfl⟩:=heb.form;have hsz2:(w2.alloc (.cells #[.slice Aa 0 ca,.slice Ba 0 ba,.int .i64 0,.bool false,.bool false] 167)).heap.size=w2.heap.size+1:=by simp
 rw [hsz2] at hpb heb hb3;obtain ⟨ga,hga⟩:∃ x,w2.heap.size=x:=⟨_,rfl⟩;have HGA:=qH ((Blk.new w2 167 #[.slice Aa 0 ca,.slice Ba 0 ba,.int .i64 0,.bool false,.bool false]).below hb3 (by omega));have hb23:Below w2.heap.size w2 w3:=(below_new w2 (.cells #[.slice Aa 0 ca,.slice Ba 0 ba,.int .i64 0,.bool false,.bool false] 167)).trans (hb3.mono (by omega));have HDA3:=qH (HDA2.out.below hb23);have HDB3:=qH (HDB2.out.below hb23);have HB3:=qH (HB2.out.trans (hb23.mono HB2.out.size));have HPB:=qH hpb;have hga1:w1.heap.size≤ga:=by have:=HB2.out.size;omega
 have hga3:ga<w3.heap.size:=by have:=hb3.size;omega
 rw [hga] at HGA ⊢;clear hpb heb hb3 hb23 HDA2 HDB2 HB2 hsz2;rw [show (dev ([]:List Part)).length=0 from rfl,show ordered []=false from rfl,show (endsL []).length=0 from rfl];have x3:w3.cell? ⟨ga,3,none⟩=_:=HGA.out.cell 3;have x4:w3.cell? ⟨ga,4,none⟩=_:=HGA.out.cell 4;simp at x3 x4
 go_wp2_with fail
 go_quiet (fail)
 go_wp2_with fail
 go_quiet (fail)
 rename_i nq1
 go_wp2_with fail
 have hbn:∀ m,Below w3.heap.size w3 (((w3.alloc (.cells #[.slice Ab 0 cb,.slice Eb 0 eb,.int .i64 0,.bool false,.bool false] 167)).drewN m).alloc (.cells #[.pointer (some ⟨a,0,none⟩),.pointer (some ⟨b,0,none⟩),.int .i64 0,.bool false] 171)):=fun m =>
  below_alloc (below_drewN (below_new w3 _) m) _
 have hjn:∀ m,JrnB (((w3.alloc (.cells #[.slice Ab 0 cb,.slice Eb 0 eb,.int .i64 0,.bool false,.bool false] 167)).drewN m).alloc (.cells #[.pointer (some ⟨a,0,none⟩),.pointer (some ⟨b,0,none⟩),.int .i64 0,.bool false] 171)) (w3.heap.size+1) a b 0:=fun m=>Blk.newAt _ _ _ (by simp);have HBN:=qH hbn;have HJN:=qH hjn;have hsmall:∀ i,Sb i→i<w3.heap.size:=by obtain ⟨v,hv⟩:=HDB3.out;exact hv.small
 refine (start_w (w3.heap.size+1) a b 0 0 0 none [] (by omega) rfl (by omega) (fun s h=>by cases h) Reads.none_ (HJN.out _) (HDB3.out.below (HBN.out _)) (fun h=>by have:=hsmall _ h;omega) (fun _ _ h=>by cases h) hnb hfb hroom).mono ?_;rintro e w6 ⟨rfl,Sb',hg6,hd6,hk6,hj6⟩
 have HR:=qH (show FreshR Sb a b { db with b:=dev (startL 1 []),safe:=(dev (startL 1 [])).length } w1 (.returned (.tuple #[.pointer (some ⟨(w3.heap.size+1),0,none⟩),.slice none 0 0,.nilIface])) w6 from by
  have hbw:=HB3.out.trans ((HBN.out (nq1+nq)).mono HB3.out.size);refine ⟨_,Sb',rfl,by have:=HB3.out.size;omega,hj6,⟨hg6.1,fun i hi=>(hg6.2 i hi).imp id fun h=>Nat.le_trans hbw.size h⟩,hd6,?_,?_⟩
  ·intro h
   rcases hg6.2 _ h with h|h
   ·have:=hsmall _ h;omega
   ·simp at h
    omega
  ·have hk:Keeps Sb w1 _:=Keeps.of_below hbw
   refine ⟨hk6.os.trans hk.os,hk6.tape.trans hk.tape,hk6.output.trans hk.output,Nat.le_trans hk.size hk6.size,fun i hi hs=>(hk6.block i (Nat.lt_of_lt_of_le hi hk.size) (fun h=>?_)).trans (hk.block i hi hs)⟩
   rcases h with h|h
   ·exact hs h
   ·have:=HB3.out.size;omega)
 clear hg6 hd6 hk6 hj6 hbn hjn x3 x4;go_wp2_with fail
 go_ret3
 exact HR.out
end
end jrn
end Go.Proofs.YthlahcnglacekaaGreatDoor
