/- Part of GateRetires. -/
import Derived.Test.YthlahcnglacekaaGreatDoorB30
import Derived.Test.YthlahcnglacekaaGreatDoorB14
import Derived.Lib.Join
set_option maxRecDepth 100000
set_option maxHeartbeats 16000000
namespace Go.Proofs.YthlahcnglacekaaGreatDoor
namespace bake
open Go Go.RowKit base dec
structure Ck where
 name:ByteArray
 value:ByteArray
 path:ByteArray
 age:Int
 sec:Bool
 http:Bool
 site:Nat
def Ck.cells (c:Ck):List Value:=[.string c.name,.string c.value,.string c.path,.int .i64 c.age,.bool c.sec,.bool c.http,.int .i64 c.site]
def Ck.val (c:Ck):Value:=.agg ⟨c.cells⟩
def noCk:Ck:=⟨⟨#[]⟩,⟨#[]⟩,⟨#[]⟩,0,false,false,0⟩
def pathK:List UInt8:=[112,97,116,104]
def ageK:List UInt8:=[109,97,120,45,97,103,101]
def secK:List UInt8:=[115,101,99,117,114,101]
def httpK:List UInt8:=[104,116,116,112,111,110,108,121]
def siteK:List UInt8:=[115,97,109,101,115,105,116,101]
def strictK:List UInt8:=[115,116,114,105,99,116]
def laxK:List UInt8:=[108,97,120]
def noneK:List UInt8:=[110,111,110,101]
theorem low_site1:lowL (siteL 1)=strictK:=by decide
theorem low_site2:lowL (siteL 2)=laxK:=by decide
theorem low_site3:lowL (siteL 3)=noneK:=by decide
def siteN (l:List UInt8):Nat:=if l=strictK then 1 else if l=laxK then 2 else if l=noneK then 3 else 0
def siteM (l:List UInt8):Nat→Nat
 | 0=>0
 | m+1=>if l=lowL (siteL (m+1)) then m+1 else siteM l m
theorem siteM_3 (l:List UInt8):siteM l 3=siteN l:=by
 unfold siteN;rw [show siteM l 3=(if l=lowL (siteL 3) then 3 else if l=lowL (siteL 2) then 2 else if l=lowL (siteL 1) then 1 else 0) from rfl,low_site1,low_site2,low_site3]
 by_cases h1:l=strictK
 ·subst h1;decide
 ·by_cases h2:l=laxK
  ·subst h2;decide
  ·simp only [h1,h2,if_false]
def attr (k v:List UInt8) (c:Ck):Ck :=
 if k=pathK then { c with path:=if [47].isPrefixOf v then mkB v else ⟨#[]⟩ }
 else if k=ageK then { c with age:=match ageL v with|some n=>(n:Int)|none=>c.age }
 else if k=secK then { c with sec:=true }
 else if k=httpK then { c with http:=true }
 else if k=siteK then { c with site:=siteN (lowL v) }
 else c
def step (c:Ck) (p:List UInt8):Ck:=attr (lowL (trimB (untilL 61 p).1)) (trimB (untilL 61 p).2.1) c
def first (p:List UInt8):Option Ck :=
 if (untilL 61 p).2.2&&!(trimB (untilL 61 p).1).isEmpty then some ⟨mkB (trimB (untilL 61 p).1),mkB (trimB (untilL 61 p).2.1),⟨#[]⟩,-1,false,false,0⟩ else none
def parseL (l:List (List UInt8)):Option Ck:=match l with
 | []=>none
 | p :: r=>(first p).map fun c=>r.foldl step c
def parse (s:ByteArray):Option Ck:=parseL (parts 59 s.data.toList)
theorem splitB_parts (s:ByteArray):Lib.splitB ⟨#[59]⟩ 0 (Lib.countB s ⟨#[59]⟩) s=(parts 59 s.data.toList).map mkB:=by
 have h:=Lib.splitB_data ⟨#[59]⟩ 0 (Lib.countB s ⟨#[59]⟩) s
 have hc:Lib.countB s ⟨#[59]⟩=s.data.toList.count 59:=by
  rw [←Lib.count_one]
 rw [show (⟨#[59]⟩:ByteArray).data.toList=[59] from rfl,split_pcs,hc] at h;rw [hc];unfold parts;rw [←h,List.map_map]
 conv=>lhs;rw [←List.map_id (Lib.splitB _ _ _ s)]
 exact List.map_congr_left fun a _=>(mkB_of a).symm
theorem splitB_len (s:ByteArray):(parts 59 s.data.toList).length=Lib.countB s ⟨#[59]⟩+1:=by
 have h:=Lib.splitB_all ⟨#[59]⟩ (by decide) 0 _ s rfl;rw [splitB_parts,List.length_map] at h;exact h
theorem parts_le (c:UInt8):∀ (n:Nat) (l:List UInt8),l.length≤n→∀ p ∈ parts c l,p.length≤l.length
 | n,l,hn,p,hp=>by
  rw [parts_eq] at hp
  rcases until_cases c l with ⟨a,b,h1,h2,h3⟩|⟨h2,h3⟩
  ·rw [h3] at hp
   subst h1;rw [if_pos rfl] at hp
   rcases List.mem_cons.mp hp with rfl|hp
   ·simp
   ·cases n with
    | zero=>simp at hn
    | succ n =>
     have h4:=parts_le c n b (by simp at hn;omega) p hp;simp;omega
  ·rw [h3,if_neg (by simp)] at hp
   rw [List.mem_singleton] at hp;rw [hp];exact Nat.le_refl _
theorem trimB_le (l:List UInt8):(trimB l).length≤l.length:=by
 unfold trimB trimR;have h1:=(List.dropWhile_suffix bl (l:=l)).sublist.length_le;have h2:=(List.dropWhile_suffix bl (l:=(l.dropWhile bl).reverse)).sublist.length_le;rw [List.length_reverse] at h2;rw [List.length_reverse];omega
end bake
namespace bake
open Go Go.RowKit base dec err rowe
theorem bad_any (c:Int) (w:World):Calls Tryz.prog 58 #[.int .i64 c] w (ErrNew c w):=by
 go_enter Tryz.func58,Tryz.ntmps58;go_wp2_with fail;refine (at_any _ _ c w).mono ?_;rintro e w1 ⟨v,rfl,h⟩;go_wp2_with fail;go_ret
 exact ⟨v,rfl,h⟩
def ParseR (o:Option Ck) (w:World) (e:Ending) (w':World):Prop:=match o with
 | some c=>e=.returned (.tuple #[c.val,.nilIface])∧Below w.heap.size w w'
 | none=>∃ v,e=.returned (.tuple #[noCk.val,v])∧Err w' v 2∧v≠.nilIface∧Below w.heap.size w w'
theorem Ck.cells7 {w:World} {g:Nat} {t:TypeId} {c:Ck} (h:Blk w g t c.cells.toArray) :
  w.cell? ⟨g,0,none⟩=some (.string c.name)∧w.cell? ⟨g,1,none⟩=some (.string c.value)∧w.cell? ⟨g,2,none⟩=some (.string c.path)∧w.cell? ⟨g,3,none⟩=some (.int .i64 c.age)∧w.cell? ⟨g,4,none⟩=some (.bool c.sec)∧w.cell? ⟨g,5,none⟩=some (.bool c.http)∧w.cell? ⟨g,6,none⟩=some (.int .i64 c.site) :=
 ⟨h.cell 0,h.cell 1,h.cell 2,h.cell 3,h.cell 4,h.cell 5,h.cell 6⟩
theorem trimA_mk (l:List UInt8):trimA (mkB l)=mkB (trimB l):=by simp [trimA,mkB]
def ParseI (l:List (List UInt8)) (c:Ck) (w wr:World):Prop :=
 Blk wr (w.heap.size+2) 78 c.cells.toArray∧Blk wr w.heap.size 78 noCk.cells.toArray∧Blk wr (w.heap.size+1) 9 ((l.map mkB).map Value.string).toArray∧Below w.heap.size w wr∧w.heap.size+3≤wr.heap.size
theorem site_len (n:Nat):(siteL n).length≤1000000:=by
 unfold siteL;split <;> simp
theorem key_eq (l k:List UInt8):((mkB l).toList==k)=decide (l=k):=by
 rw [ByteArray.toList_eq,show (mkB l).data.toList=l from mkB_data l]
 by_cases h:l=k
 ·rw [decide_eq_true h,beq_iff_eq.2 h]
 ·rw [decide_eq_false h,beq_eq_false_iff_ne.2 h]
theorem ParseI.set {l:List (List UInt8)} {c:Ck} {w wr:World} (h:ParseI l c w wr) (i:Nat) (u:Value) (c':Ck) (hc:c.cells.toArray.setIfInBounds i u=c'.cells.toArray):ParseI l c' w (wr.setCell ⟨w.heap.size+2,i,none⟩ u) :=
 ⟨by rw [←hc];exact h.1.set_ i u,h.2.1.far (p:=⟨w.heap.size+2,i,none⟩) (by show w.heap.size≠w.heap.size+2;omega) u,h.2.2.1.far (p:=⟨w.heap.size+2,i,none⟩) (by show w.heap.size+1≠w.heap.size+2;omega) u,h.2.2.2.1.setCell (by show w.heap.size≤w.heap.size+2;omega) u,by have:=h.2.2.2.2;simpa [World.setCell] using this⟩
theorem ParseI.drewN {l:List (List UInt8)} {c:Ck} {w wr:World} (h:ParseI l c w wr) (n:Nat):ParseI l c w (wr.drewN n) :=
 ⟨h.1.drewN n,h.2.1.drewN n,h.2.2.1.drewN n,below_drewN h.2.2.2.1 n,h.2.2.2.2⟩
theorem ParseI.below {l:List (List UInt8)} {c:Ck} {w wr w':World} (h:ParseI l c w wr) (hb:Below wr.heap.size wr w'):ParseI l c w w' :=
 ⟨h.1.below hb (by have:=h.2.2.2.2;omega),h.2.1.below hb (by have:=h.2.2.2.2;omega),h.2.2.1.below hb (by have:=h.2.2.2.2;omega),h.2.2.2.1.trans (hb.mono (by have:=h.2.2.2.2;omega)),by have:=h.2.2.2.2;have:=hb.size;omega⟩
theorem parse_any (s:ByteArray) (w:World) (hs:s.size≤1000000) (hm:∃ m,w.cell? ⟨1,0,none⟩=some (.int .i64 m)):Calls Tryz.prog 25 #[.string s] w (ParseR (parse s) w):=by
 obtain ⟨m,hm⟩:=hm;have h00:=cell_lt hm;have HM:=qH hm;clear hm
 obtain ⟨p,r,hL⟩:∃ p r,parts 59 s.data.toList=p :: r:=by
  cases h:parts 59 s.data.toList with
  | nil=>exact absurd h (pcs_ne _ _ _)
  | cons p r=>exact ⟨p,r,rfl⟩
 have HP:=qH (show parse s=(first p).map fun c=>r.foldl step c from by unfold parse;rw [hL];rfl);have hsz:=parts_le 59 _ s.data.toList (Nat.le_refl _);have hcnt:=splitB_len s;have HSP:=qH (splitB_parts s);rw [hL] at hsz hcnt;rw [show s.data.toList.length=s.size from rfl] at hsz;have hcle:=Lib.countB_le ⟨#[59]⟩ (by decide) _ s (Nat.le_refl _);have HSZ:=qH hsz;have HL:=qH hL;clear hL hsz;go_enter Tryz.func25,Tryz.ntmps25;go_wp2_with fail;refine (Tryz.strings_Split s ⟨#[59]⟩ m _ (by omega) (by rw [World.cell?_alloc_lt _ _ _ h00];exact HM.out) (by decide)).mono ?_;rintro e w1 ⟨rfl,hw1⟩;rw [HSP.out] at hw1;have hn:(parts 59 s.data.toList).length=r.length+1:=by rw [HL.out];rfl
 have hb1:Below w.heap.size w w1:=by rw [hw1];exact (below_new w _).alloc (by simp) _
 have hbr:Blk w1 w.heap.size 78 noCk.cells.toArray:=by rw [hw1];exact (Blk.new w _ _).alloc _
 have hbl:Blk w1 (w.heap.size+1) 9 (((p :: r).map mkB).map Value.string).toArray:=by rw [hw1,←HL.out];exact Blk.newAt _ _ _ (by simp)
 have hs1:w1.heap.size=w.heap.size+2:=by rw [hw1];simp
 have hm1:w1.cell? ⟨1,0,none⟩=some (.int .i64 m):=(hb1.cell (p:=⟨1,0,none⟩) h00).trans HM.out;have c0:w1.cell? ⟨w.heap.size+1,0,none⟩=some (.string (mkB p)):=by rw [hbl.cell];rfl
 rw [show Lib.countB s ⟨#[59]⟩+1=r.length+1 from hcnt.symm];have hrm:r.length≤1000000:=by simp at hcnt;omega
 clear hw1 hcnt;have HB1:=qH hb1;have HBR:=qH hbr;have HBL:=qH hbl;have HM1:=qH hm1;clear hb1 hbr hbl hm1;have hp1:(mkB p).size≤1000000:=by rw [mkB_size];have:=HSZ.out p (by simp);omega
 have d0:decide ((r.length:Int)+1≤0)=false:=by simp
 go_wp2_with fail;refine (split_any (mkB p) m w1 hp1 HM1.out).mono ?_;rintro e w2 ⟨rfl,n2,hw2⟩;have HB2:=qH (show Below w.heap.size w w2 from by rw [hw2];exact below_drewN HB1.out n2);have HBR2:=qH (show Blk w2 w.heap.size 78 noCk.cells.toArray from by rw [hw2];exact HBR.out.drewN n2);have HBL2:=qH (show Blk w2 (w.heap.size+1) 9 (((p :: r).map mkB).map Value.string).toArray from by rw [hw2];exact HBL.out.drewN n2);have hs2:w2.heap.size=w.heap.size+2:=by rw [hw2];exact hs1
 clear hw2 HB1 HBR HBL HM1 hs1 c0;rw [mkB_data];have HF:=qH (show parse s=if (untilL 61 p).2.2&&!(trimB (untilL 61 p).1).isEmpty then some (r.foldl step ⟨mkB (trimB (untilL 61 p).1),mkB (trimB (untilL 61 p).2.1),⟨#[]⟩,-1,false,false,0⟩) else none from by rw [HP.out];unfold first;split <;> rfl);clear HP;simp only [trimA_mk];generalize hk1:trimB (untilL 61 p).1=kn at *;generalize hk2:trimB (untilL 61 p).2.1=kv at *;generalize hk3:(untilL 61 p).2.2=ok at *;clear hk1 hk2 hk3;have hse:=str_ne (mkB kn);rw [mkB_size] at hse
 cases ok with
 | false =>
  have HF2:=qH (show parse s=none from HF.out);clear hse HF;go_wp2_with fail;refine (bad_any 2 _).mono ?_;rintro e w3 ⟨v,rfl,hE,hnn,hb3,hgv⟩;have HE:=qH hE;have HBR3:=qH (HBR2.out.below hb3 (by omega));have HB3:=qH (HB2.out.trans (hb3.mono (by omega)));have hs3:=hb3.size;clear hE hb3
  go_wp2_with (refine wpList_store_blk rfl 78 (.tmp 2) (.tmp 33) rfl w.heap.size noCk.cells rfl rfl HBR3.out (by kernel_rfl) rfl rfl ?_;intro w4 ho4 hk4 hs4)
  obtain ⟨q0,q1,q2,q3,q4,q5,q6⟩:=Ck.cells7 ho4;exact bodyPost_ret (v:=.tuple #[noCk.val,v]) (by simp [results,Tryz.results25,go_sem,q0,q1,q2,q3,q4,q5,q6];rfl) rfl (by rw [HF2.out];exact ⟨v,rfl,HE.out.keeps hk4 (fun g hg e=>by have:=hgv g hg;omega),hnn,HB3.out.trans (hk4.below (fun i hi e=>by omega) (by omega))⟩)
 | true =>
  cases kn with
  | nil =>
   have HF2:=qH (show parse s=none from HF.out);rw [decide_eq_false (by simp)] at hse;have d1:(mkB []).toList.isEmpty=true:=by simpa using hse
   clear hse HF;go_wp2_with fail;refine (bad_any 2 _).mono ?_;rintro e w3 ⟨v,rfl,hE,hnn,hb3,hgv⟩;have HE:=qH hE;have HBR3:=qH (HBR2.out.below hb3 (by omega));have HB3:=qH (HB2.out.trans (hb3.mono (by omega)));have hs3:=hb3.size;clear hE hb3
   go_wp2_with (refine wpList_store_blk rfl 78 (.tmp 2) (.tmp 33) rfl w.heap.size noCk.cells rfl rfl HBR3.out (by kernel_rfl) rfl rfl ?_;intro w4 ho4 hk4 hs4)
   obtain ⟨q0,q1,q2,q3,q4,q5,q6⟩:=Ck.cells7 ho4;exact bodyPost_ret (v:=.tuple #[noCk.val,v]) (by simp [results,Tryz.results25,go_sem,q0,q1,q2,q3,q4,q5,q6];rfl) rfl (by rw [HF2.out];exact ⟨v,rfl,HE.out.keeps hk4 (fun g hg e=>by have:=hgv g hg;omega),hnn,HB3.out.trans (hk4.below (fun i hi e=>by omega) (by omega))⟩)
  | cons k0 kr =>
   have HF2:=qH (show parse s=some (r.foldl step ⟨mkB (k0 :: kr),mkB kv,⟨#[]⟩,-1,false,false,0⟩) from HF.out);rw [decide_eq_true (by simp)] at hse;have d1:(mkB (k0 :: kr)).toList.isEmpty=false:=by simpa using hse
   clear hse HF;generalize mkB (k0 :: kr)=N at *;generalize mkB kv=V at *;obtain ⟨c0,hc0⟩:∃ c0:Ck,(⟨N,V,⟨#[]⟩,-1,false,false,0⟩:Ck)=c0:=⟨_,rfl⟩;have HC0:=qH hc0
   have HS:=qH (show ParseI (p :: r) c0 w (w2.alloc (.cells #[.string N,.string V,.string ⟨#[]⟩,.int .i64 (-1),.bool false,.bool false,.int .i64 0] 78)) from
    ⟨by rw [←hc0];exact Blk.newAt _ _ _ hs2.symm,HBR2.out.alloc _,HBL2.out.alloc _,HB2.out.alloc (by omega) _,by simp [hs2]⟩)
   clear hc0
   cases r with
   | nil =>
    go_wp2_with fail
    go_loopw [41] (fun x wr=>x=.int .i64 0∧ParseI [p] c0 w wr) (fun _ _=>0)
    case atStart=>exact ⟨rfl,HS.out⟩
    case round =>
     obtain ⟨rfl,hI⟩:=hrel;rw [HC0.out] at HF2;have HF3:=qH (show parse s=some c0 from HF2.out);obtain ⟨q0,q1,q2,q3,q4,q5,q6⟩:=Ck.cells7 hI.1;have HI:=qH hI;clear hI
     go_wp2_with (refine wpList_store_blk rfl 78 (.tmp 2) (.tmp 92) rfl w.heap.size c0.cells rfl rfl HI.out.2.1 (by kernel_rfl) rfl rfl ?_;intro w4 ho4 hk4 hs4)
     obtain ⟨p0,p1,p2,p3,p4,p5,p6⟩:=Ck.cells7 ho4;exact bodyPost_ret (v:=.tuple #[c0.val,.nilIface]) (by simp [results,Tryz.results25,go_sem,p0,p1,p2,p3,p4,p5,p6];rfl) rfl (by rw [HF3.out];exact ⟨rfl,HI.out.2.2.2.1.trans (hk4.below (fun i hi e=>by omega) (by have:=HI.out.2.2.2.2;omega))⟩)
   | cons a0 r0 =>
    go_wp2_with fail;obtain ⟨r,hr⟩:∃ r,a0 :: r0=r:=⟨_,rfl⟩;have hrl:r0.length+1=r.length:=by rw [←hr];rfl
    have hrl2:r.length≤r0.length+1:=by omega
    have hrl1:r0.length+1≤r.length:=by omega
    rw [hr] at HF2 HS HSZ hrm;clear hr hrl;rw [HC0.out] at HF2
    go_loopw [41] (fun x wr=>∃ k:Nat,k≤r.length∧x=.int .i64 k∧ParseI (p :: r) ((r.take k).foldl step c0) w wr) (fun x _=>r.length-(intOf x).toNat)
    case atStart=>exact ⟨0,by omega,rfl,HS.out⟩
    case round =>
     obtain ⟨k,hk,rfl,hI⟩:=hrel
     by_cases hlt:k<r.length
     ·have ck:wr.cell? ⟨w.heap.size+1,1+k,none⟩=some (.string (mkB r[k])):=by
       rw [hI.2.2.1.cell,show 1+k=k+1 by omega];simp [hlt]
      have hpk:(mkB r[k]).size≤1000000:=by rw [mkB_size];have:=HSZ.out r[k] (by simp);omega
      have d2:decide ((k:Int)<(r0.length:Int)+1)=true:=by simp;omega
      have HS:=qH (show (r.take (k+1)).foldl step c0=step ((r.take k).foldl step c0) r[k] from by rw [List.take_succ_eq_append_getElem hlt,List.foldl_append];rfl);generalize (r.take k).foldl step c0=ck0 at *;generalize r[k]=a at *;have HI:=qH hI;clear hI;go_wp2_with fail;refine (split_any (mkB a) m wr hpk ((HI.out.2.2.2.1.cell (p:=⟨1,0,none⟩) h00).trans HM.out)).mono ?_;rintro e w3 ⟨rfl,n3,hw3⟩;have HI3:=qH (show ParseI (p :: r) ck0 w w3 from by rw [hw3];exact HI.out.drewN n3);clear hw3 HI ck;have hl:=until_len 61 a;rw [mkB_size] at hpk;rw [mkB_data];simp only [trimA_mk];have hU1:=trimB_le (untilL 61 a).1;have hU2:=trimB_le (untilL 61 a).2.1;have HS2:=qH (HS.out.trans (show step ck0 a=attr (lowL (trimB (untilL 61 a).1)) (trimB (untilL 61 a).2.1) ck0 from rfl));clear HS;generalize trimB (untilL 61 a).1=U at *;generalize trimB (untilL 61 a).2.1=v at *;generalize (untilL 61 a).2.2=ok at *;have hUs:(mkB U).size≤1000000:=by rw [mkB_size];omega
      have hvs:(mkB v).size≤1000000:=by rw [mkB_size];omega
      clear hl hU1 hU2 hpk;go_wp2_with fail;refine (lower_any (mkB U) w3 hUs).mono ?_;rintro e w4 ⟨rfl,hb4⟩;rw [mkB_data];have HI4:=qH (HI3.out.below hb4);clear hb4 HI3;have k1:((mkB (lowL U)).toList==[112,97,116,104])=decide (lowL U=pathK):=key_eq _ _;have k2:((mkB (lowL U)).toList==[109,97,120,45,97,103,101])=decide (lowL U=ageK):=key_eq _ _;have k3:((mkB (lowL U)).toList==[115,101,99,117,114,101])=decide (lowL U=secK):=key_eq _ _;have k4:((mkB (lowL U)).toList==[104,116,116,112,111,110,108,121])=decide (lowL U=httpK):=key_eq _ _;have k5:((mkB (lowL U)).toList==[115,97,109,101,115,105,116,101])=decide (lowL U=siteK):=key_eq _ _;generalize mkB (lowL U)=KB at *;generalize lowL U=K at *;obtain ⟨q0,q1,q2,q3,q4,q5,q6⟩:=Ck.cells7 HI4.out.1;have f2:=HI4.out.1.frozen 2;have f3:=HI4.out.1.frozen 3;have f4:=HI4.out.1.frozen 4;have f5:=HI4.out.1.frozen 5;have f6:=HI4.out.1.frozen 6
      by_cases g1:K=pathK
      ·subst g1
       rw [decide_eq_true rfl] at k1;clear k2 k3 k4 k5;go_wp2_with fail;refine (Tryz.strings_HasPrefix (mkB v) ⟨#[47]⟩ _).mono ?_;rintro e w5 ⟨rfl,rfl⟩
       cases hp:Lib.hasPrefix (mkB v).data.toList (⟨#[47]⟩:ByteArray).data.toList with
       | true =>
        have HN:=qH (show attr pathK v ck0={ ck0 with path:=mkB v } from by
         unfold attr;rw [mkB_data] at hp;rw [if_pos rfl,if_pos (show [47].isPrefixOf v=true from hp)])
        clear hp;have HX:=qH ((HI4.out.set 2 (.string ⟨#[]⟩) { ck0 with path:=⟨#[]⟩ } rfl).set 2 (.string (mkB v)) { ck0 with path:=mkB v } rfl);go_wp2_with fail;refine ⟨?_,?measure⟩
        (repeat apply Exists.intro)
        refine ⟨?rel,rfl⟩
        case rel=>exact ⟨k+1,by omega,by go_num,by rw [HS2.out,HN.out];exact HX.out⟩
        case measure=>simp [intOf];omega
       | false =>
        have HN:=qH (show attr pathK v ck0={ ck0 with path:=⟨#[]⟩ } from by
         unfold attr;rw [mkB_data] at hp;rw [if_pos rfl,if_neg (by rw [show [47].isPrefixOf v=false from hp];simp)])
        clear hp;have HX:=qH (HI4.out.set 2 (.string ⟨#[]⟩) { ck0 with path:=⟨#[]⟩ } rfl);go_wp2_with fail;refine ⟨?_,?measure⟩
        (repeat apply Exists.intro)
        refine ⟨?rel,rfl⟩
        case rel=>exact ⟨k+1,by omega,by go_num,by rw [HS2.out,HN.out];exact HX.out⟩
        case measure=>simp [intOf];omega
      by_cases g2:K=ageK
      ·subst g2
       rw [decide_eq_false (show ¬ ageK=pathK by decide)] at k1;rw [decide_eq_true rfl] at k2;clear k3 k4 k5;go_wp2_with fail;refine (age_any (mkB v) w4 hvs).mono ?_;rintro e w5 ⟨rfl,rfl⟩;rw [mkB_data]
       cases ha:ageL v with
       | none =>
        have HN:=qH (show attr ageK v ck0=ck0 from by unfold attr;rw [if_neg (by decide),if_pos rfl,ha]);have HX:=qH HI4.out;clear ha;simp only [Option.isSome_none,Option.getD_none];go_wp2_with fail;refine ⟨?_,?measure⟩
        (repeat apply Exists.intro)
        refine ⟨?rel,rfl⟩
        case rel=>exact ⟨k+1,by omega,by go_num,by rw [HS2.out,HN.out];exact HX.out⟩
        case measure=>simp [intOf];omega
       | some n =>
        have HN:=qH (show attr ageK v ck0={ ck0 with age:=(n:Int) } from by unfold attr;rw [if_neg (by decide),if_pos rfl,ha]);have HX:=qH (HI4.out.set 3 (.int .i64 (n:Int)) { ck0 with age:=(n:Int) } rfl);clear ha;simp only [Option.isSome_some,Option.getD_some];go_wp2_with fail;refine ⟨?_,?measure⟩
        (repeat apply Exists.intro)
        refine ⟨?rel,rfl⟩
        case rel=>exact ⟨k+1,by omega,by go_num,by rw [HS2.out,HN.out];exact HX.out⟩
        case measure=>simp [intOf];omega
      by_cases g3:K=secK
      ·subst g3
       rw [decide_eq_false (show ¬ secK=pathK by decide)] at k1;rw [decide_eq_false (show ¬ secK=ageK by decide)] at k2;rw [decide_eq_true rfl] at k3;clear k4 k5;have HN:=qH (show attr secK v ck0={ ck0 with sec:=true } from by unfold attr;rw [if_neg (by decide),if_neg (by decide),if_pos rfl]);have HX:=qH (HI4.out.set 4 (.bool true) { ck0 with sec:=true } rfl);go_wp2_with fail;refine ⟨?_,?measure⟩
       (repeat apply Exists.intro)
       refine ⟨?rel,rfl⟩
       case rel=>exact ⟨k+1,by omega,by go_num,by rw [HS2.out,HN.out];exact HX.out⟩
       case measure=>simp [intOf];omega
      by_cases g4:K=httpK
      ·subst g4
       rw [decide_eq_false (show ¬ httpK=pathK by decide)] at k1;rw [decide_eq_false (show ¬ httpK=ageK by decide)] at k2;rw [decide_eq_false (show ¬ httpK=secK by decide)] at k3;rw [decide_eq_true rfl] at k4;clear k5;have HN:=qH (show attr httpK v ck0={ ck0 with http:=true } from by unfold attr;rw [if_neg (by decide),if_neg (by decide),if_neg (by decide),if_pos rfl]);have HX:=qH (HI4.out.set 5 (.bool true) { ck0 with http:=true } rfl);go_wp2_with fail;refine ⟨?_,?measure⟩
       (repeat apply Exists.intro)
       refine ⟨?rel,rfl⟩
       case rel=>exact ⟨k+1,by omega,by go_num,by rw [HS2.out,HN.out];exact HX.out⟩
       case measure=>simp [intOf];omega
      by_cases g5:K=siteK
      ·subst g5
       rw [decide_eq_false (show ¬ siteK=pathK by decide)] at k1;rw [decide_eq_false (show ¬ siteK=ageK by decide)] at k2;rw [decide_eq_false (show ¬ siteK=secK by decide)] at k3;rw [decide_eq_false (show ¬ siteK=httpK by decide)] at k4;rw [decide_eq_true rfl] at k5;have HN:=qH (show attr siteK v ck0={ ck0 with site:=siteN (lowL v) } from by unfold attr;rw [if_neg (by decide),if_neg (by decide),if_neg (by decide),if_neg (by decide),if_pos rfl]);have HX0:=qH (HI4.out.set 6 (.int .i64 0) { ck0 with site:=0 } rfl);go_wp2_with fail
       go_loopw [16] (fun x wr=>∃ m:Nat,m≤3∧x=.int .i64 ((m:Int)+1)∧ParseI (p :: r) { ck0 with site:=siteM (lowL v) m } w wr) (fun x _=>4-(intOf x).toNat)
       case atStart=>exact ⟨0,by omega,rfl,HX0.out⟩
       case round =>
        obtain ⟨m5,hm5,rfl,hI⟩:=hrel
        by_cases h3:m5<3
        ·have d3:decide ((m5:Int)+1≤3)=true:=by simp;omega
         go_wp2_with fail;refine (lower_any (mkB v) _ hvs).mono ?_;rintro e w6 ⟨rfl,hb6⟩;rw [mkB_data];have HI6:=qH (hI.below hb6);clear hb6 hI;go_wp2_with fail;refine (site_any (m5+1) _ (by omega)).mono ?_;rintro e w7 ⟨rfl,hb7⟩;have HI7:=qH (HI6.out.below hb7);clear hb7 HI6;go_wp2_with fail;refine (lower_any (mkB (siteL (m5+1))) _ (by rw [mkB_size];exact site_len _)).mono ?_;rintro e w8 ⟨rfl,hb8⟩;rw [mkB_data];have HI8:=qH (HI7.out.below hb8);clear hb8 HI7;have hte:=text_eq (mkB (lowL v)) (mkB (lowL (siteL (m5+1))));have hsm:siteM (lowL v) (m5+1)=if lowL v=lowL (siteL (m5+1)) then m5+1 else siteM (lowL v) m5:=rfl;have hqc:=HI8.out.1.cell 6;have hqf:=HI8.out.1.frozen 6;rw [show (Ck.cells { ck0 with site:=siteM (lowL v) m5 }).toArray[6]?=some (.int .i64 (siteM (lowL v) m5:Nat)) from rfl] at hqc
         by_cases hll:lowL v=lowL (siteL (m5+1))
         ·rw [decide_eq_true (by rw [hll])] at hte
          rw [if_pos hll] at hsm;have HX6:=qH (show ParseI (p :: r) { ck0 with site:=siteM (lowL v) (m5+1) } w (w8.setCell ⟨w.heap.size+2,6,none⟩ (.int .i64 ((m5:Int)+1))) from by rw [hsm];exact HI8.out.set 6 _ _ rfl);clear hsm hll;generalize mkB (lowL v)=LV at *;generalize mkB (lowL (siteL (m5+1)))=LS at *;go_wp2_with fail;refine ⟨?rel,?measure⟩
          case rel=>exact ⟨m5+1,by omega,by go_num,HX6.out⟩
          case measure=>simp [intOf];omega
         ·rw [decide_eq_false (fun e=>hll (by have:=congrArg (fun b:ByteArray=>b.data.toList) e;simpa [mkB_data] using this))] at hte
          rw [if_neg hll] at hsm;have HX6:=qH (show ParseI (p :: r) { ck0 with site:=siteM (lowL v) (m5+1) } w w8 from by rw [hsm];exact HI8.out);clear hsm hll;generalize mkB (lowL v)=LV at *;generalize mkB (lowL (siteL (m5+1)))=LS at *;go_wp2_with fail;refine ⟨?rel,?measure⟩
          case rel=>exact ⟨m5+1,by omega,by go_num,HX6.out⟩
          case measure=>simp [intOf];omega
        ·obtain rfl:m5=3:=by omega
         rw [siteM_3] at hI;have HX:=qH hI;clear hI;go_wp2_with fail;refine ⟨?_,?measure⟩
         (repeat apply Exists.intro)
         refine ⟨?rel,rfl⟩
         case rel=>exact ⟨k+1,by omega,by go_num,by rw [HS2.out,HN.out];exact HX.out⟩
         case measure=>simp [intOf];omega
      ·have HN:=qH (show attr K v ck0=ck0 from by unfold attr;rw [if_neg g1,if_neg g2,if_neg g3,if_neg g4,if_neg g5])
       rw [decide_eq_false g1] at k1;rw [decide_eq_false g2] at k2;rw [decide_eq_false g3] at k3;rw [decide_eq_false g4] at k4;rw [decide_eq_false g5] at k5;clear g1 g2 g3 g4 g5;go_wp2_with fail;have HX:=qH HI4.out;refine ⟨?_,?measure⟩
       (repeat apply Exists.intro)
       refine ⟨?rel,rfl⟩
       case rel=>exact ⟨k+1,by omega,by go_num,by rw [HS2.out,HN.out];exact HX.out⟩
       case measure=>simp [intOf];omega
     ·obtain rfl:k=r.length:=by omega
      rw [List.take_length] at hI;obtain ⟨c1,hc1⟩:∃ c1,r.foldl step c0=c1:=⟨_,rfl⟩;rw [hc1] at hI;have HF3:=qH (show parse s=some c1 from by rw [HF2.out,hc1]);have d2:decide ((r.length:Int)<(r0.length:Int)+1)=false:=by simp;omega
      clear hc1;obtain ⟨q0,q1,q2,q3,q4,q5,q6⟩:=Ck.cells7 hI.1;have HI:=qH hI;clear hI
      go_wp2_with (refine wpList_store_blk rfl 78 (.tmp 2) (.tmp 92) rfl w.heap.size c1.cells rfl rfl HI.out.2.1 (by kernel_rfl) rfl rfl ?_;intro w4 ho4 hk4 hs4)
      obtain ⟨p0,p1,p2,p3,p4,p5,p6⟩:=Ck.cells7 ho4;exact bodyPost_ret (v:=.tuple #[c1.val,.nilIface]) (by simp [results,Tryz.results25,go_sem,p0,p1,p2,p3,p4,p5,p6];rfl) rfl (by rw [HF3.out];exact ⟨rfl,HI.out.2.2.2.1.trans (hk4.below (fun i hi e=>by omega) (by have:=HI.out.2.2.2.2;omega))⟩)
end bake
namespace bake
open Go Go.RowKit base dec err rowe
def goodC (len i:Nat) (c:UInt8):Bool:=!(decide (i=0)&&!decide (c=47))&&(pathC c&&!(decide (c=32)&&(decide (i=1) || decide (i+1=len))))
theorem drop_none' {l:List UInt8}:trimB l=l↔l=[]∨(∃ h:0<l.length,bl l[0]=false∧bl l[l.length-1]=false):=by
 unfold trimB trimR
 constructor
 ·intro h
  cases l with
  | nil=>exact .inl rfl
  | cons a r =>
   refine .inr ⟨by simp,?_⟩
   have h0:bl a=false:=by
    cases hb:bl a with
    | false=>rfl
    | true =>
     rw [List.dropWhile_cons_of_pos hb] at h;have h1:=(List.dropWhile_suffix bl (l:=(r.dropWhile bl).reverse)).sublist.length_le;have h2:=(List.dropWhile_suffix bl (l:=r)).sublist.length_le;have h3:=congrArg List.length h;rw [List.length_reverse] at h1;simp at h3
     omega
   refine ⟨h0,?_⟩;rw [List.dropWhile_cons_of_neg (by rw [h0];simp)] at h;have h':=congrArg List.reverse h;rw [List.reverse_reverse] at h'
   obtain ⟨x,t,hx⟩:∃ x t,(a :: r).reverse=x :: t:=by
    cases hh:(a :: r).reverse with
    | nil=>simp at hh
    | cons x t=>exact ⟨x,t,rfl⟩
   have hbx:bl x=false:=by
    cases hb:bl x with
    | false=>rfl
    | true =>
     rw [hx,List.dropWhile_cons_of_pos hb] at h';have h1:=(List.dropWhile_suffix bl (l:=t)).sublist.length_le;have h3:=congrArg List.length h';simp at h3
     omega
   have hl:(a :: r)[(a :: r).length-1]=x:=by
    have h4:(a :: r)=t.reverse++[x]:=by rw [←List.reverse_reverse (a :: r),hx,List.reverse_cons]
    simp [h4]
   rw [hl];exact hbx
 ·rintro (rfl|⟨h,h0,h1⟩)
  ·rfl
  ·cases l with
   | nil=>rfl
   | cons a r =>
    rw [List.dropWhile_cons_of_neg (by simp at h0;rw [h0];simp)]
    obtain ⟨t,x,hx⟩:∃ t x,(a :: r)=t++[x]:=by
     rcases List.eq_nil_or_concat (a :: r) with h|⟨t,x,h⟩
     ·simp at h
     ·exact ⟨t,x,by rw [h,List.concat_eq_append]⟩
    have hbx:bl x=false:=by
     have h5:(a :: r)[(a :: r).length-1]=x:=by simp [hx]
     rw [h5] at h1;exact h1
    rw [hx,List.reverse_append,List.reverse_singleton,List.singleton_append,List.dropWhile_cons_of_neg (by rw [hbx];simp)];simp
theorem blN_path {c:UInt8} (h:pathC c=true):bl c=decide (c=32):=by
 unfold pathC at h;unfold bl blN;simp at h
 rw [Bool.eq_iff_iff];simp
 constructor
 ·rintro (h2|h2)
  ·exact UInt8.toNat_inj.mp h2
  ·omega
 ·rintro rfl;exact .inl rfl
theorem path_good (l:List UInt8):pathL l=true↔∀ i (h:i<l.length),goodC l.length i l[i]=true:=by
 cases l with
 | nil=>simp [pathL]
 | cons c r =>
  unfold pathL;rw [Bool.and_eq_true,Bool.and_eq_true,decide_eq_true_eq,decide_eq_true_eq,List.all_eq_true,drop_none']
  constructor
  ·rintro ⟨⟨h1,h2⟩,h3⟩ i hi
   have hp:=h3 _ (List.getElem_mem hi);unfold goodC;rw [hp]
   by_cases h0:i=0
   ·subst h0
    simp [h1]
   ·rcases h2 with rfl|⟨hr,h4,h5⟩
    ·simp at hi;omega
    ·have hbl:=blN_path hp
     by_cases h6:i=1
     ·subst h6
      simp at hbl ⊢
      rw [h4] at hbl
      simpa using hbl
     ·by_cases h7:i+1=(c :: r).length
      ·have h8:(c :: r)[i]=r[r.length-1]:=by
        obtain ⟨j,rfl⟩:∃ j,i=j+1:=⟨i-1,by omega⟩;simp at h7 ⊢
        congr 1
        omega
       rw [h8] at hbl ⊢;rw [h5] at hbl;simp at hbl ⊢
       simp [h0,h6,hbl]
      ·simp at h7
       simp [h0,h6,h7]
  ·intro h
   have hall:∀ x ∈ c :: r,pathC x=true:=by
    intro x hx;obtain ⟨i,hi,rfl⟩:=List.getElem_of_mem hx;have:=h i hi;unfold goodC at this;simp at this
    exact this.2.1
   refine ⟨⟨?_,?_⟩,hall⟩
   ·have:=h 0 (by simp)
    unfold goodC at this;simp at this
    exact this.1
   ·cases r with
    | nil=>exact .inl rfl
    | cons d r =>
     refine .inr ⟨by simp,?_,?_⟩
     ·have h1:=h 1 (by simp)
      rw [blN_path (hall _ (by simp))];unfold goodC at h1;simp at h1
      simpa using h1.2
     ·have h1:=h ((d :: r).length) (by simp)
      rw [blN_path (hall _ (by simp))];unfold goodC at h1;simp at h1
      simpa using h1.2
def rightB (n v p:ByteArray) (a:Int) (sec:Bool) (st:Int):Bool :=
 tokB n&&(octsB v&&(pathL p.data.toList&&(decide (-1≤a)&&(decide (a≤1099511627776)&&(decide (0≤st)&&(decide (st≤3)&&!(decide (st=3)&&!sec)))))))
end bake
namespace bake
open Go Go.RowKit base dec
open Go.Lib (decDigits)
def pathH:List UInt8:=[80,97,116,104,61]
def ageH:List UInt8:=[77,97,120,45,65,103,101,61]
def secH:List UInt8:=[83,101,99,117,114,101]
def httpH:List UInt8:=[72,116,116,112,79,110,108,121]
def siteH:List UInt8:=[83,97,109,101,83,105,116,101,61]
def pP (p:ByteArray):List (List UInt8):=if p.size=0 then [] else [pathH++p.data.toList]
def pA (a:Int):List (List UInt8):=if 0≤a then [ageH++decDigits a.toNat] else []
def pS (b:Bool):List (List UInt8):=if b then [secH] else []
def pH (b:Bool):List (List UInt8):=if b then [httpH] else []
def pT (st:Int):List (List UInt8):=if 0<st then [siteH++siteL st.toNat] else []
def h0 (n v:ByteArray):List UInt8:=n.data.toList++[61]++v.data.toList
def tailL (l:List (List UInt8)):List UInt8:=Lib.joinTail [59,32] l
def headL (n v p:ByteArray) (a:Int) (sec http:Bool) (st:Int):List UInt8:=h0 n v++tailL (pP p++(pA a++(pS sec++(pH http++pT st))))
theorem head_join (n v p:ByteArray) (a:Int) (sec http:Bool) (st:Int):Lib.join (h0 n v :: (pP p++(pA a++(pS sec++(pH http++pT st))))) [59,32]=headL n v p a sec http st:=Lib.join_cons _ _ _
theorem age_len {a:Int} (h:a≤1099511627776):(decDigits a.toNat).length≤19:=dec_len_le 18 _ (by omega)
end bake
namespace bake
open Go Go.RowKit base dec
open Go.Lib (decDigits)
structure Tabs (w:World):Prop where
 m:∃ m,w.cell? ⟨1,0,none⟩=some (.int .i64 m)
 t : Lib.TabIs Tryz.prog w "internal/strconv.uint64pow10" .u64 Lib.pow10Tab
 s:max 1 2<w.heap.size
theorem pow_at : Tryz.prog.globalNamed "internal/strconv.uint64pow10" = some 2 := by kernel_rfl
theorem Tabs.below {w w':World} (h:Tabs w) (hb:Below w.heap.size w w'):Tabs w':=by
 have hs:=h.s;refine ⟨?_,?_,by have:=hb.size;omega⟩
 ·obtain ⟨m,hm⟩:=h.m
  exact ⟨m,(hb.cell (p:=⟨1,0,none⟩) (by show 1<w.heap.size;omega)).trans hm⟩
 ·have ht:=h.t
  unfold Lib.TabIs World.var? at ht ⊢;rw [pow_at] at ht ⊢;simp only [Option.bind_some] at ht ⊢;rw [hb.block 2 (by omega)];exact ht
theorem below_grow (w:World) (k:Nat) (os:Array Obj):Below w.heap.size w (Sort.grow (w.drewN k) os) :=
 ⟨rfl,rfl,rfl,by simp [Sort.grow],fun i hi=>by
  unfold Sort.grow;exact Array.getElem?_append_left hi⟩
theorem itoa_nat (a:Nat):Lib.itoa (a:Int)=decDigits a:=by
 unfold Lib.itoa;rw [if_neg (by omega)];rfl
theorem str_info:(Tryz.prog.info? 9).map (fun i=>(i.zero,i.size,i.bytes))=some (some (.string ⟨#[]⟩),1,16):=by kernel_rfl
def strs (l:List (List UInt8)):List Value:=l.map fun x=>Value.string (mkB x)
theorem strs_app (a b:List (List UInt8)):strs (a++b)=strs a++strs b:=by simp [strs]
def WrH (w:World) (cs:Array Value) (l:List (List UInt8)) (s:Value) (wx:World):Prop :=
 wx.ownsRow (w.heap.size+1) 9 1 s l.length (strs l)∧Blk wx w.heap.size 78 cs∧Below w.heap.size w wx∧w.heap.size+1≤wx.heap.size
theorem own_below {w w':World} {base:Nat} {e:TypeId} {size n:Nat} {v:Value} {xs:List Value} (h:w.ownsRow base e size v n xs) (hb:Below w.heap.size w w'):w'.ownsRow base e size v n xs :=
 ⟨h.1,h.2.imp id fun ⟨g,cap,cur,h1,h2,h3,h4⟩=>⟨g,cap,cur,h1,h2,(hb.block g (by
  rcases Nat.lt_or_ge g w.heap.size with hlt|hge
  ·exact hlt
  ·rw [Array.getElem?_eq_none hge] at h3;cases h3)).trans h3,h4⟩⟩
theorem WrH.below {w wx w':World} {cs:Array Value} {l:List (List UInt8)} {s:Value} (h:WrH w cs l s wx) (hb:Below wx.heap.size wx w'):WrH w cs l s w' :=
 ⟨own_below h.1 hb,h.2.1.below hb h.2.1.lt,h.2.2.1.trans (hb.mono h.2.2.1.size),Nat.le_trans h.2.2.2 hb.size⟩
theorem join_own {w wx:World} {cs:Array Value} {x:List UInt8} {l:List (List UInt8)} {s:Value} (h:WrH w cs (x :: l) s wx) (hl:l.length≤10) (hlen:∀ y ∈ x :: l,y.length≤3000000) :
  Calls Tryz.prog 65 #[s,.string ⟨#[59,32]⟩] wx fun e w'=>e=.returned (.string (mkB (Lib.join (x :: l) [59,32])))∧Below wx.heap.size wx w':=by
 obtain ⟨A,c,rfl⟩:=ownsRow_slice h.1;have hr:=Reads.of_own h.1;obtain ⟨b,off,rfl,hb,hc⟩:=hr.2 (by simp)
 have hcap:(x :: l).length≤c:=by
  rcases h.1.2 with ⟨h',_⟩|⟨g',cap',cur,h',_,_,hnc,_⟩
  ·simp at h'
  ·simp only [Value.slice.injEq,Option.some.injEq,Addr.mk.injEq,and_true,true_and] at h'
   omega
 have e1:((x :: l).map mkB).map (·.data.toList)=x :: l:=by
  rw [List.map_map]
  conv=>rhs;rw [←List.map_id (x :: l)]
  exact List.map_congr_left fun a _=>mkB_data a
 have e2:((x :: l).map mkB).length=(x :: l).length:=by simp
 have hbound:∀ (y:List (List UInt8)),(∀ z ∈ y,z.length≤3000000)→Lib.lens y≤y.length*3000000:=by
  intro y
  induction y with
  | nil=>intro _;simp [Lib.lens]
  | cons a y ih =>
   intro hy;have h1:=ih (fun z hz=>hy z (by simp [hz]));have h2:=hy a (by simp);simp [Lib.lens] at h1 ⊢
   omega
 have hj:=Tryz.strings_Join b off c ((x :: l).map mkB) ⟨#[59,32]⟩ wx (fun j y hy=>by
   rw [hc j (by
    have:=(List.getElem?_eq_some_iff.1 hy).1
    simpa [strs] using this)]
   have h1:(strs (x :: l))=((x :: l).map mkB).map Value.string:=by simp [strs]
   rw [h1,List.getElem?_map,hy]
   rfl) hb (by rw [e2];simp;omega) (by rw [e2];exact hcap) (by
    rw [e1];show (Lib.join (x :: l) [59,32]).length≤_;rw [Lib.join_length];have:=hbound (x :: l) hlen;simp at this ⊢
    omega)
 rw [e2,e1] at hj;exact hj
end bake
namespace bake
open Go Go.RowKit base dec err rowe
open Go.Lib (decDigits)
theorem mk_app (a b:List UInt8):mkB a++mkB b=mkB (a++b):=by
 apply ByteArray.ext
 simp [mkB,ByteArray.data_append]
theorem str_h0 (n v:ByteArray):n++⟨#[61]⟩++v=mkB (h0 n v):=bytes_eq (by simp [mkB_data,h0,ByteArray.data_append])
theorem h0_len (n v:ByteArray):(h0 n v).length=n.size+1+v.size:=by unfold h0;rw [List.length_append,List.length_append];rfl
end bake
end Go.Proofs.YthlahcnglacekaaGreatDoor
