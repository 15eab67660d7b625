/- Part of GateRetires. -/
import Derived.Test.YthlahcnglacekaaGreatDoorB36
import Derived.Test.YthlahcnglacekaaGreatDoorB35
set_option maxRecDepth 100000
set_option maxHeartbeats 16000000
namespace Go.Proofs.YthlahcnglacekaaGreatDoor
namespace bake
open Go Go.RowKit base dec err rowe
open Go.Lib (decDigits)
def WriteR (n v p:ByteArray) (a:Int) (sec http:Bool) (st:Int) (w:World) (e:Ending) (w':World):Prop :=
 (rightB n v p a sec st=true∧e=.returned (.tuple #[.string (mkB (headL n v p a sec http st)),.nilIface])∧Below w.heap.size w w') ∨
 (rightB n v p a sec st=false∧∃ x,e=.returned (.tuple #[.string ⟨#[]⟩,x])∧Err w' x 1∧x≠.nilIface∧Below w.heap.size w w')
theorem lenP (p:ByteArray):(pP p).length≤1:=by unfold pP;split <;> simp
theorem lenA (a:Int):(pA a).length≤1:=by unfold pA;split <;> simp
theorem lenS (b:Bool):(pS b).length≤1:=by cases b <;> simp [pS]
theorem lenH (b:Bool):(pH b).length≤1:=by cases b <;> simp [pH]
theorem lenT (st:Int):(pT st).length≤1:=by unfold pT;split <;> simp
theorem lit_str (k:List UInt8) (p:ByteArray):(⟨k.toArray⟩:ByteArray)++p=mkB (k++p.data.toList):=by
 conv=>{ lhs;rw [←mkB_of p] }
 exact mk_app k _
theorem lit_lit (k l:List UInt8):(⟨k.toArray⟩:ByteArray)++⟨l.toArray⟩=mkB (k++l):=mk_app k l
theorem WrH.push {w wx w5:World} {cs:Array Value} {l:List (List UInt8)} {s v1:Value} {x:List UInt8} {X:ByteArray} (h:WrH w cs l s wx)
  (hown:w5.ownsRow (w.heap.size+1) 9 1 v1 (l.length+1) (strs l++[.string X])) (hb:Below (w.heap.size+1) wx w5) (hX:X=mkB x):WrH w cs (l++[x]) v1 w5 :=
 ⟨by subst hX;rw [strs_app,List.length_append];exact hown,h.2.1.below hb (Nat.lt_succ_self _),h.2.2.1.trans (hb.mono (Nat.le_succ _)),Nat.le_trans h.2.2.2 hb.size⟩
theorem first_own {n v:ByteArray} {w wc:World} {cs:Array Value} (hb:Blk wc w.heap.size 78 cs) (hbw:Below w.heap.size w wc) (hs:wc.heap.size=w.heap.size+1) :
  WrH w cs [h0 n v] (.slice (some ⟨w.heap.size+1,0,none⟩) 1 1) (wc.alloc (.cells #[.string (n++⟨#[61]⟩++v)] 9)):=by
 refine ⟨?_,hb.alloc _,hbw.alloc (by omega) _,by simp;omega⟩;have h:=ownsRow_new0 wc 9 1 #[.string (n++⟨#[61]⟩++v)] (n:=1);rw [hs,str_h0] at h;exact h
theorem head_small {n v p:ByteArray} {a:Int} {sec http:Bool} {st:Int} (hn:n.size≤1000000) (hv:v.size≤1000000) (hp:p.size≤1000000) (ha:a≤1099511627776) :
  ∀ y ∈ h0 n v :: (pP p++(pA a++(pS sec++(pH http++pT st)))),y.length≤3000000:=by
 intro y hy
 rcases List.mem_cons.1 hy with rfl|hy
 ·rw [h0_len];omega
 rcases List.mem_append.1 hy with hy|hy
 ·unfold pP at hy
  split at hy
  ·simp at hy
  ·rw [List.mem_singleton] at hy
   subst hy;rw [List.length_append];have h1:p.data.toList.length=p.size:=rfl;have h2:pathH.length=5:=rfl;omega
 rcases List.mem_append.1 hy with hy|hy
 ·unfold pA at hy
  split at hy
  ·rw [List.mem_singleton] at hy
   subst hy;rw [List.length_append];have h1:=age_len ha;have h2:ageH.length=8:=rfl;omega
  ·simp at hy
 rcases List.mem_append.1 hy with hy|hy
 ·cases sec
  ·simp [pS] at hy
  ·simp only [pS,if_true,List.mem_singleton] at hy
   subst hy;decide
 rcases List.mem_append.1 hy with hy|hy
 ·cases http
  ·simp [pH] at hy
  ·simp only [pH,if_true,List.mem_singleton] at hy
   subst hy;decide
 ·unfold pT at hy
  split at hy
  ·rw [List.mem_singleton] at hy
   subst hy;rw [List.length_append];have h1:=site_len st.toNat;have h2:siteH.length=9:=rfl;omega
  ·simp at hy
theorem write_any (n v p:ByteArray) (a:Int) (sec http:Bool) (st:Int) (w:World) (hn:n.size≤1000000) (hv:v.size≤1000000) (hp:p.size≤1000000) (ht:Tabs w) :
  Calls Tryz.prog 44 #[.agg #[.string n,.string v,.string p,.int .i64 a,.bool sec,.bool http,.int .i64 st]] w (WriteR n v p a sec http st w):=by
 have HTA:=qH ht;clear ht;have HTK:=qH (show ∀ w0:World,Calls Tryz.prog 63 #[.string n] w0 fun e w'=>e=.returned (.bool (tokB n))∧w'=w0 from fun w0=>token_any n w0 hn);have HOC:=qH (show ∀ w0:World,Calls Tryz.prog 64 #[.string v] w0 fun e w'=>e=.returned (.bool (octsB v))∧w'=w0 from fun w0=>octets_any v w0 hv);have HPA:=qH (show ∀ w0:World,Calls Tryz.prog 107 #[.string p] w0 fun e w'=>e=.returned (.bool (pathL p.data.toList))∧∃ k,w'=w0.drewN k from fun w0=>path_any p w0 hp);have hR:rightB n v p a sec st=(tokB n&&(octsB v&&(pathL p.data.toList&&(decide (-1≤a)&&(decide (a≤1099511627776)&&(decide (0≤st)&&(decide (st≤3)&&!(decide (st=3)&&!sec)))))))):=rfl;obtain ⟨R,hRR⟩:∃ R,rightB n v p a sec st=R:=⟨_,rfl⟩;have HRR:=qH hRR;rw [hRR] at hR;clear hRR;obtain ⟨CS,hCS⟩:∃ CS:Array Value,#[.string n,.string v,.string p,.int .i64 a,.bool sec,.bool http,.int .i64 st]=CS:=⟨_,rfl⟩;have HCS:=qH hCS;clear hCS;have HRD:=qH hR;clear hR;go_enter Tryz.func44,Tryz.ntmps44
 go_upto_region 1 with fail
 go_cut [50] (fun s50 wx=>s50=.bool (!R)∧Blk wx w.heap.size 78 CS∧Below w.heap.size w wx∧wx.heap.size=w.heap.size+1)
 case first =>
  have hR:=HRD.out
  have HW:=qH (show Blk (w.alloc (.cells #[.string n,.string v,.string p,.int .i64 a,.bool sec,.bool http,.int .i64 st] 78)) w.heap.size 78 CS∧Below w.heap.size w (w.alloc (.cells #[.string n,.string v,.string p,.int .i64 a,.bool sec,.bool http,.int .i64 st] 78))∧(w.alloc (.cells #[.string n,.string v,.string p,.int .i64 a,.bool sec,.bool http,.int .i64 st] 78)).heap.size=w.heap.size+1 from by
   rw [←HCS.out];exact ⟨Blk.new w _ _,below_new w _,by simp⟩)
  generalize tokB n=bt at *;generalize octsB v=bo at *;generalize pathL p.data.toList=bp at *
  cases bt with
  | false =>
   have HR:=qH (show R=false from hR);clear hR;go_wp2_with fail;refine (HTK.out _).mono ?_;rintro e w1 ⟨rfl,rfl⟩;go_wp2_with fail
   go_meet
   case rel=>exact ⟨by rw [HR.out];first|rfl|(congr 1;simp;omega),HW.out⟩
  | true =>
   cases bo with
   | false =>
    have HR:=qH (show R=false from hR);clear hR;go_wp2_with fail;refine (HTK.out _).mono ?_;rintro e w1 ⟨rfl,rfl⟩;go_wp2_with fail;refine (HOC.out _).mono ?_;rintro e w1 ⟨rfl,rfl⟩;go_wp2_with fail
    go_meet
    case rel=>exact ⟨by rw [HR.out];first|rfl|(congr 1;simp;omega),HW.out⟩
   | true =>
    cases bp with
    | false =>
     have HR:=qH (show R=false from hR);clear hR HW;go_wp2_with fail;refine (HTK.out _).mono ?_;rintro e w1 ⟨rfl,rfl⟩;go_wp2_with fail;refine (HOC.out _).mono ?_;rintro e w1 ⟨rfl,rfl⟩;go_wp2_with fail;refine (HPA.out _).mono ?_;rintro e w1 ⟨rfl,n1,hw1⟩
     have HW:=qH (show Blk w1 w.heap.size 78 CS∧Below w.heap.size w w1∧w1.heap.size=w.heap.size+1 from by
      rw [hw1,←HCS.out];exact ⟨(Blk.new w _ _).drewN n1,below_drewN (below_new w _) n1,by show (w.alloc _).heap.size=_;simp⟩)
     clear hw1;have hb:=HW.out.1;rw [←HCS.out] at hb;have j3:=hb.cell 3;have j4:=hb.cell 4;have j6:=hb.cell 6;simp at j3 j4 j6
     clear hb;go_wp2_with fail
     go_meet
     case rel=>exact ⟨by rw [HR.out];first|rfl|(congr 1;simp;omega),HW.out⟩
    | true =>
     rw [Bool.true_and,Bool.true_and,Bool.true_and] at hR;clear HW
     by_cases h1:a < -1
     ·have HR:=qH (show R=false from by rw [hR,decide_eq_false (show ¬ -1≤a by omega)];simp)
      clear hR;go_wp2_with fail;refine (HTK.out _).mono ?_;rintro e w1 ⟨rfl,rfl⟩;go_wp2_with fail;refine (HOC.out _).mono ?_;rintro e w1 ⟨rfl,rfl⟩;go_wp2_with fail;refine (HPA.out _).mono ?_;rintro e w1 ⟨rfl,n1,hw1⟩
      have HW:=qH (show Blk w1 w.heap.size 78 CS∧Below w.heap.size w w1∧w1.heap.size=w.heap.size+1 from by
       rw [hw1,←HCS.out];exact ⟨(Blk.new w _ _).drewN n1,below_drewN (below_new w _) n1,by show (w.alloc _).heap.size=_;simp⟩)
      clear hw1;have hb:=HW.out.1;rw [←HCS.out] at hb;have j3:=hb.cell 3;have j4:=hb.cell 4;have j6:=hb.cell 6;simp at j3 j4 j6
      clear hb;go_wp2_with fail
      go_meet
      case rel=>exact ⟨by rw [HR.out];first|rfl|(congr 1;simp;omega),HW.out⟩
     rw [decide_eq_true (show -1≤a by omega),Bool.true_and] at hR
     by_cases h2:1099511627776<a
     ·have HR:=qH (show R=false from by rw [hR,decide_eq_false (show ¬ a≤1099511627776 by omega)];simp)
      clear hR;go_wp2_with fail;refine (HTK.out _).mono ?_;rintro e w1 ⟨rfl,rfl⟩;go_wp2_with fail;refine (HOC.out _).mono ?_;rintro e w1 ⟨rfl,rfl⟩;go_wp2_with fail;refine (HPA.out _).mono ?_;rintro e w1 ⟨rfl,n1,hw1⟩
      have HW:=qH (show Blk w1 w.heap.size 78 CS∧Below w.heap.size w w1∧w1.heap.size=w.heap.size+1 from by
       rw [hw1,←HCS.out];exact ⟨(Blk.new w _ _).drewN n1,below_drewN (below_new w _) n1,by show (w.alloc _).heap.size=_;simp⟩)
      clear hw1;have hb:=HW.out.1;rw [←HCS.out] at hb;have j3:=hb.cell 3;have j4:=hb.cell 4;have j6:=hb.cell 6;simp at j3 j4 j6
      clear hb;go_wp2_with fail
      go_meet
      case rel=>exact ⟨by rw [HR.out];first|rfl|(congr 1;simp;omega),HW.out⟩
     rw [decide_eq_true (show a≤1099511627776 by omega),Bool.true_and] at hR
     by_cases h3:st<0
     ·have HR:=qH (show R=false from by rw [hR,decide_eq_false (show ¬ 0≤st by omega)];simp)
      clear hR;go_wp2_with fail;refine (HTK.out _).mono ?_;rintro e w1 ⟨rfl,rfl⟩;go_wp2_with fail;refine (HOC.out _).mono ?_;rintro e w1 ⟨rfl,rfl⟩;go_wp2_with fail;refine (HPA.out _).mono ?_;rintro e w1 ⟨rfl,n1,hw1⟩
      have HW:=qH (show Blk w1 w.heap.size 78 CS∧Below w.heap.size w w1∧w1.heap.size=w.heap.size+1 from by
       rw [hw1,←HCS.out];exact ⟨(Blk.new w _ _).drewN n1,below_drewN (below_new w _) n1,by show (w.alloc _).heap.size=_;simp⟩)
      clear hw1;have hb:=HW.out.1;rw [←HCS.out] at hb;have j3:=hb.cell 3;have j4:=hb.cell 4;have j6:=hb.cell 6;simp at j3 j4 j6
      clear hb;go_wp2_with fail
      go_meet
      case rel=>exact ⟨by rw [HR.out];first|rfl|(congr 1;simp;omega),HW.out⟩
     rw [decide_eq_true (show 0≤st by omega),Bool.true_and] at hR
     by_cases h4:3<st
     ·have HR:=qH (show R=false from by rw [hR,decide_eq_false (show ¬ st≤3 by omega)];simp)
      clear hR;go_wp2_with fail;refine (HTK.out _).mono ?_;rintro e w1 ⟨rfl,rfl⟩;go_wp2_with fail;refine (HOC.out _).mono ?_;rintro e w1 ⟨rfl,rfl⟩;go_wp2_with fail;refine (HPA.out _).mono ?_;rintro e w1 ⟨rfl,n1,hw1⟩
      have HW:=qH (show Blk w1 w.heap.size 78 CS∧Below w.heap.size w w1∧w1.heap.size=w.heap.size+1 from by
       rw [hw1,←HCS.out];exact ⟨(Blk.new w _ _).drewN n1,below_drewN (below_new w _) n1,by show (w.alloc _).heap.size=_;simp⟩)
      clear hw1;have hb:=HW.out.1;rw [←HCS.out] at hb;have j3:=hb.cell 3;have j4:=hb.cell 4;have j6:=hb.cell 6;simp at j3 j4 j6
      clear hb;go_wp2_with fail
      go_meet
      case rel=>exact ⟨by rw [HR.out];first|rfl|(congr 1;simp;omega),HW.out⟩
     rw [decide_eq_true (show st≤3 by omega),Bool.true_and] at hR
     by_cases h5:st=3
     ·subst h5
      cases sec with
      | false =>
       have HR:=qH (show R=false from by rw [hR];simp);clear hR;go_wp2_with fail;refine (HTK.out _).mono ?_;rintro e w1 ⟨rfl,rfl⟩;go_wp2_with fail;refine (HOC.out _).mono ?_;rintro e w1 ⟨rfl,rfl⟩;go_wp2_with fail;refine (HPA.out _).mono ?_;rintro e w1 ⟨rfl,n1,hw1⟩
       have HW:=qH (show Blk w1 w.heap.size 78 CS∧Below w.heap.size w w1∧w1.heap.size=w.heap.size+1 from by
        rw [hw1,←HCS.out];exact ⟨(Blk.new w _ _).drewN n1,below_drewN (below_new w _) n1,by show (w.alloc _).heap.size=_;simp⟩)
       clear hw1;have hb:=HW.out.1;rw [←HCS.out] at hb;have j3:=hb.cell 3;have j4:=hb.cell 4;have j6:=hb.cell 6;simp at j3 j4 j6
       clear hb;go_wp2_with fail
       go_meet
       case rel=>exact ⟨by rw [HR.out];first|rfl|(congr 1;simp;omega),HW.out⟩
      | true =>
       have HR:=qH (show R=true from by rw [hR];simp);clear hR;go_wp2_with fail;refine (HTK.out _).mono ?_;rintro e w1 ⟨rfl,rfl⟩;go_wp2_with fail;refine (HOC.out _).mono ?_;rintro e w1 ⟨rfl,rfl⟩;go_wp2_with fail;refine (HPA.out _).mono ?_;rintro e w1 ⟨rfl,n1,hw1⟩
       have HW:=qH (show Blk w1 w.heap.size 78 CS∧Below w.heap.size w w1∧w1.heap.size=w.heap.size+1 from by
        rw [hw1,←HCS.out];exact ⟨(Blk.new w _ _).drewN n1,below_drewN (below_new w _) n1,by show (w.alloc _).heap.size=_;simp⟩)
       clear hw1;have hb:=HW.out.1;rw [←HCS.out] at hb;have j3:=hb.cell 3;have j4:=hb.cell 4;have j6:=hb.cell 6;simp at j3 j4 j6
       clear hb;go_wp2_with fail
       go_meet
       case rel=>exact ⟨by rw [HR.out];first|rfl|(congr 1;simp;omega),HW.out⟩
     ·have e5:(st==3)=false:=beq_eq_false_iff_ne.2 h5
      have HR:=qH (show R=true from by rw [hR];simp [h5]);clear hR h5;go_wp2_with fail;refine (HTK.out _).mono ?_;rintro e w1 ⟨rfl,rfl⟩;go_wp2_with fail;refine (HOC.out _).mono ?_;rintro e w1 ⟨rfl,rfl⟩;go_wp2_with fail;refine (HPA.out _).mono ?_;rintro e w1 ⟨rfl,n1,hw1⟩
      have HW:=qH (show Blk w1 w.heap.size 78 CS∧Below w.heap.size w w1∧w1.heap.size=w.heap.size+1 from by
       rw [hw1,←HCS.out];exact ⟨(Blk.new w _ _).drewN n1,below_drewN (below_new w _) n1,by show (w.alloc _).heap.size=_;simp⟩)
      clear hw1;have hb:=HW.out.1;rw [←HCS.out] at hb;have j3:=hb.cell 3;have j4:=hb.cell 4;have j6:=hb.cell 6;simp at j3 j4 j6
      clear hb;go_wp2_with fail
      go_meet
      case rel=>exact ⟨by rw [HR.out];first|rfl|(congr 1;simp;omega),HW.out⟩
 case rest =>
  obtain ⟨rfl,hb,hbw,hsw⟩:=hcut
  cases R with
  | false =>
   have HBW:=qH hbw;clear hb hbw;go_wp2_with fail;refine (bad_any 1 _).mono ?_;rintro e w2 ⟨x,rfl,hE,hnn,hb2,_⟩;have HE:=qH hE;have HB2:=qH (HBW.out.trans (hb2.mono (by omega)));clear hE hb2;go_wp2_with fail;go_ret2
   exact .inr ⟨HRR.out,x,rfl,HE.out,hnn,HB2.out⟩
  | true =>
   have hbnd:a≤1099511627776∧0≤st∧st≤3:=by have:=HRD.out;simp at this;omega
   have HAL:=qH (age_len hbnd.1);obtain ⟨hba,hs0,hs3⟩:=hbnd;clear HRD HTK HOC HPA;obtain ⟨i0,hi,hz⟩:=Option.map_eq_some_iff.1 str_info;simp only [Prod.mk.injEq] at hz;obtain ⟨hz0,hz1,hz2⟩:=hz;rw [←HCS.out] at hb;have j0:=hb.cell 0;have j1:=hb.cell 1;have j2:=hb.cell 2;have j3:=hb.cell 3;have j4:=hb.cell 4;have j5:=hb.cell 5;have j6:=hb.cell 6;simp at j0 j1 j2 j3 j4 j5 j6
   rw [HCS.out] at hb;have HB:=qH hb;have HBW:=qH hbw;clear hb hbw
   go_upto_region 3 with fail
   go_cut [4] (fun s4 wx=>WrH w CS [h0 n v] s4 wx)
   case first =>
    go_wp2_with fail
    go_meet
    case rel=>exact first_own HB.out HBW.out hsw
   case rest =>
    clear j0 j1 j2 j3 j4 j5 j6;have hb:=hcut.2.1;have HO:=qH hcut;clear hcut;rw [←HCS.out] at hb;have j0:=hb.cell 0;have j1:=hb.cell 1;have j2:=hb.cell 2;have j3:=hb.cell 3;have j4:=hb.cell 4;have j5:=hb.cell 5;have j6:=hb.cell 6;simp at j0 j1 j2 j3 j4 j5 j6
    rw [HCS.out] at hb;clear hb;obtain ⟨l1,hl1⟩:∃ l1,[h0 n v]=l1:=⟨_,rfl⟩;have hll:l1.length≤1:=by rw [←hl1];simp
    have hll1:=hll;have HL1:=qH hl1;rw [hl1] at HO;clear hl1
    go_upto_if 61 with fail
    go_cut [4] (fun s4 wx=>WrH w CS (l1++pP p) s4 wx)
    case first =>
     have hse:=str_ne p;generalize (!p.toList.isEmpty)=bb at *
     cases bb with
     | false =>
      have HX:=qH (show pP p=[] from if_pos (by have:=hse.symm;simp at this;simpa using this));clear hse;go_wp2_with fail
      go_meet
      case rel=>rw [HX.out,List.append_nil];exact HO.out
     | true =>
      have HX:=qH (show pP p=[pathH++p.data.toList] from if_neg (by have:=hse.symm;simp at this;omega));clear hse
      go_wp2_with (at_builtin;refine wpList_append_newAt rfl (.tmp 62) (.tmp 66) _ rfl (w.heap.size+1) 9 i0 _ 1 16 Tryz.underlying75 hi hz0 hz1 hz2 rfl (by decide) _ _ _ rfl HO.out.1 1 1 wc.heap.size (by simp) [_] rfl rfl (by simp [Value.oneCell']) (by unfold maxLen;omega) (by omega) HO.out.2.2.2 ?_;intro v1 w5 hown1 hbw1 hgr1 hwh1;have HO1:=qH (HO.out.push hown1 hbw1 (lit_str pathH p));clear hown1 hbw1 hgr1 hwh1)
      go_meet
      case rel=>rw [HX.out];exact HO1.out
    case rest =>
     clear j0 j1 j2 j3 j4 j5 j6;clear HO hll;have hb:=hcut.2.1;have HO:=qH hcut;clear hcut;rw [←HCS.out] at hb;have j0:=hb.cell 0;have j1:=hb.cell 1;have j2:=hb.cell 2;have j3:=hb.cell 3;have j4:=hb.cell 4;have j5:=hb.cell 5;have j6:=hb.cell 6;simp at j0 j1 j2 j3 j4 j5 j6
     rw [HCS.out] at hb;clear hb;obtain ⟨l2,hl2⟩:∃ l2,l1++pP p=l2:=⟨_,rfl⟩;have hll:l2.length≤2:=by rw [←hl2];have:=lenP p;simp;omega
     clear hll1;have hll2:=hll;have HL2:=qH hl2;rw [hl2] at HO;clear hl2
     go_upto_if 70 with fail
     go_cut [4] (fun s4 wx=>WrH w CS (l2++pA a) s4 wx)
     case first =>
      by_cases g:0≤a
      ·have d1:decide ((0:Int)≤a)=true:=decide_eq_true g
       have HX:=qH (show pA a=[ageH++decDigits a.toNat] from if_pos g);obtain ⟨m,rfl⟩:∃ m:Nat,a=m:=⟨a.toNat,by omega⟩;clear g;go_wp2_with fail;refine (Tryz.strconv_Itoa (m:Int) (by omega) (by omega) _ (HTA.out.below HO.out.2.2.1).t).mono ?_;rintro e w6 ⟨rfl,k6,os6,hw6⟩;have HO6:=qH (HO.out.below (show Below wc.heap.size wc w6 from by rw [hw6];exact below_grow wc k6 os6));clear hw6 HO;have HO:=HO6;rw [itoa_nat];obtain ⟨D,hD⟩:∃ D,(⟨(decDigits m).toArray⟩:ByteArray)=D:=⟨_,rfl⟩;have hds:D.size≤19:=by rw [←hD];exact HAL.out
       have HDD:=qH (show ⟨#[77,97,120,45,65,103,101,61]⟩++D=mkB (ageH++decDigits m) from by rw [←hD];exact lit_lit ageH (decDigits m));rw [hD];clear hD
       go_wp2_with (at_builtin;refine wpList_append_newAt rfl (.tmp 71) (.tmp 76) _ rfl (w.heap.size+1) 9 i0 _ 1 16 Tryz.underlying75 hi hz0 hz1 hz2 rfl (by decide) _ _ _ rfl HO.out.1 1 1 w6.heap.size (by simp) [_] rfl rfl (by simp [Value.oneCell']) (by unfold maxLen;omega) (by omega) HO.out.2.2.2 ?_;intro v1 w5 hown1 hbw1 hgr1 hwh1;have HO1:=qH (HO.out.push hown1 hbw1 HDD.out);clear hown1 hbw1 hgr1 hwh1)
       go_meet
       case rel=>rw [HX.out];exact HO1.out
      ·have hneg:a<0:=by omega
       have HX:=qH (show pA a=[] from if_neg g);clear g;go_wp2_with fail
       go_meet
       case rel=>rw [HX.out,List.append_nil];exact HO.out
     case rest =>
      clear j0 j1 j2 j3 j4 j5 j6;clear HO hll;have hb:=hcut.2.1;have HO:=qH hcut;clear hcut;rw [←HCS.out] at hb;have j0:=hb.cell 0;have j1:=hb.cell 1;have j2:=hb.cell 2;have j3:=hb.cell 3;have j4:=hb.cell 4;have j5:=hb.cell 5;have j6:=hb.cell 6;simp at j0 j1 j2 j3 j4 j5 j6
      rw [HCS.out] at hb;clear hb;obtain ⟨l3,hl3⟩:∃ l3,l2++pA a=l3:=⟨_,rfl⟩;have hll:l3.length≤3:=by rw [←hl3];have:=lenA a;simp;omega
      clear hll2;have hll3:=hll;have HL3:=qH hl3;rw [hl3] at HO;clear hl3
      go_upto_if 79 with fail
      go_cut [4] (fun s4 wx=>WrH w CS (l3++pS sec) s4 wx)
      case first =>
       cases sec
       ·have HX:=qH (show pS false=[] from rfl)
        go_wp2_with fail
        go_meet
        case rel=>rw [HX.out,List.append_nil];exact HO.out
       ·have HX:=qH (show pS true=[secH] from rfl)
        go_wp2_with (at_builtin;refine wpList_append_newAt rfl (.tmp 80) (.tmp 81) _ rfl (w.heap.size+1) 9 i0 _ 1 16 Tryz.underlying75 hi hz0 hz1 hz2 rfl (by decide) _ _ _ rfl HO.out.1 1 1 wc.heap.size (by simp) [_] rfl rfl (by simp [Value.oneCell']) (by unfold maxLen;omega) (by omega) HO.out.2.2.2 ?_;intro v1 w5 hown1 hbw1 hgr1 hwh1;have HO1:=qH (HO.out.push hown1 hbw1 (show _=mkB secH from rfl));clear hown1 hbw1 hgr1 hwh1)
        go_meet
        case rel=>rw [HX.out];exact HO1.out
      case rest =>
       clear j0 j1 j2 j3 j4 j5 j6;clear HO hll;have hb:=hcut.2.1;have HO:=qH hcut;clear hcut;rw [←HCS.out] at hb;have j0:=hb.cell 0;have j1:=hb.cell 1;have j2:=hb.cell 2;have j3:=hb.cell 3;have j4:=hb.cell 4;have j5:=hb.cell 5;have j6:=hb.cell 6;simp at j0 j1 j2 j3 j4 j5 j6
       rw [HCS.out] at hb;clear hb;obtain ⟨l4,hl4⟩:∃ l4,l3++pS sec=l4:=⟨_,rfl⟩;have hll:l4.length≤4:=by rw [←hl4];have:=lenS sec;simp;omega
       clear hll3;have hll4:=hll;have HL4:=qH hl4;rw [hl4] at HO;clear hl4
       go_upto_if 84 with fail
       go_cut [4] (fun s4 wx=>WrH w CS (l4++pH http) s4 wx)
       case first =>
        cases http
        ·have HX:=qH (show pH false=[] from rfl)
         go_wp2_with fail
         go_meet
         case rel=>rw [HX.out,List.append_nil];exact HO.out
        ·have HX:=qH (show pH true=[httpH] from rfl)
         go_wp2_with (at_builtin;refine wpList_append_newAt rfl (.tmp 85) (.tmp 86) _ rfl (w.heap.size+1) 9 i0 _ 1 16 Tryz.underlying75 hi hz0 hz1 hz2 rfl (by decide) _ _ _ rfl HO.out.1 1 1 wc.heap.size (by simp) [_] rfl rfl (by simp [Value.oneCell']) (by unfold maxLen;omega) (by omega) HO.out.2.2.2 ?_;intro v1 w5 hown1 hbw1 hgr1 hwh1;have HO1:=qH (HO.out.push hown1 hbw1 (show _=mkB httpH from rfl));clear hown1 hbw1 hgr1 hwh1)
         go_meet
         case rel=>rw [HX.out];exact HO1.out
       case rest =>
        clear j0 j1 j2 j3 j4 j5 j6;clear HO hll;have hb:=hcut.2.1;have HO:=qH hcut;clear hcut;rw [←HCS.out] at hb;have j0:=hb.cell 0;have j1:=hb.cell 1;have j2:=hb.cell 2;have j3:=hb.cell 3;have j4:=hb.cell 4;have j5:=hb.cell 5;have j6:=hb.cell 6;simp at j0 j1 j2 j3 j4 j5 j6
        rw [HCS.out] at hb;clear hb;obtain ⟨l5,hl5⟩:∃ l5,l4++pH http=l5:=⟨_,rfl⟩;have hll:l5.length≤5:=by rw [←hl5];have:=lenH http;simp;omega
        clear hll4;have hll5:=hll;have HL5:=qH hl5;rw [hl5] at HO;clear hl5
        go_upto_if 90 with fail
        go_cut [4] (fun s4 wx=>WrH w CS (l5++pT st) s4 wx)
        case first =>
         by_cases g:0<st
         ·have d1:decide ((0:Int)<st)=true:=decide_eq_true g
          have HX:=qH (show pT st=[siteH++siteL st.toNat] from if_pos g);obtain ⟨m,rfl⟩:∃ m:Nat,st=m:=⟨st.toNat,by omega⟩;have hmp:0<m:=by omega
          clear g;go_wp2_with fail;refine (site_any m _ (by omega)).mono ?_;rintro e w6 ⟨rfl,hb6⟩;have HO6:=qH (HO.out.below hb6);clear hb6 HO;have HO:=HO6;have hds:(mkB (siteL m)).size≤1000000:=by rw [mkB_size];exact site_len m
          go_wp2_with (at_builtin;refine wpList_append_newAt rfl (.tmp 91) (.tmp 96) _ rfl (w.heap.size+1) 9 i0 _ 1 16 Tryz.underlying75 hi hz0 hz1 hz2 rfl (by decide) _ _ _ rfl HO.out.1 1 1 w6.heap.size (by simp) [_] rfl rfl (by simp [Value.oneCell']) (by unfold maxLen;omega) (by omega) HO.out.2.2.2 ?_;intro v1 w5 hown1 hbw1 hgr1 hwh1;have HO1:=qH (HO.out.push hown1 hbw1 (lit_lit siteH (siteL m)));clear hown1 hbw1 hgr1 hwh1)
          go_meet
          case rel=>rw [HX.out];exact HO1.out
         ·have hneg:st≤0:=by omega
          have HX:=qH (show pT st=[] from if_neg g);clear g;go_wp2_with fail
          go_meet
          case rel=>rw [HX.out,List.append_nil];exact HO.out
        case rest =>
         clear j0 j1 j2 j3 j4 j5 j6 HO hll
         have HO:=qH (show WrH w CS (h0 n v :: (pP p++(pA a++(pS sec++(pH http++pT st))))) _ wc from by
          have h:=hcut;rw [←HL5.out,←HL4.out,←HL3.out,←HL2.out,←HL1.out] at h
          simpa only [List.append_assoc,List.singleton_append,List.cons_append,List.nil_append] using h)
         clear hcut;go_wp2_with fail;refine (join_own HO.out (by have h1:=lenP p;have h2:=lenA a;have h3:=lenS sec;have h4:=lenH http;have h5:=lenT st;simp;omega) (head_small hn hv hp hba)).mono ?_;rintro e w9 ⟨rfl,hb9⟩;rw [head_join];have HB9:=qH (HO.out.2.2.1.trans (hb9.mono HO.out.2.2.1.size));clear hb9;go_wp2_with fail;go_ret2
         exact .inl ⟨HRR.out,rfl,HB9.out⟩
end bake
namespace bake
open Go Go.RowKit base dec
open Go.Lib (decDigits)
theorem parts_none {c:UInt8} {x:List UInt8} (h:∀ y ∈ x,y≠c):parts c x=[x]:=by
 rw [parts_eq,until_miss x h,if_neg (by simp)]
theorem parts_hit {c:UInt8} {x:List UInt8} (b:List UInt8) (h:∀ y ∈ x,y≠c):parts c (x++c :: b)=x :: parts c b:=by
 rw [parts_eq,until_hit x b h,if_pos rfl]
theorem tail_cons (y:List UInt8) (l:List (List UInt8)):tailL (y :: l)=59 :: ((32 :: y)++tailL l):=by simp [tailL,Lib.joinTail]
theorem parts_tail:∀ (l:List (List UInt8)) (x:List UInt8),(∀ y ∈ x,y≠59)→(∀ z ∈ l,∀ y ∈ z,y≠59)→parts 59 (x++tailL l)=x :: l.map (32 :: ·)
 | [],x,hx,_=>by rw [show tailL []=[] from rfl,List.append_nil,parts_none hx];rfl
 | z :: l,x,hx,hl=>by
  rw [tail_cons,parts_hit _ hx,parts_tail l (32 :: z) (by
   intro y hy
   rcases List.mem_cons.1 hy with rfl|hy
   ·decide
   ·exact hl z (by simp) y hy) (fun w hw=>hl w (by simp [hw]))]
  rfl
theorem trim_free {l:List UInt8} (h:∀ c ∈ l,bl c=false):trimB l=l:=by
 rw [drop_none']
 cases l with
 | nil=>exact .inl rfl
 | cons a r=>exact .inr ⟨by simp,h _ (List.getElem_mem _),h _ (List.getElem_mem _)⟩
theorem val_min':∀ (k:Nat) (l:List UInt8),l.length=k→valL l=min (val l) 1099511627776
 | 0,l,h=>by rw [List.eq_nil_of_length_eq_zero h];rfl
 | k+1,l,h=>by
  rcases List.eq_nil_or_concat l with rfl|⟨t,c,rfl⟩
  ·rfl
  ·rw [List.concat_eq_append] at h ⊢
   have ih:=val_min' k t (by simp at h;exact h);rw [val_snoc];unfold valL at ih ⊢;rw [List.foldl_append];simp only [List.foldl_cons,List.foldl_nil];rw [ih];omega
theorem val_min (l:List UInt8):valL l=min (val l) 1099511627776:=val_min' _ l rfl
theorem dig_digC {c:UInt8} (h:digit c=true):digC c=true:=h
theorem age_dec {n:Nat} (h:n≤1099511627776):ageL (decDigits n)=some n:=by
 have hd:=dec_dig n;have hne:=dec_ne n
 have hp:[45].isPrefixOf (decDigits n)=false:=by
  cases hl:decDigits n with
  | nil=>rfl
  | cons a r =>
   rw [pre_one];have:=hd a (by rw [hl];simp);unfold digit at this;simp at this
   rw [beq_eq_false_iff_ne];rintro rfl;have h45:(45:UInt8).toNat=45:=rfl;omega
 unfold ageL;rw [hp,if_neg (by simp)];unfold numL
 rw [if_pos (by
  rw [Bool.and_eq_true,List.all_eq_true];exact ⟨fun c hc=>dig_digC (hd c hc),by simpa using hne⟩),if_neg (by simp),val_min,dec_val,Nat.min_eq_left h]
theorem digit_bl {c:UInt8} (h:digit c=true):bl c=false:=by
 unfold digit at h;unfold bl blN;simp at h ⊢
 omega
theorem digit_59 {c:UInt8} (h:digit c=true):c≠59:=by
 rintro rfl;exact absurd h (by decide)
theorem tok_free:∀ n:Fin 256,tokN n.val=true→n.val≠61∧n.val≠59∧blN n.val=false:=by decide +kernel
theorem oct_free:∀ n:Fin 256,octN n.val=true→n.val≠59∧blN n.val=false:=by decide +kernel
theorem tok_bytes {s:ByteArray} (h:tokB s=true):s.data.toList≠[]∧∀ c ∈ s.data.toList,c≠61∧c≠59∧bl c=false:=by
 unfold tokB at h;rw [Bool.and_eq_true,List.all_eq_true,decide_eq_true_eq] at h;refine ⟨fun e=>by have h2:s.data.toList.length=s.size:=rfl;rw [e] at h2;simp at h2;omega,fun c hc=>?_⟩;have:=tok_free ⟨c.toNat,c.toNat_lt⟩ (h.2 c hc);exact ⟨fun e=>this.1 (by rw [e];rfl),fun e=>this.2.1 (by rw [e];rfl),this.2.2⟩
theorem oct_bytes {s:ByteArray} (h:octsB s=true):∀ c ∈ s.data.toList,c≠59∧bl c=false:=by
 unfold octsB at h;rw [List.all_eq_true] at h;intro c hc;have:=oct_free ⟨c.toNat,c.toNat_lt⟩ (h c hc);exact ⟨fun e=>this.1 (by rw [e];rfl),this.2⟩
theorem path_bytes {l:List UInt8} (h:pathL l=true):(∀ c ∈ l,c≠59)∧trimB l=l∧(l=[]∨[47].isPrefixOf l=true):=by
 have hg:=(path_good l).1 h
 have hall:∀ c ∈ l,pathC c=true:=by
  intro c hc;obtain ⟨i,hi,rfl⟩:=List.getElem_of_mem hc;have:=hg i hi;unfold goodC at this;simp at this
  exact this.2.1
 refine ⟨fun c hc e=>?_,?_,?_⟩
 ·have:=hall c hc
  subst e;exact absurd this (by decide)
 ·rw [drop_none']
  cases l with
  | nil=>exact .inl rfl
  | cons a r =>
   refine .inr ⟨by simp,?_,?_⟩
   ·have h1:=hg 0 (by simp)
    unfold goodC at h1;simp at h1
    rw [blN_path (hall _ (List.getElem_mem _))];simp [h1.1]
   ·have h1:=hg ((a :: r).length-1) (by simp)
    rw [blN_path (hall _ (List.getElem_mem _))]
    by_cases hr:r=[]
    ·subst hr
     unfold goodC at h1;simp at h1
     simp [h1.1]
    ·unfold goodC at h1
     simp at h1
     simpa using h1.2.2
 ·cases l with
  | nil=>exact .inl rfl
  | cons a r =>
   right
   have h1:=hg 0 (by simp);unfold goodC at h1;simp at h1
   rw [pre_one,h1.1];rfl
theorem key_hit {a v:List UInt8} (h:∀ x ∈ a,x≠61) (c:Ck):step c (a++61 :: v)=attr (lowL (trimB a)) (trimB v) c:=by
 unfold step;rw [until_hit a v h]
theorem key_miss {a:List UInt8} (h:∀ x ∈ a,x≠61) (c:Ck):step c a=attr (lowL (trimB a)) [] c:=by
 unfold step;rw [until_miss a h];rfl
theorem step_path {p:List UInt8} (h:trimB p=p) (hp:[47].isPrefixOf p=true) (c:Ck):step c (32 :: (pathH++p))={ c with path:=mkB p }:=by
 rw [show (32:UInt8) :: (pathH++p)=[32,80,97,116,104]++61 :: p from rfl,key_hit (by decide),h,show lowL (trimB [32,80,97,116,104])=pathK from by decide];unfold attr;rw [if_pos rfl,if_pos hp]
theorem step_age {n:Nat} (h:n≤1099511627776) (c:Ck):step c (32 :: (ageH++decDigits n))={ c with age:=(n:Int) }:=by
 rw [show (32:UInt8) :: (ageH++decDigits n)=[32,77,97,120,45,65,103,101]++61 :: decDigits n from rfl,key_hit (by decide),trim_free (fun c hc=>digit_bl (dec_dig n c hc)),show lowL (trimB [32,77,97,120,45,65,103,101])=ageK from by decide];unfold attr;rw [if_neg (by decide),if_pos rfl,age_dec h]
theorem step_sec (c:Ck):step c (32 :: secH)={ c with sec:=true }:=by
 rw [key_miss (by decide),show lowL (trimB (32 :: secH))=secK from by decide];rfl
theorem step_http (c:Ck):step c (32 :: httpH)={ c with http:=true }:=by
 rw [key_miss (by decide),show lowL (trimB (32 :: httpH))=httpK from by decide];rfl
theorem step_site {n:Nat} (h:n=1∨n=2∨n=3) (c:Ck):step c (32 :: (siteH++siteL n))={ c with site:=n }:=by
 rw [show (32:UInt8) :: (siteH++siteL n)=[32,83,97,109,101,83,105,116,101]++61 :: siteL n from rfl,key_hit (by decide),show lowL (trimB [32,83,97,109,101,83,105,116,101])=siteK from by decide]
 rcases h with rfl|rfl|rfl <;> rfl
theorem fold_app (c:Ck) (a b:List (List UInt8)):((a++b).map (32 :: ·)).foldl step c=(b.map (32 :: ·)).foldl step ((a.map (32 :: ·)).foldl step c):=by
 rw [List.map_append,List.foldl_append]
theorem pathH_59:∀ c ∈ pathH,c≠59:=by decide
theorem ageH_59:∀ c ∈ ageH,c≠59:=by decide
theorem siteH_59:∀ c ∈ siteH,c≠59:=by decide
theorem parseL_cons (p:List UInt8) (r:List (List UInt8)):parseL (p :: r)=(first p).map fun c=>r.foldl step c:=rfl
theorem site_59 (n:Nat):∀ c ∈ siteL n,c≠59:=by
 intro c hc;unfold siteL at hc
 split at hc <;> simp at hc <;> (rintro rfl;simp at hc)
theorem back {n v p:ByteArray} {a:Int} {sec http:Bool} {st:Int} (h:rightB n v p a sec st=true) :
  parse (mkB (headL n v p a sec http st))=some ⟨n,v,p,a,sec,http,st.toNat⟩:=by
 unfold rightB at h;simp only [Bool.and_eq_true,decide_eq_true_eq] at h;obtain ⟨ht,ho,hp,ha1,ha2,hs0,hs3,_⟩:=h;obtain ⟨hne,htb⟩:=tok_bytes ht;have hob:=oct_bytes ho;obtain ⟨hp59,hpt,hpp⟩:=path_bytes hp;have hd59:∀ m,∀ c ∈ decDigits m,c≠59:=fun m c hc=>digit_59 (dec_dig m c hc);unfold parse;rw [mkB_data];unfold headL;rw [parts_tail]
 ·have hf:first (h0 n v)=some ⟨n,v,⟨#[]⟩,-1,false,false,0⟩:=by
   unfold first h0;rw [List.append_assoc,List.singleton_append,until_hit _ _ (fun x hx=>(htb x hx).1)];dsimp only
   rw [trim_free (fun c hc=>(htb c hc).2.2),trim_free (fun c hc=>(hob c hc).2),mkB_of,mkB_of,if_pos (by
    cases hl:n.data.toList with
    | nil=>exact absurd hl hne
    | cons a r=>rfl)]
  rw [parseL_cons,hf,Option.map_some]
  congr 1
  rw [fold_app,fold_app,fold_app,fold_app]
  have e1:((pP p).map (32 :: ·)).foldl step ⟨n,v,⟨#[]⟩,-1,false,false,0⟩=⟨n,v,p,-1,false,false,0⟩:=by
   unfold pP
   split
   ·rename_i h0
    have:p=⟨#[]⟩:=bytes_eq (List.eq_nil_of_length_eq_zero h0);rw [this];rfl
   ·rename_i h0
    have hpp2:[47].isPrefixOf p.data.toList=true:=by
     rcases hpp with hpp|hpp
     ·exact absurd (congrArg List.length hpp) h0
     ·exact hpp
    rw [List.map_cons,List.map_nil,List.foldl_cons,List.foldl_nil,step_path hpt hpp2,mkB_of]
  have e2:((pA a).map (32 :: ·)).foldl step ⟨n,v,p,-1,false,false,0⟩=⟨n,v,p,a,false,false,0⟩:=by
   unfold pA
   split
   ·rw [List.map_cons,List.map_nil,List.foldl_cons,List.foldl_nil,step_age (by omega)]
    congr 1
    omega
   ·have:a=-1:=by omega
    rw [this];rfl
  have e3:((pS sec).map (32 :: ·)).foldl step ⟨n,v,p,a,false,false,0⟩=⟨n,v,p,a,sec,false,0⟩:=by
   cases sec
   ·rfl
   ·show step _ (32 :: secH)=_
    rw [step_sec]
  have e4:((pH http).map (32 :: ·)).foldl step ⟨n,v,p,a,sec,false,0⟩=⟨n,v,p,a,sec,http,0⟩:=by
   cases http
   ·rfl
   ·show step _ (32 :: httpH)=_
    rw [step_http]
  have e5:((pT st).map (32 :: ·)).foldl step ⟨n,v,p,a,sec,http,0⟩=⟨n,v,p,a,sec,http,st.toNat⟩:=by
   unfold pT
   split
   ·rw [List.map_cons,List.map_nil,List.foldl_cons,List.foldl_nil,step_site (by omega)]
   ·have:st=0:=by omega
    rw [this];rfl
  rw [e1,e2,e3,e4,e5]
 ·intro y hy
  unfold h0 at hy
  rcases List.mem_append.1 hy with hy|hy
  ·rcases List.mem_append.1 hy with hy|hy
   ·exact (htb y hy).2.1
   ·rw [List.mem_singleton] at hy;subst hy;decide
  ·exact (hob y hy).1
 ·intro z hz
  rcases List.mem_append.1 hz with hz|hz
  ·unfold pP at hz
   split at hz
   ·simp at hz
   ·rw [List.mem_singleton] at hz
    subst hz;intro y hy
    rcases List.mem_append.1 hy with hy|hy
    ·exact pathH_59 y hy
    ·exact hp59 y hy
  rcases List.mem_append.1 hz with hz|hz
  ·unfold pA at hz
   split at hz
   ·rw [List.mem_singleton] at hz
    subst hz;intro y hy
    rcases List.mem_append.1 hy with hy|hy
    ·exact ageH_59 y hy
    ·exact hd59 _ y hy
   ·simp at hz
  rcases List.mem_append.1 hz with hz|hz
  ·cases sec
   ·simp [pS] at hz
   ·simp only [pS,if_true,List.mem_singleton] at hz
    subst hz;decide
  rcases List.mem_append.1 hz with hz|hz
  ·cases http
   ·simp [pH] at hz
   ·simp only [pH,if_true,List.mem_singleton] at hz
    subst hz;decide
  ·unfold pT at hz
   split at hz
   ·rw [List.mem_singleton] at hz
    subst hz;intro y hy
    rcases List.mem_append.1 hy with hy|hy
    ·exact siteH_59 y hy
    ·exact site_59 _ y hy
   ·simp at hz
end bake
namespace gatew
open Go Go.RowKit base wireb claimp encp macp tokw bake
def nameB:ByteArray:=⟨#[115,111,106,111,117,114,110]⟩
theorem oct_lett {c:UInt8} {l:List UInt8} (h:c ∈ enc l):octN c.toNat=true:=by
 obtain ⟨n,rfl⟩:=enc_mem h;obtain ⟨_,_,h1,h2,h3,h4,h5,h6,_⟩:=lett_ok n;unfold octN;simp only [Bool.and_eq_true,decide_eq_true_eq,Bool.not_eq_true',decide_eq_false_iff_not];exact ⟨h1,h2,h3,h4,h5,h6⟩
theorem tok_oct (m:List UInt8) (x:PC):octsB (str (tokL m x))=true:=by
 unfold octsB;rw [str_list,List.all_eq_true];intro c hc;unfold tokL at hc
 rcases List.mem_append.1 hc with h|h
 ·exact oct_lett h
 ·rcases List.mem_cons.1 h with rfl|h
  ·decide
  ·exact oct_lett h
theorem tok_len {m:List UInt8} {x:PC} (h:x.Ok):(str (tokL m x)).size≤600:=by
 have h1:=bytes_len h;rw [str_size];unfold tokL;rw [List.length_append,List.length_cons,enc_len,enc_len,tag_len];omega
theorem right_give (m:List UInt8) (x:PC):rightB nameB (str (tokL m x)) ⟨#[47]⟩ (-1) true 2=true:=by
 unfold rightB;rw [tok_oct]
 decide +kernel
def giveL (m:List UInt8) (x:PC):List UInt8:=headL nameB (str (tokL m x)) ⟨#[47]⟩ (-1) true true 2
end gatew
namespace cookw
open Go Go.RowKit Go.Lib base rowe bake
theorem shown_ok (n v p:ByteArray) (a:Int) (sec http:Bool) (st:Int) (w:World) (h:rightB n v p a sec st=true) (hn:n.size≤1000) (hv:v.size≤10000) (hsz:(mkB (headL n v p a sec http st)).size≤1000000) (hm:∃ m,w.cell? ⟨1,0,none⟩=some (.int .i64 m)) :
  Calls Tryz.prog 11 #[.string (mkB (headL n v p a sec http st))] w fun e w'=>e=.returned (.string ⟨(n.data.toList++61 :: v.data.toList).toArray⟩)∧Below w.heap.size w w':=by
 have hb:=back (http:=http) h;have hP:=parse_any (mkB (headL n v p a sec http st)) w hsz hm;rw [hb] at hP;have htk:tokB n=true:=by unfold rightB at h;rw [Bool.and_eq_true] at h;exact h.1
 have hoc:octsB v=true:=by unfold rightB at h;rw [Bool.and_eq_true,Bool.and_eq_true] at h;exact h.2.1
 have HP:=qH hP;obtain ⟨H,hH⟩:∃ H,mkB (headL n v p a sec http st)=H:=⟨_,rfl⟩;rw [hH] at HP ⊢;clear hP hb h hH hsz hm;generalize st.toNat=sn at HP;unfold ParseR Ck.val Ck.cells at HP;dsimp only at HP;go_enter Tryz.func11,Tryz.ntmps11;go_wp2_with fail;refine HP.out.mono ?_;rintro e w1 ⟨rfl,hb1⟩;have HB1:=qH hb1;have hs1:=hb1.size;clear hb1 HP;go_wp2_with fail;obtain ⟨W2,hW2⟩:∃ W2,(w1.alloc (.cells #[.string n,.string v,.string p,.int .i64 a,.bool sec,.bool http,.int .i64 sn] 78)).alloc (.cells #[.string n,.string v] 84)=W2:=⟨_,rfl⟩;have hg:w1.heap.size+1<W2.heap.size:=by rw [←hW2];simp
 have k0:W2.cell? ⟨w1.heap.size+1,0,none⟩=some (.string n):=by rw [←hW2];exact (Blk.newAt (g:=w1.heap.size+1) _ 84 #[.string n,.string v] (by simp)).cell 0
 have k1:W2.cell? ⟨w1.heap.size+1,1,none⟩=some (.string v):=by rw [←hW2];exact (Blk.newAt (g:=w1.heap.size+1) _ 84 #[.string n,.string v] (by simp)).cell 1
 have hb2:Below w.heap.size w W2:=by rw [←hW2];exact (HB1.out.alloc hs1 _).alloc (by simp;omega) _
 rw [hW2];have HB2:=qH hb2;have hs2:=hb2.size;refine (write_one n v (w1.heap.size+1) 1 W2 hg k0 k1 htk hoc (by omega) (by omega)).mono ?_;rintro e w3 ⟨rfl,hb3⟩;have HB3:=qH (HB2.out.trans (hb3.mono hs2));clear hb2 hb3 HB1 HB2 k0 k1 hW2;go_wp2_with fail;go_ret
 exact ⟨rfl,HB3.out⟩
end cookw
end Go.Proofs.YthlahcnglacekaaGreatDoor
