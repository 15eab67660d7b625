/- Part of GateRetires. -/
import Derived.Test.YthlahcnglacekaaGreatDoorB48
import Derived.BigFrame
set_option maxRecDepth 100000
set_option maxHeartbeats 16000000
namespace Go.Proofs.YthlahcnglacekaaGreatDoor
namespace wGateRetires
open Go Go.RowKit Go.Lib base rowe err wireb claimp tokw regn fold gatew
theorem rem8 (n:Nat):Int.tmod (n:Int) 8=((n % 8:Nat):Int):=by rw [Int.tmod_eq_emod_of_nonneg (by omega)];omega
theorem wrap_n (n:Nat) (h:n≤1000):IntKind.i64.wrap (n:Int)=(n:Int):=by rw [IntKind.wrap_i64];omega
def sA (k:Nat):RX × List jrnp.Part:=rotN k (xK 0 dF,l0)
def dA (k:Nat):diskp.Dk:=(sA k).1.dn
def sB (k j:Nat):RX × List jrnp.Part:=rotN j (xL k (dA k) (sA k).2,jrnp.putL 1 (sA k).2 rs1)
theorem sA_eq (k:Nat):(sA k).1=xK k (dA k):=by
 have h:=rotN_same k (xK 0 dF,l0);show (rotN k (xK 0 dF,l0)).1=_;rw [h];show ({ xK 0 dF with key:=0+k,dn:=dA k }:RX)=_;rw [Nat.zero_add];rfl
theorem fit_A {k:Nat} (hk:k≤10):Fit (363+k*2242) (xK k (dA k),(sA k).2):=by
 have h:=Fit.rotN fit_new (by omega) (by show 0≤10;omega) k hk;have e:rotN k (xK 0 dF,l0)=(xK k (dA k),(sA k).2):=Prod.ext (sA_eq k) rfl;rw [e] at h;exact h
theorem key_B (k j:Nat):(sB k j).1.key=k+j:=by
 unfold sB;rw [rotN_same];rfl
theorem fit_B {k j:Nat} (hk:k≤7) (hj:j≤10):Fit (30000+j*2242) (sB k j):=by
 have h:=fit_log (fit_A (k:=k) (by omega)) (by omega);have h2:Fit 30000 (xL k (dA k) (sA k).2,jrnp.putL 1 (sA k).2 rs1):=⟨h.gen,h.well,Nat.le_trans h.len (by omega),h.room⟩;exact Fit.rotN h2 (by omega) (by show k≤10;omega) j hj
theorem m_B (k j:Nat):(sB k j).1.m=m1:=by
 unfold sB;rw [rotN_same];rfl
theorem errJ_two {w:World} {g:Nat} {c:Int} (h:ErrJ w 2 (.iface 121 (.pointer (some ⟨g,0,none⟩))) c):Calls Tryz.prog 9 #[.iface 121 (.pointer (some ⟨g,0,none⟩)),.iface 41 (.int .i64 c)] w fun e w'=>e=.returned (.bool true)∧Below w.heap.size w w':=by
 obtain ⟨g1,v1,e1,_,h1,g2,v2,e2,_,h2,t,x,e3⟩:=h;have e1:g=g1:=by simpa using e1
 subst e1 e2 e3;exact is_both2 g g2 c t x w h1 h2
theorem walk (v0 v1:Value) (w:World) (a0:Arg Tryz.prog w 5 v0) (a1:Arg Tryz.prog w 5 v1) (hT:quota.Tabs w∧bake.Tabs w) :
  Calls Tryz.prog 4 #[v0,v1] w fun e w'=>e=.returned (.bool true)∧Below w.heap.size w w':=by
 obtain ⟨a,rfl,ha⟩:=a0.int Tryz.underlying5;obtain ⟨b,rfl,hb⟩:=a1.int Tryz.underlying5
 have ha2:0≤a∧a≤255:=by
  have h:=bounds_u8 ha;omega
 have hb2:0≤b∧b≤255:=by
  have h:=bounds_u8 hb;omega
 clear a0 a1 ha hb;obtain ⟨na,rfl⟩:∃ n:Nat,a=n:=⟨a.toNat,by omega⟩;obtain ⟨nb,rfl⟩:∃ n:Nat,b=n:=⟨b.toNat,by omega⟩;have wa:=wrap_n na (by omega);have wb:=wrap_n nb (by omega);have ma:=rem8 na;have mb:=rem8 nb;obtain ⟨A,hA⟩:∃ A,na % 8=A:=⟨_,rfl⟩;obtain ⟨C,hC⟩:∃ C,nb % 8=C:=⟨_,rfl⟩;rw [hA] at ma;rw [hC] at mb;have hA7:A≤7:=by omega
 have hC7:C≤7:=by omega
 clear hA hC ha2 hb2;obtain ⟨B,hB⟩:∃ B,w.heap.size=B:=⟨_,rfl⟩;have HT:=qH (show TabsB B w from fun w' hb=>by rw [←hB] at hb;exact ⟨hT.1.below hb,hT.2.below hb⟩);have HAW:=qH (awake_g w hT);clear hT;rw [hB] at HAW ⊢;go_enter Tryz.func4,Tryz.ntmps4;go_wp2_with fail;refine HAW.out.mono ?_;rintro e w1 ⟨rfl,hb1⟩;have HB1:=qH hb1;have hs1:=hb1.size;clear hb1 HAW;go_wp2_with fail;refine (open_l 1 w1 (by omega) (by omega)).mono ?_;rintro e w2 ⟨p,own,rfl,hr2,ho2,hb2⟩;have HR2:=qH (show RegI w2 own p (sA 0).1 from hr2);have HO2:=qH (show ∀ i,own i≠0→B≤i from fun i hi=>by have:=ho2 i hi;omega);have HB2:=qH (HB1.out.trans (hb2.mono (by omega)));have hs2:=HB2.out.size;clear hb2 hr2 ho2 HB1;go_wp2_with fail
 go_loopw [6] (fun s6 wr=>∃ (j:Nat) (own':Nat→Nat),s6=.int .i64 j∧j≤A∧RegI wr own' p (sA j).1∧(∀ i,own' i≠0→B≤i)∧Below B w wr) (fun s6 _=>A-(intOf s6).toNat)
 case atStart=>exact ⟨0,own,rfl,by omega,HR2.out,HO2.out,HB2.out⟩
 case round =>
  obtain ⟨j,own3,rfl,hj,hr3,ho3,hb3⟩:=hrel
  by_cases hjA:j<A
  ·have dk:decide ((j:Int)<(A:Int))=true:=decide_eq_true (by omega)
   have hfit:=fit_A (k:=j) (by omega);have HR3:=qH hr3;have HO3:=qH ho3;have HB3:=qH hb3;have hs3:=hb3.size;clear hr3 ho3 hb3;go_wp2_with fail;have hr3:=HR3.out;rw [sA_eq] at hr3;refine (rotate_i (sA j).2 wr hr3 rfl hfit.well (by show j≤_;omega) (by have h1:=hfit.len' (by omega) (by show j≤_;omega);have h2:(xK j (dA j)).dn.room=1048576:=hfit.room;rw [h2];dsimp only at h1;omega)).mono ?_;rintro e w4 ⟨own4,rfl,hr4,hl4⟩;rw [←sA_eq] at hr4;have HR4:=qH (show RegI w4 own4 p (sA (j+1)).1 from hr4);have HO4:=qH (hl4.least HO3.out (by omega));have HB4:=qH (HB3.out.trans (hl4.to_below HO3.out (by omega)));clear hr3 hr4 hl4 hfit;go_wp2_with fail;go_roundw
   case rel=>exact ⟨j+1,own4,by go_num,by omega,HR4.out,HO4.out,HB4.out⟩
   case measure=>simp [intOf];omega
  ·obtain rfl:A=j:=by omega
   have dk:decide ((A:Int)<(A:Int))=false:=by simp
   have HR3:=qH hr3;have HO3:=qH ho3;have HB3:=qH hb3;have hs3:=hb3.size;clear hr3 ho3 hb3;go_wp2_with fail;have hr3:=HR3.out;rw [sA_eq] at hr3;have HK3:=qH hr3;have hS:=serve_up (p:=p) 1 ⟨#[]⟩ uAnn ⟨#[]⟩ ⟨#[]⟩ 0 1 wr hr3.small (fun w5 hb hs=>serve_log w5 (HK3.out.below hb) B (HT.out.step (HB3.out.trans (hb.mono (by omega)))) HO3.out (by omega) (fit_A (k:=A) (by omega)) (by omega) (by omega) _ _ _);unfold reqL at hS;refine hS.mono ?_;rintro e w4 ⟨p4,own4,rfl,hp4,hr4,hl4⟩;have HR4:=qH (show RegI w4 own4 p4 (sB A 0).1 from hr4);have HO4:=qH (hl4.least HO3.out (by omega));have HB4:=qH (HB3.out.trans (hl4.to_below HO3.out (by omega)));have hs4:=HB4.out.size;have HP4:=qH hp4;clear hr4 hl4 hr3 HR3 HO3 HB3 HK3 hS;obtain ⟨G,hG⟩:∃ G,str (giveL m1.data.toList (yC A 1 [1]))=G:=⟨_,rfl⟩;rw [hG];have HG:=qH hG;obtain ⟨gx,hgx⟩:∃ gx,w4.heap.size=gx:=⟨_,rfl⟩;have hcb5:=below_new w4 (.cells (respL G ⟨#[]⟩ false 0).toArray 28);have HX5:=qH (show Blk (w4.alloc (.cells (respL G ⟨#[]⟩ false 0).toArray 28)) gx 28 (respL G ⟨#[]⟩ false 0).toArray from Blk.newAt _ _ _ hgx.symm);have HZ5:=qH (show own4 gx=0 from HR4.out.zero (by omega));have HR5:=qH (HR4.out.below hcb5);have HB5:=qH (HB4.out.trans (hcb5.mono (by omega)));clear hcb5 HR4 HB4 hG;unfold respL at *;go_wp2_with fail;generalize w4.alloc _=w5 at *
   go_loopw [12] (fun s12 wr=>∃ (j:Nat) (own':Nat→Nat),s12=.int .i64 j∧j≤C+1∧RegI wr own' p4 (sB A j).1∧(∀ i,own' i≠0→B≤i)∧Below B w wr∧Blk wr gx 28 #[.string G,.string ⟨#[]⟩,.bool false,.int .i64 0]∧own' gx=0) (fun s12 _=>C+1-(intOf s12).toNat)
   case atStart=>exact ⟨0,own4,rfl,by omega,HR5.out,HO4.out,HB5.out,HX5.out,HZ5.out⟩
   case round =>
    obtain ⟨n,own6,rfl,hn,hr6,ho6,hb6,hx6,hz6⟩:=hrel;rename World=>w6
    by_cases hnC:n≤C
    ·have dk2:decide ((n:Int)≤(C:Int))=true:=decide_eq_true (by omega)
     have HR6:=qH hr6;have HO6:=qH ho6;have HB6:=qH hb6;have HX6:=qH hx6;have HZ6:=qH hz6;have hs6:=hb6.size;have q0:=hx6.cell 0;have hx6l:=hx6.lt;clear hr6 ho6 hb6 hx6 hz6;go_wp2_with fail;have hSH:=shown_g (yC_ok (k:=A) (now:=1) (cx:=[1]) (by omega) (by omega) rfl) w6 (HT.out _ HB6.out).2;rw [HG.out] at hSH;refine hSH.mono ?_;rintro e w7 ⟨rfl,hb7⟩;have HR7:=qH (HR6.out.below hb7);have HB7:=qH (HB6.out.trans (hb7.mono (by omega)));have HX7:=qH (HX6.out.below hb7 hx6l);have hs7:=HB7.out.size;clear hb7 hSH HR6 HB6 HX6 q0;go_wp2_with fail;have hm:=m_B A n
     by_cases hn2:n≤2
     ·have hW:=gwho_ok (y:=yC A 1 [1]) w7 HR7.out (HT.out _ HB7.out).2 (well_L (now:=1) (by omega) hn2 (by omega))
      rw [hm,HP4.out] at hW;refine hW.mono ?_;rintro e w8 ⟨dv,rfl,hnf,hb8⟩;obtain ⟨Ad,nd,cd,rfl,_⟩:=hnf.1;generalize yC A 1 [1]=y at *;have hcb:=hb8.trans ((below_new w8 (.cells (y.cells (.slice Ad nd cd)).toArray 37)).mono hb8.size);have HR8:=qH (HR7.out.below hcb);have HB8:=qH (HB7.out.trans (hcb.mono (by omega)));have HX8:=qH (HX7.out.below hcb HX7.out.lt);have hs8:=HB8.out.size;clear hb8 hcb hW hnf HR7 HB7 HX7;have d2:decide ((n:Int)≤2)=true:=decide_eq_true (by omega);unfold PC.cells at *;go_wp2_with fail;generalize w8.alloc _=w8a at *;have hfit:=fit_B (k:=A) (j:=n) hA7 (by omega);have hro:=rotate_i (sB A n).2 w8a HR8.out hfit.gen hfit.well (by rw [key_B];omega) (by have h1:=hfit.len' (by omega) (by rw [key_B];omega);have h2:=hfit.room;rw [h2];omega);rw [HP4.out] at hro;refine hro.mono ?_;rintro e w9 ⟨own9,rfl,hr9,hl9⟩;have HR9:=qH (show RegI w9 own9 p4 (sB A (n+1)).1 from hr9);have HO9:=qH (hl9.least HO6.out (by omega));have HB9:=qH (HB8.out.trans (hl9.to_below HO6.out (by omega)));have HX9:=qH (HX8.out.keeps hl9.2 (fun e=>e HZ6.out))
      have HZ9:=qH (show own9 gx=0 from Classical.byContradiction fun h=>by
       rcases hl9.1 gx h with h3|h3
       ·exact h3 HZ6.out
       ·have:=HX8.out.lt;omega)
      clear hro hr9 hl9 hfit;go_wp2_with fail;go_roundw
      case rel=>exact ⟨n+1,own9,by go_num,by omega,HR9.out,HO9.out,HB9.out,HX9.out,HZ9.out⟩
      case measure=>simp [intOf];omega
     ·have hW:=gwho_old (y:=yC A 1 [1]) w7 HR7.out (HT.out _ HB7.out).2 (yC_ok (by omega) (by omega) rfl) (by rw [hm];decide) (by rw [hm];decide) (by rw [key_B];omega) (by rw [key_B];show ¬ A+n≤A+2;omega)
      rw [hm,HP4.out] at hW;refine hW.mono ?_;rintro e w8 ⟨⟨ge,rfl,hge,he⟩,hb8⟩;have hcn:=below_new w8 (.cells zeroC.toArray 37);have HE8:=qH (he.below hcn);have hcb:=hb8.trans (hcn.mono hb8.size);have HR8:=qH (HR7.out.below hcb);have HB8:=qH (HB7.out.trans (hcb.mono (by omega)));have HX8:=qH (HX7.out.below hcb HX7.out.lt);have hs8:=HB8.out.size;clear hb8 hcb hcn hW he HR7 HB7 HX7;have d2:decide ((n:Int)≤2)=false:=decide_eq_false (by omega);unfold zeroC at *;go_wp2_with fail;generalize w8.alloc _=w8a at *;refine (errJ_two HE8.out).mono ?_;rintro e w8b ⟨rfl,hbe⟩;have HR8b:=qH (HR8.out.below hbe);have HB8b:=qH (HB8.out.trans (hbe.mono (by omega)));have HX8b:=qH (HX8.out.below hbe HX8.out.lt);have hs8b:=HB8b.out.size;clear hbe HR8 HB8 HX8 HE8;go_wp2_with fail;have hfit:=fit_B (k:=A) (j:=n) hA7 (by omega);have hro:=rotate_i (sB A n).2 w8b HR8b.out hfit.gen hfit.well (by rw [key_B];omega) (by have h1:=hfit.len' (by omega) (by rw [key_B];omega);have h2:=hfit.room;rw [h2];omega);rw [HP4.out] at hro;refine hro.mono ?_;rintro e w9 ⟨own9,rfl,hr9,hl9⟩;have HR9:=qH (show RegI w9 own9 p4 (sB A (n+1)).1 from hr9);have HO9:=qH (hl9.least HO6.out (by omega));have HB9:=qH (HB8b.out.trans (hl9.to_below HO6.out (by omega)));have HX9:=qH (HX8b.out.keeps hl9.2 (fun e=>e HZ6.out))
      have HZ9:=qH (show own9 gx=0 from Classical.byContradiction fun h=>by
       rcases hl9.1 gx h with h3|h3
       ·exact h3 HZ6.out
       ·have:=HX8b.out.lt;omega)
      clear hro hr9 hl9 hfit;go_wp2_with fail;go_roundw
      case rel=>exact ⟨n+1,own9,by go_num,by omega,HR9.out,HO9.out,HB9.out,HX9.out,HZ9.out⟩
      case measure=>simp [intOf];omega
    ·obtain rfl:n=C+1:=by omega
     have dk2:decide (((C+1:Nat):Int)≤(C:Int))=false:=decide_eq_false (by omega);have dk3:decide ((C:Int)+1≤(C:Int))=false:=decide_eq_false (by omega);have HB6:=qH hb6;clear hr6 ho6 hb6 hx6 hz6;go_wp2_with fail;go_ret
     exact ⟨rfl,HB6.out⟩
end wGateRetires
end Go.Proofs.YthlahcnglacekaaGreatDoor
