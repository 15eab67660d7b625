/- A part of the proof of RegionNone: MarkW, FramesW, PutW, StartW. -/
import Derived.Test.YtdaphppdmnmicaaGreatDoorA25
import Derived.Test.YtdaphppdmnmicaaGreatDoorA01
import Derived.Deep.QuietTactic
namespace Go.Proofs.YtdaphppdmnmicaaGreatDoor.jrn
open Go Go.RowKit Go.Lib base rowe err rowc wireb jrnp diskp disk
section
variable {w w1 w':World} {S S1:Nat→Prop} {g:Nat} {d:Dk} {r:Dk × Int} {e:Ending}
theorem OpR.behind (hg:Grow S S1 w) (hk:Keeps S w w1) (h:OpR S1 g r w1 e w'):OpR S g r w e w':=by
 obtain ⟨x,S2,h1,h2,h3,h4,h5,h6⟩:=h
 exact ⟨x,S2,h1,h2,hg.trans h3 hk.size,h4,grow_keeps hg hk h5,fun k hk'=>⟨Nat.le_trans hk.size (h6 k hk').1,(h6 k hk').2⟩⟩
theorem safe_eq (d:Dk):(if d.down then 0 else d.safe)=safeD d:=rfl
theorem len_eq (d:Dk):(if d.down then 0 else d.b.length)=lenD d:=rfl
set_option maxRecDepth 10000 in
theorem mark_any (j:Nat) (gen:Nat) (h1:1≤gen) (h2:gen≤1099511627776) (hd:DiskS w S g d):Calls Tryz.prog 77 #[.pointer (some ⟨j,0,none⟩),.pointer (some ⟨g,0,none⟩),.int .i64 gen] w (OpR S g (markJ d gen) w):=by
 have HM:=Lib.hid (show markJ d gen=if (syncD d).2=0 then
   if (appD (syncD d).1 (Part.mk 4 gen (safeD (syncD d).1) []).sealed).2=0 then syncD (appD (syncD d).1 (Part.mk 4 gen (safeD (syncD d).1) []).sealed).1
   else appD (syncD d).1 (Part.mk 4 gen (safeD (syncD d).1) []).sealed
  else syncD d from rfl)
 have HS:=Lib.hid (sync_any hd)
 clear hd
 generalize markJ d gen=M at *
 generalize syncD d=d1 at *
 go_enter Tryz.func77,Tryz.ntmps77
 go_wp2_with fail
 refine HS.out.mono ?_
 rintro e w1 ⟨x,S1,rfl,heo,hgr,hd1,hk1,hx⟩
 by_cases hc:d1.2=0
 ·rw [if_pos hc] at HM
  obtain rfl:x=.nilIface:=by
   rcases heo with ⟨_,h⟩|⟨h,_⟩
   ·exact h
   ·exact absurd hc h
  have HG:=Lib.hid hgr
  have HK:=Lib.hid hk1
  have HD:=Lib.hid hd1
  have hok:=hd1.ok_
  have hpl:safeD d1.1≤1048576:=by
   unfold safeD
   split
   ·omega
   ·exact Nat.le_trans hok.le hok.few
  have HOK:=Lib.hid (show (Part.mk 4 gen (safeD d1.1) []).Ok from ⟨by show 1≤4;omega,by show 4≤4;omega,h1,h2,by show safeD d1.1≤_;omega,by show 0≤4096;omega,.inr rfl⟩)
  have hbl:=jrnp.bytes_len HOK.out
  have hsl:((Part.mk 4 gen (safeD d1.1) []).sealed).length≤9000:=by unfold Part.sealed;rw [framep.seal_len];omega
  clear heo hgr hd1 hk1 hx hok hbl
  go_wp2_with fail
  refine (safe_any HD.out).mono ?_
  rintro e w2 ⟨rfl,rfl⟩
  rw [safe_eq]
  have HPS:=Lib.hid (part_seal _ HOK.out w2)
  obtain ⟨q,hq⟩:∃ q,(Part.mk 4 gen (safeD d1.1) []).sealed=q:=⟨_,rfl⟩
  rw [hq] at HM hsl HPS
  have HPS:=Lib.hid (show Calls Tryz.prog 158 #[.agg #[.int .i64 4,.int .i64 gen,.int .i64 (safeD d1.1:Nat),.string ⟨#[]⟩]] w2 fun e w'=>e=.returned (.string (str q))∧Below w2.heap.size w2 w' from HPS.out)
  generalize safeD d1.1=sf at *
  clear HOK hq
  go_wp2_with fail
  refine HPS.out.mono ?_
  rintro e w3 ⟨rfl,hb3⟩
  have HD3:=Lib.hid (HD.out.below hb3)
  have HK3:=Lib.hid (HK.out.trans (.of_below hb3))
  clear hb3 HPS HD HK
  have HAP:=Lib.hid (append_any (str q) (by rw [str_size];omega) HD3.out)
  rw [str_list] at HAP
  generalize appD d1.1 q=d2 at *
  go_wp2_with fail
  refine HAP.out.mono ?_
  rintro e w4 ⟨x,S2,rfl,heo,hgr,hd4,hk4,hx⟩
  by_cases hc2:d2.2=0
  ·rw [if_pos hc2] at HM
   obtain rfl:x=.nilIface:=by
    rcases heo with ⟨_,h⟩|⟨h,_⟩
    ·exact h
    ·exact absurd hc2 h
   have HD4:=Lib.hid hd4
   have HG4:=Lib.hid (HG.out.trans hgr HK3.out.size)
   have HK4:=Lib.hid (grow_keeps HG.out HK3.out hk4)
   clear heo hgr hd4 hk4 hx HAP HD3 HK3 HG
   go_wp2_with fail
   refine (sync_any HD4.out).mono ?_
   rintro e w5 h5
   have HR:=Lib.hid (OpR.behind HG4.out HK4.out h5)
   obtain ⟨x,S3,rfl,heo,_,_,_,_⟩:=h5
   have hform:=heo
   clear heo
   generalize syncD d2.1=d3 at *
   rcases hform with ⟨hz,rfl⟩|⟨hz,he,_⟩
   ·clear hz
    go_wp2_with fail
    go_ret
    rw [HM.out]
    exact HR.out
   ·obtain ⟨kk,rfl⟩:=he.form
    clear hz he
    go_wp2_with fail
    go_ret
    rw [HM.out]
    exact HR.out
  ·rw [if_neg hc2] at HM
   have HR:=Lib.hid (OpR.behind HG.out HK3.out (show OpR S1 g d2 w3 (.returned x) w4 from ⟨x,S2,rfl,heo,hgr,hd4,hk4,hx⟩))
   rcases heo with ⟨h,_⟩|⟨_,he,_⟩
   ·exact absurd h hc2
   ·obtain ⟨kk,rfl⟩:=he.form
    clear he hgr hd4 hk4 hx
    go_wp2_with fail
    go_ret
    rw [HM.out]
    exact HR.out
 ·rw [if_neg hc] at HM
  have HR:=Lib.hid (show OpR S g d1 w (.returned x) w1 from ⟨x,S1,rfl,heo,hgr,hd1,hk1,hx⟩)
  rcases heo with ⟨h,_⟩|⟨_,he,_⟩
  ·exact absurd h hc
  ·obtain ⟨kk,rfl⟩:=he.form
   clear he hgr hd1 hk1 hx
   go_wp2_with fail
   go_ret
   rw [HM.out]
   exact HR.out
end
theorem app_len (d:Dk) (t:List UInt8):d.b.length≤(appD d t).1.b.length:=by
 have h:=(oper_b d).1
 unfold appD
 split
 ·exact Nat.le_refl _
 ·split
  ·show d.b.length≤((operD d).1.b ++ t).length
   rw [List.length_append,h]
   omega
  ·rw [h];exact Nat.le_refl _
theorem sync_len (d:Dk):d.b.length≤(syncD d).1.b.length:=by
 have h:=(oper_b d).1
 unfold syncD
 split
 ·show d.b.length≤((operD d).1.b).length
  rw [h];exact Nat.le_refl _
 ·rw [h];exact Nat.le_refl _
theorem mark_len (d:Dk) (g:Nat):d.b.length≤(markJ d g).1.b.length:=by
 unfold markJ
 have h1:=sync_len d
 have h2:=app_len (syncD d).1 (Part.mk 4 g (safeD (syncD d).1) []).sealed
 split
 ·split
  ·have h3:=sync_len (appD (syncD d).1 (Part.mk 4 g (safeD (syncD d).1) []).sealed).1
   omega
  ·omega
 ·omega
theorem write_len (d:Dk) (g:Nat) (t:List UInt8):d.b.length≤(write0 d g t).1.b.length:=by
 unfold write0
 have h1:=app_len d t
 split
 ·have h2:=mark_len (appD d t).1 g
  omega
 ·omega
section
variable {w w1 w':World} {S S1:Nat→Prop} {g:Nat} {d:Dk} {e:Ending}
set_option maxRecDepth 10000 in
theorem write_any (j gen cut:Nat) (s:ByteArray) (h1:1≤gen) (h2:gen≤1099511627776) (hs:s.size≤1048576) (hc:cut≤d.b.length) (hd:DiskS w S g d) :
  Calls Tryz.prog 160 #[.pointer (some ⟨j,0,none⟩),.pointer (some ⟨g,0,none⟩),.int .i64 gen,.int .i64 cut,.string s] w (OpR S g (writeJ d gen cut s.data.toList) w):=by
 obtain ⟨t,ht⟩:∃ t,s.data.toList=t:=⟨_,rfl⟩
 have HA:=Lib.hid (append_any s hs hd)
 rw [ht] at HA ⊢
 have HW:=Lib.hid (show writeJ d gen cut t=if (write0 d gen t).2=4 then if (cutD (write0 d gen t).1 cut).2=0 then ((cutD (write0 d gen t).1 cut).1,4) else cutD (write0 d gen t).1 cut else write0 d gen t from rfl)
 have HW0:=Lib.hid (show write0 d gen t=if (appD d t).2=0 then markJ (appD d t).1 gen else appD d t from rfl)
 have hlen:=Nat.le_trans hc (write_len d gen t)
 clear hd hc
 generalize write0 d gen t=W0 at *
 generalize appD d t=d1 at *
 generalize writeJ d gen cut t=WJ at *
 go_enter Tryz.func160,Tryz.ntmps160
 go_wp2_with fail
 refine HA.out.mono ?_
 rintro e w1 ⟨x,S1,rfl,heo,hgr,hd1,hk1,hx⟩
 by_cases hc:d1.2=0
 ·rw [if_pos hc] at HW0
  obtain rfl:x=.nilIface:=by
   rcases heo with ⟨_,h⟩|⟨h,_⟩
   ·exact h
   ·exact absurd hc h
  have HG:=Lib.hid hgr
  have HK:=Lib.hid hk1
  have HD:=Lib.hid hd1
  clear heo hgr hd1 hk1 hx HA
  go_wp2_with fail
  refine (mark_any j gen h1 h2 HD.out).mono ?_
  rw [← HW0.out]
  rintro e w2 h3
  have h4:=OpR.behind HG.out HK.out h3
  clear h3 HD HG HK
  obtain ⟨x,S2,rfl,heo,hgr,hd2,hk2,hx⟩:=h4
  have HE:=Lib.hid heo
  have HG:=Lib.hid hgr
  have HD:=Lib.hid hd2
  have HK:=Lib.hid hk2
  have HX:=Lib.hid hx
  rcases heo with ⟨_,rfl⟩|⟨_,he,_⟩
  ·clear hgr hd2 hk2 hx
   go_wp2_with fail
   refine (is_eo .nilIface W0.2 4 _ HE.out).mono ?_
   rintro e w9 ⟨rfl,rfl⟩
   by_cases h44:W0.2=4
   ·have hb:(decide (W0.2 ≠ 0) && (W0.2 == 4))=true:=by rw [h44];rfl
    rw [hb]
    rw [if_pos h44] at HW
    have HC:=Lib.hid (cut_any cut hlen HD.out)
    have HE4:=Lib.hid HE.out
    rw [h44] at HE4
    clear HE hb
    generalize cutD W0.1 cut=C at *
    go_wp2_with fail
    refine HC.out.mono ?_
    rintro e w10 ⟨y,S3,rfl,heo3,hgr3,hd3,hk3,hx3⟩
    by_cases hc3:C.2=0
    ·rw [if_pos hc3] at HW
     obtain rfl:y=.nilIface:=by
      rcases heo3 with ⟨_,h⟩|⟨h,_⟩
      ·exact h
      ·exact absurd hc3 h
     have HR:=Lib.hid (show OpR S g (C.1,4) w (.returned .nilIface) w10 from ⟨_,S3,rfl,HE4.out.keeps hk3 (fun kk h=>(HX.out kk h).2),HG.out.trans hgr3 HK.out.size,hd3,grow_keeps HG.out HK.out hk3,fun kk h=>⟨(HX.out kk h).1,fun h3=>by
      rcases hgr3.2 kk h3 with h3|h3
      ·exact (HX.out kk h).2 h3
      ·rcases HE4.out with ⟨hz,_⟩|⟨_,⟨k2,hk2,hlt,_⟩,_⟩
       ·cases hz
       ·have:=ptr_inj (hk2.symm.trans h)
        omega⟩⟩)
     clear heo3 hgr3 hd3 hk3 hx3 HC
     go_wp2_with fail
     go_ret
     rw [HW.out]
     exact HR.out
    ·rw [if_neg hc3] at HW
     have HR:=Lib.hid (OpR.behind HG.out HK.out (show OpR S2 g C _ (.returned y) w10 from ⟨y,S3,rfl,heo3,hgr3,hd3,hk3,hx3⟩))
     rcases heo3 with ⟨h,_⟩|⟨_,he,_⟩
     ·exact absurd h hc3
     ·obtain ⟨k3,rfl⟩:=he.form
      clear he hgr3 hd3 hk3 hx3 HC
      go_wp2_with fail
      go_ret
      rw [HW.out]
      exact HR.out
   ·have hb:(decide (W0.2 ≠ 0) && (W0.2 == 4))=false:=by
     have:(W0.2 == 4)=false:=by simpa using h44
     rw [this,Bool.and_false]
    rw [hb]
    rw [if_neg h44] at HW
    clear hb
    have HR:=Lib.hid (show OpR S g W0 w (.returned .nilIface) _ from ⟨_,S2,rfl,HE.out,HG.out,HD.out,HK.out,HX.out⟩)
    clear HE HG HD HK HX
    go_wp2_with fail
    go_ret
    rw [HW.out]
    exact HR.out
  ·obtain ⟨kk,rfl⟩:=he.form
   clear he hgr hd2 hk2 hx
   go_wp2_with fail
   refine (is_eo (.iface 167 (.pointer (some ⟨kk,0,none⟩))) W0.2 4 _ HE.out).mono ?_
   rintro e w9 ⟨rfl,rfl⟩
   by_cases h44:W0.2=4
   ·have hb:(decide (W0.2 ≠ 0) && (W0.2 == 4))=true:=by rw [h44];rfl
    rw [hb]
    rw [if_pos h44] at HW
    have HC:=Lib.hid (cut_any cut hlen HD.out)
    have HE4:=Lib.hid HE.out
    rw [h44] at HE4
    clear HE hb
    generalize cutD W0.1 cut=C at *
    go_wp2_with fail
    refine HC.out.mono ?_
    rintro e w10 ⟨y,S3,rfl,heo3,hgr3,hd3,hk3,hx3⟩
    by_cases hc3:C.2=0
    ·rw [if_pos hc3] at HW
     obtain rfl:y=.nilIface:=by
      rcases heo3 with ⟨_,h⟩|⟨h,_⟩
      ·exact h
      ·exact absurd hc3 h
     have HR:=Lib.hid (show OpR S g (C.1,4) w (.returned (.iface 167 (.pointer (some ⟨kk,0,none⟩)))) w10 from ⟨_,S3,rfl,HE4.out.keeps hk3 (fun kk h=>(HX.out kk h).2),HG.out.trans hgr3 HK.out.size,hd3,grow_keeps HG.out HK.out hk3,fun kk h=>⟨(HX.out kk h).1,fun h3=>by
      rcases hgr3.2 kk h3 with h3|h3
      ·exact (HX.out kk h).2 h3
      ·rcases HE4.out with ⟨hz,_⟩|⟨_,⟨k2,hk2,hlt,_⟩,_⟩
       ·cases hz
       ·have:=ptr_inj (hk2.symm.trans h)
        omega⟩⟩)
     clear heo3 hgr3 hd3 hk3 hx3 HC
     go_wp2_with fail
     go_ret
     rw [HW.out]
     exact HR.out
    ·rw [if_neg hc3] at HW
     have HR:=Lib.hid (OpR.behind HG.out HK.out (show OpR S2 g C _ (.returned y) w10 from ⟨y,S3,rfl,heo3,hgr3,hd3,hk3,hx3⟩))
     rcases heo3 with ⟨h,_⟩|⟨_,he,_⟩
     ·exact absurd h hc3
     ·obtain ⟨k3,rfl⟩:=he.form
      clear he hgr3 hd3 hk3 hx3 HC
      go_wp2_with fail
      go_ret
      rw [HW.out]
      exact HR.out
   ·have hb:(decide (W0.2 ≠ 0) && (W0.2 == 4))=false:=by
     have:(W0.2 == 4)=false:=by simpa using h44
     rw [this,Bool.and_false]
    rw [hb]
    rw [if_neg h44] at HW
    clear hb
    have HR:=Lib.hid (show OpR S g W0 w (.returned (.iface 167 (.pointer (some ⟨kk,0,none⟩)))) _ from ⟨_,S2,rfl,HE.out,HG.out,HD.out,HK.out,HX.out⟩)
    clear HE HG HD HK HX
    go_wp2_with fail
    go_ret
    rw [HW.out]
    exact HR.out
 ·rw [if_neg hc] at HW0
  have h4:OpR S g W0 w (.returned x) w1:=by rw [HW0.out];exact ⟨x,S1,rfl,heo,hgr,hd1,hk1,hx⟩
  clear HA
  rcases heo with ⟨h,_⟩|⟨_,he,_⟩
  ·exact absurd h hc
  ·obtain ⟨kk,rfl⟩:=he.form
   clear he hgr hd1 hk1 hx
   obtain ⟨x,S2,hxx,heo,hgr,hd2,hk2,hx⟩:=h4
   injection hxx with hxx
   subst hxx
   have HE:=Lib.hid heo
   have HG:=Lib.hid hgr
   have HD:=Lib.hid hd2
   have HK:=Lib.hid hk2
   have HX:=Lib.hid hx
   clear heo hgr hd2 hk2 hx
   go_wp2_with fail
   refine (is_eo (.iface 167 (.pointer (some ⟨kk,0,none⟩))) W0.2 4 _ HE.out).mono ?_
   rintro e w9 ⟨rfl,rfl⟩
   by_cases h44:W0.2=4
   ·have hb:(decide (W0.2 ≠ 0) && (W0.2 == 4))=true:=by rw [h44];rfl
    rw [hb]
    rw [if_pos h44] at HW
    have HC:=Lib.hid (cut_any cut hlen HD.out)
    have HE4:=Lib.hid HE.out
    rw [h44] at HE4
    clear HE hb
    generalize cutD W0.1 cut=C at *
    go_wp2_with fail
    refine HC.out.mono ?_
    rintro e w10 ⟨y,S3,rfl,heo3,hgr3,hd3,hk3,hx3⟩
    by_cases hc3:C.2=0
    ·rw [if_pos hc3] at HW
     obtain rfl:y=.nilIface:=by
      rcases heo3 with ⟨_,h⟩|⟨h,_⟩
      ·exact h
      ·exact absurd hc3 h
     have HR:=Lib.hid (show OpR S g (C.1,4) w (.returned (.iface 167 (.pointer (some ⟨kk,0,none⟩)))) w10 from ⟨_,S3,rfl,HE4.out.keeps hk3 (fun kk h=>(HX.out kk h).2),HG.out.trans hgr3 HK.out.size,hd3,grow_keeps HG.out HK.out hk3,fun kk h=>⟨(HX.out kk h).1,fun h3=>by
      rcases hgr3.2 kk h3 with h3|h3
      ·exact (HX.out kk h).2 h3
      ·rcases HE4.out with ⟨hz,_⟩|⟨_,⟨k2,hk2,hlt,_⟩,_⟩
       ·cases hz
       ·have:=ptr_inj (hk2.symm.trans h)
        omega⟩⟩)
     clear heo3 hgr3 hd3 hk3 hx3 HC
     go_wp2_with fail
     go_ret
     rw [HW.out]
     exact HR.out
    ·rw [if_neg hc3] at HW
     have HR:=Lib.hid (OpR.behind HG.out HK.out (show OpR S2 g C _ (.returned y) w10 from ⟨y,S3,rfl,heo3,hgr3,hd3,hk3,hx3⟩))
     rcases heo3 with ⟨h,_⟩|⟨_,he,_⟩
     ·exact absurd h hc3
     ·obtain ⟨k3,rfl⟩:=he.form
      clear he hgr3 hd3 hk3 hx3 HC
      go_wp2_with fail
      go_ret
      rw [HW.out]
      exact HR.out
   ·have hb:(decide (W0.2 ≠ 0) && (W0.2 == 4))=false:=by
     have:(W0.2 == 4)=false:=by simpa using h44
     rw [this,Bool.and_false]
    rw [hb]
    rw [if_neg h44] at HW
    clear hb
    have HR:=Lib.hid (show OpR S g W0 w (.returned (.iface 167 (.pointer (some ⟨kk,0,none⟩)))) _ from ⟨_,S2,rfl,HE.out,HG.out,HD.out,HK.out,HX.out⟩)
    clear HE HG HD HK HX
    go_wp2_with fail
    go_ret
    rw [HW.out]
    exact HR.out
end
end Go.Proofs.YtdaphppdmnmicaaGreatDoor.jrn
namespace Go.Proofs.YtdaphppdmnmicaaGreatDoor.jrn
open Go Go.RowKit Go.Lib base rowe err rowc wireb jrnp diskp disk appb
def scells (l:List (List UInt8)):List Value:=l.map fun s=>.string (str s)
theorem frames_next {d:Dk} {gen:Nat} {rs:List (List UInt8)} {k:Nat} (h:k < rs.length):framesB d gen (rs.take (k + 1))=framesB d gen (rs.take k) ++ (Part.mk 2 gen (safeD d) rs[k]).sealed:=by
 have e:rs.take (k + 1)=rs.take k ++ [rs[k]]:=List.take_succ_eq_append_getElem h
 unfold framesB
 rw [e,List.flatMap_append]
 simp
theorem frames_le (d:Dk) (gen:Nat) (rs:List (List UInt8)) (k:Nat):(framesB d gen (rs.take k)).length≤(framesB d gen rs).length:=by
 have:framesB d gen rs=framesB d gen (rs.take k) ++ framesB d gen (rs.drop k):=by
  unfold framesB
  rw [← List.flatMap_append,List.take_append_drop]
 rw [this,List.length_append]
 omega
section
variable {w w1 w':World} {S:Nat→Prop} {g:Nat} {d:Dk}
set_option maxRecDepth 10000 in
set_option maxHeartbeats 800000 in
theorem frames_w (j gen n c:Nat) (A:Option Addr) (rs:List (List UInt8)) (h1:1≤gen) (h2:gen≤1099511627776) (hl:rs.length=n) (hn:n≤1000000) (hrs:∀ s ∈ rs,s.length≤4096) (hf:(framesB d gen rs).length≤1048576)
  (hr:Reads w w.heap.size 1 A n (scells rs)) (hd:DiskS w S g d) :
  Calls Tryz.prog 159 #[.pointer (some ⟨j,0,none⟩),.pointer (some ⟨g,0,none⟩),.int .i64 gen,.slice A n c] w fun e w'=>e=.returned (.string (str (framesB d gen rs)))∧Below w.heap.size w w':=by
 obtain ⟨i0,hi,hz⟩:=Option.map_eq_some_iff.1 disk.byte_info
 simp only [Prod.mk.injEq] at hz
 obtain ⟨hz0,hz1,hz2⟩:=hz
 have hok:=hd.ok_
 have hpl:safeD d≤1048576:=by
  unfold safeD
  split
  ·omega
  ·exact Nat.le_trans hok.le hok.few
 have HR:=Lib.hid hr
 have HD:=Lib.hid hd
 have HRS:=Lib.hid hrs
 clear hr hd hrs hok
 go_enter Tryz.func159,Tryz.ntmps159
 go_wp2_with fail
 go_loopw [9,14,11] (fun o i _ wr=>∃ k:Nat,i=.int .i64 k∧k≤n∧OwnB wr w.heap.size o (framesB d gen (rs.take k))∧Below w.heap.size w wr) (fun _ i _ _=>n - (intOf i).toNat)
 case atStart=>exact ⟨0,rfl,by omega,OwnB.none _ _,Below.refl _ _⟩
 case round =>
  obtain ⟨k,rfl,hk,hown,hbw⟩:=hrel
  have hsz:=hbw.size
  have hle:=frames_le d gen rs k
  by_cases hkn:k < n
  ·have dk:decide ((k:Int) < (n:Int))=true:=decide_eq_true (by omega)
   have hkr:k < rs.length:=by omega
   obtain ⟨b,off,rfl,hbb⟩:=HR.out.at_some (by omega)
   have hc:wr.cell? ⟨b,off + k,none⟩=some (.string (str rs[k])):=(HR.out.below hbw).get (by omega) (by simp only [scells,List.getElem?_map,List.getElem?_eq_getElem hkr,Option.map_some])
   have HNX:=Lib.hid (frames_next (d:=d) (gen:=gen) hkr)
   have hsl:=HRS.out rs[k] (List.getElem_mem hkr)
   have hle2:=frames_le d gen rs (k + 1)
   rw [HNX.out,List.length_append] at hle2
   generalize rs[k]=s at *
   have HOK:=Lib.hid (show (Part.mk 2 gen (safeD d) s).Ok from ⟨by show 1≤2;omega,by show 2≤4;omega,h1,h2,by show safeD d≤_;omega,hsl,.inl rfl⟩)
   obtain ⟨q,hq⟩:∃ q,framesB d gen (rs.take k)=q:=⟨_,rfl⟩
   rw [hq] at hown hle hle2 HNX
   have Hown:=Lib.hid (show wr.ownsRow w.heap.size 5 1 _ q.length (byt q) from hown)
   have Hbw:=Lib.hid hbw
   have HDW:=Lib.hid (HD.out.keeps (X:=nobody) ⟨hbw.os,hbw.tape,hbw.output,hbw.size,fun i hi _=>hbw.block i hi⟩ (fun _ _ h=>h))
   clear hown hbw hle
   go_wp2_with fail
   refine (safe_any HDW.out).mono ?_
   rintro e w2 ⟨rfl,rfl⟩
   rw [safe_eq]
   have HPS:=Lib.hid (show Calls Tryz.prog 158 #[.agg #[.int .i64 2,.int .i64 gen,.int .i64 (safeD d:Nat),.string (str s)]] w2 fun e w'=>e=.returned (.string (str (Part.mk 2 gen (safeD d) s).sealed))∧Below w2.heap.size w2 w' from part_seal _ HOK.out w2)
   obtain ⟨sl,hsl'⟩:∃ x,(Part.mk 2 gen (safeD d) s).sealed=x:=⟨_,rfl⟩
   rw [hsl'] at HPS HNX hle2
   generalize safeD d=sf at *
   clear HOK HDW
   go_wp2_with fail
   refine HPS.out.mono ?_
   rintro e w3 ⟨rfl,hb3⟩
   have Hown3:=Lib.hid (own_below Hown.out hb3)
   have hs3:=hb3.size
   have Hbw3:=Lib.hid (Hbw.out.trans (hb3.mono hsz))
   have hss:(str sl).size=sl.length:=str_size sl
   clear hb3 HPS Hown
   go_wp2_with (at_builtin;refine Lib.wpList_append_own_string _ rfl (.tmp 18) (.tmp 24) _ _ rfl w.heap.size 5 i0 Tryz.underlying163 Tryz.underlying9 hi hz0 hz1 hz2 _ q.length _ rfl Hown3.out (str sl) rfl (by rw [hss];unfold maxLen;omega) (by rw [hss];omega) (by omega) ?_;intro v5 w5 hown5 hg5 _;have Hown5:=Lib.hid hown5;have Hb5:=Lib.hid (Hbw3.out.trans ((Keeps.grown (X:=fun i=>w.heap.size≤i) hg5 fun i hi=>.inl (Hown3.out.lt _ hi).1).below (fun i hi e=>by omega) (by omega)));clear hown5 hg5)
   go_roundw
   case rel =>
    refine ⟨k + 1,by go_num,by omega,?_,Hb5.out⟩
    have h:=Hown5.out
    rw [strCells_byt,str_list,← byt_app,hss] at h
    rw [HNX.out]
    unfold OwnB
    rw [List.length_append]
    exact h
   case measure=>simp [intOf];omega
  ·obtain rfl:n=k:=by omega
   have dk:decide ((n:Int) < (n:Int))=false:=by simp
   rw [show rs.take n=rs from by rw [← hl];exact List.take_length] at hown hle
   generalize hq9:framesB d gen rs=q at *
   by_cases hq0:0 < q.length
   ·obtain ⟨gq,cq,rfl,_,_,hlq⟩:=lies_of_own hown hq0
    have hcv:=hlq.text cq
    have Hbw:=Lib.hid hbw
    clear hown hlq hbw
    have HQ:=Lib.hid hq9
    clear hq9
    go_wp2_with fail
    go_ret
    exact ⟨by rw [HQ.out];rfl,Hbw.out⟩
   ·have hq:q=[]:=List.eq_nil_of_length_eq_zero (by omega)
    subst hq
    have HQ:=Lib.hid hq9
    have Hbw:=Lib.hid hbw
    clear hq9 hbw
    rcases hown.2 with ⟨hv,_⟩|⟨gg,cap,cur,he,hb1,hb2,hb3,hb4,hb5,hb6⟩
    ·subst hv
     have hcv:=run_convert_bytes_nil (P:=Tryz.prog) wr 163 5 Tryz.underlying163 Tryz.underlying5 0 0 9 Tryz.underlying9
     clear hown
     go_wp2_with fail
     go_ret
     exact ⟨by rw [HQ.out];rfl,Hbw.out⟩
    ·subst he
     have hcv:(convert 163 9 (.slice (some ⟨gg,0,none⟩) 0 cap)).run Tryz.prog wr=.ok (.string ⟨#[]⟩) wr:=(show Lies wr gg 0 [] from fun j v hv=>by simp [byt] at hv).text cap
     clear hown hb2 hb6
     go_wp2_with fail
     go_ret
     exact ⟨by rw [HQ.out];rfl,Hbw.out⟩
end
end Go.Proofs.YtdaphppdmnmicaaGreatDoor.jrn
namespace Go.Proofs.YtdaphppdmnmicaaGreatDoor.jrn
open Go Go.RowKit Go.Lib base rowe err rowc wireb jrnp diskp disk framew monoj
def JrnB (w:World) (j gn gs gen:Nat):Prop:=Blk w j 181 #[.pointer (some ⟨gn,0,none⟩),.pointer (some ⟨gs,0,none⟩),.int .i64 gen,.bool false]
section
variable {w w1 w':World} {S:Nat→Prop} {g:Nat} {d:Dk}
theorem at_ok (j gn gs gen:Nat) (w:World) (h:JrnB w j gn gs gen):Calls Tryz.prog 237 #[.pointer (some ⟨j,0,none⟩),.nilIface] w fun e w'=>e=.returned .nilIface∧w'=w:=by
 have c2:w.cell? ⟨j,2,none⟩=_:=h.cell 2
 have hlt:=h.lt
 simp at c2
 clear h
 go_enter Tryz.func237,Tryz.ntmps237
 go_wp2_with fail
 refine (at_nil _ _ _).mono ?_
 rintro e w1 ⟨rfl,rfl⟩
 go_wp2_with fail
 go_ret
 exact ⟨rfl,rfl⟩
theorem done_ok (j gn gs gen:Nat) (w:World) (h:JrnB w j gn gs gen):Calls Tryz.prog 239 #[.pointer (some ⟨j,0,none⟩),.nilIface] w fun e w'=>e=.returned .nilIface∧w'=w:=by
 have H:=Lib.hid h
 clear h
 go_enter Tryz.func239,Tryz.ntmps239
 go_wp2_with fail
 refine (at_ok j gn gs gen _ H.out).mono ?_
 rintro e w1 ⟨rfl,rfl⟩
 go_wp2_with fail
 go_ret
 exact ⟨rfl,rfl⟩
theorem long_w (n c:Nat) (A:Option Addr) (rs:List (List UInt8)) (w:World) (hl:rs.length=n) (hn:n≤1000000) (hrs:∀ s ∈ rs,s.length≤4096) (hr:Reads w w.heap.size 1 A n (scells rs)) :
  Calls Tryz.prog 238 #[.slice A n c] w fun e w'=>e=.returned (.bool false)∧w'=w:=by
 have HR:=Lib.hid hr
 have HRS:=Lib.hid hrs
 clear hr hrs
 go_enter Tryz.func238,Tryz.ntmps238
 go_wp2_with fail
 go_loopw [7,4] (fun i _ wr=>∃ k:Nat,i=.int .i64 k∧k≤n∧wr=w) (fun i _ _=>n - (intOf i).toNat)
 case atStart=>exact ⟨0,rfl,by omega,rfl⟩
 case round =>
  obtain ⟨k,rfl,hk,rfl⟩:=hrel
  by_cases hkn:k < n
  ·have dk:decide ((k:Int) < (n:Int))=true:=decide_eq_true (by omega)
   have hkr:k < rs.length:=by omega
   obtain ⟨b,off,rfl,hbb⟩:=HR.out.at_some (by omega)
   have hc:wr.cell? ⟨b,off + k,none⟩=some (.string (str rs[k])):=HR.out.get (by omega) (by simp only [scells,List.getElem?_map,List.getElem?_eq_getElem hkr,Option.map_some])
   have hsl:=HRS.out rs[k] (List.getElem_mem hkr)
   have hss:=str_size rs[k]
   have d4:decide ((4096:Int) < ((str rs[k]).size:Int))=false:=decide_eq_false (by omega)
   generalize str rs[k]=s at *
   go_wp2_with fail
   go_roundw
   case rel=>exact ⟨k + 1,by go_num,by omega,trivial⟩
   case measure=>simp [intOf];omega
  ·obtain rfl:n=k:=by omega
   have dk:decide ((n:Int) < (n:Int))=false:=by simp
   go_wp2_with fail
   go_ret
   exact ⟨rfl,rfl⟩
def WellR (S:Nat→Prop) (g:Nat) (d:Dk) (w:World) (e:Ending) (w':World):Prop:=e=.returned .nilIface∧∃ S',Grow S S' w∧DiskS w' S' g d∧Keeps S w w'
theorem OpR.well {r:Dk × Int} {e:Ending} (h:OpR S g r w e w') (hr:r.2=0):WellR S g r.1 w e w':=by
 obtain ⟨x,S',rfl,heo,hg,hd,hk,_⟩:=h
 refine ⟨?_,S',hg,hd,hk⟩
 rcases heo with ⟨_,rfl⟩|⟨h,_⟩
 ·rfl
 ·exact absurd hr h
end
end Go.Proofs.YtdaphppdmnmicaaGreatDoor.jrn
namespace Go.Proofs.YtdaphppdmnmicaaGreatDoor.jrn
open Go Go.RowKit Go.Lib base rowe err rowc wireb jrnp diskp disk framew monoj
theorem str_app (a b:List UInt8):str a ++ str b=str (a ++ b):=by
 apply ByteArray.ext
 simp [str]
theorem reads_keeps {X:Nat→Prop} {w w':World} {B size n:Nat} {A:Option Addr} {xs:List Value} (h:Reads w B size A n xs) (hk:Keeps X w w') (hx:∀ b off,A=some ⟨b,off,none⟩→¬ X b) (hB:B≤w.heap.size):Reads w' B size A n xs :=
 ⟨h.1,fun hn=>by
  obtain ⟨b,off,e,hb,hc⟩:=h.2 hn
  exact ⟨b,off,e,hb,fun j hj=>(hk.cell (off + j) (Nat.lt_of_lt_of_le hb hB) (hx b off e)).trans (hc j hj)⟩⟩
section
variable {w w1 w':World} {S:Nat→Prop} {g:Nat} {d:Dk}
def StartR (S:Nat→Prop) (j gn gs gen:Nat) (d:Dk) (w:World) (e:Ending) (w':World):Prop :=
 e=.returned .nilIface∧∃ S',Grow S S' w∧DiskS w' S' gs d∧Keeps (fun i=>S i ∨ i=j) w w'∧JrnB w' j gs gn gen
set_option maxRecDepth 10000 in
set_option maxHeartbeats 1600000 in
theorem start_w (j gn gs gen n c : Nat) (A : Option Addr) (rs : List (List UInt8)) (h2 : gen + 1 ≤ 1099511627776) (hl : rs.length = n) (hn : n ≤ 1000000) (hrs : ∀ s ∈ rs, s.length ≤ 4096)
    (hr : Reads w w.heap.size 1 A n (scells rs)) (hj : JrnB w j gn gs gen) (hd : DiskS w S gs d) (hjS : ¬ S j) (hAS : ∀ b off, A = some ⟨b, off, none⟩ → ¬ S b) (hdn : d.down = false) (hfu : d.fuse < 0) (hroom : (dev (startL (gen + 1) rs)).length ≤ d.room) :
    Calls Tryz.prog 74 #[.pointer (some ⟨j, 0, none⟩), .slice A n c] w (StartR S j gn gs (gen + 1) { d with b := dev (startL (gen + 1) rs), safe := (dev (startL (gen + 1) rs)).length } w) := by
  have c0 : w.cell? ⟨j, 0, none⟩ = _ := hj.cell 0
  have c1 : w.cell? ⟨j, 1, none⟩ = _ := hj.cell 1
  have c2 : w.cell? ⟨j, 2, none⟩ = _ := hj.cell 2
  have hlt := hj.lt
  simp at c0 c1 c2
  obtain ⟨G, hG⟩ : ∃ G, gen + 1 = G := ⟨_, rfl⟩
  have hg0 : (gen : Int) + 1 = (G : Int) := by omega
  have hG1 : 1 ≤ G := by omega
  rw [hG] at hroom h2 ⊢
  have hsw := start_well G rs hdn hfu hroom
  have hcw : cutD d 0 = ({ d with b := [], safe := 0 }, 0) := by
    have := cut_well (n := 0) hdn hfu (Nat.zero_le _)
    simpa using this
  have hok := hd.ok_
  have hwr : writeJ { d with b := [], safe := 0 } G 0 (startT { d with b := [], safe := 0 } G rs) = ({ d with b := dev (startL G rs), safe := (dev (startL G rs)).length }, 0) := by
    rw [← hsw]
    unfold startJ
    rw [hcw, if_pos rfl]
  have htl : (startT { d with b := [], safe := 0 } G rs).length ≤ 1048576 := by
    have h3 : startL G rs = ([Part.mk 1 G 0 []] ++ recsL G 0 rs ++ [Part.mk 3 G 0 []]) ++ [Part.mk 4 G (dev ([Part.mk 1 G 0 []] ++ recsL G 0 rs ++ [Part.mk 3 G 0 []])).length []] := rfl
    rw [h3, dev_app, List.length_append] at hroom
    have h4 : startT { d with b := [], safe := 0 } G rs = dev ([Part.mk 1 G 0 []] ++ recsL G 0 rs ++ [Part.mk 3 G 0 []]) := by
      unfold startT framesB
      have hs : safeD { d with b := [], safe := 0 } = 0 := safe_well (d := { d with b := [], safe := 0 }) hdn
      rw [hs, dev_app, dev_app, recs_dev]
      simp [dev]
    rw [h4]
    have := hok.room_
    omega
  have HST := Lib.hid (show (Part.mk 1 G 0 []).sealed ++ framesB { d with b := [], safe := 0 } G rs ++ (Part.mk 3 G 0 []).sealed = startT { d with b := [], safe := 0 } G rs from rfl)
  have hfl : (framesB { d with b := [], safe := 0 } G rs).length ≤ 1048576 := by
    have := congrArg List.length HST.out
    rw [List.length_append, List.length_append] at this
    omega
  have HB1 := Lib.hid (fun w => part_seal ⟨1, G, 0, []⟩ ⟨by show 1 ≤ 1; omega, by show 1 ≤ 4; omega, hG1, h2, by show 0 ≤ _; omega, by show 0 ≤ 4096; omega, .inr rfl⟩ w)
  have HB3 := Lib.hid (fun w => part_seal ⟨3, G, 0, []⟩ ⟨by show 1 ≤ 3; omega, by show 3 ≤ 4; omega, hG1, h2, by show 0 ≤ _; omega, by show 0 ≤ 4096; omega, .inr rfl⟩ w)
  have HC := Lib.hid (fun (w : World) (h : DiskS w S gs d) => cut_any 0 (Nat.zero_le _) h)
  rw [show ((0 : Nat) : Int) = 0 from rfl, hcw] at HC
  have HJ := Lib.hid hj
  have HR := Lib.hid hr
  have HD := Lib.hid hd
  have HRS := Lib.hid hrs
  have HP := Lib.hid hwr
  clear hj hr hd hrs hwr hsw hcw hok hroom hdn hfu
  generalize ({ d with b := dev (startL G rs), safe := (dev (startL G rs)).length } : Dk) = d' at *
  generalize ({ d with b := [], safe := 0 } : Dk) = d0 at *
  generalize startT d0 G rs = T at *
  generalize hb1 : (Part.mk 1 G 0 []).sealed = q1 at *
  generalize hb3 : (Part.mk 3 G 0 []).sealed = q3 at *
  generalize hF : framesB d0 G rs = F at *
  go_enter Tryz.func74, Tryz.ntmps74
  go_wp2_with fail
  go_quiet (fail)
  rename_i nq
  go_wp2_with fail
  have hkq : Keeps S w (w.drewN nq) := Keeps.drewN nq
  have HD1 := Lib.hid (HD.out.below (below_drewN (Below.refl _ _) nq))
  refine (HC.out _ HD1.out).mono ?_
  rintro e w1 h3
  obtain ⟨rfl, S1, hg1, hd1, hk1⟩ := OpR.well h3 rfl
  have HG1 := Lib.hid (show Grow S S1 w from ⟨hg1.1, hg1.2⟩)
  have HD1 := Lib.hid hd1
  have HK1 := Lib.hid (hkq.trans hk1)
  have HJ1 := Lib.hid (show JrnB w1 j gn gs gen from HJ.out.keeps HK1.out hjS)
  have hsm : ∀ i, S i → i < w.heap.size := by obtain ⟨v, hv⟩ := HD.out; exact hv.small
  clear h3 hg1 hd1 hk1 hkq HC HD c0 c1 c2
  have HR1 := Lib.hid ((reads_keeps HR.out HK1.out hAS (Nat.le_refl _)).more HK1.out.size)
  have HB1' := Lib.hid (show Calls Tryz.prog 158 #[.agg #[.int .i64 1, .int .i64 G, .int .i64 0, .string ⟨#[]⟩]] w1 fun e w' => e = .returned (.string (str q1)) ∧ Below w1.heap.size w1 w' from HB1.out w1)
  clear HB1 HR HJ
  go_wp2_with fail
  refine HB1'.out.mono ?_
  rintro e w2 ⟨rfl, hb2⟩
  have HD2 := Lib.hid (HD1.out.below hb2)
  have HJ2 := Lib.hid (show JrnB w2 j gn gs gen from HJ1.out.below hb2 HJ1.out.lt)
  have HR2 := Lib.hid ((HR1.out.below hb2).more hb2.size)
  have HK2 := Lib.hid (HK1.out.trans (.of_below hb2))
  clear hb2 HB1' HD1 HJ1 HR1 HK1
  go_wp2_with fail
  have HFR := Lib.hid (frames_w j G n c A rs hG1 h2 hl hn HRS.out (by rw [hF]; exact hfl) HR2.out HD2.out)
  rw [hF] at HFR
  refine HFR.out.mono ?_
  rintro e w3 ⟨rfl, hb3'⟩
  have HD3 := Lib.hid (HD2.out.below hb3')
  have HJ3 := Lib.hid (show JrnB w3 j gn gs gen from HJ2.out.below hb3' HJ2.out.lt)
  have HK3 := Lib.hid (HK2.out.trans (.of_below hb3'))
  clear hb3' HD2 HJ2 HR2 HK2 HFR
  have hap := str_app q1 F
  have HB3' := Lib.hid (show Calls Tryz.prog 158 #[.agg #[.int .i64 3, .int .i64 G, .int .i64 0, .string ⟨#[]⟩]] w3 fun e w' => e = .returned (.string (str q3)) ∧ Below w3.heap.size w3 w' from HB3.out w3)
  have z1 : (str q1).size = q1.length := str_size q1
  have z2 : (str F).size = F.length := str_size F
  have z3 : (str q3).size = q3.length := str_size q3
  have zz : q1.length + F.length + q3.length ≤ 1048576 := by
    have := congrArg List.length HST.out
    rw [List.length_append, List.length_append] at this
    omega
  have z4 : (str (q1 ++ F)).size = q1.length + F.length := by rw [str_size, List.length_append]
  go_wp2_with fail
  refine HB3'.out.mono ?_
  rintro e w4 ⟨rfl, hb4⟩
  have HD4 := Lib.hid (HD3.out.below hb4)
  have HJ4 := Lib.hid (show JrnB w4 j gn gs gen from HJ3.out.below hb4 HJ3.out.lt)
  have HK4 := Lib.hid (HK3.out.trans (.of_below hb4))
  have hap2 : str (q1 ++ F) ++ str q3 = str T := by rw [str_app, HST.out]
  have zT : (str T).size = T.length := str_size T
  have HWR := Lib.hid (write_any j G 0 (str T) hG1 h2 (by rw [zT]; exact htl) (Nat.zero_le _) HD4.out)
  rw [str_list, HP.out, show ((0 : Nat) : Int) = 0 from rfl] at HWR
  clear hb4 HB3' HB3 HD3 HJ3 HK3
  go_wp2_with fail
  refine HWR.out.mono ?_
  rintro e w5 h5
  obtain ⟨rfl, S2, hg5, hd5, hk5⟩ := OpR.well h5 rfl
  have hjS1 : ¬ S1 j := fun h => by rcases HG1.out.2 j h with h | h; · exact hjS h
                                    · omega
  have hj5 : JrnB w5 j gn gs gen := HJ4.out.keeps hk5 hjS1
  have HG5 := Lib.hid (HG1.out.trans hg5 HK4.out.size)
  have hjS2 : ¬ S2 j := fun h => by rcases HG5.out.2 j h with h | h; · exact hjS h
                                    · omega
  have HD5 := Lib.hid hd5
  have HK5 := Lib.hid (grow_keeps HG1.out HK4.out hk5)
  have HJ5 := Lib.hid hj5
  clear h5 hg5 hd5 hk5 HWR hap hap2 z1 z2 z3 z4 zz zT
  go_wp2_with fail
  have x0 : w5.cell? ⟨j, 0, none⟩ = _ := hj5.cell 0
  have x1 : w5.cell? ⟨j, 1, none⟩ = _ := hj5.cell 1
  have x2 : w5.cell? ⟨j, 2, none⟩ = _ := hj5.cell 2
  have f0 := hj5.frozen 0
  have f1 := hj5.frozen 1
  have f2 := hj5.frozen 2
  have xl := hj5.lt
  simp at x0 x1 x2
  clear hj5
  refine wp_region_monoJ (fun i => i = j) [14, 17, 20] (by kernel_rfl) ?_
  iterate 6
    first | refine qJ 0 (v := ?_) ?_ ?_ | refine qJ 1 (v := ?_) ?_ ?_ | refine qJ 2 (v := ?_) ?_ ?_ | refine qJ 3 (v := ?_) ?_ ?_ | refine qJ 4 (v := ?_) ?_ ?_ | refine qJ 5 (v := ?_) ?_ ?_
    rotate_left
    · (intro W hSw; (first | (have hcW := hSw.cells; try simp only [qSd] at hcW) | skip); go_simp <;> rfl)
    try simp only [qPA]
  refine wpMonoJ_read' 6 [12, 13, 14, 15, 16, 17, 18, 19, 20] (v := ?_) rfl (by kernel_rfl) (by kernel_rfl) (by kernel_rfl) (by rfl) (by kernel_rfl) (by rfl) (fun _ _ _ h => h) (by rfl) ?_ ?_
  rotate_left
  · (intro W hSw; (first | (have hcW := hSw.cells; try simp only [qSd] at hcW) | skip); go_simp <;> rfl)
  try simp only [qPA]
  iterate 3
    first | refine qJ 7 (v := ?_) ?_ ?_ | refine qJ 8 (v := ?_) ?_ ?_ | refine qJ 9 (v := ?_) ?_ ?_
    rotate_left
    · (intro W hSw; (first | (have hcW := hSw.cells; try simp only [qSd] at hcW) | skip); go_simp <;> rfl)
    try simp only [qPA]
  refine wpMonoJ_read' 10 [12, 13, 14, 15, 16, 17, 18, 19, 20] (v := ?_) rfl (by kernel_rfl) (by kernel_rfl) (by kernel_rfl) (by rfl) (by kernel_rfl) (by rfl) (fun _ _ _ h => h) (by rfl) ?_ ?_
  rotate_left
  · (intro W hSw; (first | (have hcW := hSw.cells; try simp only [qSd] at hcW) | skip); go_simp <;> rfl)
  try simp only [qPA]
  iterate 3
    first | refine qJ 11 (v := ?_) ?_ ?_ | refine qJ 12 (v := ?_) ?_ ?_ | refine qJ 13 (v := ?_) ?_ ?_
    rotate_left
    · (intro W hSw; (first | (have hcW := hSw.cells; try simp only [qSd] at hcW) | skip); go_simp <;> rfl)
    try simp only [qPA]
  refine wpMonoJ_one' 14 (by kernel_rfl) rfl (by rfl) (fun K hK => ?_)
  go_simp
  refine hK.out _ _ ?_ ?_
  · exact moved (Keeps.set1 _ _ _ _) (by decide)
  clear hK K
  try simp only [Act.put]
  iterate 2
    first | refine qJ 15 (v := ?_) ?_ ?_ | refine qJ 16 (v := ?_) ?_ ?_
    rotate_left
    · (intro W hSw; (first | (have hcW := hSw.cells; try simp only [qSd] at hcW) | skip); go_simp <;> rfl)
    try simp only [qPA]
  refine wpMonoJ_one' 17 (by kernel_rfl) rfl (by rfl) (fun K hK => ?_)
  go_simp
  refine hK.out _ _ ?_ ?_
  · exact moved (Keeps.set1 _ _ _ _) (by decide)
  clear hK K
  try simp only [Act.put]
  iterate 2
    first | refine qJ 18 (v := ?_) ?_ ?_ | refine qJ 19 (v := ?_) ?_ ?_
    rotate_left
    · (intro W hSw; (first | (have hcW := hSw.cells; try simp only [qSd] at hcW) | skip); go_simp <;> rfl)
    try simp only [qPA]
  refine wpMonoJ_one' 20 (by kernel_rfl) rfl (by rfl) (fun K hK => ?_)
  go_simp
  refine hK.out _ _ ?_ ?_
  · exact moved (Keeps.set1 _ _ _ _) (by decide)
  clear hK K
  try simp only [Act.put]
  refine wpMonoJ_done (by kernel_rfl) ?_ _
  have hk6 : Keeps (fun i => i = j) w5 (((w5.setCell ⟨j, 0, none⟩ (.pointer (some ⟨gs, 0, none⟩))).setCell ⟨j, 1, none⟩ (.pointer (some ⟨gn, 0, none⟩))).setCell ⟨j, 2, none⟩ (.int .i64 G)).drew :=
    (((Keeps.set1 w5 j 0 (.pointer (some ⟨gs, 0, none⟩))).trans (Keeps.set1 _ j 1 (.pointer (some ⟨gn, 0, none⟩)))).trans (Keeps.set1 _ j 2 (.int .i64 G))).trans Keeps.drew
  have hj6 : JrnB (((w5.setCell ⟨j, 0, none⟩ (.pointer (some ⟨gs, 0, none⟩))).setCell ⟨j, 1, none⟩ (.pointer (some ⟨gn, 0, none⟩))).setCell ⟨j, 2, none⟩ (.int .i64 G)).drew j gs gn G := by
    have := (((HJ5.out.set_ 0 (.pointer (some ⟨gs, 0, none⟩))).set_ 1 (.pointer (some ⟨gn, 0, none⟩))).set_ 2 (.int .i64 G)).drew
    unfold JrnB
    simpa using this
  have HR := Lib.hid (show StartR S j gn gs G d' w (.returned .nilIface) (((w5.setCell ⟨j, 0, none⟩ (.pointer (some ⟨gs, 0, none⟩))).setCell ⟨j, 1, none⟩ (.pointer (some ⟨gn, 0, none⟩))).setCell ⟨j, 2, none⟩ (.int .i64 G)).drew from
    ⟨rfl, S2, HG5.out, HD5.out.keeps hk6 (fun i hi e => by have h : i = j := e; subst h; exact hjS2 hi), (HK5.out.more fun _ _ h => .inl h).trans (hk6.more fun _ _ h => .inr h), hj6⟩)
  clear hk6 hj6
  generalize (((w5.setCell ⟨j, 0, none⟩ (.pointer (some ⟨gs, 0, none⟩))).setCell ⟨j, 1, none⟩ (.pointer (some ⟨gn, 0, none⟩))).setCell ⟨j, 2, none⟩ (.int .i64 G)).drew = w6 at *
  go_wp2_with fail
  go_ret
  exact HR.out
end
end Go.Proofs.YtdaphppdmnmicaaGreatDoor.jrn
