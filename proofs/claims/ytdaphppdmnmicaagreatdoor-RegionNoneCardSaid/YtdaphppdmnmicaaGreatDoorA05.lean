/- A part of the proof of RegionNone: Lease, IdxW, InB. -/
import Derived.Test.YtdaphppdmnmicaaGreatDoorA02
import Derived.Test.YtdaphppdmnmicaaGreatDoorA01
import Derived.Deep.QuietTactic
import Derived.BigQuiet
import Derived.OwnWalk
namespace Go.Proofs.YtdaphppdmnmicaaGreatDoor.lease
open Go Go.RowKit base err
def larr (u:Nat→Int):List Value:=[.int .i64 (u 0),.int .i64 (u 1),.int .i64 (u 2),.int .i64 (u 3),.int .i64 (u 4),.int .i64 (u 5),.int .i64 (u 6),.int .i64 (u 7),.int .i64 (u 8),.int .i64 (u 9),.int .i64 (u 10),.int .i64 (u 11),.int .i64 (u 12),.int .i64 (u 13),.int .i64 (u 14),.int .i64 (u 15),.int .i64 (u 16)]
def LeaseB (w:World) (g r n:Nat) (u:Nat→Int):Prop:=Blk w g 171 (.int .i64 r :: .int .i64 n :: larr u).toArray
section
variable {w:World}
theorem new_ok (r n:Nat) (h1:1≤r) (h2:r≤n) (h3:n≤16) (w:World) :
  Calls Tryz.prog 27 #[.int .i64 r,.int .i64 n] w fun e w'=>e=.returned (.tuple #[.pointer (some ⟨w.heap.size,0,none⟩),.nilIface])∧LeaseB w' w.heap.size r n (fun _=>0)∧Below w.heap.size w w':=by
 have d1:decide ((n:Int) < 1)=false:=decide_eq_false (by omega)
 have d2:decide ((16:Int) < (n:Int))=false:=decide_eq_false (by omega)
 have d3:decide ((r:Int) < 1)=false:=decide_eq_false (by omega)
 have d4:decide ((n:Int) < (r:Int))=false:=decide_eq_false (by omega)
 go_enter Tryz.func27,Tryz.ntmps27
 go_wp2
 go_ret2
 exact ⟨rfl,Blk.new _ _ _,below_new _ _⟩
end
end Go.Proofs.YtdaphppdmnmicaaGreatDoor.lease
namespace Go.Proofs.YtdaphppdmnmicaaGreatDoor.lease
open Go Go.RowKit base err
end Go.Proofs.YtdaphppdmnmicaaGreatDoor.lease
namespace Go.Proofs.YtdaphppdmnmicaaGreatDoor.wireb
open Go Go.RowKit base rowe err rowc wirep inp
def ErrK (w:World) (x:Value) (k:Nat) (c:Int):Prop:=x=.iface 167 (.pointer (some ⟨k,0,none⟩))∧∃ a b,Blk w k 169 #[a,b,.iface 74 (.int .i64 c)]
theorem ErrK.err {w:World} {x:Value} {k:Nat} {c:Int} (h:ErrK w x k c):Err w x c:=by
 obtain ⟨rfl,a,b,hb⟩:=h
 exact ⟨k,rfl,hb.lt,by rw [hb.cell 2];rfl⟩
theorem ErrK.keeps {X:Nat→Prop} {w w':World} {x:Value} {k:Nat} {c:Int} (h:ErrK w x k c) (hk:Keeps X w w') (hx:¬ X k):ErrK w' x k c:=by
 obtain ⟨e,a,b,hb⟩:=h
 exact ⟨e,a,b,hb.keeps hk hx⟩
theorem at_blk (s:ByteArray) (n c:Int) (w:World):Calls Tryz.prog 26 #[.string s,.int .i64 n,.iface 74 (.int .i64 c)] w fun e w'=>∃ x k,e=.returned x∧ErrK w' x k c∧w.heap.size≤k∧Below w.heap.size w w':=by
 go_enter Tryz.func26,Tryz.ntmps26
 go_wp2
 go_ret
 exact ⟨_,w.heap.size,rfl,⟨rfl,_,_,Blk.new _ _ _⟩,Nat.le_refl _,below_new _ _⟩
def InB (w:World) (g:Nat) (s:ByteArray) (st:Rd):Prop:=∃ (n:Nat) (x:Value),Blk w g 317 #[.string s,.int .i64 n,x]∧n≤s.size∧s.size≤maxLen ∧
 ((∃ l,st=some l∧x=.nilIface∧s.data.toList.drop n=l) ∨ (st=none∧∃ k,g < k∧ErrK w x k 2))
theorem ptr_inj {t:TypeId} {k j:Nat} (h:Value.iface t (.pointer (some ⟨k,0,none⟩))=.iface t (.pointer (some ⟨j,0,none⟩))):k=j:=by simpa using h
section
variable {w w':World} {g:Nat} {s:ByteArray} {st:Rd}
theorem InB.lt (h:InB w g s st):g < w.heap.size:=by obtain ⟨n,x,h,_⟩:=h;exact h.lt
theorem InB.keepsE {X:Nat→Prop} (h:InB w g s st) (hk:Keeps X w w') (hx:¬ X g) (hx2:∀ k cs,g < k→Blk w k 169 cs→¬ X k):InB w' g s st:=by
 obtain ⟨n,x,h1,h2,h3,h4⟩:=h
 exact ⟨n,x,h1.keeps hk hx,h2,h3,h4.imp id fun ⟨a,k,b,c⟩=>⟨a,k,b,c.keeps hk (by obtain ⟨_,_,_,hb⟩:=c;exact hx2 k _ b hb)⟩⟩
theorem InB.keeps {X:Nat→Prop} (h:InB w g s st) (hk:Keeps X w w') (hx:∀ i,g≤i→¬ X i):InB w' g s st:=h.keepsE hk (hx g (Nat.le_refl _)) fun k _ hgk _=>hx k (Nat.le_of_lt hgk)
theorem InB.below (h:InB w g s st) (hb:Below w.heap.size w w'):InB w' g s st:=h.keeps (X:=nobody) (.of_below hb) (fun _ _ h=>h)
theorem bad_b (h:InB w g s st):Calls Tryz.prog 165 #[.pointer (some ⟨g,0,none⟩)] w fun e w'=>e=.returned (.bool st.isNone)∧w'=w:=by
 obtain ⟨n,x,hb,h1,h2,h3⟩:=h
 have c2:w.cell? ⟨g,2,none⟩=_:=hb.cell 2
 have hlt:=hb.lt
 simp at c2
 clear hb
 rcases h3 with ⟨l,rfl,rfl,h4⟩|⟨rfl,k,hk,rfl,herr⟩
 ·clear h4
  go_enter Tryz.func165,Tryz.ntmps165
  go_wp2
  go_ret
  exact ⟨rfl,rfl⟩
 ·clear herr hk
  go_enter Tryz.func165,Tryz.ntmps165
  go_wp2
  go_ret
  exact ⟨rfl,rfl⟩
theorem wrong_bad (n:Int) (h:InB w g s none):Calls Tryz.prog 166 #[.pointer (some ⟨g,0,none⟩),.int .i64 n] w fun e w'=>e=.returned noResult∧w'=w:=by
 obtain ⟨m,x,hb,h1,h2,h3⟩:=h
 have c2:w.cell? ⟨g,2,none⟩=_:=hb.cell 2
 have hlt:=hb.lt
 simp at c2
 clear hb
 rcases h3 with ⟨l,h,_⟩|⟨_,k,hk,rfl,herr⟩
 ·cases h
 ·clear herr hk
  go_enter Tryz.func166,Tryz.ntmps166
  go_wp2
  exact bodyPost_end (v:=.tuple #[]) (by simp [results,Tryz.results166,go_sem]) rfl ⟨rfl,rfl⟩
theorem wrong_b {l:List UInt8} (n:Int) (h:InB w g s (some l)):Calls Tryz.prog 166 #[.pointer (some ⟨g,0,none⟩),.int .i64 n] w fun e w'=>e=.returned noResult∧InB w' g s none∧Keeps (· = g) w w':=by
 obtain ⟨m,x,hb,h1,h2,h3⟩:=h
 have c2:w.cell? ⟨g,2,none⟩=_:=hb.cell 2
 have hlt:=hb.lt
 simp at c2
 have HB:=Lib.hid hb
 clear hb
 rcases h3 with ⟨l,_,rfl,_⟩|⟨h,_⟩
 ·go_enter Tryz.func166,Tryz.ntmps166
  go_wp2_with fail
  refine (at_blk _ _ 2 _).mono ?_
  rintro e w1 ⟨x,k,rfl,he,hk,hb1⟩
  have hB1:=HB.out.below hb1 hlt
  have f2:=hB1.frozen 2
  have c2':w1.cell? ⟨g,2,none⟩=_:=hB1.cell 2
  have hlt1:=hB1.lt
  simp at c2'
  have HR:=Lib.hid (show InB (w1.setCell ⟨g,2,none⟩ x) g s none from
   ⟨m,_,hB1.set_ 2 _,h1,h2,.inr ⟨rfl,k,by omega,he.keeps (Keeps.set1 w1 g 2 _) (fun e=>by omega)⟩⟩)
  have HK:=Lib.hid ((Keeps.of_below (X:=(· = g)) hb1).trans (Keeps.set1 w1 g 2 x))
  obtain ⟨rfl,he⟩:=he
  clear he hb1 hB1
  go_wp2
  exact bodyPost_end (v:=.tuple #[]) (by simp [results,Tryz.results166,go_sem]) rfl ⟨rfl,HR.out,HK.out⟩
 ·cases h
def GotB (g:Nat) (s:ByteArray) (st:Rd) (v:Value) (w:World) (e:Ending) (w':World):Prop:=e=.returned v∧InB w' g s st∧Keeps (· = g) w w'
theorem inb_at {n:Nat} (hb:Blk w g 317 #[.string s,.int .i64 n,.nilIface]) (h1:n≤s.size) (h2:s.size≤maxLen):InB w g s (some (s.data.toList.drop n)):=⟨n,_,hb,h1,h2,.inl ⟨_,rfl,rfl,rfl⟩⟩
theorem at_put {p:Nat} (hb:Blk w g 317 #[.string s,.int .i64 p,.nilIface]) (q:Nat) (i:Int) (hi:i=q):Blk (w.setCell ⟨g,1,none⟩ (.int .i64 i)) g 317 #[.string s,.int .i64 q,.nilIface]:=by
 subst hi
 exact hb.set_ 1 _
theorem byte_at {n:Nat} (h:n < s.size):s.data.toList.drop n=s[n] :: s.data.toList.drop (n + 1):=by
 rw [List.drop_eq_getElem_cons (show n < s.data.toList.length from h)]
 rfl
set_option maxRecDepth 10000 in
set_option maxHeartbeats 800000 in
theorem num_in (most:Nat) (h:InB w g s st):Calls Tryz.prog 82 #[.pointer (some ⟨g,0,none⟩),.int .i64 most] w (GotB g s (numI most st).2 (.int .i64 (numI most st).1) w):=by
 have H:=Lib.hid h
 cases st with
 | none =>
  go_enter Tryz.func82,Tryz.ntmps82
  go_wp2_with fail
  refine (bad_b H.out).mono ?_
  rintro e w1 ⟨rfl,rfl⟩
  go_wp2_with fail
  go_ret
  exact ⟨rfl,H.out,Keeps.refl _ _⟩
 | some l =>
  obtain ⟨n,x,hb,h1,h2,h3⟩:=h
  obtain ⟨rfl,hl⟩:x=.nilIface∧s.data.toList.drop n=l:=by
   rcases h3 with ⟨l',h,rfl,h4⟩|⟨h,_⟩
   ·injection h with h;exact ⟨rfl,h4.trans h.symm⟩
   ·cases h
  clear h3
  have c1:w.cell? ⟨g,1,none⟩=_:=hb.cell 1
  have hlt:=hb.lt
  simp at c1
  have HB:=Lib.hid hb
  have hsz:s.size≤9223372036854775807:=h2
  clear hb
  generalize hR:numI most (some l)=R
  go_enter Tryz.func82,Tryz.ntmps82
  go_wp2_with fail
  refine (bad_b H.out).mono ?_
  rintro e w1 ⟨rfl,rfl⟩
  clear H
  go_wp2_with fail
  go_quiet (fail)
  go_wp2_with fail
  go_loopw [5,7,8] (fun a b _ wr'=>∃ (p k acc:Nat),a=.int .i64 acc∧b=.int .i64 k∧p=n + k∧k≤9∧p≤s.size∧acc < 128 ^ k∧numR most l=readN most (9 - k) k acc (s.data.toList.drop p)∧Blk wr' g 317 #[.string s,.int .i64 p,.nilIface]∧Keeps (· = g) w1 wr') (fun _ b _ _=>9 - (intOf b).toNat)
  case atStart=>exact ⟨n,0,0,rfl,rfl,rfl,by omega,h1,by decide,by rw [hl];rfl,HB.out,Keeps.drewN _⟩
  case round =>
   obtain ⟨p,k,acc,rfl,rfl,hp,hk,hps,hacc,hrd,hb,hbw⟩:=hrel
   have c1':wr.cell? ⟨g,1,none⟩=_:=hb.cell 1
   have c0':wr.cell? ⟨g,0,none⟩=_:=hb.cell 0
   have f1:=hb.frozen 1
   have hltr:=hb.lt
   simp at c1' c0'
   clear c1
   by_cases hin:k < 9∧p < s.size
   ·obtain ⟨hk9,hpl⟩:=hin
    have hc:=s[p].toNat_lt
    have d9:decide ((k:Int) < 9)=true:=decide_eq_true (by omega)
    have dp:decide ((p:Int) < (s.size:Int))=true:=decide_eq_true (by omega)
    have hst:=step_val hc hk9 hacc
    obtain ⟨v,hv⟩:∃ v:Nat,acc + s[p].toNat % 128 * 128 ^ k=v:=⟨_,rfl⟩
    have hvlt:v < 9223372036854775808:=by rw [← hv];exact step_small hk9 hacc (by omega)
    have hvk:v < 128 ^ (k + 1):=by rw [← hv];exact step_lt hacc (by omega)
    rw [hv] at hst
    have hby:=byte_at hpl
    have h9:9 - k=9 - (k + 1) + 1:=by omega
    rw [hby,h9,readN] at hrd
    clear hby h9
    by_cases hc8:128≤s[p].toNat
    ·rw [if_pos hc8,show s[p].toNat - 128=s[p].toNat % 128 by omega,hv] at hrd
     have Hb:=Lib.hid hb
     have Hbw:=Lib.hid hbw
     have Hrd:=Lib.hid hrd
     have Hp:=Lib.hid hp
     have Hacc:=Lib.hid hacc
     have Hv:=Lib.hid hv
     have Hvk:=Lib.hid hvk
     have Hvlt:=Lib.hid hvlt
     clear hb hbw hrd hp hacc hv hvk hvlt
     clear HB
     go_wp2_with fail
     go_quiet (fail)
     go_wp2_with fail
     go_quiet (fail)
     go_wp2_with fail
     refine ⟨?rel,?measure⟩
     case rel=>exact ⟨p + 1,k + 1,v,rfl,by go_num,by have:=Hp.out;omega,by omega,by omega,Hvk.out,Hrd.out,at_put (Hb.out.drewN _) (p + 1) _ (by omega),Hbw.out.trans ((Keeps.drewN _).trans (Keeps.set1 _ g 1 _))⟩
     case measure=>simp [intOf];omega
    ·have d8:decide ((128:Int)≤((s[p].toNat:Nat):Int))=false:=decide_eq_false (by omega)
     rw [if_neg hc8,show s[p].toNat * 128 ^ k=s[p].toNat % 128 * 128 ^ k by rw [Nat.mod_eq_of_lt (by omega)],hv] at hrd
     by_cases hC:(s[p].toNat=0∧0 < k) ∨ most < v ∨ 4611686018427387903 < v
     ·rw [if_pos hC] at hrd
      have HRN:=Lib.hid (show R=(0,none) from by rw [← hR];unfold numI;simp only [hrd])
      have hC2:(s[p].toNat=0∧0 < k) ∨ (¬ (s[p].toNat=0∧0 < k)∧(most < v ∨ (¬ most < v∧4611686018427387903 < v))):=by omega
      have Hb:=Lib.hid hb
      have Hbw:=Lib.hid hbw
      have Hrd:=Lib.hid hrd
      have Hp:=Lib.hid hp
      have Hacc:=Lib.hid hacc
      have Hv:=Lib.hid hv
      have Hvk:=Lib.hid hvk
      have Hvlt:=Lib.hid hvlt
      clear hb hbw hrd hp hacc hv hvk hvlt
      clear HB hC
      rcases hC2 with ⟨hz,hk0⟩|⟨hz,hC2⟩
      ·have dz:decide (((s[p].toNat:Nat):Int)=0)=true:=decide_eq_true (by omega)
       have dk:decide ((0:Int) < (k:Int))=true:=decide_eq_true (by omega)
       go_wp2_with fail
       go_quiet (fail)
       go_wp2_with fail
       go_quiet (fail)
       go_wp2_with fail
       refine (wrong_b _ (inb_at (at_put (Hb.out.drewN _) (p + 1) _ (by omega)) (by omega) h2)).mono ?_
       rintro e w2 ⟨rfl,h5,h6⟩
       have HR:=Lib.hid (show GotB g s none (.int .i64 0) w1 (.returned (.int .i64 0)) w2 from ⟨rfl,h5,(Hbw.out.trans ((Keeps.drewN _).trans (Keeps.set1 _ g 1 _))).trans h6⟩)
       clear h5 h6
       go_wp2_with fail
       go_ret
       rw [HRN.out]
       exact HR.out
      ·rcases hC2 with hm|⟨hm,h4⟩
       ·have dm:decide ((most:Int) < (v:Int))=true:=decide_eq_true (by omega)
        by_cases hz0:s[p].toNat=0
        ·exfalso
         obtain rfl:k=0:=by omega
         have h3:=Hacc.out
         have h4:=Hv.out
         rw [hz0] at h4
         simp at h3 h4
         omega
        ·have dz:decide (((s[p].toNat:Nat):Int)=0)=false:=decide_eq_false (by omega)
         clear hz
         go_wp2_with fail
         go_quiet (fail)
         go_wp2_with fail
         go_quiet (fail)
         go_wp2_with fail
         refine (wrong_b _ (inb_at (at_put (Hb.out.drewN _) (p + 1) _ (by omega)) (by omega) h2)).mono ?_
         rintro e w2 ⟨rfl,h5,h6⟩
         have HR:=Lib.hid (show GotB g s none (.int .i64 0) w1 (.returned (.int .i64 0)) w2 from ⟨rfl,h5,(Hbw.out.trans ((Keeps.drewN _).trans (Keeps.set1 _ g 1 _))).trans h6⟩)
         clear h5 h6
         go_wp2_with fail
         go_ret
         rw [HRN.out]
         exact HR.out
       ·have dm:decide ((most:Int) < (v:Int))=false:=decide_eq_false (by omega)
        have d4:decide ((4611686018427387903:Int) < (v:Int))=true:=decide_eq_true (by omega)
        by_cases hz0:s[p].toNat=0
        ·exfalso
         obtain rfl:k=0:=by omega
         have h3:=Hacc.out
         have h4:=Hv.out
         rw [hz0] at h4
         simp at h3 h4
         omega
        ·have dz:decide (((s[p].toNat:Nat):Int)=0)=false:=decide_eq_false (by omega)
         clear hz
         go_wp2_with fail
         go_quiet (fail)
         go_wp2_with fail
         go_quiet (fail)
         go_wp2_with fail
         refine (wrong_b _ (inb_at (at_put (Hb.out.drewN _) (p + 1) _ (by omega)) (by omega) h2)).mono ?_
         rintro e w2 ⟨rfl,h5,h6⟩
         have HR:=Lib.hid (show GotB g s none (.int .i64 0) w1 (.returned (.int .i64 0)) w2 from ⟨rfl,h5,(Hbw.out.trans ((Keeps.drewN _).trans (Keeps.set1 _ g 1 _))).trans h6⟩)
         clear h5 h6
         go_wp2_with fail
         go_ret
         rw [HRN.out]
         exact HR.out
     ·rw [if_neg hC] at hrd
      have HRN:=Lib.hid (show R=(v,some (s.data.toList.drop (p + 1))) from by rw [← hR];unfold numI;simp only [hrd])
      have dm:decide ((most:Int) < (v:Int))=false:=decide_eq_false (by omega)
      have d4:decide ((4611686018427387903:Int) < (v:Int))=false:=decide_eq_false (by omega)
      have hz:¬ (s[p].toNat=0∧0 < k):=by omega
      have hvm:v≤most:=by omega
      have Hb:=Lib.hid hb
      have Hbw:=Lib.hid hbw
      have Hrd:=Lib.hid hrd
      have Hp:=Lib.hid hp
      have Hacc:=Lib.hid hacc
      have Hv:=Lib.hid hv
      have Hvk:=Lib.hid hvk
      have Hvlt:=Lib.hid hvlt
      clear hb hbw hrd hp hacc hv hvk hvlt
      clear HB hC
      by_cases hz0:s[p].toNat=0
      ·obtain rfl:k=0:=by omega
       obtain ⟨rfl,rfl⟩:acc=0∧v=0:=by
        have h3:=Hacc.out
        have h4:=Hv.out
        rw [hz0] at h4
        simp at h3 h4
        omega
       have hst0:bits .or .i64 0 (wrap64 (wrap64 (bits .and .u8 0 127)))=0:=by have:=step_val (acc:=0) (c:=0) (k:=0) (by omega) (by omega) (by decide);simpa using this
       clear hz hst
       go_wp2_with fail
       go_quiet (fail)
       go_wp2_with fail
       go_quiet (fail)
       go_wp2_with fail
       go_ret
       rw [HRN.out]
       exact ⟨rfl,inb_at (at_put (Hb.out.drewN _) (p + 1) _ (by omega)) (by omega) h2,Hbw.out.trans ((Keeps.drewN _).trans (Keeps.set1 _ g 1 _))⟩
      ·have dz:decide (((s[p].toNat:Nat):Int)=0)=false:=decide_eq_false (by omega)
       clear hz
       go_wp2_with fail
       go_quiet (fail)
       go_wp2_with fail
       go_quiet (fail)
       go_wp2_with fail
       go_ret
       rw [HRN.out]
       exact ⟨rfl,inb_at (at_put (Hb.out.drewN _) (p + 1) _ (by omega)) (by omega) h2,Hbw.out.trans ((Keeps.drewN _).trans (Keeps.set1 _ g 1 _))⟩
   ·have HRN:=Lib.hid (show R=(0,none) from by
     have:numR most l=none:=by
      rw [hrd]
      by_cases hk9:k < 9
      ·rw [List.drop_eq_nil_of_le (by show s.size≤p;omega),readN_end]
      ·rw [show 9 - k=0 by omega];rfl
     rw [← hR];unfold numI;simp only [this])
    have Hb:=Lib.hid hb
    have Hbw:=Lib.hid hbw
    have Hrd:=Lib.hid hrd
    have Hp:=Lib.hid hp
    have Hacc:=Lib.hid hacc
    clear hb hbw hrd hp hacc
    clear HB
    by_cases hk9:k < 9
    ·have d9:decide ((k:Int) < 9)=true:=decide_eq_true (by omega)
     have dp:decide (p < s.size)=false:=decide_eq_false (by omega)
     clear hin
     go_wp2_with fail
     go_quiet (fail)
     go_wp2_with fail
     refine (wrong_b _ (inb_at (Hb.out.drewN _) (by omega) h2)).mono ?_
     rintro e w2 ⟨rfl,h5,h6⟩
     have HR:=Lib.hid (show GotB g s none (.int .i64 0) w1 (.returned (.int .i64 0)) w2 from ⟨rfl,h5,(Hbw.out.trans (Keeps.drewN _)).trans h6⟩)
     clear h5 h6
     go_wp2_with fail
     go_ret
     rw [HRN.out]
     exact HR.out
    ·have d9:decide ((k:Int) < 9)=false:=decide_eq_false (by omega)
     clear hin
     go_wp2_with fail
     go_quiet (fail)
     go_wp2_with fail
     refine (wrong_b _ (inb_at (Hb.out.drewN _) (by omega) h2)).mono ?_
     rintro e w2 ⟨rfl,h5,h6⟩
     have HR:=Lib.hid (show GotB g s none (.int .i64 0) w1 (.returned (.int .i64 0)) w2 from ⟨rfl,h5,(Hbw.out.trans (Keeps.drewN _)).trans h6⟩)
     clear h5 h6
     go_wp2_with fail
     go_ret
     rw [HRN.out]
     exact HR.out
end
end Go.Proofs.YtdaphppdmnmicaaGreatDoor.wireb
