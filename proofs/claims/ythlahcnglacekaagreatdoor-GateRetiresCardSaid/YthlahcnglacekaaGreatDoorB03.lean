/- Part of GateRetires. -/
import Derived.Test.YthlahcnglacekaaGreatDoorB02
import Derived.BigQuiet
import Derived.Deep.OwnRows
set_option maxRecDepth 100000
set_option maxHeartbeats 16000000
namespace Go.Proofs.YthlahcnglacekaaGreatDoor
namespace wireb
open Go Go.RowKit base rowe err rowc wirep inp
def ErrK (w:World) (x:Value) (k:Nat) (c:Int):Prop:=x=.iface 121 (.pointer (some ⟨k,0,none⟩))∧∃ a b,Blk w k 123 #[a,b,.iface 41 (.int .i64 c)]
theorem ErrK.err {w:World} {x:Value} {k:Nat} {c:Int} (h:ErrK w x k c):Err w x c:=by
 obtain ⟨rfl,a,b,hb⟩:=h;exact ⟨k,rfl,hb.lt,by rw [hb.cell 2];rfl⟩
theorem ErrK.keeps {X:Nat→Prop} {w w':World} {x:Value} {k:Nat} {c:Int} (h:ErrK w x k c) (hk:Keeps X w w') (hx:¬ X k):ErrK w' x k c:=by
 obtain ⟨e,a,b,hb⟩:=h;exact ⟨e,a,b,hb.keeps hk hx⟩
theorem at_blk (s:ByteArray) (n c:Int) (w:World):Calls Tryz.prog 15 #[.string s,.int .i64 n,.iface 41 (.int .i64 c)] w fun e w'=>∃ x k,e=.returned x∧ErrK w' x k c∧w.heap.size≤k∧Below w.heap.size w w':=by
 go_enter Tryz.func15,Tryz.ntmps15;go_wp2;go_ret
 exact ⟨_,w.heap.size,rfl,⟨rfl,_,_,Blk.new _ _ _⟩,Nat.le_refl _,below_new _ _⟩
def InB (w:World) (g:Nat) (s:ByteArray) (st:Rd):Prop:=∃ (n:Nat) (x:Value),Blk w g 243 #[.string s,.int .i64 n,x]∧n≤s.size∧s.size≤maxLen ∧
 ((∃ l,st=some l∧x=.nilIface∧s.data.toList.drop n=l)∨(st=none∧∃ k,g<k∧ErrK w x k 2))
theorem ptr_inj {t:TypeId} {k j:Nat} (h:Value.iface t (.pointer (some ⟨k,0,none⟩))=.iface t (.pointer (some ⟨j,0,none⟩))):k=j:=by simpa using h
section
variable {w w':World} {g:Nat} {s:ByteArray} {st:Rd}
theorem InB.lt (h:InB w g s st):g<w.heap.size:=by obtain ⟨n,x,h,_⟩:=h;exact h.lt
theorem InB.keepsE {X:Nat→Prop} (h:InB w g s st) (hk:Keeps X w w') (hx:¬ X g) (hx2:∀ k cs,g<k→Blk w k 123 cs→¬ X k):InB w' g s st:=by
 obtain ⟨n,x,h1,h2,h3,h4⟩:=h;exact ⟨n,x,h1.keeps hk hx,h2,h3,h4.imp id fun ⟨a,k,b,c⟩=>⟨a,k,b,c.keeps hk (by obtain ⟨_,_,_,hb⟩:=c;exact hx2 k _ b hb)⟩⟩
theorem InB.keeps {X:Nat→Prop} (h:InB w g s st) (hk:Keeps X w w') (hx:∀ i,g≤i→¬ X i):InB w' g s st:=h.keepsE hk (hx g (Nat.le_refl _)) fun k _ hgk _=>hx k (Nat.le_of_lt hgk)
theorem InB.below (h:InB w g s st) (hb:Below w.heap.size w w'):InB w' g s st:=h.keeps (X:=nobody) (.of_below hb) (fun _ _ h=>h)
theorem bad_b (h:InB w g s st):Calls Tryz.prog 140 #[.pointer (some ⟨g,0,none⟩)] w fun e w'=>e=.returned (.bool st.isNone)∧w'=w:=by
 obtain ⟨n,x,hb,h1,h2,h3⟩:=h;have c2:w.cell? ⟨g,2,none⟩=_:=hb.cell 2;have hlt:=hb.lt;simp at c2
 clear hb
 rcases h3 with ⟨l,rfl,rfl,h4⟩|⟨rfl,k,hk,rfl,herr⟩
 ·clear h4
  go_enter Tryz.func140,Tryz.ntmps140;go_wp2;go_ret
  exact ⟨rfl,rfl⟩
 ·clear herr hk
  go_enter Tryz.func140,Tryz.ntmps140;go_wp2;go_ret
  exact ⟨rfl,rfl⟩
theorem wrong_bad (n:Int) (h:InB w g s none):Calls Tryz.prog 141 #[.pointer (some ⟨g,0,none⟩),.int .i64 n] w fun e w'=>e=.returned noResult∧w'=w:=by
 obtain ⟨m,x,hb,h1,h2,h3⟩:=h;have c2:w.cell? ⟨g,2,none⟩=_:=hb.cell 2;have hlt:=hb.lt;simp at c2
 clear hb
 rcases h3 with ⟨l,h,_⟩|⟨_,k,hk,rfl,herr⟩
 ·cases h
 ·clear herr hk
  go_enter Tryz.func141,Tryz.ntmps141;go_wp2;exact bodyPost_end (v:=.tuple #[]) (by simp [results,Tryz.results141,go_sem]) rfl ⟨rfl,rfl⟩
theorem wrong_b {l:List UInt8} (n:Int) (h:InB w g s (some l)):Calls Tryz.prog 141 #[.pointer (some ⟨g,0,none⟩),.int .i64 n] w fun e w'=>e=.returned noResult∧InB w' g s none∧Keeps (· = g) w w':=by
 obtain ⟨m,x,hb,h1,h2,h3⟩:=h;have c2:w.cell? ⟨g,2,none⟩=_:=hb.cell 2;have hlt:=hb.lt;simp at c2
 have HB:=qH hb;clear hb
 rcases h3 with ⟨l,_,rfl,_⟩|⟨h,_⟩
 ·go_enter Tryz.func141,Tryz.ntmps141
  go_wp2_with fail;refine (at_blk _ _ 2 _).mono ?_;rintro e w1 ⟨x,k,rfl,he,hk,hb1⟩;have hB1:=HB.out.below hb1 hlt;have f2:=hB1.frozen 2;have c2':w1.cell? ⟨g,2,none⟩=_:=hB1.cell 2;have hlt1:=hB1.lt;simp at c2'
  have HR:=qH (show InB (w1.setCell ⟨g,2,none⟩ x) g s none from
   ⟨m,_,hB1.set_ 2 _,h1,h2,.inr ⟨rfl,k,by omega,he.keeps (Keeps.set1 w1 g 2 _) (fun e=>by omega)⟩⟩)
  have HK:=qH ((Keeps.of_below (X:=(· = g)) hb1).trans (Keeps.set1 w1 g 2 x));obtain ⟨rfl,he⟩:=he;clear he hb1 hB1;go_wp2;exact bodyPost_end (v:=.tuple #[]) (by simp [results,Tryz.results141,go_sem]) rfl ⟨rfl,HR.out,HK.out⟩
 ·cases h
def GotB (g:Nat) (s:ByteArray) (st:Rd) (v:Value) (w:World) (e:Ending) (w':World):Prop:=e=.returned v∧InB w' g s st∧Keeps (· = g) w w'
theorem inb_at {n:Nat} (hb:Blk w g 243 #[.string s,.int .i64 n,.nilIface]) (h1:n≤s.size) (h2:s.size≤maxLen):InB w g s (some (s.data.toList.drop n)):=⟨n,_,hb,h1,h2,.inl ⟨_,rfl,rfl,rfl⟩⟩
theorem at_put {p:Nat} (hb:Blk w g 243 #[.string s,.int .i64 p,.nilIface]) (q:Nat) (i:Int) (hi:i=q):Blk (w.setCell ⟨g,1,none⟩ (.int .i64 i)) g 243 #[.string s,.int .i64 q,.nilIface]:=by
 subst hi;exact hb.set_ 1 _
theorem byte_at {n:Nat} (h:n<s.size):s.data.toList.drop n=s[n] :: s.data.toList.drop (n+1):=by
 rw [List.drop_eq_getElem_cons (show n<s.data.toList.length from h)];rfl
theorem num_in (most:Nat) (h:InB w g s st):Calls Tryz.prog 80 #[.pointer (some ⟨g,0,none⟩),.int .i64 most] w (GotB g s (numI most st).2 (.int .i64 (numI most st).1) w):=by
 have H:=qH h
 cases st with
 | none =>
  go_enter Tryz.func80,Tryz.ntmps80;go_wp2_with fail;refine (bad_b H.out).mono ?_;rintro e w1 ⟨rfl,rfl⟩;go_wp2_with fail;go_ret
  exact ⟨rfl,H.out,Keeps.refl _ _⟩
 | some l =>
  obtain ⟨n,x,hb,h1,h2,h3⟩:=h
  obtain ⟨rfl,hl⟩:x=.nilIface∧s.data.toList.drop n=l:=by
   rcases h3 with ⟨l',h,rfl,h4⟩|⟨h,_⟩
   ·injection h with h;exact ⟨rfl,h4.trans h.symm⟩
   ·cases h
  clear h3;have c1:w.cell? ⟨g,1,none⟩=_:=hb.cell 1;have hlt:=hb.lt;simp at c1
  have HB:=qH hb;have hsz:s.size≤9223372036854775807:=h2;clear hb;generalize hR:numI most (some l)=R;go_enter Tryz.func80,Tryz.ntmps80;go_wp2_with fail;refine (bad_b H.out).mono ?_;rintro e w1 ⟨rfl,rfl⟩;clear H;go_wp2_with fail
  go_quiet (fail)
  go_wp2_with fail
  go_loopw [5,7,8] (fun a b _ wr'=>∃ (p k acc:Nat),a=.int .i64 acc∧b=.int .i64 k∧p=n+k∧k≤9∧p≤s.size∧acc<128 ^ k∧numR most l=readN most (9-k) k acc (s.data.toList.drop p)∧Blk wr' g 243 #[.string s,.int .i64 p,.nilIface]∧Keeps (· = g) w1 wr') (fun _ b _ _=>9-(intOf b).toNat)
  case atStart=>exact ⟨n,0,0,rfl,rfl,rfl,by omega,h1,by decide,by rw [hl];rfl,HB.out,Keeps.drewN _⟩
  case round =>
   obtain ⟨p,k,acc,rfl,rfl,hp,hk,hps,hacc,hrd,hb,hbw⟩:=hrel;have c1':wr.cell? ⟨g,1,none⟩=_:=hb.cell 1;have c0':wr.cell? ⟨g,0,none⟩=_:=hb.cell 0;have f1:=hb.frozen 1;have hltr:=hb.lt;simp at c1' c0'
   clear c1
   by_cases hin:k<9∧p<s.size
   ·obtain ⟨hk9,hpl⟩:=hin
    have hc:=s[p].toNat_lt;have d9:decide ((k:Int)<9)=true:=decide_eq_true (by omega);have dp:decide ((p:Int)<(s.size:Int))=true:=decide_eq_true (by omega);have hst:=step_val hc hk9 hacc;obtain ⟨v,hv⟩:∃ v:Nat,acc+s[p].toNat % 128*128 ^ k=v:=⟨_,rfl⟩;have hvlt:v<9223372036854775808:=by rw [←hv];exact step_small hk9 hacc (by omega)
    have hvk:v<128 ^ (k+1):=by rw [←hv];exact step_lt hacc (by omega)
    rw [hv] at hst;have hby:=byte_at hpl;have h9:9-k=9-(k+1)+1:=by omega
    rw [hby,h9,readN] at hrd;clear hby h9
    by_cases hc8:128≤s[p].toNat
    ·rw [if_pos hc8,show s[p].toNat-128=s[p].toNat % 128 by omega,hv] at hrd
     have Hb:=qH hb;have Hbw:=qH hbw;have Hrd:=qH hrd;have Hp:=qH hp;have Hacc:=qH hacc;have Hv:=qH hv;have Hvk:=qH hvk;have Hvlt:=qH hvlt;clear hb hbw hrd hp hacc hv hvk hvlt;clear HB;go_wp2_with fail
     go_quiet (fail)
     go_wp2_with fail
     go_quiet (fail)
     go_wp2_with fail;refine ⟨?rel,?measure⟩
     case rel=>exact ⟨p+1,k+1,v,rfl,by go_num,by have:=Hp.out;omega,by omega,by omega,Hvk.out,Hrd.out,at_put (Hb.out.drewN _) (p+1) _ (by omega),Hbw.out.trans ((Keeps.drewN _).trans (Keeps.set1 _ g 1 _))⟩
     case measure=>simp [intOf];omega
    ·have d8:decide ((128:Int)≤((s[p].toNat:Nat):Int))=false:=decide_eq_false (by omega)
     rw [if_neg hc8,show s[p].toNat*128 ^ k=s[p].toNat % 128*128 ^ k by rw [Nat.mod_eq_of_lt (by omega)],hv] at hrd
     by_cases hC:(s[p].toNat=0∧0<k)∨most<v∨4611686018427387903<v
     ·rw [if_pos hC] at hrd
      have HRN:=qH (show R=(0,none) from by rw [←hR];unfold numI;simp only [hrd]);have hC2:(s[p].toNat=0∧0<k)∨(¬ (s[p].toNat=0∧0<k)∧(most<v∨(¬ most<v∧4611686018427387903<v))):=by omega
      have Hb:=qH hb;have Hbw:=qH hbw;have Hrd:=qH hrd;have Hp:=qH hp;have Hacc:=qH hacc;have Hv:=qH hv;have Hvk:=qH hvk;have Hvlt:=qH hvlt;clear hb hbw hrd hp hacc hv hvk hvlt;clear HB hC
      rcases hC2 with ⟨hz,hk0⟩|⟨hz,hC2⟩
      ·have dz:decide (((s[p].toNat:Nat):Int)=0)=true:=decide_eq_true (by omega)
       have dk:decide ((0:Int)<(k:Int))=true:=decide_eq_true (by omega);go_wp2_with fail
       go_quiet (fail)
       go_wp2_with fail
       go_quiet (fail)
       go_wp2_with fail;refine (wrong_b _ (inb_at (at_put (Hb.out.drewN _) (p+1) _ (by omega)) (by omega) h2)).mono ?_;rintro e w2 ⟨rfl,h5,h6⟩;have HR:=qH (show GotB g s none (.int .i64 0) w1 (.returned (.int .i64 0)) w2 from ⟨rfl,h5,(Hbw.out.trans ((Keeps.drewN _).trans (Keeps.set1 _ g 1 _))).trans h6⟩);clear h5 h6;go_wp2_with fail;go_ret
       rw [HRN.out];exact HR.out
      ·rcases hC2 with hm|⟨hm,h4⟩
       ·have dm:decide ((most:Int)<(v:Int))=true:=decide_eq_true (by omega)
        by_cases hz0:s[p].toNat=0
        ·exfalso
         obtain rfl:k=0:=by omega
         have h3:=Hacc.out;have h4:=Hv.out;rw [hz0] at h4;simp at h3 h4
         omega
        ·have dz:decide (((s[p].toNat:Nat):Int)=0)=false:=decide_eq_false (by omega)
         clear hz;go_wp2_with fail
         go_quiet (fail)
         go_wp2_with fail
         go_quiet (fail)
         go_wp2_with fail;refine (wrong_b _ (inb_at (at_put (Hb.out.drewN _) (p+1) _ (by omega)) (by omega) h2)).mono ?_;rintro e w2 ⟨rfl,h5,h6⟩;have HR:=qH (show GotB g s none (.int .i64 0) w1 (.returned (.int .i64 0)) w2 from ⟨rfl,h5,(Hbw.out.trans ((Keeps.drewN _).trans (Keeps.set1 _ g 1 _))).trans h6⟩);clear h5 h6;go_wp2_with fail;go_ret
         rw [HRN.out];exact HR.out
       ·have dm:decide ((most:Int)<(v:Int))=false:=decide_eq_false (by omega)
        have d4:decide ((4611686018427387903:Int)<(v:Int))=true:=decide_eq_true (by omega)
        by_cases hz0:s[p].toNat=0
        ·exfalso
         obtain rfl:k=0:=by omega
         have h3:=Hacc.out;have h4:=Hv.out;rw [hz0] at h4;simp at h3 h4
         omega
        ·have dz:decide (((s[p].toNat:Nat):Int)=0)=false:=decide_eq_false (by omega)
         clear hz;go_wp2_with fail
         go_quiet (fail)
         go_wp2_with fail
         go_quiet (fail)
         go_wp2_with fail;refine (wrong_b _ (inb_at (at_put (Hb.out.drewN _) (p+1) _ (by omega)) (by omega) h2)).mono ?_;rintro e w2 ⟨rfl,h5,h6⟩;have HR:=qH (show GotB g s none (.int .i64 0) w1 (.returned (.int .i64 0)) w2 from ⟨rfl,h5,(Hbw.out.trans ((Keeps.drewN _).trans (Keeps.set1 _ g 1 _))).trans h6⟩);clear h5 h6;go_wp2_with fail;go_ret
         rw [HRN.out];exact HR.out
     ·rw [if_neg hC] at hrd
      have HRN:=qH (show R=(v,some (s.data.toList.drop (p+1))) from by rw [←hR];unfold numI;simp only [hrd]);have dm:decide ((most:Int)<(v:Int))=false:=decide_eq_false (by omega);have d4:decide ((4611686018427387903:Int)<(v:Int))=false:=decide_eq_false (by omega);have hz:¬ (s[p].toNat=0∧0<k):=by omega
      have hvm:v≤most:=by omega
      have Hb:=qH hb;have Hbw:=qH hbw;have Hrd:=qH hrd;have Hp:=qH hp;have Hacc:=qH hacc;have Hv:=qH hv;have Hvk:=qH hvk;have Hvlt:=qH hvlt;clear hb hbw hrd hp hacc hv hvk hvlt;clear HB hC
      by_cases hz0:s[p].toNat=0
      ·obtain rfl:k=0:=by omega
       obtain ⟨rfl,rfl⟩:acc=0∧v=0:=by
        have h3:=Hacc.out;have h4:=Hv.out;rw [hz0] at h4;simp at h3 h4
        omega
       have hst0:bits .or .i64 0 (wrap64 (wrap64 (bits .and .u8 0 127)))=0:=by have:=step_val (acc:=0) (c:=0) (k:=0) (by omega) (by omega) (by decide);simpa using this
       clear hz hst;go_wp2_with fail
       go_quiet (fail)
       go_wp2_with fail
       go_quiet (fail)
       go_wp2_with fail;go_ret
       rw [HRN.out];exact ⟨rfl,inb_at (at_put (Hb.out.drewN _) (p+1) _ (by omega)) (by omega) h2,Hbw.out.trans ((Keeps.drewN _).trans (Keeps.set1 _ g 1 _))⟩
      ·have dz:decide (((s[p].toNat:Nat):Int)=0)=false:=decide_eq_false (by omega)
       clear hz;go_wp2_with fail
       go_quiet (fail)
       go_wp2_with fail
       go_quiet (fail)
       go_wp2_with fail;go_ret
       rw [HRN.out];exact ⟨rfl,inb_at (at_put (Hb.out.drewN _) (p+1) _ (by omega)) (by omega) h2,Hbw.out.trans ((Keeps.drewN _).trans (Keeps.set1 _ g 1 _))⟩
   ·have HRN:=qH (show R=(0,none) from by
     have:numR most l=none:=by
      rw [hrd]
      by_cases hk9:k<9
      ·rw [List.drop_eq_nil_of_le (by show s.size≤p;omega),readN_end]
      ·rw [show 9-k=0 by omega];rfl
     rw [←hR];unfold numI;simp only [this])
    have Hb:=qH hb;have Hbw:=qH hbw;have Hrd:=qH hrd;have Hp:=qH hp;have Hacc:=qH hacc;clear hb hbw hrd hp hacc;clear HB
    by_cases hk9:k<9
    ·have d9:decide ((k:Int)<9)=true:=decide_eq_true (by omega)
     have dp:decide (p<s.size)=false:=decide_eq_false (by omega);clear hin;go_wp2_with fail
     go_quiet (fail)
     go_wp2_with fail;refine (wrong_b _ (inb_at (Hb.out.drewN _) (by omega) h2)).mono ?_;rintro e w2 ⟨rfl,h5,h6⟩;have HR:=qH (show GotB g s none (.int .i64 0) w1 (.returned (.int .i64 0)) w2 from ⟨rfl,h5,(Hbw.out.trans (Keeps.drewN _)).trans h6⟩);clear h5 h6;go_wp2_with fail;go_ret
     rw [HRN.out];exact HR.out
    ·have d9:decide ((k:Int)<9)=false:=decide_eq_false (by omega)
     clear hin;go_wp2_with fail
     go_quiet (fail)
     go_wp2_with fail;refine (wrong_b _ (inb_at (Hb.out.drewN _) (by omega) h2)).mono ?_;rintro e w2 ⟨rfl,h5,h6⟩;have HR:=qH (show GotB g s none (.int .i64 0) w1 (.returned (.int .i64 0)) w2 from ⟨rfl,h5,(Hbw.out.trans (Keeps.drewN _)).trans h6⟩);clear h5 h6;go_wp2_with fail;go_ret
     rw [HRN.out];exact HR.out
end
end wireb
namespace framew
open Go Go.RowKit base rowe num crc rowc framep
theorem byte_info':(Tryz.prog.info? 5).map (fun i=>(i.zero,i.size,i.bytes))=some (some (.int .u8 0),1,1):=by kernel_rfl
theorem made_byt (n:Nat):madeCells #[.int .u8 0] n=(byt (List.replicate n 0)).toArray:=by
 unfold madeCells;apply Array.ext'
 simp [byt,Nat.mod_one]
 apply List.ext_getElem
 ·simp
 ·intro i h1 h2
  simp
theorem raws_step {n:Nat} {a b:UInt8} {r:List UInt8}:rawsF (n+1) (a :: b :: r)=if a.toNat / 16=4∧b.toNat / 16=4 then (rawsF n r).map fun x=>(UInt8.ofNat (a.toNat % 16*16+b.toNat % 16) :: x.1,x.2) else none:=rfl
theorem raws_short {n:Nat} {l:List UInt8} (h:l.length<2*n):rawsF n l=none:=by
 induction n generalizing l with
 | zero=>omega
 | succ n ih =>
  match l with
  | []=>rfl
  | [_]=>rfl
  | a :: b :: r =>
   rw [raws_step]
   split
   ·rw [ih (by simp at h;omega)];rfl
   ·rfl
theorem nib_hi (a:Nat) (h:a<256):bits .andNot .u8 (a:Int) 15=((a / 16*16:Nat):Int):=by
 have h1:=u8_andNot_nat a 15 h (by omega);have h2:∀ x:Fin 256,x.val &&& (255-15)=x.val / 16*16:=by decide +kernel
 rw [h2 ⟨a,h⟩] at h1;exact h1
theorem nib_or (a b:Nat):bits .or .u8 ((a:Int)*16 % 256) ((b:Int) % 16)=((a % 16*16+b % 16:Nat):Int):=by
 have h1:=u8_or_nat (a*16 % 256) (b % 16) (by omega) (by omega)
 have h2:a*16 % 256 ||| b % 16=a % 16*16+b % 16:=by
  rw [show a*16 % 256=2 ^ 4*(a % 16) by omega,←Nat.two_pow_add_eq_or_of_lt (show b % 16<2 ^ 4 by omega)];omega
 rw [h2] at h1;exact h1
theorem byt_put {x:List UInt8} {n k:Nat} (c:UInt8) (hx:x.length=k) (hk:k<n):(byt (x++List.replicate (n-k) 0)).toArray.setIfInBounds k (.int .u8 (c.toNat:Nat))=(byt ((x++[c])++List.replicate (n-(k+1)) 0)).toArray:=by
 subst hx;obtain ⟨m,hm⟩:∃ m,n-x.length=m+1:=⟨n-x.length-1,by omega⟩;rw [hm,show n-(x.length+1)=m by omega];simp [byt,List.replicate_succ]
theorem byt_at {x:List UInt8} {n k:Nat} (hx:x.length=k) (hk:k<n):(byt (x++List.replicate (n-k) 0)).toArray[k]?=some (.int .u8 0):=by
 subst hx;obtain ⟨m,hm⟩:∃ m,n-x.length=m+1:=⟨n-x.length-1,by omega⟩;rw [hm];simp [byt,List.replicate_succ]
def RawR (r:Option (List UInt8 × List UInt8)) (n:Nat) (w:World) (e:Ending) (w':World):Prop:=Below w.heap.size w w'∧match r with
 | some x=>∃ k,e=.returned (.tuple #[.slice (some ⟨k,0,none⟩) n n,.bool true])∧w.heap.size≤k∧Blk w' k 5 (byt x.1).toArray∧x.1.length=n
 | none=>e=.returned (.tuple #[.slice none 0 0,.bool false])
theorem raws_f (s:ByteArray) (at_ n:Nat) (w:World) (hs:s.size≤1048576) (ha:at_≤s.size+12) (hn:n≤65550) (hn0:0<n):Calls Tryz.prog 255 #[.string s,.int .i64 at_,.int .i64 n] w (RawR (rawsF n (s.data.toList.drop at_)) n w):=by
 have hll:(s.data.toList.drop at_).length=s.size-at_:=by rw [List.length_drop];rfl
 by_cases hsh:(s.size:Int)-at_<2*(n:Int)
 ·have d1:decide ((s.size:Int)-(at_:Int)<2*(n:Int))=true:=decide_eq_true hsh
  have HR:=qH (show rawsF n (s.data.toList.drop at_)=none from raws_short (by omega));clear hll;go_enter Tryz.func255,Tryz.ntmps255;go_wp2_with fail;go_ret2
  rw [HR.out];exact ⟨Below.refl _ _,rfl⟩
 ·have d1:decide ((s.size:Int)-(at_:Int)<2*(n:Int))=false:=decide_eq_false hsh
  have hmk:=run_make_row' (P:=Tryz.prog) 86 5 (.int .u8 0) 1 Tryz.underlying86 byte_info' rfl .i64 .i64 n (by omega) (by omega);simp only [made_byt] at hmk;generalize hR:rawsF n (s.data.toList.drop at_)=R;go_enter Tryz.func255,Tryz.ntmps255;go_wp2_with fail
  go_loopw [23,9,10,11] (fun c _ _ _ wr'=>∃ (k:Nat) (x:List UInt8),c=.int .i64 k∧k≤n∧x.length=k∧R=(rawsF (n-k) (s.data.toList.drop (at_+2*k))).map (fun y=>(x++y.1,y.2))∧Blk wr' w.heap.size 5 (byt (x++List.replicate (n-k) 0)).toArray∧Below w.heap.size w wr') (fun c _ _ _ _=>n-(intOf c).toNat)
  case atStart=>exact ⟨0,[],rfl,by omega,rfl,by rw [←hR];cases rawsF n (s.data.toList.drop at_) <;> simp,Blk.new w 5 _,below_new _ _⟩
  case round =>
   obtain ⟨k,x,rfl,hk,hx,hre,hb,hbw⟩:=hrel;clear hmk
   by_cases hkn:k<n
   ·obtain ⟨p,hp⟩:∃ p,at_+2*k=p:=⟨_,rfl⟩
    have hp0:(at_:Int)+2*(k:Int)=(p:Int):=by omega
    obtain ⟨q,hq⟩:∃ q,p+1=q:=⟨_,rfl⟩;have hq0:(p:Int)+1=(q:Int):=by omega
    have hp2:q<s.size:=by omega
    have hp3:p<s.size:=by omega
    have dk:decide ((k:Int)<(n:Int))=true:=decide_eq_true (by omega);have ha1:=s[p].toNat_lt;have hb1:=s[q].toNat_lt
    have hby:s.data.toList.drop p=s[p] :: s[q] :: s.data.toList.drop (p+2):=by
     rw [wireb.byte_at hp3,hq,wireb.byte_at hp2,show q+1=p+2 by omega]
    rw [hp,hby,show n-k=n-(k+1)+1 by omega,raws_step] at hre;have hsz:=hbw.size;have hltb:=hb.lt;have hw1:=IntWalk.i64_in (2*(k:Int)) (by omega);have hw2:=IntWalk.i64_in (p:Int) (by omega);have hw3:=IntWalk.i64_in (q:Int) (by omega);have hk1:=nib_hi s[p].toNat ha1;have hk2:=nib_hi s[q].toNat hb1
    by_cases hC:s[p].toNat / 16=4∧s[q].toNat / 16=4
    ·rw [if_pos hC] at hre
     have ck:wr.cell? ⟨w.heap.size,k,none⟩=some (.int .u8 0):=(hb.cell k).trans (byt_at hx hkn);have fk:=hb.frozen k;have e1:bits .andNot .u8 ((s[p].toNat:Nat):Int) 15=64:=by rw [hk1];omega
     have e2:bits .andNot .u8 ((s[q].toNat:Nat):Int) 15=64:=by rw [hk2];omega
     have e3:=nib_or s[p].toNat s[q].toNat;obtain ⟨c,hc⟩:∃ c,UInt8.ofNat (s[p].toNat % 16*16+s[q].toNat % 16)=c:=⟨_,rfl⟩;have hcn:s[p].toNat % 16*16+s[q].toNat % 16=c.toNat:=by rw [←hc,framep.byte_of (by omega)]
     rw [hcn] at e3;rw [hc] at hre;have HPUT:=qH (byt_put c hx hkn);clear hk1 hk2 hC hc hcn;have Hb:=qH hb;have Hbw:=qH hbw;have Hre:=qH hre;have Hby:=qH hby;have Hx:=qH hx;clear hb hbw hre hby hx;go_wp2_with fail
     go_quiet (fail)
     go_wp2_with fail;refine ⟨?rel,?measure⟩
     case rel =>
      refine ⟨k+1,x++[c],by go_num,by omega,by simp [Hx.out],?_,?_,?_⟩
      ·rw [Hre.out,show at_+2*(k+1)=p+2 by omega,Option.map_map]
       congr 1
       funext y
       simp
      ·have h:=(Hb.out.drewN nq).set_ k (.int .u8 (c.toNat:Nat))
       rw [HPUT.out] at h;exact h
      ·exact Hbw.out.trans (((Keeps.drewN (X:=(· = w.heap.size)) nq).trans (Keeps.set1 _ w.heap.size k _)).below (fun i hi e=>by omega) (by omega))
     case measure=>simp [intOf];omega
    ·rw [if_neg hC] at hre
     have HN:=qH (show R=none from hre)
     by_cases h1:s[p].toNat / 16=4
     ·have e1:bits .andNot .u8 ((s[p].toNat:Nat):Int) 15=64:=by rw [hk1];omega
      have e2:(bits .andNot .u8 ((s[q].toNat:Nat):Int) 15 != 64)=true:=by rw [hk2];simp;omega
      clear hk1 hk2 hC hre h1;have Hb:=qH hb;have Hbw:=qH hbw;have Hby:=qH hby;have Hx:=qH hx;clear hb hbw hby hx;go_wp2_with fail
      go_quiet (fail)
      go_wp2_with fail;go_ret2
      rw [HN.out];exact ⟨below_drewN Hbw.out _,rfl⟩
     ·have e1:(bits .andNot .u8 ((s[p].toNat:Nat):Int) 15 != 64)=true:=by rw [hk1];simp;omega
      clear hk1 hk2 hC hre h1;have Hb:=qH hb;have Hbw:=qH hbw;have Hby:=qH hby;have Hx:=qH hx;clear hb hbw hby hx;go_wp2_with fail
      go_quiet (fail)
      go_wp2_with fail;go_ret2
      rw [HN.out];exact ⟨below_drewN Hbw.out _,rfl⟩
   ·obtain rfl:n=k:=by omega
    rw [Nat.sub_self,List.replicate_zero,List.append_nil] at hb;have HN:=qH (show R=some (x,s.data.toList.drop (at_+2*n)) from by rw [hre,Nat.sub_self];simp [rawsF]);have Hb:=qH hb;have Hbw:=qH hbw;have Hx:=qH hx;clear hb hbw hx;clear hre;go_wp2_with fail;go_ret2
    rw [HN.out];exact ⟨Hbw.out,_,rfl,Nat.le_refl _,Hb.out,Hx.out⟩
end framew
namespace wireb
open Go Go.RowKit base rowe err rowc wirep inp
section
variable {w w':World} {g:Nat} {s:ByteArray} {st:Rd}
theorem InB.drewI (h:InB w g s st) (n:Nat):InB (w.drewN n) g s st:=h.below (below_drewN (Below.refl _ _) _)
theorem InB.drew (h:InB w g s st):InB w.drew g s st:=h.below (Below.refl _ _).drew
theorem InB.some_ {l:List UInt8} (h:InB w g s (some l)):∃ n,Blk w g 243 #[.string s,.int .i64 (n:Nat),.nilIface]∧n≤s.size∧s.size≤maxLen∧s.data.toList.drop n=l:=by
 obtain ⟨n,x,hb,h1,h2,h3⟩:=h
 rcases h3 with ⟨l',h,rfl,h4⟩|⟨h,_⟩
 ·injection h with h;exact ⟨n,hb,h1,h2,h4.trans h.symm⟩
 ·cases h
theorem read_in (w:World) (s:ByteArray) (hs:s.size≤maxLen):Calls Tryz.prog 79 #[.string s] w fun e w'=>e=.returned (.pointer (some ⟨w.heap.size,0,none⟩))∧InB w' w.heap.size s (some s.data.toList)∧Below w.heap.size w w':=by
 go_enter Tryz.func79,Tryz.ntmps79;go_wp2;go_ret
 exact ⟨rfl,inb_at (n:=0) (Blk.new _ _ _) (by omega) hs,below_new _ _⟩
theorem text_is {s:ByteArray} {a n:Nat} (h:a+n≤s.size):s.extract a (a+n)=⟨((s.data.toList.drop a).take n).toArray⟩:=by
 rw [extract_is s a (a+n) h,List.drop_take,Nat.add_sub_cancel_left]
theorem text_in (most:Nat) (h:InB w g s st):Calls Tryz.prog 85 #[.pointer (some ⟨g,0,none⟩),.int .i64 most] w (GotB g s (textI most st).2 (.string ⟨(textI most st).1.toArray⟩) w):=by
 have H:=qH h
 cases st with
 | none =>
  clear h;go_enter Tryz.func85,Tryz.ntmps85;go_wp2_with fail;refine (bad_b H.out).mono ?_;rintro e w1 ⟨rfl,rfl⟩;go_wp2_with fail;go_ret
  exact ⟨rfl,H.out,Keeps.refl _ _⟩
 | some l =>
  obtain ⟨n,hb,h1,h2,hl⟩:=h.some_;have c1:w.cell? ⟨g,1,none⟩=_:=hb.cell 1;have hlt:=hb.lt;simp at c1
  have hsz:s.size≤9223372036854775807:=h2;clear hb h;generalize hR:textI most (some l)=R;go_enter Tryz.func85,Tryz.ntmps85;go_wp2_with fail;refine (bad_b H.out).mono ?_;rintro e w1 ⟨rfl,rfl⟩;go_wp2_with fail;refine (num_in most H.out).mono ?_;rintro e w2 ⟨rfl,h3,h4⟩;have HB:=qH h4;have H3:=qH h3;clear h4 H c1;have hlt2:=h3.lt;unfold textI textR at hR;unfold numI at h3 H3 ⊢;dsimp only at h3 H3 hR ⊢
  cases hn:numR most l with
  | none =>
   rw [hn] at H3 hR;dsimp only at H3 hR ⊢;have HRN:=qH hR.symm;clear hR h3;go_wp2_with fail;refine wp_region_mono nobody (by kernel_rfl) ?_;refine qT 0 (v:=?_) ?_ ?_;rotate_left
   ·(intro W hSw;(have hcW:=hSw.cells;try simp only [qSd] at hcW);go_simp <;> rfl)
   try simp only [qPA]
   refine wpMono_one' 1 (by kernel_rfl) rfl (by rfl) (fun K hK=>?_)
   go_simp
   refine (bad_b H3.out.drew).mono ?_;rintro e w3 ⟨rfl,rfl⟩;refine hK.out _ _ ?_ ?_
   ·exact .refl _ _
   clear hK K
   try simp only [qPA]
   refine qT 2 (v:=?_) ?_ ?_;rotate_left
   ·(intro W hSw;(have hcW:=hSw.cells;try simp only [qSd] at hcW);go_simp <;> rfl)
   try simp only [qPA]
   refine wpMono_skip' 3 rfl (by kernel_rfl) (by kernel_rfl) (by kernel_rfl) (fun _ _ _ h=>h) (by rfl) ?_
   try simp only [qPA]
   refine wpMono_skip' 4 rfl (by kernel_rfl) (by kernel_rfl) (by kernel_rfl) (fun _ _ _ h=>h) (by rfl) ?_
   try simp only [qPA]
   refine wpMono_skip' 5 rfl (by kernel_rfl) (by kernel_rfl) (by kernel_rfl) (fun _ _ _ h=>h) (by rfl) ?_
   try simp only [qPA]
   refine wpMono_skip' 6 rfl (by kernel_rfl) (by kernel_rfl) (by kernel_rfl) (fun _ _ _ h=>h) (by rfl) ?_
   try simp only [qPA]
   refine wpMono_skip' 7 rfl (by kernel_rfl) (by kernel_rfl) (by kernel_rfl) (fun _ _ _ h=>h) (by rfl) ?_
   try simp only [qPA]
   refine wpMono_skip' 8 rfl (by kernel_rfl) (by kernel_rfl) (by kernel_rfl) (fun _ _ _ h=>h) (by rfl) ?_
   try simp only [qPA]
   refine wpMono_skip' 9 rfl (by kernel_rfl) (by kernel_rfl) (by kernel_rfl) (fun _ _ _ h=>h) (by rfl) ?_
   try simp only [qPA]
   refine wpMono_skip' 10 rfl (by kernel_rfl) (by kernel_rfl) (by kernel_rfl) (fun _ _ _ h=>h) (by rfl) ?_
   try simp only [qPA]
   refine wpMono_skip' 11 rfl (by kernel_rfl) (by kernel_rfl) (by kernel_rfl) (fun _ _ _ h=>h) (by rfl) ?_
   try simp only [qPA]
   refine wpMono_skip' 12 rfl (by kernel_rfl) (by kernel_rfl) (by kernel_rfl) (fun _ _ _ h=>h) (by rfl) ?_
   try simp only [qPA]
   refine wpMono_skip' 13 rfl (by kernel_rfl) (by kernel_rfl) (by kernel_rfl) (fun _ _ _ h=>h) (by rfl) ?_
   try simp only [qPA]
   refine wpMono_skip' 14 rfl (by kernel_rfl) (by kernel_rfl) (by kernel_rfl) (fun _ _ _ h=>h) (by rfl) ?_
   try simp only [qPA]
   refine qT 15 (v:=?_) ?_ ?_;rotate_left
   ·(intro W hSw;(have hcW:=hSw.cells;try simp only [qSd] at hcW);go_simp <;> rfl)
   try simp only [qPA]
   refine wpMono_done (by kernel_rfl) ?_ _;go_wp2_with fail;refine (wrong_bad _ H3.out.drew).mono ?_;rintro e w3 ⟨rfl,rfl⟩;go_wp2_with fail;go_ret
   rw [HRN.out];exact ⟨rfl,H3.out.drew,HB.out.trans Keeps.drew⟩
  | some q =>
   obtain ⟨k,r⟩:=q;rw [hn] at h3 H3 hR;dsimp only at h3 H3 hR ⊢;obtain ⟨p,hb,hp,_,hr⟩:=h3.some_;have c1':w2.cell? ⟨g,1,none⟩=_:=hb.cell 1;have c0':w2.cell? ⟨g,0,none⟩=_:=hb.cell 0;have f1:=hb.frozen 1;simp at c1' c0'
   have hrl:r.length=s.size-p:=by rw [←hr,List.length_drop];rfl
   have Hb:=qH hb;have hwr:=IntWalk.i64_in ((s.size:Int)-(p:Int)) (by omega);clear h3
   by_cases hk:k≤r.length
   ·rw [if_pos hk] at hR
    have HRN:=qH hR.symm;have dk:decide (((s.size:Int)-(p:Int))<(k:Int))=false:=decide_eq_false (by omega);have hpk:p+k≤s.size:=by omega
    have f1':∀ n,(w2.drewN n).frozen? ⟨g,1,none⟩=false:=fun _=>f1;clear hR;go_wp2_with fail;refine wp_region_mono nobody (by kernel_rfl) ?_;refine qT 0 (v:=?_) ?_ ?_;rotate_left
    ·(intro W hSw;(have hcW:=hSw.cells;try simp only [qSd] at hcW);go_simp <;> rfl)
    try simp only [qPA]
    (try rw [hwr])
    refine wpMono_one' 1 (by kernel_rfl) rfl (by rfl) (fun K hK=>?_)
    go_simp
    refine (bad_b H3.out.drew).mono ?_;rintro e w3 ⟨rfl,rfl⟩;refine hK.out _ _ ?_ ?_
    ·exact .refl _ _
    clear hK K
    try simp only [qPA]
    (try rw [hwr])
    iterate 14
     first|refine qT 2 (v:=?_) ?_ ?_|refine qT 3 (v:=?_) ?_ ?_|refine qT 4 (v:=?_) ?_ ?_|refine qT 5 (v:=?_) ?_ ?_|refine qT 6 (v:=?_) ?_ ?_|refine qT 7 (v:=?_) ?_ ?_|refine qT 8 (v:=?_) ?_ ?_|refine qT 9 (v:=?_) ?_ ?_|refine qT 10 (v:=?_) ?_ ?_|refine qT 11 (v:=?_) ?_ ?_|refine qT 12 (v:=?_) ?_ ?_|refine qT 13 (v:=?_) ?_ ?_|refine qT 14 (v:=?_) ?_ ?_|refine qT 15 (v:=?_) ?_ ?_
     rotate_left
     ·(intro W hSw;(have hcW:=hSw.cells;try simp only [qSd] at hcW);go_simp <;> rfl)
     try simp only [qPA]
     (try rw [hwr])
    refine wpMono_done (by kernel_rfl) ?_ _;have c1'':w2.drew.cell? ⟨g,1,none⟩=some (.int .i64 (p:Nat)):=c1';have f1'':w2.drew.frozen? ⟨g,1,none⟩=false:=f1;go_wp2_with fail;have hb2:=at_put Hb.out (p+k) ((p:Int)+k) (by omega);have c2:(w2.setCell ⟨g,1,none⟩ (.int .i64 ((p:Int)+k))).cell? ⟨g,1,none⟩=_:=hb2.cell 1;have c2':(w2.setCell ⟨g,1,none⟩ (.int .i64 ((p:Int)+k))).cell? ⟨g,0,none⟩=_:=hb2.cell 0;simp at c2 c2'
    have HI:=qH (inb_at hb2 hpk h2);have HK:=qH (HB.out.trans (Keeps.set1 w2 g 1 (.int .i64 ((p:Int)+k))));clear hb2 hb
    go_quiet (fail)
    rename_i nq
    go_wp2_with fail;go_ret
    rw [HRN.out];refine ⟨by rw [text_is hpk,hr];rfl,?_,HK.out.trans (Keeps.drew.trans (Keeps.drewN _))⟩;have:=HI.out.drew.drewI nq;rw [show s.data.toList.drop (p+k)=r.drop k by rw [←hr,List.drop_drop]] at this;exact this
   ·rw [if_neg hk] at hR
    have HRN:=qH hR.symm;have dk:decide (((s.size:Int)-(p:Int))<(k:Int))=true:=decide_eq_true (by omega);clear hR hb;go_wp2_with fail;refine wp_region_mono nobody (by kernel_rfl) ?_;refine qT 0 (v:=?_) ?_ ?_;rotate_left
    ·(intro W hSw;(have hcW:=hSw.cells;try simp only [qSd] at hcW);go_simp <;> rfl)
    try simp only [qPA]
    (try rw [hwr])
    refine wpMono_one' 1 (by kernel_rfl) rfl (by rfl) (fun K hK=>?_)
    go_simp
    refine (bad_b H3.out.drew).mono ?_;rintro e w3 ⟨rfl,rfl⟩;refine hK.out _ _ ?_ ?_
    ·exact .refl _ _
    clear hK K
    try simp only [qPA]
    (try rw [hwr])
    iterate 14
     first|refine qT 2 (v:=?_) ?_ ?_|refine qT 3 (v:=?_) ?_ ?_|refine qT 4 (v:=?_) ?_ ?_|refine qT 5 (v:=?_) ?_ ?_|refine qT 6 (v:=?_) ?_ ?_|refine qT 7 (v:=?_) ?_ ?_|refine qT 8 (v:=?_) ?_ ?_|refine qT 9 (v:=?_) ?_ ?_|refine qT 10 (v:=?_) ?_ ?_|refine qT 11 (v:=?_) ?_ ?_|refine qT 12 (v:=?_) ?_ ?_|refine qT 13 (v:=?_) ?_ ?_|refine qT 14 (v:=?_) ?_ ?_|refine qT 15 (v:=?_) ?_ ?_
     rotate_left
     ·(intro W hSw;(have hcW:=hSw.cells;try simp only [qSd] at hcW);go_simp <;> rfl)
     try simp only [qPA]
     (try rw [hwr])
    refine wpMono_done (by kernel_rfl) ?_ _;go_wp2_with fail;refine (wrong_b _ H3.out.drew).mono ?_;rintro e w3 ⟨rfl,h5,h6⟩;have HR:=qH (show GotB g s none (.string ⟨#[]⟩) w1 (.returned (.string ⟨#[]⟩)) w3 from ⟨rfl,h5,(HB.out.trans Keeps.drew).trans h6⟩);clear h5 h6;go_wp2_with fail;go_ret
    rw [HRN.out];exact HR.out
def endC (st:Rd):Int:=match st with|some []=>0|_=>2
def EndR (st:Rd) (w:World) (e:Ending) (w':World):Prop:=∃ x,e=.returned x∧EO w' x (endC st)∧Below w.heap.size w w'
theorem end_in (h:InB w g s st):Calls Tryz.prog 82 #[.pointer (some ⟨g,0,none⟩)] w (EndR st w):=by
 cases st with
 | none =>
  obtain ⟨n,x,hb,h1,h2,h3⟩:=h;have c2:w.cell? ⟨g,2,none⟩=_:=hb.cell 2;have hlt:=hb.lt;simp at c2
  clear hb
  rcases h3 with ⟨l,h,_⟩|⟨_,k,hk,herr⟩
  ·cases h
  ·have HE:=qH (show EO w x 2 from .inr ⟨by decide,herr.err,by obtain ⟨rfl,_⟩:=herr;simp⟩)
   obtain ⟨rfl,herr⟩:=herr;clear herr hk;go_enter Tryz.func82,Tryz.ntmps82;go_wp2_with fail
   go_quiet (fail)
   go_wp2_with fail;go_ret
   exact ⟨_,rfl,HE.out.below (below_drewN (Below.refl _ _) _),below_drewN (Below.refl _ _) _⟩
 | some l =>
  obtain ⟨n,hb,h1,h2,hl⟩:=h.some_;have c0:w.cell? ⟨g,0,none⟩=_:=hb.cell 0;have c1:w.cell? ⟨g,1,none⟩=_:=hb.cell 1;have c2:w.cell? ⟨g,2,none⟩=_:=hb.cell 2;have hlt:=hb.lt;simp at c0 c1 c2
  have hll:l.length=s.size-n:=by rw [←hl,List.length_drop];rfl
  clear hb h hl
  cases l with
  | nil =>
   simp at hll
   have dn:decide (n<s.size)=false:=decide_eq_false (by omega);clear hll;go_enter Tryz.func82,Tryz.ntmps82;go_wp2_with fail
   go_quiet (fail)
   go_wp2_with fail;go_ret
   exact ⟨_,rfl,EO.nil _,below_drewN (Below.refl _ _) _⟩
  | cons a l =>
   simp at hll
   have dn:decide (n<s.size)=true:=decide_eq_true (by omega);have hns:n<s.size:=by omega
   clear hll;go_enter Tryz.func82,Tryz.ntmps82;go_wp2_with fail
   go_quiet (fail)
   rename_i nq
   go_wp2_with fail;refine (at_any _ _ 2 _).mono ?_;rintro e w1 ⟨x,rfl,he,hnn,hb1,hge⟩;have HR:=qH (show EndR (some (a :: l)) w (.returned x) w1 from ⟨x,rfl,.inr ⟨(fun h=>by cases h),he,hnn⟩,(below_drewN (Below.refl _ w) nq).trans hb1⟩);obtain ⟨k,rfl⟩:=he.form;clear he hnn hb1 hge;go_wp2_with fail;go_ret
   exact HR.out
end
end wireb
end Go.Proofs.YthlahcnglacekaaGreatDoor
