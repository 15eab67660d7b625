/- Part of GateRetires. -/
import Derived.Test.YthlahcnglacekaaGreatDoorB01
import Derived.WalkSpells
import Derived.Stop.IfaceNil
set_option maxRecDepth 100000
set_option maxHeartbeats 16000000
namespace Go.Proofs.YthlahcnglacekaaGreatDoor
namespace err
open Go.RowKit base is_
def Err (w:World) (v:Value) (c:Int):Prop:=∃ g,v=.iface 121 (.pointer (some ⟨g,0,none⟩))∧g<w.heap.size∧w.cell? ⟨g,2,none⟩=some (.iface 41 (.int .i64 c))
theorem Err.keeps {X:Nat→Prop} {w w':World} {v:Value} {c:Int} (h:Err w v c) (hk:Keeps X w w') (hx:∀ g,v=.iface 121 (.pointer (some ⟨g,0,none⟩))→¬ X g):Err w' v c:=by
 obtain ⟨g,rfl,h1,h2⟩:=h;exact ⟨g,rfl,Nat.lt_of_lt_of_le h1 hk.size,(hk.cell 2 h1 (hx g rfl)).trans h2⟩
theorem Err.below {w w':World} {v:Value} {c:Int} (h:Err w v c) (hk:Below w.heap.size w w'):Err w' v c :=
 h.keeps (X:=nobody) (.of_below hk) (fun _ _ h=>h)
def ErrNew (c:Int) (w:World) (e:Ending) (w':World):Prop:=∃ v,e=.returned v∧Err w' v c∧v≠.nilIface∧Below w.heap.size w w'∧∀ g,v=.iface 121 (.pointer (some ⟨g,0,none⟩))→w.heap.size≤g
theorem at_any (s:ByteArray) (n c:Int) (w:World):Calls Tryz.prog 15 #[.string s,.int .i64 n,.iface 41 (.int .i64 c)] w (ErrNew c w):=by
 go_enter Tryz.func15,Tryz.ntmps15;go_wp2;go_ret
 refine ⟨_,rfl,⟨_,rfl,by simp,by simp [cell_new]⟩,by simp,(Below.refl _ _).alloc (Nat.le_refl _) _,fun g h=>?_⟩;simp at h;omega
theorem is_err (v:Value) (c c':Int) (w:World) (h:Err w v c) :
  Calls Tryz.prog 9 #[v,.iface 41 (.int .i64 c')] w fun e w'=>e=.returned (.bool (c==c'))∧w=w':=by
 obtain ⟨g,rfl,_,h2⟩:=h;exact is_code g c c' w h2
theorem is_nil (c':Int) (w:World):Calls Tryz.prog 9 #[.nilIface,.iface 41 (.int .i64 c')] w fun e w'=>e=.returned (.bool false)∧w=w':=by
 have hn:=run_eql_iface_nil_left (P:=Tryz.prog) w 41 (.int .i64 c') Tryz.underlying31;go_enter Tryz.func9,Tryz.ntmps9;go_wp2;go_ret
 exact ⟨rfl,rfl⟩
def EO (w:World) (v:Value) (c:Int):Prop:=(c=0∧v=.nilIface)∨(c≠0∧Err w v c∧v≠.nilIface)
theorem EO.below {w w':World} {v:Value} {c:Int} (h:EO w v c) (hk:Below w.heap.size w w'):EO w' v c:=h.imp id fun ⟨a,b,d⟩=>⟨a,b.below hk,d⟩
theorem EO.keeps {X:Nat→Prop} {w w':World} {v:Value} {c:Int} (h:EO w v c) (hk:Keeps X w w') (hx:∀ g,v=.iface 121 (.pointer (some ⟨g,0,none⟩))→¬ X g):EO w' v c:=h.imp id fun ⟨a,b,d⟩=>⟨a,b.keeps hk hx,d⟩
theorem EO.nil (w:World):EO w .nilIface 0:=.inl ⟨rfl,rfl⟩
theorem is_eo (v:Value) (c c':Int) (w:World) (h:EO w v c):Calls Tryz.prog 9 #[v,.iface 41 (.int .i64 c')] w fun e w'=>e=.returned (.bool (decide (c≠0)&&(c==c')))∧w=w':=by
 rcases h with ⟨rfl,rfl⟩|⟨h,he,_⟩
 ·exact is_nil c' w
 ·rw [decide_eq_true h,Bool.true_and]
  exact is_err v c c' w he
theorem Err.form {w:World} {v:Value} {c:Int} (h:Err w v c):∃ g,v=.iface 121 (.pointer (some ⟨g,0,none⟩)):=by obtain ⟨g,h,_⟩:=h;exact ⟨g,h⟩
theorem EO.form {w:World} {v:Value} {c:Int} (h:EO w v c) (hc:c≠0):∃ g,v=.iface 121 (.pointer (some ⟨g,0,none⟩)):=by
 rcases h with ⟨h,_⟩|⟨_,h,_⟩
 ·exact absurd h hc
 ·exact h.form
end err
namespace ringw
open Go Go.RowKit base err
def RingB (w:World) (g:Nat) (m:ByteArray) (n:Nat):Prop:=Blk w g 146 #[.string m,.int .i64 n]
theorem new_ok (m:ByteArray) (n:Nat) (h1:1≤m.size) (h2:m.size≤64) (hn:n≤1099511627776) (w:World) :
  Calls Tryz.prog 30 #[.string m,.int .i64 n] w fun e w'=>e=.returned (.tuple #[.pointer (some ⟨w.heap.size,0,none⟩),.nilIface])∧RingB w' w.heap.size m n∧Below w.heap.size w w':=by
 have d1:decide ((m.size:Int)<1)=false:=decide_eq_false (by omega);have d2:decide ((64:Int)<(m.size:Int))=false:=decide_eq_false (by omega);have d3:decide ((n:Int)<0)=false:=decide_eq_false (by omega);have d4:decide ((1099511627776:Int)<(n:Int))=false:=decide_eq_false (by omega);have n1:¬ m.size=0:=by omega
 go_enter Tryz.func30,Tryz.ntmps30;go_wp2;go_ret2
 exact ⟨rfl,Blk.new _ _ _,below_new _ _⟩
theorem current_any (g:Nat) (m:ByteArray) (n:Nat) (w:World) (h:RingB w g m n):Calls Tryz.prog 21 #[.pointer (some ⟨g,0,none⟩)] w fun e w'=>e=.returned (.int .i64 n)∧w'=w:=by
 have c1:w.cell? ⟨g,1,none⟩=_:=h.cell 1;have hlt:=h.lt;simp at c1
 clear h;go_enter Tryz.func21,Tryz.ntmps21;go_wp2;go_ret
 exact ⟨rfl,rfl⟩
def RaiseR (g:Nat) (m:ByteArray) (n k:Nat) (w:World) (e:Ending) (w':World):Prop:=(∃ b,e=.returned (.bool b))∧RingB w' g m (max n k)∧Keeps (· = g) w w'
theorem raise_any (g:Nat) (m:ByteArray) (n k:Nat) (hk:k≤1099511627776) (w:World) (h:RingB w g m n):Calls Tryz.prog 24 #[.pointer (some ⟨g,0,none⟩),.int .i64 k] w (RaiseR g m n k w):=by
 have c1:w.cell? ⟨g,1,none⟩=_:=h.cell 1;have f1:=h.frozen 1;have hlt:=h.lt;simp at c1
 have H:=qH h;clear h;have d4:decide ((1099511627776:Int)<(k:Int))=false:=decide_eq_false (by omega)
 by_cases hkn:k≤n
 ·have d1:decide ((k:Int)≤(n:Int))=true:=decide_eq_true (by omega)
  have HM:=qH (show max n k=n from by omega);go_enter Tryz.func24,Tryz.ntmps24;go_wp2;go_ret
  exact ⟨⟨_,rfl⟩,by rw [HM.out];exact H.out,Keeps.refl _ _⟩
 ·have d1:decide ((k:Int)≤(n:Int))=false:=decide_eq_false (by omega)
  have HM:=qH (show max n k=k from by omega);have hlk:n<k:=by omega
  clear hkn;go_enter Tryz.func24,Tryz.ntmps24;go_wp2;go_ret
  exact ⟨⟨_,rfl⟩,by rw [HM.out];exact H.out.set_ 1 _,Keeps.set1 _ _ _ _⟩
end ringw
namespace wire
open Go.RowKit base rowe err
theorem byte_info:(Tryz.prog.info? 5).map (fun i=>(i.zero,i.size,i.bytes))=some (some (.int .u8 0),1,1):=by kernel_rfl
def IsU8 (u:Value):Prop:=∃ b:Int,u=.int .u8 b
theorem IsU8.one {u:Value} (h:IsU8 u):u.oneCell'=true:=by obtain ⟨b,rfl⟩:=h;rfl
def Row8 (w:World) (base:Nat) (v:Value) (n:Nat):Prop:=∃ xs,w.ownsRow base 5 1 v n xs∧∀ u ∈ xs,IsU8 u
def NumR (base:Nat) (m:Nat) (w:World) (e:Ending) (w':World):Prop:=∃ v' k,e=.returned v'∧m<k∧k≤m+9∧Row8 w' base v' k∧Below base w w'
theorem one_more {ys:List Value} {u:Value} (h:∀ u ∈ ys,IsU8 u) (hu:IsU8 u):∀ x ∈ ys++[u],IsU8 x:=by
 intro x hx
 rcases List.mem_append.1 hx with hx|hx
 ·exact h x hx
 ·rw [List.mem_singleton.1 hx];exact hu
theorem pow7 (i q n:Nat) (h:q*128 ^ i≤n) (hn:n<9223372036854775808) (hq:128≤q):q / 128*128 ^ (i+1)≤n∧i+1≤8:=by
 have h1:q / 128*128≤q:=Nat.div_mul_le_self q 128
 have h2:q / 128*128 ^ (i+1)≤q*128 ^ i:=by
  rw [Nat.pow_succ,Nat.mul_comm (128 ^ i) 128,←Nat.mul_assoc];exact Nat.mul_le_mul_right _ h1
 refine ⟨Nat.le_trans h2 h,?_⟩
 rcases Nat.lt_or_ge i 8 with h3|h3
 ·exact h3
 ·have h4:128 ^ 8≤128 ^ i:=Nat.pow_le_pow_right (by decide) h3
  have h5:128*128 ^ 8≤q*128 ^ i:=Nat.mul_le_mul hq h4;have h6:(128:Nat)*128 ^ 8=9223372036854775808:=by decide
  omega
theorem number_any (v:Value) (m n:Nat) (base:Nat) (w:World) (hv:Row8 w base v m) (hn:n<9223372036854775808) (hm:m≤1000000) (hb:base≤w.heap.size) :
  Calls Tryz.prog 122 #[v,.int .i64 n] w (NumR base m w):=by
 obtain ⟨i0,hi,hz⟩:=Option.map_eq_some_iff.1 byte_info;simp only [Prod.mk.injEq] at hz;obtain ⟨hz0,hz1,hz2⟩:=hz;obtain ⟨xs,hx,hu⟩:=hv;have Hx:=qH hx;have Hn:=qH hn;have Hu:=qH hu;clear hx hn hu;go_enter Tryz.func122,Tryz.ntmps122;go_wp2
 go_loopw [0,1] (fun s0 s1 wr'=>∃ i q:Nat,∃ ys,s1=.int .i64 q∧q*128 ^ i≤n∧i≤8∧wr'.ownsRow base 5 1 s0 (m+i) ys∧(∀ u ∈ ys,IsU8 u)∧Below base w wr') (fun _ s1 _=>(intOf s1).toNat)
 case atStart=>exact ⟨0,n,xs,rfl,by simp,by omega,Hx.out,Hu.out,Below.refl _ _⟩
 case round =>
  clear Hx Hu;obtain ⟨i,q,ys,rfl,hq,hi8,hown,hu,hbw⟩:=hrel;have hws:base≤wr.heap.size:=Nat.le_trans hb hbw.size
  by_cases hlt:128≤q
  ·have d1:decide ((128:Int)≤(q:Int))=true:=by simp;omega
   obtain ⟨hq2,hi9⟩:=pow7 i q n hq Hn.out hlt;have Hq:=qH hq;have Hown:=qH hown;have Hbw:=qH hbw;have Hu:=qH hu;have Hq2:=qH hq2;clear hq hown hbw hu hq2
   go_wp2_with (at_builtin;refine wpList_append_newAt rfl (.tmp 7) (.tmp 11) _ rfl base 5 i0 _ 1 1 Tryz.underlying86 hi hz0 hz1 hz2 rfl (by decide) _ (m+i) _ rfl Hown.out 1 1 wr.heap.size (by simp) [_] rfl rfl (by simp [Value.oneCell']) (by unfold maxLen;omega) (by omega) hws ?_;intro v1 w5 hown1 hbw1 hgr1 hwh1;have Hown1:=qH hown1;have Hbw1:=qH (Hbw.out.trans hbw1);clear hown1 hbw1 hgr1 hwh1)
   go_roundw
   case rel=>exact ⟨i+1,q / 128,_,by go_num,Hq2.out,hi9,Hown1.out,one_more Hu.out ⟨_,rfl⟩,Hbw1.out⟩
   case measure=>simp [intOf];omega
  ·have d1:decide ((128:Int)≤(q:Int))=false:=by simp;omega
   have Hq:=qH hq;have Hown:=qH hown;have Hbw:=qH hbw;have Hu:=qH hu;clear hq hown hbw hu
   go_wp2_with (at_builtin;refine wpList_append_newAt rfl (.tmp 15) (.tmp 18) _ rfl base 5 i0 _ 1 1 Tryz.underlying86 hi hz0 hz1 hz2 rfl (by decide) _ (m+i) _ rfl Hown.out 1 1 wr.heap.size (by simp) [_] rfl rfl (by simp [Value.oneCell']) (by unfold maxLen;omega) (by omega) hws ?_;intro v1 w5 hown1 hbw1 hgr1 hwh1;have Hown1:=qH hown1;have Hbw1:=qH (Hbw.out.trans hbw1);clear hown1 hbw1 hgr1 hwh1)
   go_ret
   exact ⟨_,m+i+1,rfl,by omega,by omega,⟨_,Hown1.out,one_more Hu.out ⟨_,rfl⟩⟩,Hbw1.out⟩
end wire
namespace wire
open Go.RowKit base rowe err
def OutS (w:World) (g n:Nat):Prop:=∃ v,Blk w g 226 #[v,.nilIface]∧Row8 w (g+1) v n
def PutR (g n:Nat) (w:World) (e:Ending) (w':World):Prop:=e=.returned noResult∧OutS w' g n∧Below g w w'
theorem Row8.keeps {X:Nat→Prop} {w w':World} {base n:Nat} {v:Value} (h:Row8 w base v n) (hk:Keeps X w w') (hx:∀ i,base≤i→¬ X i):Row8 w' base v n:=by
 obtain ⟨xs,h1,h2⟩:=h;exact ⟨xs,own_keeps h1 hk hx,h2⟩
theorem Row8.form {w:World} {base n:Nat} {v:Value} (h:Row8 w base v n):∃ A c,v=.slice A n c:=by
 obtain ⟨xs,h1,_⟩:=h;exact ownsRow_slice h1
theorem put_any (g n m:Nat) (A:Option Addr) (c:Nat) (w:World) (h:OutS w g n) (hm:Row8 w (g+1) (.slice A m c) m) (hr:n+m≤65536) :
  Calls Tryz.prog 121 #[.pointer (some ⟨g,0,none⟩),.slice A m c] w (PutR g (n+m) w):=by
 obtain ⟨i0,hi,hz⟩:=Option.map_eq_some_iff.1 byte_info;simp only [Prod.mk.injEq] at hz;obtain ⟨hz0,hz1,hz2⟩:=hz;obtain ⟨v,hb,xs,hx,hu⟩:=h;obtain ⟨ys,hy,hyu⟩:=hm;obtain ⟨A',c',rfl⟩:=ownsRow_slice hx;have c0:w.cell? ⟨g,0,none⟩=_:=hb.cell 0;have c1:w.cell? ⟨g,1,none⟩=_:=hb.cell 1;have hlt:=hb.lt;simp at c0 c1
 have d1:decide ((65536:Int)-(n:Int)<(m:Int))=false:=by simp;omega
 have Hb:=qH hb;have Hx:=qH hx;have Hu:=qH hu;have Hy:=qH hy;have Hyu:=qH hyu;clear hb hx hu hy hyu;go_enter Tryz.func121,Tryz.ntmps121
 go_wp2_with (at_builtin;refine wpList_append_any _ rfl (.tmp 8) (.tmp 9) _ rfl (g+1) 5 i0 _ 1 1 Tryz.underlying86 hi hz0 hz1 hz2 rfl (by decide) (.slice A' n c') n _ rfl Hx.out _ A m c _ rfl (Reads.of_own Hy.out) (fun u hu=>(Hyu.out u hu).one) (by unfold maxLen;omega) (by omega) hlt ?_;intro v1 w5 hown1 hg1 ho1;obtain ⟨A1,c9,rfl⟩:=ownsRow_slice hown1;have hb5:=Hb.out.grown hg1 (fun e=>by have:=(Hx.out.lt _ e.symm).1;omega);have k0:w5.cell? ⟨g,0,none⟩=some (.slice A' n c'):=hb5.cell 0;have k1:=hb5.frozen 0;have k2:=hb5.lt;have Hb5:=qH hb5;have Hown1:=qH hown1;have Hg1:=qH hg1;clear hb5 hown1 hg1 ho1)
 refine bodyPost_end (v:=.tuple #[]) (by simp [results,Tryz.results121,go_sem]) rfl ?_;have hk:Keeps (fun i=>g≤i) w w5:=.grown Hg1.out fun i hi=>.inl (by have:=(Hx.out.lt _ hi).1;omega);refine ⟨rfl,⟨_,Hb5.out.set_ 0 _,_,own_keeps Hown1.out (Keeps.set1 w5 g 0 _) (fun i hi e=>by omega),?_⟩,(hk.trans ((Keeps.set1 w5 g 0 _).more fun i _ hi=>by omega)).below (fun i hi e=>by omega) (by omega)⟩;intro u hu
 rcases List.mem_append.1 hu with hu|hu
 ·exact Hu.out u hu
 ·exact Hyu.out u hu
theorem Row8.base {w:World} {b b' n:Nat} {v:Value} (h:Row8 w b v n) (hb:b'≤b):Row8 w b' v n:=by
 obtain ⟨xs,⟨h1,h2⟩,hu⟩:=h;refine ⟨xs,⟨h1,h2.imp id ?_⟩,hu⟩;rintro ⟨g,cap,cur,e,h3,h4⟩;exact ⟨g,cap,cur,e,Nat.le_trans hb h3,h4⟩
theorem Row8.none (w:World) (base:Nat):Row8 w base (.slice none 0 0) 0:=⟨[],⟨rfl,.inl ⟨rfl,rfl⟩⟩,by simp⟩
theorem OutS.below {w w':World} {g n:Nat} (h:OutS w g n) (hb:Below w.heap.size w w'):OutS w' g n:=by
 obtain ⟨v,h1,h2⟩:=h;exact ⟨v,h1.below hb h1.lt,h2.keeps (X:=nobody) (.of_below hb) (fun _ _ h=>h)⟩
theorem OutS.lt {w:World} {g n:Nat} (h:OutS w g n):g<w.heap.size:=by obtain ⟨v,h1,_⟩:=h;exact h1.lt
def PutsR (g lo hi:Nat) (w:World) (e:Ending) (w':World):Prop:=e=.returned noResult∧(∃ n',lo≤n'∧n'≤hi∧OutS w' g n')∧Below g w w'
theorem num_any (g n k:Nat) (w:World) (h:OutS w g n) (hk:k≤4611686018427387903) (hr:n+9≤65536) :
  Calls Tryz.prog 55 #[.pointer (some ⟨g,0,none⟩),.int .i64 k] w (PutsR g n (n+9) w):=by
 obtain ⟨v,hb,hv⟩:=id h;have c1:w.cell? ⟨g,1,none⟩=_:=hb.cell 1;have hlt:=hb.lt;simp at c1
 have d1:decide ((k:Int)<0)=false:=by simp
 have d2:decide ((4611686018427387903:Int)<(k:Int))=false:=by simp;omega
 have d3:¬ (k:Int)<0:=by omega
 have H:=qH h;clear h;clear hb hv;go_enter Tryz.func55,Tryz.ntmps55;go_wp2_with fail;refine (number_any (.slice none 0 0) 0 k w.heap.size _ (Row8.none _ _) (by omega) (by omega) (Nat.le_refl _)).mono ?_;rintro e w1 ⟨v1,m,rfl,h1,h2,h3,h4⟩;obtain ⟨A1,c1',rfl⟩:=h3.form;have H2:=qH (H.out.below h4);have H3:=qH h3;have H4:=qH h4;clear h3 h4;go_wp2_with fail;refine (put_any g n m A1 c1' _ H2.out (H3.out.base (by omega)) (by omega)).mono ?_;rintro e w2 ⟨rfl,h5,h6⟩;have hR:PutsR g n (n+9) w (.returned (.tuple #[])) w2:=⟨rfl,⟨n+m,by omega,by omega,h5⟩,(H4.out.mono (by omega)).trans h6⟩;have HR:=qH hR;clear hR h5 h6;go_wp2;exact bodyPost_end (v:=.tuple #[]) (by simp [results,Tryz.results55,go_sem]) rfl HR.out
theorem strCells_u8 (s:ByteArray):∀ u ∈ Lib.strCells s,IsU8 u:=by
 intro u hu;simp only [Lib.strCells,List.mem_map] at hu;obtain ⟨b,_,rfl⟩:=hu;exact ⟨_,rfl⟩
theorem text_any (g n:Nat) (s:ByteArray) (w:World) (h:OutS w g n) (hs:s.size≤4096) (hr:n+4096+9≤65536) :
  Calls Tryz.prog 166 #[.pointer (some ⟨g,0,none⟩),.string s] w (PutsR g n (n+s.size+9) w):=by
 obtain ⟨i0,hi,hz⟩:=Option.map_eq_some_iff.1 byte_info;simp only [Prod.mk.injEq] at hz;obtain ⟨hz0,hz1,hz2⟩:=hz;have hlt:=h.lt;have H:=qH h;clear h;go_enter Tryz.func166,Tryz.ntmps166;go_wp2_with fail;refine (number_any (.slice none 0 0) 0 s.size w.heap.size _ (Row8.none _ _) (by omega) (by omega) (Nat.le_refl _)).mono ?_;rintro e w1 ⟨v1,m,rfl,h1,h2,h3,h4⟩;obtain ⟨A1,c1',rfl⟩:=h3.form;obtain ⟨xs,h3,hu⟩:=h3;have H2:=qH (H.out.below h4);have hsz:=h4.size;have hlt2:=H2.out.lt;have H3:=qH h3;have H4:=qH h4;have Hu:=qH hu;clear h3 h4 hu
 go_wp2_with (at_builtin;refine Lib.wpList_append_own_string _ rfl (.tmp 7) (.tmp 8) _ _ rfl w.heap.size 5 i0 Tryz.underlying86 Tryz.underlying9 hi hz0 hz1 hz2 (.slice A1 m c1') m xs rfl H3.out s rfl (by unfold maxLen;omega) (by omega) hsz ?_;intro v5 w5 hown5 hg5 _;obtain ⟨A5,c5,rfl⟩:=ownsRow_slice hown5;have Hown5:=qH hown5;have Hg5:=qH hg5;clear hown5 hg5)
 have hk5:Keeps (fun i=>w.heap.size≤i) w1 w5:=.grown Hg5.out fun i hi=>.inl (H3.out.lt _ hi).1;have hb5:Below w.heap.size w w5:=H4.out.trans (hk5.below (fun i hi e=>by omega) hsz)
 have h5:Row8 w5 w.heap.size (.slice A5 (m+s.size) c5) (m+s.size):=⟨_,Hown5.out,fun u hu=>by
  rcases List.mem_append.1 hu with hu|hu
  ·exact Hu.out u hu
  ·exact strCells_u8 s u hu⟩
 have Hb5:=qH hb5;have H5:=qH h5;clear hb5 h5;clear hk5;refine (put_any g n (m+s.size) A5 c5 _ (H.out.below Hb5.out) (H5.out.base (by omega)) (by omega)).mono ?_;rintro e w2 ⟨rfl,h5,h6⟩;have hR:PutsR g n (n+s.size+9) w (.returned (.tuple #[])) w2:=⟨rfl,⟨n+(m+s.size),by omega,by omega,h5⟩,(Hb5.out.mono (by omega)).trans h6⟩;have HR:=qH hR;clear hR h5 h6;go_wp2;exact bodyPost_end (v:=.tuple #[]) (by simp [results,Tryz.results166,go_sem]) rfl HR.out
theorem flag_any (g n:Nat) (b:Bool) (w:World) (h:OutS w g n) (hr:n+9≤65536) :
  Calls Tryz.prog 232 #[.pointer (some ⟨g,0,none⟩),.bool b] w (PutsR g n (n+9) w):=by
 have H:=qH h;clear h
 cases b
 ·go_enter Tryz.func232,Tryz.ntmps232
  go_wp2_with fail;refine (num_any g n 0 _ H.out (by decide) hr).mono ?_;rintro e w1 ⟨rfl,h1,h2⟩;have HR:=qH (show PutsR g n (n+9) w (.returned (.tuple #[])) w1 from ⟨rfl,h1,h2⟩);clear h1 h2;go_wp2;exact bodyPost_end (v:=.tuple #[]) (by simp [results,Tryz.results232,go_sem]) rfl HR.out
 ·go_enter Tryz.func232,Tryz.ntmps232
  go_wp2_with fail;refine (num_any g n 1 _ H.out (by decide) hr).mono ?_;rintro e w1 ⟨rfl,h1,h2⟩;have HR:=qH (show PutsR g n (n+9) w (.returned (.tuple #[])) w1 from ⟨rfl,h1,h2⟩);clear h1 h2;go_wp2;exact bodyPost_end (v:=.tuple #[]) (by simp [results,Tryz.results232,go_sem]) rfl HR.out
end wire
namespace wire
open Go.RowKit base rowe err
def okN (most z:Int):Bool:=decide (0≤z)&&decide (z≤most)
def trB (zs:List Int) (most:Int):Bool:=decide (zs.length≤16)&&(!(decide (0<zs.length)&&decide (zs.getD (zs.length-1) 0=0))&&zs.all (okN most))
theorem all_drop (zs:List Int) (p:Int→Bool) (n:Nat) (h:∀ k,k<n→p (zs.getD k 0)=true):n≤zs.length→zs.all p=(zs.drop n).all p:=by
 intro hn
 conv=>lhs;rw [←List.take_append_drop n zs,List.all_append]
 have:(zs.take n).all p=true:=by
  rw [List.all_eq_true];intro x hx;obtain ⟨k,hk,rfl⟩:=List.getElem_of_mem hx;simp at hk
  have:=h k (by omega);rw [List.getD_eq_getElem?_getD,List.getElem?_eq_getElem (by omega)] at this
  simpa using this
 rw [this,Bool.true_and]
theorem tr_at {zs:List Int} {most:Int} {n:Nat} (hn:n<zs.length) (h:okN most (zs.getD n 0)=false):trB zs most=false:=by
 have:zs.all (okN most)=false:=by
  rw [Bool.eq_false_iff];intro hA;rw [List.all_eq_true] at hA;have:=hA (zs.getD n 0) (by rw [List.getD_eq_getElem?_getD,List.getElem?_eq_getElem hn];simp);rw [h] at this
  cases this
 unfold trB;rw [this,Bool.and_false,Bool.and_false]
theorem tr_all {zs:List Int} {most:Int} (h16:zs.length≤16) (h0:zs.length=0∨zs.getD (zs.length-1) 0≠0) (h:∀ k,k<zs.length→okN most (zs.getD k 0)=true):trB zs most=true:=by
 have h1:zs.all (okN most)=true:=by
  rw [all_drop zs _ zs.length h (Nat.le_refl _),List.drop_length];rfl
 unfold trB;rw [h1,decide_eq_true h16]
 rcases h0 with h0|h0
 ·simp [h0]
 ·rw [decide_eq_false h0];simp
theorem trim_any (A:Option Addr) (m c:Nat) (zs:List Int) (most:Int) (B:Nat) (w:World) (hl:zs.length=m) (hm:m≤maxLen) (hr:Reads w B 1 A m (zs.map (Value.int .i64))) :
  Calls Tryz.prog 142 #[.slice A m c,.int .i64 most] w fun e w'=>e=.returned (.bool (trB zs most))∧w'=w:=by
 unfold maxLen at hm
 by_cases h16:16<m
 ·have hf:trB zs most=false:=by unfold trB;rw [decide_eq_false (by omega)];rfl
  rw [hf];have d1:decide ((16:Int)<(m:Int))=true:=by simp;omega
  clear hr hl hf;go_enter Tryz.func142,Tryz.ntmps142;go_wp2;go_ret
  exact ⟨rfl,rfl⟩
 ·have d1:decide ((16:Int)<(m:Int))=false:=by simp;omega
  by_cases h0:m=0
  ·subst h0
   have ht:trB zs most=true:=tr_all (by omega) (.inl hl) (fun k hk=>by omega);rw [ht];clear hr hl ht;go_enter Tryz.func142,Tryz.ntmps142;go_wp2
   go_loopw [26] (fun i wr'=>i=.int .i64 0∧wr'=w) (fun _ _=>0)
   case atStart=>exact ⟨rfl,rfl⟩
   case round =>
    obtain ⟨rfl,rfl⟩:=hrel;go_wp2;go_ret
    exact ⟨rfl,rfl⟩
  ·obtain ⟨b,off,rfl,hb⟩:=hr.at_some (by omega)
   have d2:decide ((0:Int)<(m:Int))=true:=by simp;omega
   have d3:(m:Int)-1=((m-1:Nat):Int):=by omega
   have hlast:=hr.int (k:=m-1) (by omega);have hz:((m-1:Nat):Int)<(m:Int):=by omega
   have hz2:m-1<m:=by omega
   cases dz:(zs.getD (m-1) 0==0) with
   | true =>
    have hz:zs.getD (m-1) 0=0:=by simpa using dz
    have hf:trB zs most=false:=by unfold trB;rw [hl,hz,decide_eq_true (show 0<m by omega)];simp
    rw [hf];generalize zs.getD (m-1) 0=z at *;clear hr hl hf hz;go_enter Tryz.func142,Tryz.ntmps142;go_wp2;go_ret
    exact ⟨rfl,rfl⟩
   | false =>
    have hz:zs.getD (m-1) 0≠0:=by simpa using dz
    have Hz:=qH hz;have Hl:=qH hl;have Hr:=qH hr;obtain ⟨z,hzd⟩:∃ z,zs.getD (m-1) 0=z:=⟨_,rfl⟩;rw [hzd] at hlast dz;clear hzd;clear hr hl hz;go_enter Tryz.func142,Tryz.ntmps142;go_wp2
    go_loopw [6,26] (fun _ i wr'=>∃ n:Nat,n≤m∧i=.int .i64 n∧(∀ k,k<n→okN most (zs.getD k 0)=true)∧wr'=w) (fun _ i _=>m-(intOf i).toNat)
    case atStart=>exact ⟨0,by omega,rfl,fun k hk=>by omega,rfl⟩
    case round =>
     clear hlast;obtain ⟨n,hn,rfl,hall,rfl⟩:=hrel
     by_cases hlt:n<m
     ·have hcur:=Hr.out.int (k:=n) hlt
      have ht1:=fun h=>tr_at (zs:=zs) (most:=most) (n:=n) (by rw [Hl.out];exact hlt) h
      have hst:okN most (zs.getD n 0)=true→∀ k,k<n+1→okN most (zs.getD k 0)=true:=fun h k hk=>by
       by_cases e:k=n
       ·rw [e];exact h
       ·exact hall k (by omega)
      have Ht1:=qH ht1;have Hst:=qH hst;clear ht1 hst hall;generalize zs.getD n 0=y at *
      cases e1:decide (y<0) with
      | true =>
       have hf:=Ht1.out (by unfold okN;rw [decide_eq_false (by simp at e1;omega)];rfl);have HF:=qH hf;clear hf;go_wp2;go_ret
       exact ⟨ret_bool HF.out.symm,rfl⟩
      | false =>
       cases e2:decide (most<y) with
       | true =>
        have hf:=Ht1.out (by unfold okN;rw [decide_eq_false (p:=y≤most) (by simp at e2;omega),Bool.and_false]);have HF:=qH hf;clear hf;go_wp2;go_ret
        exact ⟨ret_bool HF.out.symm,rfl⟩
       | false =>
        have HS:=qH (Hst.out (by unfold okN;simp at e1 e2;simp;omega));go_wp2;go_roundw
        case rel=>exact ⟨n+1,by omega,by go_num,HS.out,trivial⟩
        case measure=>simp [intOf];omega
     ·obtain rfl:m=n:=by omega
      have ht:trB zs most=true:=tr_all (by rw [Hl.out];omega) (.inr (by rw [Hl.out];exact Hz.out)) (by rw [Hl.out];exact hall);have HT:=qH ht;clear hall ht;go_wp2;go_ret
      exact ⟨ret_bool HT.out.symm,rfl⟩
end wire
namespace wireb
open Go Go.RowKit base rowe err rowc wirep
theorem byte_info:(Tryz.prog.info? 5).map (fun i=>(i.zero,i.size,i.bytes))=some (some (.int .u8 0),1,1):=by kernel_rfl
def OwnB (w:World) (base:Nat) (v:Value) (l:List UInt8):Prop:=w.ownsRow base 5 1 v l.length (byt l)
theorem OwnB.form {w:World} {base:Nat} {v:Value} {l:List UInt8} (h:OwnB w base v l):∃ A c,v=.slice A l.length c:=ownsRow_slice h
theorem OwnB.push {w:World} {base:Nat} {v:Value} {l:List UInt8} {x:Int} {b:UInt8} (h:w.ownsRow base 5 1 v (l.length+1) (byt l++[.int .u8 x])) (hx:x=(b.toNat:Int)):OwnB w base v (l++[b]):=by
 subst hx;unfold OwnB;rw [byt_app,List.length_append];exact h
theorem OwnB.none (w:World) (base:Nat):OwnB w base (.slice none 0 0) []:=⟨rfl,.inl ⟨rfl,rfl⟩⟩
theorem or_nat:∀ x:Fin 256,x.val ||| 128=x.val % 128+128:=by decide +kernel
theorem or_byte (q:Nat):bits BinOp.or .u8 ((q:Int) % 256) 128=((UInt8.ofNat (q % 128+128)).toNat:Int):=by
 have h:=u8_or_nat (q % 256) 128 (by omega) (by omega);rw [or_nat ⟨q % 256,by omega⟩] at h;rw [wirep.byte_of (by omega)];have e:(q % 256) % 128+128=q % 128+128:=by omega
 simp only at h;rw [e] at h;exact h
theorem number_b (v:Value) (l:List UInt8) (n:Nat) (base:Nat) (w:World) (hv:OwnB w base v l) (hn:n<9223372036854775808) (hm:l.length≤1000000) (hb:base≤w.heap.size) :
  Calls Tryz.prog 122 #[v,.int .i64 n] w fun e w'=>∃ v',e=.returned v'∧OwnB w' base v' (l++numW n)∧Below base w w':=by
 obtain ⟨i0,hi,hz⟩:=Option.map_eq_some_iff.1 byte_info;simp only [Prod.mk.injEq] at hz;obtain ⟨hz0,hz1,hz2⟩:=hz;have hlen:=numW_len 8 n (by omega);have Hv:=qH hv;clear hv;go_enter Tryz.func122,Tryz.ntmps122;go_wp2
 go_loopw [0,1] (fun s0 s1 wr'=>∃ (q:Nat) (lp:List UInt8),s1=.int .i64 q∧q<9223372036854775808∧l++numW n=lp++numW q∧wr'.ownsRow base 5 1 s0 lp.length (byt lp)∧Below base w wr') (fun _ s1 _=>(intOf s1).toNat)
 case atStart=>exact ⟨n,l,rfl,hn,rfl,Hv.out,Below.refl _ _⟩
 case round =>
  clear Hv;obtain ⟨q,lp,rfl,hq,hpre,hown,hbw⟩:=hrel;have hws:base≤wr.heap.size:=Nat.le_trans hb hbw.size;have hll:lp.length≤1000010:=by have:=congrArg List.length hpre;rw [List.length_append,List.length_append] at this;omega
  by_cases hlt:128≤q
  ·have d1:decide ((128:Int)≤(q:Int))=true:=by simp;omega
   have HP:=qH (show l++numW n=(lp++[UInt8.ofNat (q % 128+128)])++numW (q / 128) from by rw [hpre,numW_big (by omega),List.append_assoc];rfl);have Hown:=qH hown;have Hbw:=qH hbw;clear hown hbw;clear hpre
   go_wp2_with (at_builtin;refine wpList_append_newAt rfl (.tmp 7) (.tmp 11) _ rfl base 5 i0 _ 1 1 Tryz.underlying86 hi hz0 hz1 hz2 rfl (by decide) _ lp.length _ rfl Hown.out 1 1 wr.heap.size (by simp) [_] rfl rfl (by simp [Value.oneCell']) (by unfold maxLen;omega) (by omega) hws ?_;intro v1 w5 hown1 hbw1 hgr1 hwh1;have Hown1:=qH hown1;have Hbw1:=qH (Hbw.out.trans hbw1);clear hown1 hbw1 hgr1 hwh1)
   go_roundw
   case rel=>exact ⟨q / 128,lp++[UInt8.ofNat (q % 128+128)],by go_num,by omega,HP.out,OwnB.push Hown1.out (or_byte q),Hbw1.out⟩
   case measure=>simp [intOf];omega
  ·have d1:decide ((128:Int)≤(q:Int))=false:=by simp;omega
   have HP:=qH (show l++numW n=lp++[UInt8.ofNat q] from by rw [hpre,numW_small (by omega)]);have Hown:=qH hown;have Hbw:=qH hbw;clear hown hbw;clear hpre
   go_wp2_with (at_builtin;refine wpList_append_newAt rfl (.tmp 15) (.tmp 18) _ rfl base 5 i0 _ 1 1 Tryz.underlying86 hi hz0 hz1 hz2 rfl (by decide) _ lp.length _ rfl Hown.out 1 1 wr.heap.size (by simp) [_] rfl rfl (by simp [Value.oneCell']) (by unfold maxLen;omega) (by omega) hws ?_;intro v1 w5 hown1 hbw1 hgr1 hwh1;have Hown1:=qH hown1;have Hbw1:=qH (Hbw.out.trans hbw1);clear hown1 hbw1 hgr1 hwh1)
   go_ret
   exact ⟨_,rfl,by rw [HP.out];exact OwnB.push Hown1.out (by rw [wirep.byte_of (by omega)]),Hbw1.out⟩
end wireb
namespace wireb
open Go Go.RowKit base rowe err rowc wirep
def OutB (w:World) (g:Nat) (l:List UInt8):Prop:=∃ v t,Blk w g t #[v,.nilIface]∧OwnB w (g+1) v l
def PutB (g:Nat) (l:List UInt8) (w:World) (e:Ending) (w':World):Prop:=e=.returned noResult∧OutB w' g l∧Below g w w'
theorem OutB.lt {w:World} {g:Nat} {l:List UInt8} (h:OutB w g l):g<w.heap.size:=by obtain ⟨v,_,h1,_⟩:=h;exact h1.lt
theorem OwnB.below {w w':World} {b:Nat} {v:Value} {l:List UInt8} (h:OwnB w b v l) (hb:Below w.heap.size w w'):OwnB w' b v l:=own_keeps h (X:=nobody) (.of_below hb) (fun _ _ h=>h)
theorem OutB.below {w w':World} {g:Nat} {l:List UInt8} (h:OutB w g l) (hb:Below w.heap.size w w'):OutB w' g l:=by
 obtain ⟨v,t,h1,h2⟩:=h;exact ⟨v,t,h1.below hb h1.lt,h2.below hb⟩
theorem OwnB.base_ {w:World} {b b':Nat} {v:Value} {l:List UInt8} (h:OwnB w b v l) (hb:b'≤b):OwnB w b' v l:=by
 obtain ⟨h1,h2⟩:=h;refine ⟨h1,h2.imp id ?_⟩;rintro ⟨g,cap,cur,e,h3,h4⟩;exact ⟨g,cap,cur,e,Nat.le_trans hb h3,h4⟩
theorem put_b (g:Nat) (l k:List UInt8) (A:Option Addr) (c:Nat) (w:World) (h:OutB w g l) (hm:OwnB w (g+1) (.slice A k.length c) k) (hr:l.length+k.length≤65536) :
  Calls Tryz.prog 121 #[.pointer (some ⟨g,0,none⟩),.slice A k.length c] w (PutB g (l++k) w):=by
 obtain ⟨i0,hi,hz⟩:=Option.map_eq_some_iff.1 byte_info;simp only [Prod.mk.injEq] at hz;obtain ⟨hz0,hz1,hz2⟩:=hz;obtain ⟨v,t,hb,hx⟩:=h;obtain ⟨A',c',rfl⟩:=hx.form;have c0:w.cell? ⟨g,0,none⟩=_:=hb.cell 0;have c1:w.cell? ⟨g,1,none⟩=_:=hb.cell 1;have hlt:=hb.lt;simp at c0 c1
 have d1:decide ((65536:Int)-(l.length:Int)<(k.length:Int))=false:=by simp;omega
 have hy:=hm;have Hb:=qH hb;have Hx:=qH hx;have Hy:=qH hy;clear hb hx hy;go_enter Tryz.func121,Tryz.ntmps121
 go_wp2_with (at_builtin;refine wpList_append_any _ rfl (.tmp 8) (.tmp 9) _ rfl (g+1) 5 i0 _ 1 1 Tryz.underlying86 hi hz0 hz1 hz2 rfl (by decide) (.slice A' l.length c') l.length _ rfl Hx.out _ A k.length c _ rfl (Reads.of_own Hy.out) (byt_one k) (by unfold maxLen;omega) (by omega) hlt ?_;intro v1 w5 hown1 hg1 ho1;obtain ⟨A1,c9,rfl⟩:=ownsRow_slice hown1;have hb5:=Hb.out.grown hg1 (fun e=>by have:=(Hx.out.lt _ e.symm).1;omega);have k0:w5.cell? ⟨g,0,none⟩=some (.slice A' l.length c'):=hb5.cell 0;have k1:=hb5.frozen 0;have k2:=hb5.lt;have Hb5:=qH hb5;have Hown1:=qH hown1;have Hg1:=qH hg1;clear hb5 hown1 hg1 ho1)
 refine bodyPost_end (v:=.tuple #[]) (by simp [results,Tryz.results121,go_sem]) rfl ?_;have hk:Keeps (fun i=>g≤i) w w5:=.grown Hg1.out fun i hi=>.inl (by have:=(Hx.out.lt _ hi).1;omega);refine ⟨rfl,⟨_,_,Hb5.out.set_ 0 _,?_⟩,(hk.trans ((Keeps.set1 w5 g 0 _).more fun i _ hi=>by omega)).below (fun i hi e=>by omega) (by omega)⟩;have ho:=own_keeps Hown1.out (Keeps.set1 w5 g 0 (.slice A1 (l.length+k.length) c9)) (fun i hi e=>by omega);unfold OwnB;rw [byt_app,List.length_append];exact ho
theorem num_b (g n:Nat) (l:List UInt8) (w:World) (h:OutB w g l) (hn:n≤4611686018427387903) (hr:l.length+9≤65536) :
  Calls Tryz.prog 55 #[.pointer (some ⟨g,0,none⟩),.int .i64 n] w (PutB g (l++numW n) w):=by
 obtain ⟨v,t,hb,hv⟩:=id h;have c1:w.cell? ⟨g,1,none⟩=_:=hb.cell 1;have hlt:=hb.lt;simp at c1
 have d1:decide ((n:Int)<0)=false:=by simp
 have d2:decide ((4611686018427387903:Int)<(n:Int))=false:=by simp;omega
 have d3:¬ (n:Int)<0:=by omega
 have hlen:=numW_len 8 n (by omega);have H:=qH h;clear h;clear hb hv;go_enter Tryz.func55,Tryz.ntmps55;go_wp2_with fail;refine (number_b (.slice none 0 0) [] n w.heap.size _ (OwnB.none _ _) (by omega) (by simp) (Nat.le_refl _)).mono ?_;rintro e w1 ⟨v1,rfl,h3,h4⟩;rw [List.nil_append] at h3;obtain ⟨A1,c1',rfl⟩:=h3.form;have H2:=qH (H.out.below h4);have H3:=qH h3;have H4:=qH h4;clear h3 h4;go_wp2_with fail;refine (put_b g l (numW n) A1 c1' _ H2.out (H3.out.base_ (by omega)) (by omega)).mono ?_;rintro e w2 ⟨rfl,h5,h6⟩;have HR:=qH (show PutB g (l++numW n) w (.returned (.tuple #[])) w2 from ⟨rfl,h5,(H4.out.mono (by omega)).trans h6⟩);clear h5 h6;go_wp2;exact bodyPost_end (v:=.tuple #[]) (by simp [results,Tryz.results55,go_sem]) rfl HR.out
theorem text_b (g:Nat) (s:ByteArray) (l:List UInt8) (w:World) (h:OutB w g l) (hs:s.size≤8192) (hr:l.length+s.size+9≤65536) :
  Calls Tryz.prog 166 #[.pointer (some ⟨g,0,none⟩),.string s] w (PutB g (l++textW s.data.toList) w):=by
 obtain ⟨i0,hi,hz⟩:=Option.map_eq_some_iff.1 byte_info;simp only [Prod.mk.injEq] at hz;obtain ⟨hz0,hz1,hz2⟩:=hz;have hlt:=h.lt;have hlen:=numW_len 8 s.size (by omega);have H:=qH h;clear h;go_enter Tryz.func166,Tryz.ntmps166;go_wp2_with fail;refine (number_b (.slice none 0 0) [] s.size w.heap.size _ (OwnB.none _ _) (by omega) (by simp) (Nat.le_refl _)).mono ?_;rintro e w1 ⟨v1,rfl,h3,h4⟩;rw [List.nil_append] at h3;obtain ⟨A1,c1',rfl⟩:=h3.form;have H2:=qH (H.out.below h4);have hsz:=h4.size;have hlt2:=H2.out.lt;have H3:=qH h3;have H4:=qH h4;clear h3 h4
 go_wp2_with (at_builtin;refine Lib.wpList_append_own_string _ rfl (.tmp 7) (.tmp 8) _ _ rfl w.heap.size 5 i0 Tryz.underlying86 Tryz.underlying9 hi hz0 hz1 hz2 (.slice A1 (numW s.size).length c1') (numW s.size).length _ rfl H3.out s rfl (by unfold maxLen;omega) (by omega) hsz ?_;intro v5 w5 hown5 hg5 _;obtain ⟨A5,c5,rfl⟩:=ownsRow_slice hown5;have Hown5:=qH hown5;have Hg5:=qH hg5;clear hown5 hg5)
 have hk5:Keeps (fun i=>w.heap.size≤i) w1 w5:=.grown Hg5.out fun i hi=>.inl (H3.out.lt _ hi).1;have hb5:Below w.heap.size w w5:=H4.out.trans (hk5.below (fun i hi e=>by omega) hsz);have ht:(textW s.data.toList).length=(numW s.size).length+s.size:=by unfold textW;rw [List.length_append];rfl
 have h5:OwnB w5 w.heap.size (.slice A5 (textW s.data.toList).length c5) (textW s.data.toList):=by
  have:=Hown5.out;rw [strCells_byt,←byt_app] at this;unfold OwnB;rw [ht];exact this
 rw [←ht];have Hb5:=qH hb5;have H5:=qH h5;clear hb5 h5;clear hk5;refine (put_b g l (textW s.data.toList) A5 c5 _ (H.out.below Hb5.out) (H5.out.base_ (by omega)) (by rw [ht];omega)).mono ?_;rintro e w2 ⟨rfl,h5,h6⟩;have HR:=qH (show PutB g (l++textW s.data.toList) w (.returned (.tuple #[])) w2 from ⟨rfl,h5,(Hb5.out.mono (by omega)).trans h6⟩);clear h5 h6;go_wp2;exact bodyPost_end (v:=.tuple #[]) (by simp [results,Tryz.results166,go_sem]) rfl HR.out
theorem flag_b (g:Nat) (b:Bool) (l:List UInt8) (w:World) (h:OutB w g l) (hr:l.length+9≤65536) :
  Calls Tryz.prog 232 #[.pointer (some ⟨g,0,none⟩),.bool b] w (PutB g (l++numW b.toNat) w):=by
 have H:=qH h;clear h
 cases b
 all_goals
  go_enter Tryz.func232,Tryz.ntmps232;go_wp2_with fail;refine (num_b g _ l _ H.out (by decide) hr).mono ?_;rintro e w1 ⟨rfl,h1,h2⟩;have HR:=qH (show PutB g (l++numW _) w (.returned (.tuple #[])) w1 from ⟨rfl,h1,h2⟩);clear h1 h2;go_wp2;exact bodyPost_end (v:=.tuple #[]) (by simp [results,Tryz.results232,go_sem]) rfl HR.out
theorem done_b (g:Nat) (l:List UInt8) (w:World) (h:OutB w g l) :
  Calls Tryz.prog 119 #[.pointer (some ⟨g,0,none⟩)] w fun e w'=>e=.returned (.tuple #[.string ⟨l.toArray⟩,.nilIface])∧w'=w:=by
 obtain ⟨v,t,hb,hx⟩:=h;have c0:w.cell? ⟨g,0,none⟩=_:=hb.cell 0;have c1:w.cell? ⟨g,1,none⟩=_:=hb.cell 1;have hlt:=hb.lt;simp at c0 c1
 have hrow:=RowC.of_own hx;clear hb
 rcases hrow.is with ⟨rfl,rfl⟩|⟨k,cap,cur,rfl,_⟩
 ·have hcv:=run_convert_bytes_nil (P:=Tryz.prog) w 86 5 Tryz.underlying86 Tryz.underlying5 0 0 9 Tryz.underlying9
  go_enter Tryz.func119,Tryz.ntmps119;go_wp2_with fail;go_ret2
  exact ⟨rfl,rfl⟩
 ·have hcv:(convert 86 9 (.slice (some ⟨k,0,none⟩) l.length cap)).run Tryz.prog w=.ok (.string ⟨l.toArray⟩) w:=by
   have h:=hrow.text (P:=Tryz.prog) 86 9 Tryz.underlying86 Tryz.underlying5 Tryz.underlying9 0 l.length cap (Nat.zero_le _) (Nat.le_refl _)
   simpa using h
  clear hrow;go_enter Tryz.func119,Tryz.ntmps119;go_wp2_with fail;go_ret2
  exact ⟨rfl,rfl⟩
end wireb
namespace appb
open Go Go.RowKit Go.Lib base rowe rowc wireb
section
variable {w w':World} {k off n:Nat} {l1 l2:List UInt8}
theorem _root_.Go.Proofs.YthlahcnglacekaaGreatDoor.base.Keeps.lo {B:Nat} {X:Nat→Prop} (h:Below B w w') (hx:∀ i,B≤i→X i):Keeps X w w':=⟨h.os,h.tape,h.output,h.size,fun i _ hX=>h.block i (Nat.lt_of_not_le fun hle=>hX (hx i hle))⟩
def Lies (w:World) (k off:Nat) (l:List UInt8):Prop:=∀ j v,(byt l)[j]?=some v→w.cell? ⟨k,off+j,none⟩=some v
theorem Lies.blk {t:TypeId} {l:List UInt8} (h:Blk w k t (byt l).toArray):Lies w k 0 l:=fun j v hv=>by
 rw [Nat.zero_add,h.cell j]
 simpa using hv
theorem Lies.cut {l:List UInt8} (h:Lies w k off l) (a m:Nat):Lies w k (off+a) ((l.drop a).take m):=fun j v hv=>by
 rw [Nat.add_assoc];refine h (a+j) v ?_;simp only [byt,List.getElem?_map,List.getElem?_take,List.getElem?_drop] at hv ⊢
 split at hv
 ·exact hv
 ·cases hv
theorem Lies.keeps {X:Nat→Prop} {l:List UInt8} (h:Lies w k off l) (hk:Keeps X w w') (hx:¬ X k):Lies w' k off l:=fun j v hv=>by
 have:=h j v hv;exact (hk.cell (off+j) (cell_lt this) hx).trans this
theorem Lies.src {l:List UInt8} (h:Lies w k off l) (u:TypeId) (hu:Tryz.prog.underlying u=some (.slice 5)) (c:Nat):Src Tryz.prog 1 u (.slice (some ⟨k,off,none⟩) l.length c) l.length (byt l) w :=
 Src.ofSlice w hu ⟨k,off,none⟩ l.length c (byt l) (by simp [byt_len]) (fun j v hv=>by rw [add_plain'];exact h j v hv) (byt_one l)
theorem src_str (s:ByteArray):Src Tryz.prog 1 9 (.string s) s.data.toList.length (byt s.data.toList) w:=by
 have:=Src.ofString (P:=Tryz.prog) w (tx:=9) Tryz.underlying9 s;exact this
theorem Lies.reads {l:List UInt8} (h:Lies w k off l):Reads w w.heap.size 1 (some ⟨k,off,none⟩) l.length (byt l) :=
 ⟨by simp [byt_len],fun hp=>⟨k,off,rfl,by
  have hp':0<(byt l).length:=by rw [byt_len];exact hp
  exact cell_lt (h 0 _ (List.getElem?_eq_getElem hp')),fun j hj=>by rw [List.getElem?_eq_getElem hj];exact h j _ (List.getElem?_eq_getElem hj)⟩⟩
theorem Lies.text {l:List UInt8} (h:Lies w k off l) (c:Nat):(convert 86 9 (.slice (some ⟨k,off,none⟩) l.length c)).run Tryz.prog w=.ok (.string ⟨l.toArray⟩) w :=
 run_convert_bytes_back w 86 9 5 ⟨k,off,none⟩ c l Tryz.underlying86 Tryz.underlying5 Tryz.underlying9 fun j hj=>by
  rw [add_plain'];refine h j _ ?_;simp only [byt,List.getElem?_map,List.getElem?_eq_getElem hj,Option.map_some]
theorem run_append_new {u ty:TypeId} {xv:Value} (hn:l1.length=n) (h1:Lies w k off l1) (hs:Src Tryz.prog 1 u xv l2.length (byt l2) w) (hp:0<l2.length) (hb:n+l2.length≤1000000) :
  ∃ v' w',(Builtin.append_ #[86,u] ty #[.slice (some ⟨k,off,none⟩) n n,xv]).run Tryz.prog w=.ok v' w'∧OwnB w' w.heap.size v' (l1++l2)∧Below w.heap.size w w':=by
 obtain ⟨i0,hi,hz⟩:=Option.map_eq_some_iff.1 byte_info;simp only [Prod.mk.injEq] at hz;obtain ⟨hz0,hz1,hz2⟩:=hz
 have hold:(Builtin.firstCells i0.size n (.slice (some ⟨k,off,none⟩) n n)).run Tryz.prog w.drew=.ok (byt l1).toArray w.drew:=by
  rw [hz1];exact run_firstCells_some w.drew 1 n ⟨k,off,none⟩ n n (byt l1) (by simp [byt_len,hn]) (fun j v hv=>by rw [add_plain'];exact h1 j v hv)
 have hfit:Builtin.nextslicecap (n+l2.length) n*i0.bytes≤281474976710656:=by rw [hz2];exact growslice_fits (by omega) (by omega)
 have hr:=run_append_grow_src (P:=Tryz.prog) w 86 u ty 5 i0 (.int .u8 0) Tryz.underlying86 hi hz0 (some ⟨k,off,none⟩) n n (byt l1) hold xv l2.length (byt l2) (by rw [hz1];exact hs) (by omega) (by omega) hfit;have hge:=grownCap_ge w (n+l2.length) n 5;have hcm:=grownCap_le_maxLen w (n+l2.length) n 5 (by unfold maxLen;omega);refine ⟨_,_,hr,?_,(Below.refl _ _).drew.alloc (by simp) _⟩;have hlen:(byt l1++byt l2).length=n+l2.length:=by simp [byt_len,hn]
 refine ⟨by simp [byt_len],.inr ⟨w.heap.size,_,_,by rw [List.length_append,hn],Nat.le_refl _,heap_alloc_new w.drew _,by rw [List.length_append,hn];exact hge,hcm,?_,?_⟩⟩
 ·have hz1':(Value.int IntKind.u8 0).cells.size=1:=rfl
  simp only [Array.size_append,List.size_toArray,size_zeroCells,hz1',hlen];omega
 ·simp only [Array.toList_append]
  rw [Nat.mul_one,List.length_append,hn,←hlen,byt_app];exact List.take_left
theorem wp_append_new {o:Oper} {a:Act} {K:Act→World→Prop} {Q:Exit→Act→World→Prop} (s x:Operand) (u:TypeId) (ho:o.op=.call { callee:=.builtin .append,args:=#[s,x],argTypes:=#[86,u] }) {xv:Value}
  (hs:a.eval s=.slice (some ⟨k,off,none⟩) n n) (hx:a.eval x=xv) (hn:l1.length=n) (h1:Lies w k off l1) (hsr:Src Tryz.prog 1 u xv l2.length (byt l2) w) (hp:0<l2.length) (hb:n+l2.length≤1000000)
  (h:∀ v' w',OwnB w' w.heap.size v' (l1++l2)→Below w.heap.size w w'→K (a.put o.dst v') w'):o.wp Tryz.prog a w K Q:=by
 obtain ⟨v',w',hr,h2,h3⟩:=run_append_new (ty:=o.type) hn h1 hsr hp hb;unfold Oper.wp execOp;simp only [ho,resolve,invoke,builtin,Sem.run_bind,Sem.run_pure,Result.andThen_ok,List.map_toArray,List.map_cons,List.map_nil,hs,hx,hr];exact h v' w' h2 h3
theorem wp_append_cut {o:Oper} {a:Act} {K:Act→World→Prop} {Q:Exit→Act→World→Prop} (s x:Operand) (u:TypeId) (ho:o.op=.call { callee:=.builtin .append,args:=#[s,x],argTypes:=#[86,u] }) {xv:Value}
  (hs:a.eval s=.slice (some ⟨k,off,none⟩) n n) (hx:a.eval x=xv) (hn:l1.length=n) (h1:Lies w k off l1) (hsr:Src Tryz.prog 1 u xv l2.length (byt l2) w) (hb:n+l2.length≤1000000) (l3:List UInt8) (m:Nat) (h3:l1++l2=l3) (hm:l3.length=m)
  (h:∀ k' off' c w',Lies w' k' off' l3→Below w.heap.size w w'→K (a.put o.dst (.slice (some ⟨k',off',none⟩) m c)) w'):o.wp Tryz.prog a w K Q:=by
 subst h3 hm
 by_cases hp:0<l2.length
 ·refine wp_append_new s x u ho hs hx hn h1 hsr hp hb fun v' w' hv hbw=>?_
  rcases hv.2 with ⟨_,h0⟩|⟨g,cap,cur,rfl,_,hg,hle,_,hcs,htk⟩
  ·exfalso;rw [List.length_append] at h0;omega
  ·refine h g 0 cap w' (fun j v hj=>?_) hbw
   rw [Nat.zero_add];have:=hv.cells (g:=g) rfl j v hj
   rwa [add_plain',Nat.zero_add] at this
 ·have hl2:l2=[]:=List.eq_nil_of_length_eq_zero (by omega)
  subst hl2;obtain ⟨i0,hi,hz⟩:=Option.map_eq_some_iff.1 byte_info;simp only [Prod.mk.injEq] at hz;obtain ⟨hz0,hz1,hz2⟩:=hz;have hr:=run_append_room_src (P:=Tryz.prog) w 86 u o.type 5 i0 Tryz.underlying86 hi k off n n xv 0 [] (by rw [hz1];exact hsr) (by omega) (fun j hj=>by simp at hj) (fun j hj=>by simp at hj);have e0:∀ b o',w.setCells b o' []=w:=fun b o'=>rfl;rw [e0] at hr;unfold Oper.wp execOp;simp only [ho,resolve,invoke,builtin,Sem.run_bind,Sem.run_pure,Result.andThen_ok,List.map_toArray,List.map_cons,List.map_nil,hs,hx,hr];have hh:=h k off n w (by rw [List.append_nil];exact h1) (Below.refl _ _);rw [List.append_nil,hn] at hh;exact hh
theorem lies_of_own {v:Value} {B:Nat} (h:OwnB w B v l1) (hp:0<l1.length):∃ g c,v=.slice (some ⟨g,0,none⟩) l1.length c∧B≤g∧g<w.heap.size∧Lies w g 0 l1:=by
 have hlt:=h.lt
 rcases h.2 with ⟨_,h0⟩|⟨g,cap,cur,rfl,hb,hg,hle,_,hcs,htk⟩
 ·omega
 ·refine ⟨g,cap,rfl,hb,(hlt g rfl).2,fun j v hj=>?_⟩
  rw [Nat.zero_add];have:=h.cells (g:=g) rfl j v hj
  rwa [add_plain',Nat.zero_add] at this
theorem wp_append_str {o:Oper} {a:Act} {K:Act→World→Prop} {Q:Exit→Act→World→Prop} (s x:Operand) (ho:o.op=.call { callee:=.builtin .append,args:=#[s,x],argTypes:=#[86,9] }) {v:Value} {base:Nat} (p:ByteArray)
  (hs:a.eval s=v) (hx:a.eval x=.string p) (hown:OwnB w base v l1) (hb:l1.length+p.size≤1000000) (hbase:base≤w.heap.size)
  (h:∀ v' w',OwnB w' base v' (l1++p.data.toList)→Below base w w'→K (a.put o.dst v') w'):o.wp Tryz.prog a w K Q:=by
 obtain ⟨i0,hi,hz⟩:=Option.map_eq_some_iff.1 byte_info;simp only [Prod.mk.injEq] at hz;obtain ⟨hz0,hz1,hz2⟩:=hz;obtain ⟨v',w',hr,h2,h3,_⟩:=run_append_own_string (P:=Tryz.prog) w base 86 9 o.type 5 i0 Tryz.underlying86 Tryz.underlying9 hi hz0 hz1 hz2 v l1.length (byt l1) hown p (by unfold maxLen;omega) (by omega) hbase;unfold Oper.wp execOp;simp only [ho,resolve,invoke,builtin,Sem.run_bind,Sem.run_pure,Result.andThen_ok,List.map_toArray,List.map_cons,List.map_nil,hs,hx,hr];refine h v' w' ?_ ((Keeps.grown (X:=fun i=>base≤i) h3 fun i hi=>.inl (hown.lt i hi).1).below (fun i hi e=>by omega) hbase);rw [strCells_byt,←byt_app] at h2;unfold OwnB;rw [List.length_append];exact h2
theorem wp_append_row {o:Oper} {a:Act} {K:Act→World→Prop} {Q:Exit→Act→World→Prop} (s x:Operand) (ho:o.op=.call { callee:=.builtin .append,args:=#[s,x],argTypes:=#[86,86] }) {v:Value} {base c:Nat} {A:Option Addr}
  (hs:a.eval s=v) (hx:a.eval x=.slice A l2.length c) (hown:OwnB w base v l1) (hr:Reads w w.heap.size 1 A l2.length (byt l2)) (hb:l1.length+l2.length≤1000000) (hbase:base≤w.heap.size)
  (h:∀ v' w',OwnB w' base v' (l1++l2)→Below base w w'→K (a.put o.dst v') w'):o.wp Tryz.prog a w K Q:=by
 obtain ⟨i0,hi,hz⟩:=Option.map_eq_some_iff.1 byte_info;simp only [Prod.mk.injEq] at hz;obtain ⟨hz0,hz1,hz2⟩:=hz;refine wp_append_any w s x 86 ho base 5 i0 _ 1 1 Tryz.underlying86 hi hz0 hz1 hz2 rfl (by decide) v l1.length (byt l1) hs hown w.heap.size A l2.length c (byt l2) hx hr (byt_one l2) (by unfold maxLen;omega) (by omega) hbase fun v' w' h2 h3 _=>?_;refine h v' w' ?_ ((Keeps.grown (X:=fun i=>base≤i) h3 fun i hi=>.inl (hown.lt i hi).1).below (fun i hi e=>by omega) hbase);unfold OwnB;rw [byt_app,List.length_append];exact h2
end
end appb
namespace disk
open Go Go.RowKit base err rowc diskp
structure DiskF (w:World) (S:Nat→Prop) (g:Nat) (d:Dk) (v:Value):Prop where
 blk:Blk w g 88 #[v,.int .i64 d.safe,.int .i64 d.room,.int .i64 d.fuse,.bool d.down]
 row:RowC w (g+1) 5 v d.b
 inG:S g
 inV:∀ i,v.ownBlock=some i→S i
 small:∀ i,S i→i<w.heap.size
 ok:d.Ok
def DiskS (w:World) (S:Nat→Prop) (g:Nat) (d:Dk):Prop:=∃ v,DiskF w S g d v
def Grow (S S':Nat→Prop) (w:World):Prop:=(∀ i,S i→S' i)∧∀ i,S' i→S i∨w.heap.size≤i
theorem Grow.refl (S:Nat→Prop) (w:World):Grow S S w:=⟨fun _ h=>h,fun _ h=>.inl h⟩
theorem Grow.trans {S S' S'':Nat→Prop} {w w':World} (h:Grow S S' w) (h':Grow S' S'' w') (hw:w.heap.size≤w'.heap.size):Grow S S'' w :=
 ⟨fun i hi=>h'.1 i (h.1 i hi),fun i hi=>(h'.2 i hi).elim (h.2 i) fun h=>.inr (Nat.le_trans hw h)⟩
section
variable {w w':World} {S X:Nat→Prop} {g:Nat} {d:Dk} {v:Value}
theorem DiskF.keeps (h:DiskF w S g d v) (hk:Keeps X w w') (hx:∀ i,S i→¬ X i):DiskF w' S g d v :=
 ⟨h.blk.keeps hk (hx g h.inG),h.row.keeps hk (fun i hi=>hx i (h.inV i hi)),h.inG,h.inV,fun i hi=>Nat.lt_of_lt_of_le (h.small i hi) hk.size,h.ok⟩
theorem DiskS.keeps (h:DiskS w S g d) (hk:Keeps X w w') (hx:∀ i,S i→¬ X i):DiskS w' S g d:=by
 obtain ⟨v,h⟩:=h;exact ⟨v,h.keeps hk hx⟩
theorem DiskS.below (h:DiskS w S g d) (hk:Below w.heap.size w w'):DiskS w' S g d:=h.keeps (X:=nobody) (.of_below hk) (fun _ _ h=>h)
theorem DiskS.drew (h:DiskS w S g d):DiskS w.drew S g d:=h.below (Below.refl _ _).drew
theorem down_any (h:DiskS w S g d):Calls Tryz.prog 68 #[.pointer (some ⟨g,0,none⟩)] w fun e w'=>e=.returned (.bool d.down)∧w'=w:=by
 obtain ⟨v,h⟩:=h;have c4:w.cell? ⟨g,4,none⟩=_:=h.blk.cell 4;have hlt:=h.blk.lt;simp at c4
 clear h;go_enter Tryz.func68,Tryz.ntmps68;go_wp2;go_ret
 exact ⟨rfl,rfl⟩
theorem len_any (h:DiskS w S g d):Calls Tryz.prog 72 #[.pointer (some ⟨g,0,none⟩)] w fun e w'=>e=.returned (.int .i64 (if d.down then 0 else d.b.length:Nat))∧w'=w:=by
 have H:=qH h;obtain ⟨v,h⟩:=h;obtain ⟨A,c,rfl⟩:=h.row.form;have c0:w.cell? ⟨g,0,none⟩=_:=h.blk.cell 0;have hlt:=h.blk.lt;simp at c0
 clear h;go_enter Tryz.func72,Tryz.ntmps72
 cases hd:d.down with
 | true =>
  go_wp2_with fail;refine (down_any H.out).mono ?_;rintro e w1 ⟨rfl,rfl⟩;rw [hd];go_wp2_with fail;go_ret
  exact ⟨rfl,rfl⟩
 | false =>
  go_wp2_with fail;refine (down_any H.out).mono ?_;rintro e w1 ⟨rfl,rfl⟩;rw [hd];go_wp2_with fail;go_ret
  exact ⟨rfl,rfl⟩
theorem safe_any (h:DiskS w S g d):Calls Tryz.prog 139 #[.pointer (some ⟨g,0,none⟩)] w fun e w'=>e=.returned (.int .i64 (if d.down then 0 else d.safe:Nat))∧w'=w:=by
 have H:=qH h;obtain ⟨v,h⟩:=h;have c1:w.cell? ⟨g,1,none⟩=_:=h.blk.cell 1;have hlt:=h.blk.lt;simp at c1
 clear h;go_enter Tryz.func139,Tryz.ntmps139
 cases hd:d.down with
 | true =>
  go_wp2_with fail;refine (down_any H.out).mono ?_;rintro e w1 ⟨rfl,rfl⟩;rw [hd];go_wp2_with fail;go_ret
  exact ⟨rfl,rfl⟩
 | false =>
  go_wp2_with fail;refine (down_any H.out).mono ?_;rintro e w1 ⟨rfl,rfl⟩;rw [hd];go_wp2_with fail;go_ret
  exact ⟨rfl,rfl⟩
theorem bad_any (c:Int) (h:DiskS w S g d):Calls Tryz.prog 66 #[.pointer (some ⟨g,0,none⟩),.int .i64 c] w (ErrNew c w):=by
 have H:=qH h;clear h;go_enter Tryz.func66,Tryz.ntmps66;go_wp2_with fail;refine (len_any H.out).mono ?_;rintro e w1 ⟨rfl,rfl⟩;obtain ⟨n,hn⟩:∃ n:Nat,(if d.down then 0 else d.b.length)=n:=⟨_,rfl⟩;rw [hn];clear hn;go_wp2_with fail;refine (at_any _ _ c _).mono ?_;rintro e w2 ⟨x,rfl,h⟩;go_wp2_with fail;go_ret
 exact ⟨x,rfl,h⟩
def OpR (S:Nat→Prop) (g:Nat) (r:Dk × Int) (w:World) (e:Ending) (w':World):Prop :=
 ∃ x S',e=.returned x∧EO w' x r.2∧Grow S S' w∧DiskS w' S' g r.1∧Keeps S w w'∧∀ k,x=.iface 121 (.pointer (some ⟨k,0,none⟩))→w.heap.size≤k∧¬ S' k
theorem DiskF.put (h:DiskF w S g d v) (i:Nat) (u:Value) (d':Dk) (hb:d'.b=d.b) (hc:(#[v,.int .i64 d.safe,.int .i64 d.room,.int .i64 d.fuse,.bool d.down]:Array Value).setIfInBounds i u=#[v,.int .i64 d'.safe,.int .i64 d'.room,.int .i64 d'.fuse,.bool d'.down]) (hok:d'.Ok) :
  DiskF (w.setCell ⟨g,i,none⟩ u) S g d' v :=
 ⟨by rw [←hc];exact h.blk.set_ i u,by rw [hb];exact h.row.keeps (Keeps.set1 w g i u) (fun k hk e=>by have:=(h.row.lt k hk).1;omega),h.inG,h.inV,fun k hk=>by have:=h.small k hk;simpa [World.setCell] using this,hok⟩
theorem Keeps.setIn (h:DiskF w S g d v) (i:Nat) (u:Value):Keeps S w (w.setCell ⟨g,i,none⟩ u):=Keeps.setCell (X:=S) (p:=⟨g,i,none⟩) (.inl h.inG) u
theorem OpR.bad {c:Int} {e:Ending} {w1:World} {d':Dk} (hc:c≠0) (hk:Keeps S w w1) (hd:DiskS w1 S g d') (h:ErrNew c w1 e w') (hs:∀ i,S i→i<w.heap.size):OpR S g (d',c) w e w':=by
 obtain ⟨x,rfl,h1,h2,h3,h4⟩:=h;exact ⟨x,S,rfl,.inr ⟨hc,h1,h2⟩,Grow.refl S w,hd.below h3,hk.trans (.of_below h3),fun k hk'=>⟨Nat.le_trans hk.size (h4 k hk'),fun hS=>by have:=hs k hS;have:=hk.size;have:=h4 k hk';omega⟩⟩
theorem grow_keeps {S':Nat→Prop} {w1:World} (hg:Grow S S' w) (hk:Keeps S w w1) (hk':Keeps S' w1 w'):Keeps S w w' :=
 ⟨hk'.os.trans hk.os,hk'.tape.trans hk.tape,hk'.output.trans hk.output,Nat.le_trans hk.size hk'.size,fun i hi hs=>(hk'.block i (Nat.lt_of_lt_of_le hi hk.size) (fun h=>(hg.2 i h).elim hs (fun h=>by omega))).trans (hk.block i hi hs)⟩
theorem OpR.good {S':Nat→Prop} {d':Dk} (hg:Grow S S' w) (hd:DiskS w' S' g d') (hk:Keeps S w w'):OpR S g (d',0) w (.returned .nilIface) w' :=
 ⟨.nilIface,S',rfl,EO.nil _,hg,hd,hk,fun k h=>by cases h⟩
theorem operate_any (h:DiskS w S g d):Calls Tryz.prog 136 #[.pointer (some ⟨g,0,none⟩)] w (OpR S g (operD d) w):=by
 have H:=qH h;obtain ⟨v,hf⟩:=h;have HF:=qH hf;have c3:w.cell? ⟨g,3,none⟩=_:=hf.blk.cell 3;have c4:w.cell? ⟨g,4,none⟩=_:=hf.blk.cell 4;have f3:=hf.blk.frozen 3;have f4:=hf.blk.frozen 4;have hlt:=hf.blk.lt;have hfu:=hf.ok.f1;have hfl:=hf.ok.f0;simp at c3 c4
 clear hf;go_enter Tryz.func136,Tryz.ntmps136
 cases hd:d.down with
 | true =>
  have HD:=qH (show operD d=(d,5) from by unfold operD;rw [if_pos hd]);go_wp2_with fail;refine (down_any H.out).mono ?_;rintro e w1 ⟨rfl,rfl⟩;rw [hd];go_wp2_with fail;refine (bad_any 5 H.out).mono ?_;rintro e w2 h2;have HR:=qH (OpR.bad (S:=S) (g:=g) (d':=d) (by decide) (Keeps.refl S _) H.out h2 HF.out.small);obtain ⟨x,rfl,_⟩:=h2;go_wp2_with fail;go_ret
  rw [HD.out];exact HR.out
 | false =>
  by_cases h1:d.fuse<0
  ·have HD:=qH (show operD d=(d,0) from by unfold operD;rw [if_neg (by rw [hd];simp),if_pos h1])
   go_wp2_with fail;refine (down_any H.out).mono ?_;rintro e w1 ⟨rfl,rfl⟩;rw [hd];go_wp2_with fail;go_ret
   rw [HD.out];exact OpR.good (Grow.refl S _) H.out (Keeps.refl S _)
  ·by_cases h2:0<d.fuse
   ·have HD:=qH (show operD d=({ d with fuse:=d.fuse-1 },0) from by unfold operD;rw [if_neg (by rw [hd];simp),if_neg h1,if_pos h2])
    have HP:=qH (HF.out.put 3 (.int .i64 (d.fuse-1)) { d with fuse:=d.fuse-1 } rfl rfl ⟨HF.out.ok.le,HF.out.ok.few,HF.out.ok.room_,by show -1≤d.fuse-1;omega,by show d.fuse-1≤_;omega⟩);have hwr:=IntWalk.i64_in (d.fuse-1) (by omega);go_wp2_with fail;refine (down_any H.out).mono ?_;rintro e w1 ⟨rfl,rfl⟩;rw [hd];go_wp2_with fail;go_ret
    rw [HD.out];exact OpR.good (Grow.refl S _) ⟨v,HP.out⟩ (Keeps.setIn HF.out _ _)
   ·have HD:=qH (show operD d=({ d with down:=true },5) from by unfold operD;rw [if_neg (by rw [hd];simp),if_neg h1,if_neg h2])
    have HP:=qH (HF.out.put 4 (.bool true) { d with down:=true } rfl rfl ⟨HF.out.ok.le,HF.out.ok.few,HF.out.ok.room_,HF.out.ok.f0,HF.out.ok.f1⟩);have HK:=qH (Keeps.setIn HF.out 4 (.bool true));go_wp2_with fail;refine (down_any H.out).mono ?_;rintro e w1 ⟨rfl,rfl⟩;rw [hd];go_wp2_with fail;refine (bad_any (d:={ d with down:=true }) 5 ⟨v,HP.out⟩).mono ?_;rintro e w2 h3;have HR:=qH (OpR.bad (S:=S) (g:=g) (d':={ d with down:=true }) (by decide) HK.out ⟨v,HP.out⟩ h3 HF.out.small);obtain ⟨x,rfl,_⟩:=h3;go_wp2_with fail;go_ret
    rw [HD.out];exact HR.out
theorem sync_any (h:DiskS w S g d):Calls Tryz.prog 137 #[.pointer (some ⟨g,0,none⟩)] w (OpR S g (syncD d) w):=by
 have HS:=qH (show syncD d=if (operD d).2=0 then ({ (operD d).1 with safe:=(operD d).1.b.length },0) else operD d from rfl);have HOP:=qH (operate_any h);clear h;generalize operD d=od at *;generalize syncD d=sd at *;go_enter Tryz.func137,Tryz.ntmps137;go_wp2_with fail;refine HOP.out.mono ?_;rintro e w1 ⟨x,S',rfl,heo,hgr,hd1,hk1,hx⟩
 rcases heo with ⟨hc,rfl⟩|⟨hc,herr,hnn⟩
 ·obtain ⟨v1,hf1⟩:=hd1
  have HF1:=qH hf1;have HG:=qH hgr;have HK1:=qH hk1;rw [hc,if_pos rfl] at HS;obtain ⟨A1,c1,rfl⟩:=hf1.row.form;have c0:w1.cell? ⟨g,0,none⟩=_:=hf1.blk.cell 0;have c1':w1.cell? ⟨g,1,none⟩=_:=hf1.blk.cell 1;have f1:=hf1.blk.frozen 1;have hlt:=hf1.blk.lt;simp at c0 c1'
  have HP:=qH (hf1.put 1 (.int .i64 (od.1.b.length:Nat)) { od.1 with safe:=od.1.b.length } rfl rfl ⟨Nat.le_refl _,hf1.ok.few,hf1.ok.room_,hf1.ok.f0,hf1.ok.f1⟩);have HKS:=qH (Keeps.setIn hf1 1 (.int .i64 (od.1.b.length:Nat)));clear hf1 hgr hk1 hx hc;go_wp2_with fail;go_ret
  rw [HS.out];exact OpR.good HG.out ⟨_,HP.out⟩ (grow_keeps HG.out HK1.out HKS.out)
 ·have HR:=qH (show OpR S g sd w (.returned x) w1 from by rw [HS.out,if_neg hc];exact ⟨x,S',rfl,.inr ⟨hc,herr,hnn⟩,hgr,hd1,hk1,hx⟩)
  obtain ⟨k,rfl⟩:=herr.form;clear herr hgr hd1 hk1 hx hnn;go_wp2_with fail;go_ret
  exact HR.out
theorem room_any (n:Nat) (hn:n≤1048576) (h:DiskS w S g d):Calls Tryz.prog 27 #[.pointer (some ⟨g,0,none⟩),.int .i64 n] w fun e w'=>e=.returned .nilIface∧DiskS w' S g { d with room:=n }∧Keeps (· = g) w w':=by
 obtain ⟨v,hf⟩:=h;have HP:=qH (hf.put 2 (.int .i64 (n:Nat)) { d with room:=n } rfl rfl ⟨hf.ok.le,hf.ok.few,hn,hf.ok.f0,hf.ok.f1⟩);have c2:w.cell? ⟨g,2,none⟩=_:=hf.blk.cell 2;have f2:=hf.blk.frozen 2;have hlt:=hf.blk.lt;simp at c2
 clear hf;have d1:decide ((n:Int)<0)=false:=by simp
 have d2:decide ((1048576:Int)<(n:Int))=false:=decide_eq_false (by omega);go_enter Tryz.func27,Tryz.ntmps27;go_wp2_with fail;go_ret
 exact ⟨rfl,⟨v,HP.out⟩,Keeps.set1 w g 2 _⟩
theorem new_any (n:Nat) (hn:n≤1048576) (w:World):Calls Tryz.prog 12 #[.int .i64 n] w fun e w'=>e=.returned (.tuple #[.pointer (some ⟨w.heap.size,0,none⟩),.nilIface])∧DiskS w' (· = w.heap.size) w.heap.size (newD n)∧Below w.heap.size w w':=by
 have HN:=qH (show DiskS (w.alloc (.cells #[.slice none 0 0,.int .i64 0,.int .i64 0,.int .i64 (-1),.bool false] 88)) (· = w.heap.size) w.heap.size (newD 0) from
  ⟨.slice none 0 0,Blk.new w _ _,RowC.none_ _ _ _,rfl,fun i h=>(by cases h),fun i h=>(by simp [h]),⟨by decide,by decide,by decide,by decide,by decide⟩⟩)
 have HB:=qH (below_new w (.cells #[.slice none 0 0,.int .i64 0,.int .i64 0,.int .i64 (-1),.bool false] 88));go_enter Tryz.func12,Tryz.ntmps12;go_wp2_with fail;refine (room_any n hn HN.out).mono ?_;rintro e w2 ⟨rfl,hd,hk⟩;have HD:=qH hd;have HB2:=qH (HB.out.trans (hk.below (fun i hi e=>by omega) (by simp)));clear hd hk;go_wp2_with fail;go_ret2
 exact ⟨rfl,HD.out,HB2.out⟩
theorem read_all (h:DiskS w S g d) (hd:d.down=false):Calls Tryz.prog 131 #[.pointer (some ⟨g,0,none⟩),.int .i64 0,.int .i64 d.b.length] w fun e w'=>e=.returned (.tuple #[.string ⟨d.b.toArray⟩,.nilIface])∧w'=w:=by
 have H:=qH h;obtain ⟨v,hf⟩:=h;have HF:=qH hf;have c0:w.cell? ⟨g,0,none⟩=_:=hf.blk.cell 0;have hlt:=hf.blk.lt;have hfew:=hf.ok.few;simp at c0
 have d2:decide ((d.b.length:Int)<0)=false:=decide_eq_false (by omega);have d3:decide ((d.b.length:Int)<(d.b.length:Int))=false:=decide_eq_false (by omega);have hrow:=hf.row;clear hf
 rcases hrow.is with ⟨rfl,hl⟩|⟨k,cap,cur,rfl,_,_,h3,_,h5,_⟩
 ·rw [hl] at *
  go_enter Tryz.func131,Tryz.ntmps131;go_wp2_with fail;refine (down_any H.out).mono ?_;rintro e w1 ⟨rfl,rfl⟩;rw [hd];have hcv:=run_convert_bytes_nil (P:=Tryz.prog) w1 86 5 Tryz.underlying86 Tryz.underlying5 0 0 9 Tryz.underlying9;go_wp2_with fail;go_ret2
  exact ⟨rfl,rfl⟩
 ·have HCV:=qH (show ∀ c,(convert 86 9 (.slice (some ⟨k,0,none⟩) d.b.length c)).run Tryz.prog w=.ok (.string ⟨d.b.toArray⟩) w from fun c=>by
   have h:=hrow.text (P:=Tryz.prog) 86 9 Tryz.underlying86 Tryz.underlying5 Tryz.underlying9 0 d.b.length c (Nat.zero_le _) (Nat.le_refl _)
   simpa using h)
  clear hrow;have hcc:=HCV.out cap;go_enter Tryz.func131,Tryz.ntmps131;go_wp2_with fail;refine (down_any H.out).mono ?_;rintro e w1 ⟨rfl,rfl⟩;rw [hd];go_wp2_with fail;go_ret2
  exact ⟨rfl,rfl⟩
theorem DiskF.cut2 {v2:Value} {n:Nat} (h:DiskF w S g d v) (hr:RowC w (g+1) 5 v2 (d.b.take n)) (ho:∀ i,v2.ownBlock=some i→v.ownBlock=some i):DiskF ((w.setCell ⟨g,0,none⟩ v2).setCell ⟨g,1,none⟩ (.int .i64 (min d.safe n:Nat))) S g { d with b:=d.b.take n,safe:=min d.safe n } v2 :=
  ⟨by have:=(h.blk.set_ 0 v2).set_ 1 (.int .i64 (min d.safe n:Nat));simpa using this,
   (hr.keeps (Keeps.set1 w g 0 v2) (fun k hk e=>by have:=(hr.lt k hk).1;omega)).keeps (Keeps.set1 _ g 1 _) (fun k hk e=>by have:=(hr.lt k hk).1;omega),
   h.inG,fun i hi=>h.inV i (ho i hi),fun i hi=>by have:=h.small i hi;simpa [World.setCell] using this,
   ⟨by show min d.safe n≤(d.b.take n).length;rw [List.length_take];have:=h.ok.le;omega,by show (d.b.take n).length≤_;rw [List.length_take];have:=h.ok.few;omega,h.ok.room_,h.ok.f0,h.ok.f1⟩⟩
theorem cut_any (n:Nat) (hn:n≤d.b.length) (h:DiskS w S g d):Calls Tryz.prog 73 #[.pointer (some ⟨g,0,none⟩),.int .i64 n] w (OpR S g (cutD d n) w):=by
 have H:=qH h;have HS:=qH (show cutD d n=if (operD d).2=0 then ({ (operD d).1 with b:=(operD d).1.b.take n,safe:=min (operD d).1.safe n },0) else operD d from by unfold cutD;rw [if_neg (by omega)];simp);have HOP:=qH (operate_any h);have hob:=(oper_b d).1;obtain ⟨v,hf⟩:=h;obtain ⟨A,c,rfl⟩:=hf.row.form;have c0:w.cell? ⟨g,0,none⟩=_:=hf.blk.cell 0;have hlt:=hf.blk.lt;have hfew:=hf.ok.few;simp at c0
 clear hf;generalize operD d=od at *;generalize cutD d n=sd at *;have d1:decide ((n:Int)<0)=false:=by simp
 have d2:decide ((d.b.length:Int)<(n:Int))=false:=decide_eq_false (by omega);go_enter Tryz.func73,Tryz.ntmps73
 cases hd:d.down
 all_goals
  go_wp2_with fail;refine (down_any H.out).mono ?_;rintro e w0 ⟨rfl,rfl⟩;rw [hd];go_wp2_with fail;refine HOP.out.mono ?_;rintro e w1 ⟨x,S',rfl,heo,hgr,hd1,hk1,hx⟩
  rcases heo with ⟨hc,rfl⟩|⟨hc,herr,hnn⟩
  ·obtain ⟨v1,hf1⟩:=hd1
   have HG:=qH hgr;have HK1:=qH hk1;rw [hc,if_pos rfl] at HS;have c0':w1.cell? ⟨g,0,none⟩=_:=hf1.blk.cell 0;have c1':w1.cell? ⟨g,1,none⟩=_:=hf1.blk.cell 1;have f0:=hf1.blk.frozen 0;have f1:=hf1.blk.frozen 1;have hlt1:=hf1.blk.lt;simp at c0' c1'
   rcases hf1.row.is with ⟨rfl,hl⟩|⟨k,cap,cur,rfl,_,_,hcap,_,_,_⟩
   ·have hn0:n=0:=by rw [←hob,hl] at hn;simpa using hn
    subst hn0;have hs0:od.1.safe=0:=by have:=hf1.ok.le;rw [hl] at this;simpa using this
    have HP:=qH (hf1.cut2 (v2:=.slice none 0 0) (n:=0) (RowC.none_ _ _ _) (fun i h=>h));have HK2:=qH ((Keeps.setIn hf1 0 (.slice none 0 0)).trans (Keeps.setCell (X:=S') (p:=⟨g,1,none⟩) (.inl hf1.inG) (.int .i64 (min od.1.safe 0:Nat))));rw [show min od.1.safe 0=0 by omega] at HP HK2 HS;rw [hs0] at c1';clear hf1 hgr hk1 hx hc hs0;go_wp2_with fail;go_ret
    rw [HS.out];exact OpR.good HG.out ⟨_,HP.out⟩ (grow_keeps HG.out HK1.out HK2.out)
   ·rw [hob] at hcap
    have HP:=qH (hf1.cut2 (n:=n) (hf1.row.cut (by rw [hob];exact hn)) (fun i h=>h));have HK2:=qH ((Keeps.setIn hf1 0 (.slice (some ⟨k,0,none⟩) n n)).trans (Keeps.setCell (X:=S') (p:=⟨g,1,none⟩) (.inl hf1.inG) (.int .i64 (min od.1.safe n:Nat))));have hnc:n≤cap:=by omega
    clear hf1 hgr hk1 hx hc
    by_cases hm:n<od.1.safe
    ·rw [show min od.1.safe n=n by omega] at HP HK2 HS
     go_wp2_with fail;go_ret
     rw [HS.out];exact OpR.good HG.out ⟨_,HP.out⟩ (grow_keeps HG.out HK1.out HK2.out)
    ·rw [show min od.1.safe n=od.1.safe by omega] at HP HK2 HS
     go_wp2_with fail;go_ret
     rw [HS.out];exact OpR.good HG.out ⟨_,HP.out⟩ (grow_keeps HG.out HK1.out HK2.out)
  ·have HR:=qH (show OpR S g sd _ (.returned x) w1 from by rw [HS.out,if_neg hc];exact ⟨x,S',rfl,.inr ⟨hc,herr,hnn⟩,hgr,hd1,hk1,hx⟩)
   obtain ⟨k,rfl⟩:=herr.form;clear herr hgr hd1 hk1 hx hnn;go_wp2_with fail;go_ret
   exact HR.out
theorem byte_info:(Tryz.prog.info? 5).map (fun i=>(i.zero,i.size,i.bytes))=some (some (.int .u8 0),1,1):=by kernel_rfl
theorem DiskS.ok_ (h:DiskS w S g d):d.Ok:=by obtain ⟨v,h⟩:=h;exact h.ok
theorem OpR.ofDrew {r:Dk × Int} {e:Ending} (h:OpR S g r w.drew e w'):OpR S g r w e w':=by
 obtain ⟨x,S',h1,h2,h3,h4,h5,h6⟩:=h;exact ⟨x,S',h1,h2,h3,h4,Keeps.drew.trans h5,h6⟩
theorem app_end {S':Nat→Prop} {w1 w5:World} {v1 v5:Value} {d1:Dk} {l:List UInt8} (hg:Grow S S' w) (hk:Keeps S w w1) (hf:DiskF w1 S' g d1 v1) (hr:RowC w5 (g+1) 5 v5 (d1.b++l)) (hgr:w1.grownBy w5 v1.ownBlock)
  (ho:v5.ownBlock=v1.ownBlock∨v5.ownBlock=some w1.heap.size) (hok:({ d1 with b:=d1.b++l }:Dk).Ok):OpR S g ({ d1 with b:=d1.b++l },0) w (.returned .nilIface) (w5.setCell ⟨g,0,none⟩ v5):=by
 have hgb:v1.ownBlock≠some g:=fun e=>by have:=(hf.row.lt _ e).1;omega
 have hb5:=hf.blk.grown hgr (fun e=>hgb e.symm);have hk5:Keeps S' w1 w5:=.grown hgr fun i hi=>.inl (hf.inV i hi);have hk6:Keeps S' w5 (w5.setCell ⟨g,0,none⟩ v5):=Keeps.setCell (X:=S') (p:=⟨g,0,none⟩) (.inl hf.inG) v5;refine OpR.good (S':=fun i=>S' i∨v5.ownBlock=some i) ⟨fun i hi=>.inl (hg.1 i hi),?_⟩ ⟨v5,?_⟩ (grow_keeps hg hk (hk5.trans hk6))
 ·rintro i (hi|hi)
  ·exact hg.2 i hi
  ·rcases ho with ho|ho
   ·exact hg.2 i (hf.inV i (by rw [←ho];exact hi))
   ·rw [ho] at hi
    injection hi with hi
    right
    have:=hk.size;omega
 ·refine ⟨by have:=hb5.set_ 0 v5;simpa using this,hr.keeps (Keeps.set1 w5 g 0 v5) (fun k hk e=>by have:=(hr.lt k hk).1;omega),.inl hf.inG,fun i hi=>.inr hi,?_,hok⟩
  rintro i (hi|hi)
  ·have:=hf.small i hi
   have:=hgr.size;simp [World.setCell]
   omega
  ·have:=(hr.lt i hi).2
   simpa [World.setCell] using this
theorem append_any (s:ByteArray) (hs:s.size≤1048576) (h:DiskS w S g d):Calls Tryz.prog 138 #[.pointer (some ⟨g,0,none⟩),.string s] w (OpR S g (appD d s.data.toList) w):=by
 obtain ⟨i0,hi,hz⟩:=Option.map_eq_some_iff.1 byte_info;simp only [Prod.mk.injEq] at hz;obtain ⟨hz0,hz1,hz2⟩:=hz;have H:=qH h;have HOP:=qH (operate_any h.drew);obtain ⟨v,hf⟩:=h;have HSM:=qH hf.small;obtain ⟨A,c,rfl⟩:=hf.row.form;have c0:w.cell? ⟨g,0,none⟩=_:=hf.blk.cell 0;have c2:w.cell? ⟨g,2,none⟩=_:=hf.blk.cell 2;have hlt:=hf.blk.lt;have hfew:=hf.ok.few;have hroom:=hf.ok.room_;simp at c0 c2
 clear hf;have hwr:=IntWalk.i64_in ((d.room:Int)-(d.b.length:Int)) (by omega)
 by_cases hfull:d.down=false∧(d.room:Int)-d.b.length<s.size
 ·obtain ⟨hd,hfl⟩:=hfull
  have HD:=qH (show appD d s.data.toList=(d,4) from by unfold appD;rw [if_pos ⟨hd,hfl⟩]);have d1:decide ((d.room:Int)-(d.b.length:Int)<(s.size:Int))=true:=decide_eq_true hfl;go_enter Tryz.func138,Tryz.ntmps138;go_wp2_with fail;refine wp_region_mono nobody (by kernel_rfl) ?_;refine qT 0 (v:=?_) ?_ ?_;rotate_left
  ·(intro W hSw;(have hcW:=hSw.cells;try simp only [qSd] at hcW);go_simp <;> rfl)
  try simp only [qPA]
  (try rw [hwr])
  refine wpMono_one' 1 (by kernel_rfl) rfl (by rfl) (fun K hK=>?_)
  go_simp
  refine (down_any H.out.drew).mono ?_;rintro e w1 ⟨rfl,rfl⟩;rw [hd];refine hK.out _ _ ?_ ?_
  ·exact .refl _ _
  clear hK K
  try simp only [qPA]
  (try rw [hwr])
  iterate 16
   first|refine qT 2 (v:=?_) ?_ ?_|refine qT 3 (v:=?_) ?_ ?_|refine qT 4 (v:=?_) ?_ ?_|refine qT 5 (v:=?_) ?_ ?_|refine qT 6 (v:=?_) ?_ ?_|refine qT 7 (v:=?_) ?_ ?_|refine qT 8 (v:=?_) ?_ ?_|refine qT 9 (v:=?_) ?_ ?_|refine qT 10 (v:=?_) ?_ ?_|refine qT 11 (v:=?_) ?_ ?_|refine qT 12 (v:=?_) ?_ ?_|refine qT 13 (v:=?_) ?_ ?_|refine qT 14 (v:=?_) ?_ ?_|refine qT 15 (v:=?_) ?_ ?_|refine qT 16 (v:=?_) ?_ ?_|refine qT 17 (v:=?_) ?_ ?_
   rotate_left
   ·(intro W hSw;(have hcW:=hSw.cells;try simp only [qSd] at hcW);go_simp <;> rfl)
   try simp only [qPA]
   (try rw [hwr])
  refine wpMono_done (by kernel_rfl) ?_ _;go_wp2_with fail;refine (bad_any 4 H.out.drew).mono ?_;rintro e w2 h2;have HR:=qH (OpR.ofDrew (OpR.bad (w:=w.drew) (S:=S) (g:=g) (d':=d) (by decide) (Keeps.refl S _) H.out.drew h2 HSM.out));obtain ⟨x,rfl,_⟩:=h2;go_wp2_with fail;go_ret
  rw [HD.out];exact HR.out
 ·have HS:=qH (show appD d s.data.toList=if (operD d).2=0 then ({ (operD d).1 with b:=(operD d).1.b++s.data.toList },0) else operD d from if_neg hfull)
  have HAO:=qH (app_ok (s:=s.data.toList) H.out.ok_);have d1:d.down=false→decide ((d.room:Int)-(d.b.length:Int)<(s.size:Int))=false:=fun hd=>decide_eq_false (fun h=>hfull ⟨hd,h⟩);clear hfull;generalize operD d=od at *;generalize appD d s.data.toList=sd at *;go_enter Tryz.func138,Tryz.ntmps138
  cases hd:d.down with
  | true =>
   clear d1;go_wp2_with fail;refine wp_region_mono nobody (by kernel_rfl) ?_;refine qT 0 (v:=?_) ?_ ?_;rotate_left
   ·(intro W hSw;(have hcW:=hSw.cells;try simp only [qSd] at hcW);go_simp <;> rfl)
   try simp only [qPA]
   refine wpMono_one' 1 (by kernel_rfl) rfl (by rfl) (fun K hK=>?_)
   go_simp
   refine (down_any H.out.drew).mono ?_;rintro e w1 ⟨rfl,rfl⟩;rw [hd];refine hK.out _ _ ?_ ?_
   ·exact .refl _ _
   clear hK K
   try simp only [qPA]
   iterate 2
    first|refine qT 2 (v:=?_) ?_ ?_|refine qT 3 (v:=?_) ?_ ?_
    rotate_left
    ·(intro W hSw;(have hcW:=hSw.cells;try simp only [qSd] at hcW);go_simp <;> rfl)
    try simp only [qPA]
   refine wpMono_skip' 4 rfl (by kernel_rfl) (by kernel_rfl) (by kernel_rfl) (fun _ _ _ h=>h) (by rfl) ?_
   try simp only [qPA]
   refine wpMono_skip' 5 rfl (by kernel_rfl) (by kernel_rfl) (by kernel_rfl) (fun _ _ _ h=>h) (by rfl) ?_
   try simp only [qPA]
   refine wpMono_skip' 6 rfl (by kernel_rfl) (by kernel_rfl) (by kernel_rfl) (fun _ _ _ h=>h) (by rfl) ?_
   try simp only [qPA]
   refine wpMono_skip' 7 rfl (by kernel_rfl) (by kernel_rfl) (by kernel_rfl) (fun _ _ _ h=>h) (by rfl) ?_
   try simp only [qPA]
   refine wpMono_skip' 8 rfl (by kernel_rfl) (by kernel_rfl) (by kernel_rfl) (fun _ _ _ h=>h) (by rfl) ?_
   try simp only [qPA]
   refine wpMono_skip' 9 rfl (by kernel_rfl) (by kernel_rfl) (by kernel_rfl) (fun _ _ _ h=>h) (by rfl) ?_
   try simp only [qPA]
   refine wpMono_skip' 10 rfl (by kernel_rfl) (by kernel_rfl) (by kernel_rfl) (fun _ _ _ h=>h) (by rfl) ?_
   try simp only [qPA]
   refine wpMono_skip' 11 rfl (by kernel_rfl) (by kernel_rfl) (by kernel_rfl) (fun _ _ _ h=>h) (by rfl) ?_
   try simp only [qPA]
   refine wpMono_skip' 12 rfl (by kernel_rfl) (by kernel_rfl) (by kernel_rfl) (fun _ _ _ h=>h) (by rfl) ?_
   try simp only [qPA]
   refine wpMono_skip' 13 rfl (by kernel_rfl) (by kernel_rfl) (by kernel_rfl) (fun _ _ _ h=>h) (by rfl) ?_
   try simp only [qPA]
   refine wpMono_skip' 14 rfl (by kernel_rfl) (by kernel_rfl) (by kernel_rfl) (fun _ _ _ h=>h) (by rfl) ?_
   try simp only [qPA]
   refine wpMono_skip' 15 rfl (by kernel_rfl) (by kernel_rfl) (by kernel_rfl) (fun _ _ _ h=>h) (by rfl) ?_
   try simp only [qPA]
   refine wpMono_skip' 16 rfl (by kernel_rfl) (by kernel_rfl) (by kernel_rfl) (fun _ _ _ h=>h) (by rfl) ?_
   try simp only [qPA]
   refine qT 17 (v:=?_) ?_ ?_;rotate_left
   ·(intro W hSw;(have hcW:=hSw.cells;try simp only [qSd] at hcW);go_simp <;> rfl)
   try simp only [qPA]
   refine wpMono_done (by kernel_rfl) ?_ _;go_wp2_with fail;refine HOP.out.mono ?_;rintro e w1 ⟨x,S',rfl,heo,hgr,hd1,hk1,hx⟩
   rcases heo with ⟨hc,rfl⟩|⟨hc,herr,hnn⟩
   ·obtain ⟨v1,hf1⟩:=hd1
    have HF1:=qH hf1;have HG:=qH hgr;have HK1:=qH hk1;rw [hc,if_pos rfl] at HS;obtain ⟨A1,c1,rfl⟩:=hf1.row.form;have c0':w1.cell? ⟨g,0,none⟩=_:=hf1.blk.cell 0;have hlt1:=hf1.blk.lt;have hbnd:od.1.b.length+s.size≤4194304:=by have:=hf1.ok.few;omega
    have HBN:=qH hbnd;simp at c0'
    clear hf1 hgr hk1 hx hc c0 c2 hbnd
    go_wp2_with (at_builtin;refine wpList_append_rowC rfl (.tmp 34) (.tmp 35) 86 9 rfl i0 Tryz.underlying86 Tryz.underlying9 hi hz0 hz1 hz2 rfl HF1.out.row s rfl (Nat.le_trans HBN.out (by decide)) (Nat.le_trans HBN.out (by decide)) hlt1 ?_;intro v5 w5 hr5 hg5 ho5;obtain ⟨A5,cc5,rfl⟩:=hr5.form;have hl5:(od.1.b++s.data.toList).length=od.1.b.length+s.size:=(by rw [List.length_append];rfl);rw [hl5] at hr5 ho5;(try rw [hl5]);clear hl5;have HR5:=qH hr5;have HG5:=qH hg5;have HO5:=qH ho5;have hb5:=HF1.out.blk.grown hg5 (fun e=>by have:=(HF1.out.row.lt _ e.symm).1;omega);have HB5:=qH hb5;have f5:=hb5.frozen 0;have c5:w5.cell? ⟨g,0,none⟩=_:=hb5.cell 0;have hlt5:=hb5.lt;simp at c5;clear hr5 hg5 ho5 hb5)
    go_ret
    rw [HS.out];exact OpR.ofDrew (app_end HG.out HK1.out HF1.out HR5.out HG5.out HO5.out (by have h:=HAO.out;rw [HS.out] at h;exact h))
   ·have HR:=qH (show OpR S g sd _ (.returned x) w1 from OpR.ofDrew (by rw [HS.out,if_neg hc];exact ⟨x,S',rfl,.inr ⟨hc,herr,hnn⟩,hgr,hd1,hk1,hx⟩))
    obtain ⟨k,rfl⟩:=herr.form;clear herr hgr hd1 hk1 hx hnn;go_wp2_with fail;go_ret
    exact HR.out
  | false =>
   have d1:=d1 hd;go_wp2_with fail;refine wp_region_mono nobody (by kernel_rfl) ?_;refine qT 0 (v:=?_) ?_ ?_;rotate_left
   ·(intro W hSw;(have hcW:=hSw.cells;try simp only [qSd] at hcW);go_simp <;> rfl)
   try simp only [qPA]
   (try rw [hwr])
   refine wpMono_one' 1 (by kernel_rfl) rfl (by rfl) (fun K hK=>?_)
   go_simp
   refine (down_any H.out.drew).mono ?_;rintro e w1 ⟨rfl,rfl⟩;rw [hd];refine hK.out _ _ ?_ ?_
   ·exact .refl _ _
   clear hK K
   try simp only [qPA]
   (try rw [hwr])
   iterate 16
    first|refine qT 2 (v:=?_) ?_ ?_|refine qT 3 (v:=?_) ?_ ?_|refine qT 4 (v:=?_) ?_ ?_|refine qT 5 (v:=?_) ?_ ?_|refine qT 6 (v:=?_) ?_ ?_|refine qT 7 (v:=?_) ?_ ?_|refine qT 8 (v:=?_) ?_ ?_|refine qT 9 (v:=?_) ?_ ?_|refine qT 10 (v:=?_) ?_ ?_|refine qT 11 (v:=?_) ?_ ?_|refine qT 12 (v:=?_) ?_ ?_|refine qT 13 (v:=?_) ?_ ?_|refine qT 14 (v:=?_) ?_ ?_|refine qT 15 (v:=?_) ?_ ?_|refine qT 16 (v:=?_) ?_ ?_|refine qT 17 (v:=?_) ?_ ?_
    rotate_left
    ·(intro W hSw;(have hcW:=hSw.cells;try simp only [qSd] at hcW);go_simp <;> rfl)
    try simp only [qPA]
    (try rw [hwr])
   refine wpMono_done (by kernel_rfl) ?_ _;go_wp2_with fail;refine HOP.out.mono ?_;rintro e w1 ⟨x,S',rfl,heo,hgr,hd1,hk1,hx⟩
   rcases heo with ⟨hc,rfl⟩|⟨hc,herr,hnn⟩
   ·obtain ⟨v1,hf1⟩:=hd1
    have HF1:=qH hf1;have HG:=qH hgr;have HK1:=qH hk1;rw [hc,if_pos rfl] at HS;obtain ⟨A1,c1,rfl⟩:=hf1.row.form;have c0':w1.cell? ⟨g,0,none⟩=_:=hf1.blk.cell 0;have hlt1:=hf1.blk.lt;have hbnd:od.1.b.length+s.size≤4194304:=by have:=hf1.ok.few;omega
    have HBN:=qH hbnd;simp at c0'
    clear hf1 hgr hk1 hx hc c0 c2 hbnd
    go_wp2_with (at_builtin;refine wpList_append_rowC rfl (.tmp 34) (.tmp 35) 86 9 rfl i0 Tryz.underlying86 Tryz.underlying9 hi hz0 hz1 hz2 rfl HF1.out.row s rfl (Nat.le_trans HBN.out (by decide)) (Nat.le_trans HBN.out (by decide)) hlt1 ?_;intro v5 w5 hr5 hg5 ho5;obtain ⟨A5,cc5,rfl⟩:=hr5.form;have hl5:(od.1.b++s.data.toList).length=od.1.b.length+s.size:=(by rw [List.length_append];rfl);rw [hl5] at hr5 ho5;(try rw [hl5]);clear hl5;have HR5:=qH hr5;have HG5:=qH hg5;have HO5:=qH ho5;have hb5:=HF1.out.blk.grown hg5 (fun e=>by have:=(HF1.out.row.lt _ e.symm).1;omega);have HB5:=qH hb5;have f5:=hb5.frozen 0;have c5:w5.cell? ⟨g,0,none⟩=_:=hb5.cell 0;have hlt5:=hb5.lt;simp at c5;clear hr5 hg5 ho5 hb5)
    go_ret
    rw [HS.out];exact OpR.ofDrew (app_end HG.out HK1.out HF1.out HR5.out HG5.out HO5.out (by have h:=HAO.out;rw [HS.out] at h;exact h))
   ·have HR:=qH (show OpR S g sd _ (.returned x) w1 from OpR.ofDrew (by rw [HS.out,if_neg hc];exact ⟨x,S',rfl,.inr ⟨hc,herr,hnn⟩,hgr,hd1,hk1,hx⟩))
    obtain ⟨k,rfl⟩:=herr.form;clear herr hgr hd1 hk1 hx hnn;go_wp2_with fail;go_ret
    exact HR.out
end
end disk
namespace tab
open Go.RowKit base list err Go.Maps Go.ChangeMaps
theorem zero_int (w:World):(zeroValue 3).run Tryz.prog w=.ok (.int .i64 0) w:=by kernel_rfl
theorem keyed:Keyed Tryz.prog 9:=string_keyed Tryz.underlying9
theorem key_of {u:ByteArray} (hu:u.size≤maxLen):keyOf Tryz.prog 9 (.string u)=some (.string u.data.toList):=Go.WideMaps.keyOf_string_mk Tryz.underlying9 hu
def MapL (w:World) (b:Nat) (L:List Ep):Prop:=w.ownsMap Tryz.prog 9 (plainElem (H:=Unit) Tryz.prog 3) b L.length (dm L)∧Rising L
def Tab (w:World) (g b:Nat) (L:List Ep):Prop:=Blk w g 179 #[.map (some b)]∧MapL w b L
section
variable {w w':World} {g b:Nat} {L:List Ep}
theorem own_exact {n:Nat} (h:w.ownsMap Tryz.prog 9 (plainElem (H:=Unit) Tryz.prog 3) b n (dm L)):w.ownsMap Tryz.prog 9 (plainElem (H:=Unit) Tryz.prog 3) b L.length (dm L):=by
 obtain ⟨es,clock,hb,F,hs,hD⟩:=h;refine ⟨es,clock,hb,F,?_,hD⟩
 have h1:Maps.size (dm L)=es.size:=by
  rw [hD];simp [Maps.size,length_sorted]
 rw [size_dm] at h1;omega
theorem MapL.lt (h:MapL w b L):b<w.heap.size:=h.1.lt
theorem MapL.keeps {X:Nat→Prop} (h:MapL w b L) (hk:Keeps X w w') (hx:¬ X b):MapL w' b L:=by
 obtain ⟨⟨es,clock,hb,F,hs,hD⟩,hr⟩:=h;exact ⟨⟨es,clock,(hk.block b (heap_lt hb) hx).trans hb,F,hs,hD⟩,hr⟩
theorem MapL.below (h:MapL w b L) (hk:Below w.heap.size w w'):MapL w' b L:=h.keeps (X:=nobody) (.of_below hk) (fun h=>h)
theorem Tab.keeps {X:Nat→Prop} (h:Tab w g b L) (hk:Keeps X w w') (hg:¬ X g) (hb:¬ X b):Tab w' g b L:=⟨h.1.keeps hk hg,h.2.keeps hk hb⟩
theorem Tab.below (h:Tab w g b L) (hk:Below w.heap.size w w'):Tab w' g b L:=h.keeps (X:=nobody) (.of_below hk) (fun h=>h) (fun h=>h)
theorem MapL.look (h:MapL w b L) {u:ByteArray} (hu:u.size≤maxLen):(Instr.lookup 177 (.map (some b)) (.string u) false).run Tryz.prog w=.ok (.int .i64 (getL L u)) w:=by
 obtain ⟨c,hrun,hat,_⟩:=h.1.lookup_int keyed Tryz.underlying177 Tryz.underlying3 (zero_int w) (key_of hu);rw [at_dm] at hat
 have e:getL L u=c:=by
  have:=congrArg (fun d:DataW Unit=>match d with|.lit (.int _ n)=>n|_=>0) hat;exact this
 rw [hrun,e]
theorem MapL.put (h:MapL w b L) {u:ByteArray} (hu:u.size≤maxLen) {n:Int} (hn:(Lit.int .i64 n).wf=true) (hl:L.length≤1000000) :
  ∃ w',(Instr.mapUpdate 177 (.map (some b)) (.string u) (.int .i64 n)).run Tryz.prog w=.ok () w'∧MapL w' b (putL L u n)∧Keeps (· = b) w w':=by
 obtain ⟨w',hrun,hown,hg⟩:=h.1.update keyed Tryz.underlying177 (by unfold maxLen;omega) (key_of hu) (plainElem_int Tryz.underlying3 hn);rw [put_dm L h.2] at hown;exact ⟨w',hrun,⟨own_exact hown,(rising_put L u n h.2).1⟩,.grown hg (fun g hg=>.inl (by simpa using hg.symm))⟩
theorem MapL.new (w:World):MapL (w.alloc (.map #[] 0)) w.heap.size []:=⟨World.ownsMap_made _ _ _ _,trivial⟩
theorem MapL.len (h:MapL w b L):(Builtin.len_ #[177] 3 #[.map (some b)]).run Tryz.prog w=.ok (.int .i64 L.length) w:=by
 have:=h.1.len Tryz.underlying177 3;rw [size_dm] at this;exact this
end
theorem bad_any (c:Int) (w:World):Calls Tryz.prog 78 #[.int .i64 c] w (ErrNew c w):=by
 go_enter Tryz.func78,Tryz.ntmps78;go_wp2_with fail;refine (at_any _ _ _ _).mono ?_;rintro e w1 ⟨v,rfl,h1,h2,h3,h4⟩;have H:=qH (⟨v,rfl,h1,h2,h3,h4⟩:ErrNew c w (.returned v) w1);clear h1 h2 h3 h4;go_wp2;go_ret
 exact H.out
theorem get_any (g b:Nat) (L:List Ep) (u:ByteArray) (w:World) (h:Tab w g b L) (hu:u.size≤maxLen):Calls Tryz.prog 98 #[.pointer (some ⟨g,0,none⟩),.string u] w fun e w'=>e=.returned (.int .i64 (getL L u))∧w=w':=by
 have h0:w.cell? ⟨g,0,none⟩=some (.map (some b)):=h.1.cell 0;have hk:=h.2.look hu;clear h hu;go_enter Tryz.func98,Tryz.ntmps98;go_wp2;go_ret
 exact ⟨rfl,rfl⟩
def right (u:ByteArray) (n:Int):Bool:=decide (1≤u.size∧u.size≤32∧1≤n∧n≤1099511627776)
def canC (L:List Ep) (u:ByteArray) (n:Int):Int:=if right u n then (if getL L u=0∧64≤L.length then 4 else 0) else 1
def Can (c:Int) (w:World) (e:Ending) (w':World):Prop:=∃ v,e=.returned v∧EO w' v c∧Below w.heap.size w w'
theorem can_any (g b:Nat) (L:List Ep) (u:ByteArray) (n:Int) (w:World) (h:Tab w g b L) (hu:u.size≤maxLen) (hl:L.length≤1000000) :
  Calls Tryz.prog 77 #[.pointer (some ⟨g,0,none⟩),.string u,.int .i64 n] w (Can (canC L u n) w):=by
 have h0:w.cell? ⟨g,0,none⟩=some (.map (some b)):=h.1.cell 0;have hk:=h.2.look hu;have hn:=h.2.len;clear h hu
 by_cases hr:right u n=true
 ·have hr':=hr
  unfold right at hr';have hc:canC L u n=if getL L u=0∧64≤L.length then 4 else 0:=if_pos hr;obtain ⟨r1,r2,r3,r4⟩:=of_decide_eq_true hr';clear hr hr'
  by_cases hf:getL L u=0∧64≤L.length
  ·rw [if_pos hf] at hc
   rw [hc];obtain ⟨hf1,hf2⟩:=hf;rw [hf1] at hk;clear hc hf1;go_enter Tryz.func77,Tryz.ntmps77;go_wp2_with fail;refine (bad_any _ _).mono ?_;rintro e w1 ⟨v,rfl,h1,h2,h3,h4⟩;have H:=qH (⟨v,rfl,.inr ⟨by decide,h1,h2⟩,h3⟩:Can 4 w (.returned v) w1);clear h1 h2 h3 h4;go_wp2;go_ret
   exact H.out
  ·rw [if_neg hf] at hc
   rw [hc];generalize getL L u=z at *;clear hc
   by_cases hz:z=0
   ·have hl2:L.length<64:=by omega
    clear hf;subst hz;go_enter Tryz.func77,Tryz.ntmps77;go_wp2;go_ret
    exact ⟨_,rfl,.nil _,.refl _ _⟩
   ·clear hf
    have hz':(z==0)=false:=by simpa using hz
    go_enter Tryz.func77,Tryz.ntmps77;go_wp2;go_ret
    exact ⟨_,rfl,.nil _,.refl _ _⟩
 ·have hc:canC L u n=1:=if_neg hr
  rw [hc];clear hc;unfold right at hr
  have hw:u.size<1∨(1≤u.size∧32<u.size)∨(1≤u.size∧u.size≤32∧n<1)∨(1≤u.size∧u.size≤32∧1≤n∧1099511627776<n):=by
   simp at hr;omega
  clear hr hk hn
  rcases hw with hw|⟨hw,hw2⟩|⟨hw,hw2,hw3⟩|⟨hw,hw2,hw3,hw4⟩
  all_goals
   go_enter Tryz.func77,Tryz.ntmps77;go_wp2_with fail;refine (bad_any _ _).mono ?_;rintro e w1 ⟨v,rfl,h1,h2,h3,h4⟩;have H:=qH (⟨v,rfl,.inr ⟨by decide,h1,h2⟩,h3⟩:Can 1 w (.returned v) w1);clear h1 h2 h3 h4;go_wp2;go_ret
   exact H.out
def GoodL (L:List Ep):Prop:=Rising L∧L.length≤64∧∀ e ∈ L,right e.u e.n=true
theorem put_len (L:List Ep) (u:ByteArray) (n:Int):(putL L u n).length≤L.length+1:=by
 induction L with
 | nil=>simp [putL]
 | cons e L ih =>
  simp only [putL]
  split
  ·simp
  ·split
   ·simp
   ·simp;omega
theorem get_above (L:List Ep) (u:ByteArray) (h:∀ e ∈ L,bl u e.u=true):getL L u=0:=by
 induction L with
 | nil=>rfl
 | cons e L ih =>
  simp only [getL];have h1:=h e (by simp);rw [eqb_false (fun he=>by rw [he] at h1;rw [bl_irr] at h1;cases h1)];exact ih (fun f hf=>h f (by simp [hf]))
theorem put_same (L:List Ep) (u:ByteArray) (n:Int) (hr:Rising L) (h:getL L u≠0):(putL L u n).length=L.length:=by
 induction L with
 | nil=>simp [getL] at h
 | cons e L ih =>
  obtain ⟨h1,h2⟩:=hr;simp only [putL]
  rcases bl_tri u e.u with ⟨hh,h3,h4⟩|⟨hh,h3,h4⟩|⟨hh,h3,h4⟩
  ·subst hh;simp [h3,eqb_self]
  ·exfalso
   apply h
   refine get_above _ _ (fun f hf=>?_)
   rcases List.mem_cons.1 hf with rfl|hf
   ·exact h3
   ·exact bl_trans h3 (h1 f hf)
  ·simp only [h3,eqb_false hh,Bool.false_eq_true,if_false,List.length_cons]
   simp only [getL,eqb_false (fun e=>hh e.symm),Bool.false_eq_true,if_false] at h;rw [ih h2 h]
theorem good_put {L:List Ep} {u:ByteArray} {n:Int} (h:GoodL L) (hc:canC L u n=0):GoodL (putL L u n)∧right u n=true:=by
 obtain ⟨h1,h2,h3⟩:=h;unfold canC at hc
 by_cases hr:right u n=true
 ·rw [if_pos hr] at hc
  refine ⟨⟨(rising_put L u n h1).1,?_,fun e he=>?_⟩,hr⟩
  ·by_cases h0:getL L u=0
   ·have hl:¬ 64≤L.length:=fun h=>by rw [if_pos ⟨h0,h⟩] at hc;cases hc
    have:=put_len L u n;omega
   ·rw [put_same L u n h1 h0];exact h2
  ·rcases mem_put L u n e he with rfl|h
   ·exact hr
   ·exact h3 e h
 ·rw [if_neg hr] at hc;cases hc
theorem wf_right {u:ByteArray} {n:Int} (h:right u n=true):(Lit.int .i64 n).wf=true:=by
 have:=of_decide_eq_true h;simp [Lit.wf,IntKind.min,IntKind.max,IntKind.bits,IntKind.signed]
 omega
end tab
namespace new
open Go.RowKit base list err tab
def Eps (w:World) (B:Nat) (A:Option Addr) (len cap:Nat) (l:List Ep):Prop:=l.length=len∧len≤cap∧cap≤maxLen∧Reads w B 2 A len (l.flatMap ep)
section
variable {w w':World} {B B' len cap:Nat} {A:Option Addr} {l:List Ep}
theorem Eps.below (h:Eps w B A len cap l) (hb:Below B w w'):Eps w' B A len cap l:=⟨h.1,h.2.1,h.2.2.1,h.2.2.2.below hb⟩
theorem Eps.at_some (h:Eps w B A len cap l) (hl:0<len):∃ b off,A=some ⟨b,off,none⟩∧b<B:=h.2.2.2.at_some hl
theorem Eps.get (h:Eps w B A len cap l) {k:Nat} (hk:k<len):∃ s,l[k]?=some s:=⟨l[k]'(by rw [h.1];exact hk),List.getElem?_eq_getElem _⟩
theorem Eps.cell {b off:Nat} (h:Eps w B (some ⟨b,off,none⟩) len cap l) {k:Nat} {s:Ep} (hk:k<len) (hs:l[k]?=some s) :
  w.cell? ⟨b,off+k*2,none⟩=some (.string s.u)∧w.cell? ⟨b,off+k*2+1,none⟩=some (.int .i64 s.n) :=
 ⟨h.2.2.2.thing ep ep_len hk hs 0 (by omega),h.2.2.2.thing ep ep_len hk hs 1 (by omega)⟩
end
theorem put_last (L:List Ep) (u:ByteArray) (n:Int) (h:∀ e ∈ L,bl e.u u=true):putL L u n=L++[⟨u,n⟩]:=by
 induction L with
 | nil=>rfl
 | cons e L ih =>
  have h1:=h e (by simp);simp only [putL,bl_asym h1,eqb_false (fun he:u=e.u=>by rw [he,bl_irr] at h1;cases h1),Bool.false_eq_true,if_false,List.cons_append];rw [ih (fun f hf=>h f (by simp [hf]))]
theorem get_none (L:List Ep) (u:ByteArray) (h:∀ e ∈ L,bl e.u u=true):getL L u=0:=by
 induction L with
 | nil=>rfl
 | cons e L ih =>
  have h1:=h e (by simp);simp only [getL,eqb_false (fun he:e.u=u=>by rw [he,bl_irr] at h1;cases h1),Bool.false_eq_true,if_false];exact ih (fun f hf=>h f (by simp [hf]))
theorem rising_app (L:List Ep) (e:Ep):Rising (L++[e])↔Rising L∧∀ f ∈ L,bl f.u e.u=true:=by
 induction L with
 | nil=>simp [Rising]
 | cons f L ih =>
  simp only [List.cons_append,Rising,ih,List.mem_append,List.mem_cons,List.not_mem_nil,or_false]
  constructor
  ·rintro ⟨h1,h2,h3⟩
   exact ⟨⟨fun g hg=>h1 g (.inl hg),h2⟩,fun g hg=>by rcases hg with rfl|hg;exact h1 _ (.inr rfl);exact h3 g hg⟩
  ·rintro ⟨⟨h1,h2⟩,h3⟩
   exact ⟨fun g hg=>by rcases hg with hg|rfl;exact h1 g hg;exact h3 f (.inl rfl),h2,fun g hg=>h3 g (.inr hg)⟩
theorem above_last (L:List Ep) (p:Ep) (u:ByteArray) (h:Rising (L++[p])) (hp:bl p.u u=true):∀ e ∈ L++[p],bl e.u u=true:=by
 intro e he
 rcases List.mem_append.1 he with he|he
 ·exact bl_trans (((rising_app L p).1 h).2 e he) hp
 ·simp at he;subst he;exact hp
theorem rising_take (L:List Ep) (k:Nat) (h:Rising L):Rising (L.take k):=by
 induction L generalizing k with
 | nil=>simp [Rising]
 | cons e L ih =>
  cases k with
  | zero=>simp [Rising]
  | succ k=>exact ⟨fun f hf=>h.1 f (List.mem_of_mem_take hf),ih k h.2⟩
theorem good_take {L:List Ep} (k:Nat) (h:GoodL L):GoodL (L.take k):=⟨rising_take L k h.1,by have:=h.2.1;simp;omega,fun e he=>h.2.2 e (List.mem_of_mem_take he)⟩
theorem take_last {L:List Ep} {k:Nat} {p:Ep} (h:L[k]?=some p):L.take (k+1)=L.take k++[p]:=by
 obtain ⟨hk,rfl⟩:=List.getElem?_eq_some_iff.1 h;exact List.take_succ_eq_append_getElem hk
def bad (p x:ByteArray):Bool:=bl x p || eqb x p
theorem bad_iff (p x:ByteArray):bad p x=!bl p x:=by
 unfold bad
 rcases bl_tri p x with ⟨h,h1,h2⟩|⟨h,h1,h2⟩|⟨h,h1,h2⟩
 ·subst h;simp [h1,eqb_self]
 ·simp [h1,h2,eqb_false (fun e=>h e.symm)]
 ·simp [h1,h2]
theorem leq_str (a b:ByteArray) (w:World):(binOp .leq 9 (.string a) (.string b)).run Tryz.prog w=.ok (.bool (bad b a)) w:=by
 simp [go_sem,Op.stringOp,bad,bl,eqb,binOp]
theorem good_step {L:List Ep} {k:Nat} {x:Ep} (hx:L[k]?=some x) (hG:GoodL (L.take k)) (hab:∀ p,0<k→L[k-1]?=some p→bl p.u x.u=true) (hc:canC (L.take k) x.u x.n=0) :
  GoodL (L.take (k+1))∧putL (L.take k) x.u x.n=L.take (k+1):=by
 have hall:∀ e ∈ L.take k,bl e.u x.u=true:=by
  rcases Nat.eq_zero_or_pos k with h0|h0
  ·subst h0;simp
  ·obtain ⟨j,rfl⟩:∃ j,k=j+1:=⟨k-1,by omega⟩
   obtain ⟨hk,_⟩:=List.getElem?_eq_some_iff.1 hx;have hp:L[j]?=some L[j]:=List.getElem?_eq_getElem (by omega);rw [take_last hp] at hG ⊢;exact above_last _ _ _ hG.1 (hab _ h0 (by simp only [Nat.add_sub_cancel];exact hp))
 have hput:putL (L.take k) x.u x.n=L.take (k+1):=by rw [put_last _ _ _ hall,take_last hx]
 rw [←hput];exact ⟨(good_put hG hc).1,rfl⟩
theorem good_next {L:List Ep} {k:Nat} {x:Ep} (hx:L[k]?=some x) (hG:GoodL L):canC (L.take k) x.u x.n=0∧∀ p,0<k→L[k-1]?=some p→bl p.u x.u=true:=by
 have hG1:=good_take (k+1) hG;rw [take_last hx] at hG1;have hall:=((rising_app _ _).1 hG1.1).2;refine ⟨?_,fun p h0 hp=>?_⟩
 ·unfold canC
  rw [if_pos (hG.2.2 x (List.mem_of_getElem? hx)),if_neg];rintro ⟨_,h⟩;have:=hG1.2.1;simp only [List.length_append,List.length_cons,List.length_nil] at this;omega
 ·obtain ⟨j,rfl⟩:∃ j,k=j+1:=⟨k-1,by omega⟩
  simp only [Nat.add_sub_cancel] at hp;exact hall p (by rw [take_last hp];simp)
def NewNo (w:World) (e:Ending) (w':World):Prop:=∃ v,e=.returned (.tuple #[.pointer none,v])∧Err w' v 1∧v≠.nilIface∧Below w.heap.size w w'
def NewYes (L:List Ep) (w:World) (e:Ending) (w':World):Prop:=∃ g b,e=.returned (.tuple #[.pointer (some ⟨g,0,none⟩),.nilIface])∧w.heap.size≤g∧w.heap.size≤b∧Tab w' g b L∧Below w.heap.size w w'
def NewEnd (L:List Ep) (w:World) (e:Ending) (w':World):Prop:=(GoodL L∧NewYes L w e w')∨(¬ GoodL L∧NewNo w e w')
theorem new_any (A:Option Addr) (len cap:Nat) (L:List Ep) (w:World) (h:Eps w w.heap.size A len cap L) (hl:len≤100000) (hu:∀ e ∈ L,e.u.size≤maxLen) :
  Calls Tryz.prog 32 #[.slice A len cap] w (NewEnd L w):=by
 have hlc:=h.2.1;have hcm:=h.2.2.1;unfold maxLen at hcm;have Hu:=qH hu;clear hu;have H:=qH h;clear h;have hmm:=@run_makeMap Tryz.prog;go_enter Tryz.func32,Tryz.ntmps32;go_wp2
 go_loopw [5,6,12] (fun _ _ i wr=>∃ k:Nat,k≤len∧i=.int .i64 k∧GoodL (L.take k)∧Tab wr (w.heap.size+1) w.heap.size (L.take k)∧Below w.heap.size w wr) (fun _ _ i _=>len-(intOf i).toNat)
 case atStart =>
  refine ⟨0,by omega,rfl,⟨trivial,by simp,by simp⟩,⟨Blk.newAt _ _ _ (by simp),?_⟩,below_alloc (below_new w _) _⟩;exact (MapL.new w).below (below_new _ _)
 case round =>
  obtain ⟨k,hk,rfl,hG,hT,hbw⟩:=hrel
  by_cases hlt:k<len
  ·obtain ⟨b,off,rfl,hb⟩:=H.out.at_some (by omega)
   obtain ⟨x,hx⟩:=H.out.get hlt;obtain ⟨hx0,hx1⟩:=(H.out.below hbw).cell hlt hx;have hxu:x.u.size≤9223372036854775807:=Hu.out x (List.mem_of_getElem? hx);have hbl:=Nat.lt_of_lt_of_le hb hbw.size
   have hprev:∃ p:Ep,0<k→L[k-1]?=some p∧wr.cell? ⟨b,off+(k-1)*2,none⟩=some (.string p.u):=by
    by_cases h0:0<k
    ·obtain ⟨p,hp⟩:=H.out.get (k:=k-1) (by omega)
     exact ⟨p,fun _=>⟨hp,((H.out.below hbw).cell (by omega) hp).1⟩⟩
    ·exact ⟨x,fun h=>absurd h h0⟩
   obtain ⟨p,hp⟩:=hprev;have hstep:=fun hab hc=>good_step hx hG hab hc;have hnext:=fun hL=>good_next hx hL;have hmax:0<k∨k=0:=by omega
   obtain ⟨xu,xn⟩:=x;obtain ⟨pu,pn⟩:=p;dsimp only at hx0 hx1 hstep hnext hxu;have Hstep:=qH hstep;have Hnext:=qH hnext;have Hp:=qH hp;have hlen:(L.take k).length≤1000000:=by simp;omega
   have hgl:=hT.1.lt;have HG:=qH hG;have HT:=qH hT;have Hbw:=qH hbw;have Hx:=qH hx;clear hG hT hbw hx;clear hstep hnext hp;have hX:=Blk.new wr 181 #[.string xu,.int .i64 xn];have hwx:=below_new wr (.cells #[.string xu,.int .i64 xn] 181);have hT2:=HT.out.below hwx;have HX:=qH hX;have Hwx:=qH hwx;have HT2:=qH hT2;clear hX hwx hT2;have hleq:=leq_str xu pu
   by_cases hc:canC (L.take k) xu xn=0
   ·have Hc:=qH hc
    clear hc
    rcases hmax with h0|h0
    ·obtain ⟨j,rfl⟩:∃ j,k=j+1:=⟨k-1,by omega⟩
     obtain ⟨hpl,hpc⟩:=Hp.out h0;simp only [Nat.add_sub_cancel] at hpl hpc;have hwj:IntKind.i64.wrap (j:Int)=j:=IntWalk.i64_in _ (by omega);have hj1:(j:Int)<len:=by omega
     have hd0:decide (0<(j:Int)+1)=true:=by simp <;> omega
     have Hpl:=qH hpl;rw [bad_iff] at hleq
     by_cases hbp:bl pu xu=true
     ·rw [hbp] at hleq
      have hab:∀ p:Ep,0<j+1→L[j+1-1]?=some p→bl p.u xu=true:=fun p _ hp2=>by
       simp only [Nat.add_sub_cancel] at hp2;rw [Hpl.out] at hp2;injection hp2 with hp2;subst hp2;exact hbp
      have Hab:=qH hab;clear hab hpl hbp;go_wp2_with fail;refine wp_region_mono nobody (by kernel_rfl) ?_
      iterate 5
       first|refine qT 0 (v:=?_) ?_ ?_|refine qT 1 (v:=?_) ?_ ?_|refine qT 2 (v:=?_) ?_ ?_|refine qT 3 (v:=?_) ?_ ?_|refine qT 4 (v:=?_) ?_ ?_
       rotate_left
       ·(intro W hSw;(have hcW:=hSw.cells;try simp only [qSd] at hcW);go_simp <;> rfl)
       try simp only [qPA]
      refine wpMono_one' 5 (by kernel_rfl) rfl (by rfl) (fun K hK=>?_)
      go_simp
      refine (can_any _ _ _ _ _ _ (HT2.out.keeps (X:=nobody) .drew (fun h=>h) (fun h=>h)) (by unfold maxLen;omega) hlen).mono ?_;rintro e w2 ⟨v,rfl,he,hb2⟩;have hv:v=.nilIface:=by rcases he with ⟨_,h⟩|⟨h,_⟩;exact h;exact absurd Hc.out h
      subst hv;have hb2':=below_ofDrew hb2;have hb3:=qH (below_step Hbw.out (below_step Hwx.out hb2'));have hX3:=HX.out.below hb2' HX.out.lt;have hT3:=HT2.out.below hb2';have q0:w2.cell? ⟨wr.heap.size,0,none⟩=_:=hX3.cell 0;have q1:w2.cell? ⟨wr.heap.size,1,none⟩=_:=hX3.cell 1;have q2:=hX3.lt;have q3:w2.cell? ⟨w.heap.size+1,0,none⟩=_:=hT3.1.cell 0;have q4:=hT3.1.lt;have q5:b<w2.heap.size:=Nat.lt_of_lt_of_le hbl (Nat.le_trans Hwx.out.size hb2'.size);have q6:=(hb2'.cell (p:=⟨b,off+j*2,none⟩) (Nat.lt_of_lt_of_le hbl Hwx.out.size)).trans ((Hwx.out.cell (p:=⟨b,off+j*2,none⟩) hbl).trans hpc);simp at q0 q1 q3
      have HX3:=qH hX3;have HT3:=qH hT3;clear he hb2' hX3 hT3;refine hK.out _ _ ?_ ?_
      ·exact .of_below hb2
      clear hK K
      try simp only [qPA]
      iterate 16
       first|refine qT 6 (v:=?_) ?_ ?_|refine qT 7 (v:=?_) ?_ ?_|refine qT 8 (v:=?_) ?_ ?_|refine qT 9 (v:=?_) ?_ ?_|refine qT 10 (v:=?_) ?_ ?_|refine qT 11 (v:=?_) ?_ ?_|refine qT 12 (v:=?_) ?_ ?_|refine qT 13 (v:=?_) ?_ ?_|refine qT 14 (v:=?_) ?_ ?_|refine qT 15 (v:=?_) ?_ ?_|refine qT 16 (v:=?_) ?_ ?_|refine qT 17 (v:=?_) ?_ ?_|refine qT 18 (v:=?_) ?_ ?_|refine qT 19 (v:=?_) ?_ ?_|refine qT 20 (v:=?_) ?_ ?_|refine qT 21 (v:=?_) ?_ ?_
       rotate_left
       ·(intro W hSw;(have hcW:=hSw.cells;try simp only [qSd] at hcW);go_simp <;> rfl)
       try simp only [qPA]
      refine wpMono_done (by kernel_rfl) ?_ _;have hst:=Hstep.out Hab.out Hc.out;have Hst:=qH hst;clear hst;go_wp2_with fail;refine wp_region_mono (· = w.heap.size) (by kernel_rfl) ?_
      iterate 8
       first|refine qT 0 (v:=?_) ?_ ?_|refine qT 1 (v:=?_) ?_ ?_|refine qT 2 (v:=?_) ?_ ?_|refine qT 3 (v:=?_) ?_ ?_|refine qT 4 (v:=?_) ?_ ?_|refine qT 5 (v:=?_) ?_ ?_|refine qT 6 (v:=?_) ?_ ?_|refine qT 7 (v:=?_) ?_ ?_
       rotate_left
       ·(intro W hSw;(have z0:=(hSw.cell 0 q2 (fun h=>absurd (h:wr.heap.size=w.heap.size) (by omega))).trans q0;have z1:=(hSw.cell 1 q2 (fun h=>absurd (h:wr.heap.size=w.heap.size) (by omega))).trans q1;have z2:=(hSw.cell 0 q4 (fun h=>absurd (h:w.heap.size+1=w.heap.size) (by omega))).trans q3);go_simp <;> rfl)
       try simp only [qPA]
      refine wpMono_one' 8 (by kernel_rfl) rfl (by rfl) (fun K hK=>?_);obtain ⟨w3,hrun,hm3,hk3⟩:=(HT3.out.keeps (X:=nobody) .drew (fun h=>h) (fun h=>h)).2.put (u:=xu) (by unfold maxLen;omega) (wf_right (good_put HG.out Hc.out).2) hlen
      go_simp
      refine hK.out _ _ ?_ ?_
      ·exact hk3
      clear hK K
      try simp only [Act.put]
      refine wpMono_done (by kernel_rfl) ?_ _;have hT4:Tab w3 (w.heap.size+1) w.heap.size _:=⟨(HT3.out.1.drew).keeps hk3 (by omega),hm3⟩;have hb4:=below_kept (hb3.out.drew) hk3 (fun i hi=>by omega);have Hfin:=qH (And.intro hT4 hb4);clear hT4 hb4 hm3 hk3 hrun;go_wp2;go_roundw
      case rel=>exact ⟨j+1+1,by omega,by go_num,Hst.out.1,by rw [←Hst.out.2];exact Hfin.out.1,Hfin.out.2⟩
      case measure=>simp [intOf];omega
     ·have hng:¬ GoodL L:=fun hL=>hbp ((Hnext.out hL).2 _ h0 (by simp only [Nat.add_sub_cancel];exact Hpl.out))
      have Hng:=qH hng;rw [show bl pu xu=false by simpa using hbp] at hleq;clear hng hpl hbp;go_wp2_with fail;refine wp_region_mono nobody (by kernel_rfl) ?_
      iterate 5
       first|refine qT 0 (v:=?_) ?_ ?_|refine qT 1 (v:=?_) ?_ ?_|refine qT 2 (v:=?_) ?_ ?_|refine qT 3 (v:=?_) ?_ ?_|refine qT 4 (v:=?_) ?_ ?_
       rotate_left
       ·(intro W hSw;(have hcW:=hSw.cells;try simp only [qSd] at hcW);go_simp <;> rfl)
       try simp only [qPA]
      refine wpMono_one' 5 (by kernel_rfl) rfl (by rfl) (fun K hK=>?_)
      go_simp
      refine (can_any _ _ _ _ _ _ (HT2.out.keeps (X:=nobody) .drew (fun h=>h) (fun h=>h)) (by unfold maxLen;omega) hlen).mono ?_;rintro e w2 ⟨v,rfl,he,hb2⟩;have hv:v=.nilIface:=by rcases he with ⟨_,h⟩|⟨h,_⟩;exact h;exact absurd Hc.out h
      subst hv;have hb2':=below_ofDrew hb2;have hb3:=qH (below_step Hbw.out (below_step Hwx.out hb2'));have hX3:=HX.out.below hb2' HX.out.lt;have hT3:=HT2.out.below hb2';have q0:w2.cell? ⟨wr.heap.size,0,none⟩=_:=hX3.cell 0;have q1:w2.cell? ⟨wr.heap.size,1,none⟩=_:=hX3.cell 1;have q2:=hX3.lt;have q3:w2.cell? ⟨w.heap.size+1,0,none⟩=_:=hT3.1.cell 0;have q4:=hT3.1.lt;have q5:b<w2.heap.size:=Nat.lt_of_lt_of_le hbl (Nat.le_trans Hwx.out.size hb2'.size);have q6:=(hb2'.cell (p:=⟨b,off+j*2,none⟩) (Nat.lt_of_lt_of_le hbl Hwx.out.size)).trans ((Hwx.out.cell (p:=⟨b,off+j*2,none⟩) hbl).trans hpc);simp at q0 q1 q3
      have HX3:=qH hX3;have HT3:=qH hT3;clear he hb2' hX3 hT3;refine hK.out _ _ ?_ ?_
      ·exact .of_below hb2
      clear hK K
      try simp only [qPA]
      iterate 16
       first|refine qT 6 (v:=?_) ?_ ?_|refine qT 7 (v:=?_) ?_ ?_|refine qT 8 (v:=?_) ?_ ?_|refine qT 9 (v:=?_) ?_ ?_|refine qT 10 (v:=?_) ?_ ?_|refine qT 11 (v:=?_) ?_ ?_|refine qT 12 (v:=?_) ?_ ?_|refine qT 13 (v:=?_) ?_ ?_|refine qT 14 (v:=?_) ?_ ?_|refine qT 15 (v:=?_) ?_ ?_|refine qT 16 (v:=?_) ?_ ?_|refine qT 17 (v:=?_) ?_ ?_|refine qT 18 (v:=?_) ?_ ?_|refine qT 19 (v:=?_) ?_ ?_|refine qT 20 (v:=?_) ?_ ?_|refine qT 21 (v:=?_) ?_ ?_
       rotate_left
       ·(intro W hSw;(have hcW:=hSw.cells;try simp only [qSd] at hcW);go_simp <;> rfl)
       try simp only [qPA]
      refine wpMono_done (by kernel_rfl) ?_ _;go_wp2_with fail;refine (bad_any _ _).mono ?_;rintro e w4 ⟨v4,rfl,e1,e2,e3,e4⟩;have HH:=qH (.inr ⟨Hng.out,v4,rfl,e1,e2,below_step hb3.out e3⟩:NewEnd L w (.returned (.tuple #[.pointer none,v4])) w4);clear e1 e2 e3 e4;go_wp2;go_ret2
      exact HH.out
    ·subst h0
     simp only [Nat.zero_mul,Nat.add_zero] at hx0 hx1;go_wp2_with fail;refine wp_region_mono nobody (by kernel_rfl) ?_
     iterate 5
      first|refine qT 0 (v:=?_) ?_ ?_|refine qT 1 (v:=?_) ?_ ?_|refine qT 2 (v:=?_) ?_ ?_|refine qT 3 (v:=?_) ?_ ?_|refine qT 4 (v:=?_) ?_ ?_
      rotate_left
      ·(intro W hSw;(have hcW:=hSw.cells;try simp only [qSd] at hcW);go_simp <;> rfl)
      try simp only [qPA]
     refine wpMono_one' 5 (by kernel_rfl) rfl (by rfl) (fun K hK=>?_)
     go_simp
     refine (can_any _ _ _ _ _ _ (HT2.out.keeps (X:=nobody) .drew (fun h=>h) (fun h=>h)) (by unfold maxLen;omega) hlen).mono ?_;rintro e w2 ⟨v,rfl,he,hb2⟩;have hv:v=.nilIface:=by rcases he with ⟨_,h⟩|⟨h,_⟩;exact h;exact absurd Hc.out h
     subst hv;have hb2':=below_ofDrew hb2;have hb3:=qH (below_step Hbw.out (below_step Hwx.out hb2'));have hX3:=HX.out.below hb2' HX.out.lt;have hT3:=HT2.out.below hb2';have q0:w2.cell? ⟨wr.heap.size,0,none⟩=_:=hX3.cell 0;have q1:w2.cell? ⟨wr.heap.size,1,none⟩=_:=hX3.cell 1;have q2:=hX3.lt;have q3:w2.cell? ⟨w.heap.size+1,0,none⟩=_:=hT3.1.cell 0;have q4:=hT3.1.lt;have q5:b<w2.heap.size:=Nat.lt_of_lt_of_le hbl (Nat.le_trans Hwx.out.size hb2'.size);simp at q0 q1 q3
     have HX3:=qH hX3;have HT3:=qH hT3;clear he hb2' hX3 hT3;refine hK.out _ _ ?_ ?_
     ·exact .of_below hb2
     clear hK K
     try simp only [qPA]
     iterate 5
      first|refine qT 6 (v:=?_) ?_ ?_|refine qT 7 (v:=?_) ?_ ?_|refine qT 8 (v:=?_) ?_ ?_|refine qT 9 (v:=?_) ?_ ?_|refine qT 10 (v:=?_) ?_ ?_
      rotate_left
      ·(intro W hSw;(have hcW:=hSw.cells;try simp only [qSd] at hcW);go_simp <;> rfl)
      try simp only [qPA]
     refine wpMono_skip' 11 rfl (by kernel_rfl) (by kernel_rfl) (by kernel_rfl) (fun _ _ _ h=>h) (by rfl) ?_
     try simp only [qPA]
     refine wpMono_skip' 12 rfl (by kernel_rfl) (by kernel_rfl) (by kernel_rfl) (fun _ _ _ h=>h) (by rfl) ?_
     try simp only [qPA]
     refine wpMono_skip' 13 rfl (by kernel_rfl) (by kernel_rfl) (by kernel_rfl) (fun _ _ _ h=>h) (by rfl) ?_
     try simp only [qPA]
     refine wpMono_skip' 14 rfl (by kernel_rfl) (by kernel_rfl) (by kernel_rfl) (fun _ _ _ h=>h) (by rfl) ?_
     try simp only [qPA]
     refine wpMono_skip' 15 rfl (by kernel_rfl) (by kernel_rfl) (by kernel_rfl) (fun _ _ _ h=>h) (by rfl) ?_
     try simp only [qPA]
     refine wpMono_skip' 16 rfl (by kernel_rfl) (by kernel_rfl) (by kernel_rfl) (fun _ _ _ h=>h) (by rfl) ?_
     try simp only [qPA]
     refine wpMono_skip' 17 rfl (by kernel_rfl) (by kernel_rfl) (by kernel_rfl) (fun _ _ _ h=>h) (by rfl) ?_
     try simp only [qPA]
     refine wpMono_skip' 18 rfl (by kernel_rfl) (by kernel_rfl) (by kernel_rfl) (fun _ _ _ h=>h) (by rfl) ?_
     try simp only [qPA]
     refine wpMono_skip' 19 rfl (by kernel_rfl) (by kernel_rfl) (by kernel_rfl) (fun _ _ _ h=>h) (by rfl) ?_
     try simp only [qPA]
     iterate 2
      first|refine qT 20 (v:=?_) ?_ ?_|refine qT 21 (v:=?_) ?_ ?_
      rotate_left
      ·(intro W hSw;(have hcW:=hSw.cells;try simp only [qSd] at hcW);go_simp <;> rfl)
      try simp only [qPA]
     refine wpMono_done (by kernel_rfl) ?_ _;have hst:=Hstep.out (fun p h=>absurd h (by omega)) Hc.out;have Hst:=qH hst;clear hst;go_wp2_with fail;refine wp_region_mono (· = w.heap.size) (by kernel_rfl) ?_
     iterate 8
      first|refine qT 0 (v:=?_) ?_ ?_|refine qT 1 (v:=?_) ?_ ?_|refine qT 2 (v:=?_) ?_ ?_|refine qT 3 (v:=?_) ?_ ?_|refine qT 4 (v:=?_) ?_ ?_|refine qT 5 (v:=?_) ?_ ?_|refine qT 6 (v:=?_) ?_ ?_|refine qT 7 (v:=?_) ?_ ?_
      rotate_left
      ·(intro W hSw;(have z0:=(hSw.cell 0 q2 (fun h=>absurd (h:wr.heap.size=w.heap.size) (by omega))).trans q0;have z1:=(hSw.cell 1 q2 (fun h=>absurd (h:wr.heap.size=w.heap.size) (by omega))).trans q1;have z2:=(hSw.cell 0 q4 (fun h=>absurd (h:w.heap.size+1=w.heap.size) (by omega))).trans q3);go_simp <;> rfl)
      try simp only [qPA]
     refine wpMono_one' 8 (by kernel_rfl) rfl (by rfl) (fun K hK=>?_);obtain ⟨w3,hrun,hm3,hk3⟩:=(HT3.out.keeps (X:=nobody) .drew (fun h=>h) (fun h=>h)).2.put (u:=xu) (by unfold maxLen;omega) (wf_right (good_put HG.out Hc.out).2) hlen
     go_simp
     refine hK.out _ _ ?_ ?_
     ·exact hk3
     clear hK K
     try simp only [Act.put]
     refine wpMono_done (by kernel_rfl) ?_ _;have hT4:Tab w3 (w.heap.size+1) w.heap.size _:=⟨(HT3.out.1.drew).keeps hk3 (by omega),hm3⟩;have hb4:=below_kept (hb3.out.drew) hk3 (fun i hi=>by omega);have Hfin:=qH (And.intro hT4 hb4);clear hT4 hb4 hm3 hk3 hrun;go_wp2;go_roundw
     case rel=>exact ⟨0+1,by omega,by go_num,Hst.out.1,by rw [←Hst.out.2];exact Hfin.out.1,Hfin.out.2⟩
     case measure=>simp [intOf];omega
   ·have Hc:=qH hc
    clear hc;have hng:¬ GoodL L:=fun hL=>Hc.out (Hnext.out hL).1;have Hng:=qH hng;clear hng hleq;go_wp2_with fail;refine wp_region_mono nobody (by kernel_rfl) ?_
    iterate 5
     first|refine qT 0 (v:=?_) ?_ ?_|refine qT 1 (v:=?_) ?_ ?_|refine qT 2 (v:=?_) ?_ ?_|refine qT 3 (v:=?_) ?_ ?_|refine qT 4 (v:=?_) ?_ ?_
     rotate_left
     ·(intro W hSw;(have hcW:=hSw.cells;try simp only [qSd] at hcW);go_simp <;> rfl)
     try simp only [qPA]
    refine wpMono_one' 5 (by kernel_rfl) rfl (by rfl) (fun K hK=>?_)
    go_simp
    refine (can_any _ _ _ _ _ _ (HT2.out.keeps (X:=nobody) .drew (fun h=>h) (fun h=>h)) (by unfold maxLen;omega) hlen).mono ?_;rintro e w2 ⟨v,rfl,he,hb2⟩;obtain ⟨q,rfl⟩:=EO.form he Hc.out;have hb2':=below_ofDrew hb2;have hb3:=qH (below_step Hbw.out (below_step Hwx.out hb2'));clear he;refine hK.out _ _ ?_ ?_
    ·exact .of_below hb2
    clear hK K
    try simp only [qPA]
    iterate 2
     first|refine qT 6 (v:=?_) ?_ ?_|refine qT 7 (v:=?_) ?_ ?_
     rotate_left
     ·(intro W hSw;(have hcW:=hSw.cells;try simp only [qSd] at hcW);go_simp <;> rfl)
     try simp only [qPA]
    refine wpMono_skip' 8 rfl (by kernel_rfl) (by kernel_rfl) (by kernel_rfl) (fun _ _ _ h=>h) (by rfl) ?_
    try simp only [qPA]
    refine wpMono_skip' 9 rfl (by kernel_rfl) (by kernel_rfl) (by kernel_rfl) (fun _ _ _ h=>h) (by rfl) ?_
    try simp only [qPA]
    refine wpMono_skip' 10 rfl (by kernel_rfl) (by kernel_rfl) (by kernel_rfl) (fun _ _ _ h=>h) (by rfl) ?_
    try simp only [qPA]
    refine wpMono_skip' 11 rfl (by kernel_rfl) (by kernel_rfl) (by kernel_rfl) (fun _ _ _ h=>h) (by rfl) ?_
    try simp only [qPA]
    refine wpMono_skip' 12 rfl (by kernel_rfl) (by kernel_rfl) (by kernel_rfl) (fun _ _ _ h=>h) (by rfl) ?_
    try simp only [qPA]
    refine wpMono_skip' 13 rfl (by kernel_rfl) (by kernel_rfl) (by kernel_rfl) (fun _ _ _ h=>h) (by rfl) ?_
    try simp only [qPA]
    refine wpMono_skip' 14 rfl (by kernel_rfl) (by kernel_rfl) (by kernel_rfl) (fun _ _ _ h=>h) (by rfl) ?_
    try simp only [qPA]
    refine wpMono_skip' 15 rfl (by kernel_rfl) (by kernel_rfl) (by kernel_rfl) (fun _ _ _ h=>h) (by rfl) ?_
    try simp only [qPA]
    refine wpMono_skip' 16 rfl (by kernel_rfl) (by kernel_rfl) (by kernel_rfl) (fun _ _ _ h=>h) (by rfl) ?_
    try simp only [qPA]
    refine wpMono_skip' 17 rfl (by kernel_rfl) (by kernel_rfl) (by kernel_rfl) (fun _ _ _ h=>h) (by rfl) ?_
    try simp only [qPA]
    refine wpMono_skip' 18 rfl (by kernel_rfl) (by kernel_rfl) (by kernel_rfl) (fun _ _ _ h=>h) (by rfl) ?_
    try simp only [qPA]
    refine wpMono_skip' 19 rfl (by kernel_rfl) (by kernel_rfl) (by kernel_rfl) (fun _ _ _ h=>h) (by rfl) ?_
    try simp only [qPA]
    refine wpMono_skip' 20 rfl (by kernel_rfl) (by kernel_rfl) (by kernel_rfl) (fun _ _ _ h=>h) (by rfl) ?_
    try simp only [qPA]
    refine qT 21 (v:=?_) ?_ ?_;rotate_left
    ·(intro W hSw;(have hcW:=hSw.cells;try simp only [qSd] at hcW);go_simp <;> rfl)
    try simp only [qPA]
    refine wpMono_done (by kernel_rfl) ?_ _;go_wp2_with fail;refine (bad_any _ _).mono ?_;rintro e w4 ⟨v4,rfl,e1,e2,e3,e4⟩;have HH:=qH (.inr ⟨Hng.out,v4,rfl,e1,e2,below_step hb3.out e3⟩:NewEnd L w (.returned (.tuple #[.pointer none,v4])) w4);clear e1 e2 e3 e4;go_wp2;go_ret2
    exact HH.out
  ·obtain rfl:k=len:=by omega
   have ht:L.take k=L:=List.take_of_length_le (by rw [H.out.1];exact Nat.le_refl _);rw [ht] at hG hT;have HH:=qH (.inl ⟨hG,_,_,rfl,by omega,by omega,hT,hbw⟩:NewEnd L w (.returned (.tuple #[.pointer (some ⟨(w.heap.size+1),0,none⟩),.nilIface])) wr);clear hG hT hbw ht;go_wp2;go_ret2
   exact HH.out
end new
end Go.Proofs.YthlahcnglacekaaGreatDoor
