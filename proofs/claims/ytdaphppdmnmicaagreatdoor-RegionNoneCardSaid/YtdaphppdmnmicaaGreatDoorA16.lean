/- A part of the proof of RegionNone: GrantW, RawsF, SealF, OpenF. -/
import Derived.Test.YtdaphppdmnmicaaGreatDoorA05
import Derived.Test.YtdaphppdmnmicaaGreatDoorA01
import Derived.Deep.OwnRows
import Derived.Test.YtdaphppdmnmicaaGreatDoorA15
namespace Go.Proofs.YtdaphppdmnmicaaGreatDoor.lease
open Go Go.RowKit base err
section
variable {w:World}
end
end Go.Proofs.YtdaphppdmnmicaaGreatDoor.lease
namespace Go.Proofs.YtdaphppdmnmicaaGreatDoor.framew
open Go Go.RowKit base rowe num crc rowc framep
theorem byte_info':(Tryz.prog.info? 5).map (fun i=>(i.zero,i.size,i.bytes))=some (some (.int .u8 0),1,1):=by kernel_rfl
theorem made_byt (n:Nat):madeCells #[.int .u8 0] n=(byt (List.replicate n 0)).toArray:=by
 unfold madeCells
 apply Array.ext'
 simp [byt,Nat.mod_one]
 apply List.ext_getElem
 ·simp
 ·intro i h1 h2
  simp
theorem raws_step {n:Nat} {a b:UInt8} {r:List UInt8}:rawsF (n + 1) (a :: b :: r)=if a.toNat / 16=4∧b.toNat / 16=4 then (rawsF n r).map fun x=>(UInt8.ofNat (a.toNat % 16 * 16 + b.toNat % 16) :: x.1,x.2) else none:=rfl
theorem raws_short {n:Nat} {l:List UInt8} (h:l.length < 2 * n):rawsF n l=none:=by
 induction n generalizing l with
 | zero=>omega
 | succ n ih =>
  match l with
  | []=>rfl
  | [_]=>rfl
  | a :: b :: r =>
   rw [raws_step]
   split
   ·rw [ih (by simp at h;omega)];rfl
   ·rfl
theorem nib_hi (a:Nat) (h:a < 256):bits .andNot .u8 (a:Int) 15=((a / 16 * 16:Nat):Int):=by
 have h1:=u8_andNot_nat a 15 h (by omega)
 have h2:∀ x:Fin 256,x.val &&& (255 - 15)=x.val / 16 * 16:=by decide +kernel
 rw [h2 ⟨a,h⟩] at h1
 exact h1
theorem nib_or (a b:Nat):bits .or .u8 ((a:Int) * 16 % 256) ((b:Int) % 16)=((a % 16 * 16 + b % 16:Nat):Int):=by
 have h1:=u8_or_nat (a * 16 % 256) (b % 16) (by omega) (by omega)
 have h2:a * 16 % 256 ||| b % 16=a % 16 * 16 + b % 16:=by
  rw [show a * 16 % 256=2 ^ 4 * (a % 16) by omega,← Nat.two_pow_add_eq_or_of_lt (show b % 16 < 2 ^ 4 by omega)]
  omega
 rw [h2] at h1
 exact h1
theorem byt_put {x:List UInt8} {n k:Nat} (c:UInt8) (hx:x.length=k) (hk:k < n):(byt (x ++ List.replicate (n - k) 0)).toArray.setIfInBounds k (.int .u8 (c.toNat:Nat))=(byt ((x ++ [c]) ++ List.replicate (n - (k + 1)) 0)).toArray:=by
 subst hx
 obtain ⟨m,hm⟩:∃ m,n - x.length=m + 1:=⟨n - x.length - 1,by omega⟩
 rw [hm,show n - (x.length + 1)=m by omega]
 simp [byt,List.replicate_succ]
theorem byt_at {x:List UInt8} {n k:Nat} (hx:x.length=k) (hk:k < n):(byt (x ++ List.replicate (n - k) 0)).toArray[k]?=some (.int .u8 0):=by
 subst hx
 obtain ⟨m,hm⟩:∃ m,n - x.length=m + 1:=⟨n - x.length - 1,by omega⟩
 rw [hm]
 simp [byt,List.replicate_succ]
def RawR (r:Option (List UInt8 × List UInt8)) (n:Nat) (w:World) (e:Ending) (w':World):Prop:=Below w.heap.size w w'∧match r with
 | some x=>∃ k,e=.returned (.tuple #[.slice (some ⟨k,0,none⟩) n n,.bool true])∧w.heap.size≤k∧Blk w' k 5 (byt x.1).toArray∧x.1.length=n
 | none=>e=.returned (.tuple #[.slice none 0 0,.bool false])
set_option maxRecDepth 10000 in
theorem raws_f (s:ByteArray) (at_ n:Nat) (w:World) (hs:s.size≤1048576) (ha:at_≤s.size + 12) (hn:n≤65550) (hn0:0 < n):Calls Tryz.prog 323 #[.string s,.int .i64 at_,.int .i64 n] w (RawR (rawsF n (s.data.toList.drop at_)) n w):=by
 have hll:(s.data.toList.drop at_).length=s.size - at_:=by rw [List.length_drop];rfl
 by_cases hsh:(s.size:Int) - at_ < 2 * (n:Int)
 ·have d1:decide ((s.size:Int) - (at_:Int) < 2 * (n:Int))=true:=decide_eq_true hsh
  have HR:=Lib.hid (show rawsF n (s.data.toList.drop at_)=none from raws_short (by omega))
  clear hll
  go_enter Tryz.func323,Tryz.ntmps323
  go_wp2_with fail
  go_ret2
  rw [HR.out]
  exact ⟨Below.refl _ _,rfl⟩
 ·have d1:decide ((s.size:Int) - (at_:Int) < 2 * (n:Int))=false:=decide_eq_false hsh
  have hmk:=run_make_row' (P:=Tryz.prog) 163 5 (.int .u8 0) 1 Tryz.underlying163 byte_info' rfl .i64 .i64 n (by omega) (by omega)
  simp only [made_byt] at hmk
  generalize hR:rawsF n (s.data.toList.drop at_)=R
  go_enter Tryz.func323,Tryz.ntmps323
  go_wp2_with fail
  go_loopw [23,9,10,11] (fun c _ _ _ wr'=>∃ (k:Nat) (x:List UInt8),c=.int .i64 k∧k≤n∧x.length=k∧R=(rawsF (n - k) (s.data.toList.drop (at_ + 2 * k))).map (fun y=>(x ++ y.1,y.2))∧Blk wr' w.heap.size 5 (byt (x ++ List.replicate (n - k) 0)).toArray∧Below w.heap.size w wr') (fun c _ _ _ _=>n - (intOf c).toNat)
  case atStart=>exact ⟨0,[],rfl,by omega,rfl,by rw [← hR];cases rawsF n (s.data.toList.drop at_) <;> simp,Blk.new w 5 _,below_new _ _⟩
  case round =>
   obtain ⟨k,x,rfl,hk,hx,hre,hb,hbw⟩:=hrel
   clear hmk
   by_cases hkn:k < n
   ·obtain ⟨p,hp⟩:∃ p,at_ + 2 * k=p:=⟨_,rfl⟩
    have hp0:(at_:Int) + 2 * (k:Int)=(p:Int):=by omega
    obtain ⟨q,hq⟩:∃ q,p + 1=q:=⟨_,rfl⟩
    have hq0:(p:Int) + 1=(q:Int):=by omega
    have hp2:q < s.size:=by omega
    have hp3:p < s.size:=by omega
    have dk:decide ((k:Int) < (n:Int))=true:=decide_eq_true (by omega)
    have ha1:=s[p].toNat_lt
    have hb1:=s[q].toNat_lt
    have hby:s.data.toList.drop p=s[p] :: s[q] :: s.data.toList.drop (p + 2):=by
     rw [wireb.byte_at hp3,hq,wireb.byte_at hp2,show q + 1=p + 2 by omega]
    rw [hp,hby,show n - k=n - (k + 1) + 1 by omega,raws_step] at hre
    have hsz:=hbw.size
    have hltb:=hb.lt
    have hw1:=IntWalk.i64_in (2 * (k:Int)) (by omega)
    have hw2:=IntWalk.i64_in (p:Int) (by omega)
    have hw3:=IntWalk.i64_in (q:Int) (by omega)
    have hk1:=nib_hi s[p].toNat ha1
    have hk2:=nib_hi s[q].toNat hb1
    by_cases hC:s[p].toNat / 16=4∧s[q].toNat / 16=4
    ·rw [if_pos hC] at hre
     have ck:wr.cell? ⟨w.heap.size,k,none⟩=some (.int .u8 0):=(hb.cell k).trans (byt_at hx hkn)
     have fk:=hb.frozen k
     have e1:bits .andNot .u8 ((s[p].toNat:Nat):Int) 15=64:=by rw [hk1];omega
     have e2:bits .andNot .u8 ((s[q].toNat:Nat):Int) 15=64:=by rw [hk2];omega
     have e3:=nib_or s[p].toNat s[q].toNat
     obtain ⟨c,hc⟩:∃ c,UInt8.ofNat (s[p].toNat % 16 * 16 + s[q].toNat % 16)=c:=⟨_,rfl⟩
     have hcn:s[p].toNat % 16 * 16 + s[q].toNat % 16=c.toNat:=by rw [← hc,framep.byte_of (by omega)]
     rw [hcn] at e3
     rw [hc] at hre
     have HPUT:=Lib.hid (byt_put c hx hkn)
     clear hk1 hk2 hC hc hcn
     have Hb:=Lib.hid hb
     have Hbw:=Lib.hid hbw
     have Hre:=Lib.hid hre
     have Hby:=Lib.hid hby
     have Hx:=Lib.hid hx
     clear hb hbw hre hby hx
     go_wp2_with fail
     go_quiet (fail)
     go_wp2_with fail
     refine ⟨?rel,?measure⟩
     case rel =>
      refine ⟨k + 1,x ++ [c],by go_num,by omega,by simp [Hx.out],?_,?_,?_⟩
      ·rw [Hre.out,show at_ + 2 * (k + 1)=p + 2 by omega,Option.map_map]
       congr 1
       funext y
       simp
      ·have h:=(Hb.out.drewN nq).set_ k (.int .u8 (c.toNat:Nat))
       rw [HPUT.out] at h
       exact h
      ·exact Hbw.out.trans (((Keeps.drewN (X:=(· = w.heap.size)) nq).trans (Keeps.set1 _ w.heap.size k _)).below (fun i hi e=>by omega) (by omega))
     case measure=>simp [intOf];omega
    ·rw [if_neg hC] at hre
     have HN:=Lib.hid (show R=none from hre)
     by_cases h1:s[p].toNat / 16=4
     ·have e1:bits .andNot .u8 ((s[p].toNat:Nat):Int) 15=64:=by rw [hk1];omega
      have e2:(bits .andNot .u8 ((s[q].toNat:Nat):Int) 15 != 64)=true:=by rw [hk2];simp;omega
      clear hk1 hk2 hC hre h1
      have Hb:=Lib.hid hb
      have Hbw:=Lib.hid hbw
      have Hby:=Lib.hid hby
      have Hx:=Lib.hid hx
      clear hb hbw hby hx
      go_wp2_with fail
      go_quiet (fail)
      go_wp2_with fail
      go_ret2
      rw [HN.out]
      exact ⟨below_drewN Hbw.out _,rfl⟩
     ·have e1:(bits .andNot .u8 ((s[p].toNat:Nat):Int) 15 != 64)=true:=by rw [hk1];simp;omega
      clear hk1 hk2 hC hre h1
      have Hb:=Lib.hid hb
      have Hbw:=Lib.hid hbw
      have Hby:=Lib.hid hby
      have Hx:=Lib.hid hx
      clear hb hbw hby hx
      go_wp2_with fail
      go_quiet (fail)
      go_wp2_with fail
      go_ret2
      rw [HN.out]
      exact ⟨below_drewN Hbw.out _,rfl⟩
   ·obtain rfl:n=k:=by omega
    rw [Nat.sub_self,List.replicate_zero,List.append_nil] at hb
    have HN:=Lib.hid (show R=some (x,s.data.toList.drop (at_ + 2 * n)) from by rw [hre,Nat.sub_self];simp [rawsF])
    have Hb:=Lib.hid hb
    have Hbw:=Lib.hid hbw
    have Hx:=Lib.hid hx
    clear hb hbw hx
    clear hre
    go_wp2_with fail
    go_ret2
    rw [HN.out]
    exact ⟨Hbw.out,_,rfl,Nat.le_refl _,Hb.out,Hx.out⟩
end Go.Proofs.YtdaphppdmnmicaaGreatDoor.framew
namespace Go.Proofs.YtdaphppdmnmicaaGreatDoor.framew
open Go Go.RowKit Go.Lib base rowe rowc framep wireb appb
theorem head_byt (n:Nat) (hn:n≤65535):byt (headB n)=[.int .u8 ((n:Int) / 256),.int .u8 ((n:Int) % 256)]:=by
 unfold headB byt
 simp only [List.map_cons,List.map_nil]
 rw [framep.byte_of (by omega),framep.byte_of (by omega),Nat.mod_eq_of_lt (show n / 256 < 256 by omega)]
 simp
theorem nib_low (a:Nat):bits .or .u8 64 ((a:Int) % 16)=(((UInt8.ofNat (64 + a % 16)).toNat:Nat):Int):=by
 have h1:=u8_or_nat 64 (a % 16) (by omega) (by omega)
 have h2:∀ x:Fin 16,64 ||| x.val=64 + x.val:=by decide +kernel
 rw [h2 ⟨a % 16,by omega⟩] at h1
 rw [framep.byte_of (by omega)]
 exact h1
theorem nib_high (a:Nat) (h:a < 256):bits .or .u8 64 ((a:Int) / 16)=(((UInt8.ofNat (64 + a / 16)).toNat:Nat):Int):=by
 have h1:=u8_or_nat 64 (a / 16) (by omega) (by omega)
 have h2:∀ x:Fin 16,64 ||| x.val=64 + x.val:=by decide +kernel
 rw [h2 ⟨a / 16,by omega⟩] at h1
 rw [framep.byte_of (by omega)]
 exact h1
theorem nibs_next {l:List UInt8} {j:Nat} (h:j < l.length):nibs (l.take (j + 1))=nibs (l.take j) ++ [UInt8.ofNat (64 + l[j].toNat / 16),UInt8.ofNat (64 + l[j].toNat % 16)]:=by
 have e:l.take (j + 1)=l.take j ++ [l[j]]:=List.take_succ_eq_append_getElem h
 unfold nibs
 rw [e,List.flatMap_append]
 simp
def SealR (p:ByteArray) (w:World) (e:Ending) (w':World):Prop:=e=.returned (.tuple #[.string ⟨(sealF p.data.toList).toArray⟩,.nilIface])∧Below w.heap.size w w'
set_option maxRecDepth 10000 in
set_option maxHeartbeats 1600000 in
theorem seal_f (p : ByteArray) (hp : p.size ≤ 8192) (w : World) : Calls Tryz.prog 252 #[.string p] w (SealR p w) := by
  obtain ⟨i0, hi, hz⟩ := Option.map_eq_some_iff.1 byte_info
  simp only [Prod.mk.injEq] at hz
  obtain ⟨hz0, hz1, hz2⟩ := hz
  obtain ⟨l, hl⟩ : ∃ l, p.data.toList = l := ⟨_, rfl⟩
  have hlen : l.length = p.size := by rw [← hl]; rfl
  have d1 : decide ((8192 : Int) < (p.size : Int)) = false := decide_eq_false (by omega)
  have HH := Lib.hid (head_byt p.size (by omega))
  have HSTR := Lib.hid (fun w => by have := src_str (w := w) p; rw [hl] at this; exact this : ∀ w, Src Tryz.prog 1 9 (.string p) l.length (byt l) w)
  have HL := Lib.hid hl
  clear hl
  go_enter Tryz.func252, Tryz.ntmps252
  go_wp2_with fail
  have HD0 := Lib.hid (show Blk (w.alloc (.cells #[.int .u8 ((p.size : Int) / 256), .int .u8 ((p.size : Int) % 256)] 5)) w.heap.size 5 (byt (headB p.size)).toArray from by rw [HH.out]; exact Blk.new w _ _)
  have HB0 := Lib.hid (below_new w (.cells #[.int .u8 ((p.size : Int) / 256), .int .u8 ((p.size : Int) % 256)] 5))
  generalize w.alloc (.cells #[.int .u8 ((p.size : Int) / 256), .int .u8 ((p.size : Int) % 256)] 5) = w1 at *
  obtain ⟨hd, hhd⟩ : ∃ x, headB p.size = x := ⟨_, rfl⟩
  have hd2 : hd.length = 2 := by rw [← hhd]; rfl
  obtain ⟨sm, hsm⟩ : ∃ x, sumB hd = x := ⟨_, rfl⟩
  have hs4 : sm.length = 4 := by rw [← hsm]; rfl
  have hk0 : w.heap.size < w1.heap.size := HD0.out.lt
  rw [hhd] at HD0
  clear HH
  refine wp_region_mono (fun i => w1.heap.size ≤ i) (by kernel_rfl) ?_
  iterate 4
    first | refine qT 0 (v := ?_) ?_ ?_ | refine qT 1 (v := ?_) ?_ ?_ | refine qT 2 (v := ?_) ?_ ?_ | refine qT 5 (v := ?_) ?_ ?_
    rotate_left
    · (intro W hSw; (skip); go_simp <;> rfl)
    try simp only [qPA]
  refine wpMono_one' 3 (by kernel_rfl) rfl (by rfl) (fun K hK => ?_)
  go_simp
  refine (sum_f _ 2 2 hd _ hd2 (by decide) (by have := (Lies.blk HD0.out.drew).reads; rw [hd2] at this; exact this)).mono ?_
  rintro e w2 ⟨ks, rfl, hbk, hks, hb2⟩
  rw [hsm] at hbk
  have HK := Lib.hid hbk
  have HD2 := Lib.hid (HD0.out.drew.below hb2 hk0)
  have HB2 := Lib.hid ((HB0.out.drew).trans (hb2.mono (by have := HB0.out.size; simpa using this)))
  have hs2 : w1.heap.size ≤ w2.heap.size := hb2.size
  have HK2 := Lib.hid (Keeps.of_below (X := fun i => w1.heap.size ≤ i) hb2)
  clear hbk hb2
  refine hK.out _ _ ?_ ?_
  · exact HK2.out
  clear hK K
  try simp only [qPA]
  refine wpMono_one' 4 (by kernel_rfl) rfl (by rfl) (fun K hK => ?_)
  refine wp_append_new (k := w.heap.size) (off := 0) (n := 2) (l1 := hd) (l2 := sm) (.tmp 24) (.tmp 26) 163 rfl rfl rfl hd2 (Lies.blk HD2.out) (by have := (Lies.blk HK.out).src 163 Tryz.underlying163 4; rw [hs4] at this ⊢; exact this) (by omega) (by omega) (fun v3 w3 hv3 hb3 => ?_)
  have HV3 := Lib.hid hv3
  have HD3 := Lib.hid (HD2.out.below hb3 HD2.out.lt)
  have HB3 := Lib.hid (HB2.out.trans (hb3.mono HB2.out.size))
  have hs3 := hb3.size
  have HK3 := Lib.hid (Keeps.of_below (X := fun i => w1.heap.size ≤ i) hb3)
  clear hv3 hb3
  refine hK.out _ _ ?_ ?_
  · exact HK3.out
  clear hK K
  try simp only [qPA]
  refine wpMono_one' 6 (by kernel_rfl) rfl (by rfl) (fun K hK => ?_)
  refine wp_append_str (l1 := hd ++ sm) (.tmp 27) (.tmp 28) rfl p rfl rfl HV3.out (by rw [List.length_append]; omega) hs3 (fun v4 w4 hv4 hb4 => ?_)
  have HV4 := Lib.hid hv4
  have HD4 := Lib.hid (HD3.out.below hb4 HD2.out.lt)
  have HB4 := Lib.hid (HB3.out.trans (hb4.mono HB2.out.size))
  have hs4' := hb4.size
  have HK4 := Lib.hid (Keeps.lo (X := fun i => w1.heap.size ≤ i) hb4 (fun i hi => Nat.le_trans hs2 hi))
  clear hv4 hb4
  refine hK.out _ _ ?_ ?_
  · exact HK4.out
  clear hK K
  try simp only [qPA]
  refine qT 7 (v := ?_) ?_ ?_; rotate_left
  · (intro W hSw; (skip); go_simp <;> rfl)
  try simp only [qPA]
  refine wpMono_done (by kernel_rfl) ?_ _
  clear HK HD2 HB2 HK2 HV3 HD3 HB3 HK3 HK4 HD0 HB0
  obtain ⟨B, hB⟩ : ∃ x, w2.heap.size = x := ⟨_, rfl⟩
  rw [hB] at HV4 hs3 hs2
  have HPL := HL.out
  rw [HPL] at HV4
  clear HPL
  obtain ⟨hdl, hhdl⟩ : ∃ x, hd ++ l = x := ⟨_, rfl⟩
  obtain ⟨m, hm⟩ : ∃ m, hdl.length = m := ⟨_, rfl⟩
  have hmm : m = 2 + p.size := by rw [← hm, ← hhdl, List.length_append]; omega
  go_wp2_with (at_builtin; first
    | (refine wpList_plain rfl fun K hK => wp_append_cut (k := w.heap.size) (off := 0) (n := 2) (l1 := hd) (l2 := l) (.tmp 32) (.tmp 33) 9 rfl rfl rfl hd2 (Lies.blk HD4.out) (HSTR.out _) (by omega) hdl m hhdl hm (fun k' off' c' w5 hl5 hb5 => hK _ _ ?_)
       have HL5 := Lib.hid hl5
       have HB5 := Lib.hid (HB4.out.trans (hb5.mono HB4.out.size))
       have hs5 := hb5.size
       have HV5 := Lib.hid (HV4.out.below hb5)
       clear hl5 hb5 hK K)
    | fail)
  refine (sum_f _ (2 + p.size) c' hdl _ (hm.trans hmm) (by unfold maxLen; omega) (by have := HL5.out.reads; rw [hm, hmm] at this; exact this)).mono ?_
  rintro e w6 ⟨kq, rfl, hbk, _, hb6⟩
  obtain ⟨sq, hsq⟩ : ∃ x, sumB hdl = x := ⟨_, rfl⟩
  have hq4 : sq.length = 4 := by rw [← hsq]; rfl
  rw [hsq] at hbk
  have hs6 := hb6.size
  have HK6 := Lib.hid hbk
  have HB6 := Lib.hid (HB5.out.trans (hb6.mono HB5.out.size))
  have HV6 := Lib.hid (HV5.out.below hb6)
  clear hbk hb6 HB5 HV5 HV4 HB4
  obtain ⟨raw, hraw⟩ : ∃ x, hd ++ sm ++ l ++ sq = x := ⟨_, rfl⟩
  obtain ⟨L, hL⟩ : ∃ m, raw.length = m := ⟨_, rfl⟩
  have hLL : L ≤ 8300 := by rw [← hL, ← hraw]; simp only [List.length_append]; omega
  have HSEAL := Lib.hid (show (1 : UInt8) :: nibs raw = sealF l from by
    unfold sealF
    rw [hlen, hhd, hsm, ← hraw, hhdl, hsq])
  go_wp2_with (at_builtin; first
    | (refine wpList_plain rfl fun K hK => wp_append_row (l1 := hd ++ sm ++ l) (l2 := sq) (c := 4) (A := some ⟨kq, 0, none⟩) (.tmp 30) (.tmp 35) rfl rfl (by rw [hq4]; rfl) HV6.out (Lies.blk HK6.out).reads (by simp only [List.length_append]; omega) (by omega) (fun v7 w7 hv7 hb7 => hK _ _ ?_)
       rw [hraw] at hv7
       have HV7 := Lib.hid hv7
       have hs7 := hb7.size
       have HB7 := Lib.hid (HB6.out.trans (hb7.mono (by omega)))
       obtain ⟨A7, c7, rfl⟩ := hv7.form
       rw [hL] at HV7 ⊢
       clear hv7 hb7 hK K)
    | fail)
  have hraw0 : raw.length ≠ 0 := by rw [← hraw]; simp only [List.length_append]; omega
  obtain ⟨g7, c7', hv7, _, hg7, hl7⟩ := lies_of_own (v := .slice A7 L c7) HV7.out (by omega)
  obtain rfl : A7 = some ⟨g7, 0, none⟩ := by injection hv7
  have HL7 := Lib.hid hl7
  have HO := Lib.hid (show OwnB (w7.alloc (.cells #[.int .u8 1] 5)) w7.heap.size (.slice (some ⟨w7.heap.size, 0, none⟩) 1 1) [1] from ownsRow_new0 w7 5 1 #[.int .u8 1])
  clear hl7 hv7 HV7 HV6 HK6 HL5 HD4 HB6
  go_loopw [7, 40, 9] (fun o k _ wr' => ∃ j : Nat, k = .int .i64 j ∧ j ≤ L ∧ OwnB wr' w7.heap.size o (1 :: nibs (raw.take j)) ∧ Below w7.heap.size w7 wr') (fun _ k _ _ => L - (intOf k).toNat)
  case atStart => exact ⟨0, rfl, by omega, by simpa [nibs] using HO.out, below_new _ _⟩
  case round =>
    clear HO
    obtain ⟨j, rfl, hj, hown, hbw⟩ := hrel
    have hsz := hbw.size
    obtain ⟨q, hq⟩ : ∃ x, (1 : UInt8) :: nibs (raw.take j) = x := ⟨_, rfl⟩
    have hql : q.length ≤ 20000 := by
      rw [← hq, List.length_cons, nibs_len, List.length_take]
      omega
    rw [hq] at hown
    by_cases hjL : j < L
    · have dj : decide ((j : Int) < (L : Int)) = true := decide_eq_true (by omega)
      have hjr : j < raw.length := by omega
      have hc : wr.cell? ⟨g7, j, none⟩ = some (.int .u8 (raw[j].toNat : Nat)) := by
        have h1 := HL7.out.keeps (Keeps.of_below (X := nobody) (show Below w7.heap.size w7 wr from hbw)) (fun h => h) j (.int .u8 (raw[j].toNat : Nat)) (by simp only [byt, List.getElem?_map, List.getElem?_eq_getElem hjr, Option.map_some])
        rwa [Nat.zero_add] at h1
      have HN := Lib.hid (nibs_next hjr)
      have hc8 := raw[j].toNat_lt
      have e1 := nib_high raw[j].toNat hc8
      have e2 := nib_low raw[j].toNat
      generalize UInt8.ofNat (64 + raw[j].toNat / 16) = b1 at *
      generalize UInt8.ofNat (64 + raw[j].toNat % 16) = b2 at *
      generalize raw[j].toNat = cn at *
      have Hown := Lib.hid (show wr.ownsRow w7.heap.size 5 1 _ q.length (byt q) from hown)
      have Hbw := Lib.hid hbw
      have HQ := Lib.hid hq
      clear hown hbw hq
      go_wp2_with (at_builtin; refine wpList_append_newAt rfl (.tmp 44) (.tmp 51) _ rfl w7.heap.size 5 i0 _ 1 1 Tryz.underlying163 hi hz0 hz1 hz2 rfl (by decide) _ q.length _ rfl Hown.out 2 2 wr.heap.size (by simp) [_, _] rfl rfl (by simp [Value.oneCell']) (by unfold maxLen; omega) (by omega) hsz ?_; intro v1 w9 hown1 hbw1 hgr1 hwh1; have Hown1 := Lib.hid hown1; have Hbw1 := Lib.hid (Hbw.out.trans hbw1); clear hown1 hbw1 hgr1 hwh1)
      go_roundw
      case rel =>
        refine ⟨j + 1, by go_num, by omega, ?_, Hbw1.out⟩
        rw [HN.out, ← List.cons_append, HQ.out]
        have h := Hown1.out
        unfold OwnB
        rw [List.length_append, byt_app]
        exact h
      case measure => simp [intOf]; omega
    · obtain rfl : L = j := by omega
      have dj : decide ((L : Int) < (L : Int)) = false := by simp
      have hqs : q = sealF l := by rw [← hq, ← hL, List.take_length]; exact HSEAL.out
      have hq0 : 0 < q.length := by rw [← hq]; simp
      obtain ⟨go, co, rfl, _, _, hlo⟩ := lies_of_own hown hq0
      have hcv := hlo.text co
      have HR := Lib.hid (show SealR p w (.returned (.tuple #[.string ⟨q.toArray⟩, .nilIface])) wr from ⟨by rw [hqs, HL.out], HB7.out.trans (hbw.mono (by omega))⟩)
      clear hown hbw hlo hqs hq
      go_wp2_with fail
      go_ret2
      exact HR.out
end Go.Proofs.YtdaphppdmnmicaaGreatDoor.framew
namespace Go.Proofs.YtdaphppdmnmicaaGreatDoor.framew
open Go Go.RowKit Go.Lib base rowe rowc framep wireb appb inp
theorem head_int (n:Nat) (hn:n≤65535):bits .or .i64 ((n:Int) / 256 * 256) ((n:Int) % 256)=n:=by
 have h1:=or_i64 (n / 256 * 256) (n % 256) (by omega) (by omega)
 have h2:n / 256 * 256 ||| n % 256=n:=by
  rw [show n / 256 * 256=2 ^ 8 * (n / 256) by omega,← Nat.two_pow_add_eq_or_of_lt (show n % 256 < 2 ^ 8 by omega)]
  omega
 rw [h2] at h1
 exact h1
def restF (p:List UInt8):List UInt8:=nibs (headB p.length ++ sumB (headB p.length) ++ p ++ sumB (headB p.length ++ p))
def OpenedR (p:List UInt8) (next:Nat) (w:World) (e:Ending) (w':World):Prop:=e=.returned (.tuple #[.string ⟨p.toArray⟩,.int .i64 next,.bool true])∧Below w.heap.size w w'
set_option maxRecDepth 10000 in
set_option maxHeartbeats 3200000 in
theorem open_in (s:ByteArray) (at_:Nat) (p r:List UInt8) (w:World) (hs:s.size≤1048576) (ha:at_≤s.size) (hp:p.length≤8192) (h:s.data.toList.drop at_=restF p ++ r) :
  Calls Tryz.prog 293 #[.string s,.int .i64 at_] w (OpenedR p (at_ + 12 + 2 * (p.length + 4)) w):=by
 obtain ⟨hd,hhd⟩:∃ x,headB p.length=x:=⟨_,rfl⟩
 have hd2:hd.length=2:=by rw [← hhd];rfl
 obtain ⟨sm,hsm⟩:∃ x,sumB hd=x:=⟨_,rfl⟩
 have hs4:sm.length=4:=by rw [← hsm];rfl
 obtain ⟨sq,hsq⟩:∃ x,sumB (hd ++ p)=x:=⟨_,rfl⟩
 have hq4:sq.length=4:=by rw [← hsq];rfl
 have hn:s.data.toList.drop at_=nibs (hd ++ sm) ++ (nibs (p ++ sq) ++ r):=by
  rw [h]
  unfold restF
  rw [hhd,hsm,hsq]
  simp [nibs]
 have r1:=raws_nibs (hd ++ sm) (nibs (p ++ sq) ++ r)
 rw [← hn,show (hd ++ sm).length=6 by rw [List.length_append];omega] at r1
 have hn2:s.data.toList.drop (at_ + 12)=nibs (p ++ sq) ++ r:=by
  rw [← List.drop_drop,hn]
  have:(nibs (hd ++ sm)).length=12:=by rw [nibs_len,List.length_append];omega
  rw [← this]
  exact List.drop_left
 have r2:=raws_nibs (p ++ sq) r
 rw [← hn2,show (p ++ sq).length=p.length + 4 by rw [List.length_append];omega] at r2
 have HRA:=Lib.hid (raws_f s at_ 6 w hs (by omega) (by omega) (by omega))
 rw [r1] at HRA
 have HRB:=Lib.hid (fun w=>raws_f s (at_ + 12) (p.length + 4) w hs (by omega) (by omega) (by omega))
 rw [r2] at HRB
 have hint:=head_int p.length (by omega)
 have HHB:=Lib.hid (head_byt p.length (by omega))
 rw [hhd] at HHB
 clear r1 r2 hn hn2 h
 go_enter Tryz.func293,Tryz.ntmps293
 go_wp2_with fail
 refine HRA.out.mono ?_
 rintro e w1 ⟨hb1,k,rfl,hk,hblk,_⟩
 have HB1:=Lib.hid hb1
 have HK:=Lib.hid hblk
 have HL:=Lib.hid (Lies.blk hblk)
 clear hb1 hblk HRA
 go_wp2_with fail
 have hh:=HL.out.cut 0 2
 have hh2:=HL.out.cut 2 4
 rw [List.drop_zero,show (hd ++ sm).take 2=hd by rw [← hd2];exact List.take_left] at hh
 rw [show (hd ++ sm).drop 2=sm by rw [← hd2];exact List.drop_left,List.take_of_length_le (by omega)] at hh2
 have HH:=Lib.hid hh
 have HCV:=Lib.hid (show ∀ W,Keeps nobody w1.drew W→(convert 163 9 (.slice (some ⟨k,2,none⟩) 4 4)).run Tryz.prog W=.ok (.string ⟨sm.toArray⟩) W from fun W hW=>by
  have:=((hh2.keeps (Keeps.drew (X:=nobody)) (fun h=>h)).keeps hW (fun h=>h)).text 4
  rw [hs4] at this
  exact this)
 clear hh hh2
 refine wp_region_mono nobody (by kernel_rfl) ?_
 iterate 8
  first|refine qT 0 (v:=?_) ?_ ?_|refine qT 1 (v:=?_) ?_ ?_|refine qT 2 (v:=?_) ?_ ?_|refine qT 3 (v:=?_) ?_ ?_|refine qT 4 (v:=?_) ?_ ?_|refine qT 7 (v:=?_) ?_ ?_|refine qT 8 (v:=?_) ?_ ?_|refine qT 9 (v:=?_) ?_ ?_
  rotate_left
  ·(intro W hSw;(first|(have hcv:=HCV5.out W hSw)|(have hcv:=HCV.out W hSw)|skip);go_simp <;> rfl)
  try simp only [qPA]
 refine wpMono_one' 5 (by kernel_rfl) rfl (by rfl) (fun K hK=>?_)
 go_simp
 refine (sum_f _ 2 6 hd _ hd2 (by decide) (by have:=(HH.out.keeps (Keeps.drew (X:=nobody)) (fun h=>h)).reads;rw [hd2] at this;exact this)).mono ?_
 rintro e w2 ⟨ks,rfl,hbk,hks,hb2⟩
 rw [hsm] at hbk
 have hlk:=Lies.blk hbk
 have HCV5:=Lib.hid (show ∀ W,Keeps nobody w2 W→(convert 163 9 (.slice (some ⟨ks,0,none⟩) 4 4)).run Tryz.prog W=.ok (.string ⟨sm.toArray⟩) W from fun W hW=>by
  have:=(hlk.keeps hW (fun h=>h)).text 4
  rw [hs4] at this
  exact this)
 have HCV:=Lib.hid (fun W hW=>HCV.out W ((Keeps.of_below (X:=nobody) hb2).trans hW))
 have HK2:=Lib.hid (Keeps.of_below (X:=nobody) hb2)
 have HL2:=Lib.hid ((HL.out.keeps (Keeps.drew (X:=nobody)) (fun h=>h)).keeps (Keeps.of_below (X:=nobody) hb2) (fun h=>h))
 have HK3:=Lib.hid ((HK.out.drew).keeps (Keeps.of_below (X:=nobody) hb2) (fun h=>h))
 have HB2:=Lib.hid ((HB1.out.drew).trans (hb2.mono (by have:=HB1.out.size;simpa using this)))
 clear hbk hb2 hlk
 refine hK.out _ _ ?_ ?_
 ·exact HK2.out
 clear hK K
 try simp only [qPA]
 iterate 3
  first|refine qT 6 (v:=?_) ?_ ?_|refine qT 10 (v:=?_) ?_ ?_|refine qT 11 (v:=?_) ?_ ?_
  rotate_left
  ·(intro W hSw;(first|(have hcv:=HCV5.out W hSw)|(have hcv:=HCV.out W hSw)|skip);go_simp <;> rfl)
  try simp only [qPA]
 refine wpMono_done (by kernel_rfl) ?_ _
 have c0:w2.cell? ⟨k,0,none⟩=some (.int .u8 ((p.length:Int) / 256)):=HL2.out 0 _ (by rw [byt_app,HHB.out];rfl)
 have c1:w2.cell? ⟨k,1,none⟩=some (.int .u8 ((p.length:Int) % 256)):=HL2.out 1 _ (by rw [byt_app,HHB.out];rfl)
 have hk2:k < w2.heap.size:=HK3.out.lt
 clear HCV5 HCV HK2 HH HL HK
 go_wp2_with fail
 go_quiet (fail)
 rename_i nq
 go_wp2_with fail
 have HRC:=Lib.hid (HRB.out (w2.drewN nq))
 clear HRB
 have e0:((at_ + 12:Nat):Int)=(at_:Int) + 12:=by omega
 have e1:((p.length + 4:Nat):Int)=(p.length:Int) + 4:=by omega
 rw [e0,e1] at HRC
 refine HRC.out.mono ?_
 rintro e w3 ⟨hb3,k2,rfl,hkk,hblk,_⟩
 have HB3:=Lib.hid ((below_drewN HB2.out nq).trans (hb3.mono HB2.out.size))
 have HLH:=Lib.hid ((HL2.out.keeps (Keeps.drewN (X:=nobody) nq) (fun h=>h)).keeps (Keeps.of_below (X:=nobody) hb3) (fun h=>h))
 have HLR:=Lib.hid (Lies.blk hblk)
 clear hb3 hblk HRC c0 c1 HL2 HK3 HB2
 go_wp2_with fail
 have hh:=HLH.out.cut 0 2
 rw [List.drop_zero,show (hd ++ sm).take 2=hd by rw [← hd2];exact List.take_left] at hh
 have hp1:=HLR.out.cut 0 p.length
 rw [List.drop_zero,List.take_left] at hp1
 have hp2:=HLR.out.cut p.length 4
 rw [List.drop_left,List.take_of_length_le (by omega),Nat.zero_add] at hp2
 have HH:=Lib.hid hh
 have HP:=Lib.hid hp1
 have HCV:=Lib.hid (show ∀ W,Keeps nobody w3.drew W→(convert 163 9 (.slice (some ⟨k2,p.length,none⟩) 4 4)).run Tryz.prog W=.ok (.string ⟨sq.toArray⟩) W from fun W hW=>by
  have:=((hp2.keeps (Keeps.drew (X:=nobody)) (fun h=>h)).keeps hW (fun h=>h)).text 4
  rw [hq4] at this
  exact this)
 obtain ⟨hdp,hhdp⟩:∃ x,hd ++ p=x:=⟨_,rfl⟩
 obtain ⟨m,hm⟩:∃ m,hdp.length=m:=⟨_,rfl⟩
 have hmm:m=2 + p.length:=by rw [← hm,← hhdp,List.length_append];omega
 rw [hhdp] at hsq
 clear hh hp1 hp2
 have hd8:decide ((8192:Int) < (p.length:Int))=false:=decide_eq_false (by omega)
 have hle4:(p.length:Int)≤(p.length:Int) + 4:=by omega
 have hd9:decide (8192 < p.length)=false:=decide_eq_false (by omega)
 refine wp_region_mono nobody (by kernel_rfl) ?_
 iterate 16
  first|refine qT 0 (v:=?_) ?_ ?_|refine qT 1 (v:=?_) ?_ ?_|refine qT 2 (v:=?_) ?_ ?_|refine qT 3 (v:=?_) ?_ ?_|refine qT 4 (v:=?_) ?_ ?_|refine qT 5 (v:=?_) ?_ ?_|refine qT 6 (v:=?_) ?_ ?_|refine qT 7 (v:=?_) ?_ ?_|refine qT 8 (v:=?_) ?_ ?_|refine qT 9 (v:=?_) ?_ ?_|refine qT 10 (v:=?_) ?_ ?_|refine qT 11 (v:=?_) ?_ ?_|refine qT 15 (v:=?_) ?_ ?_|refine qT 16 (v:=?_) ?_ ?_|refine qT 17 (v:=?_) ?_ ?_|refine qT 18 (v:=?_) ?_ ?_
  rotate_left
  ·(intro W hSw;(first|(have hcv:=HCV5.out W hSw)|(have hcv:=HCV.out W hSw)|skip);go_simp <;> rfl)
  try simp only [qPA]
  (try rw [hd8]);(try rw [hd9])
 refine wpMono_one' 12 (by kernel_rfl) rfl (by rfl) (fun K hK=>?_)
 refine wp_append_cut (k:=k) (off:=0) (n:=2) (l1:=hd) (l2:=p) (.tmp 56) (.tmp 59) 163 rfl rfl rfl hd2 (HH.out.keeps (Keeps.drew (X:=nobody)) (fun h=>h)) ((HP.out.keeps (Keeps.drew (X:=nobody)) (fun h=>h)).src 163 Tryz.underlying163 _) (by omega) hdp m hhdp hm (fun k' off' c' w5 hl5 hb5=>?_)
 have HL5:=Lib.hid hl5
 have HK5:=Lib.hid (Keeps.of_below (X:=nobody) hb5)
 have HB5:=Lib.hid ((HB3.out.drew).trans (hb5.mono (by have:=HB3.out.size;simpa using this)))
 clear hl5 hb5
 refine hK.out _ _ ?_ ?_
 ·exact HK5.out
 clear hK K
 try simp only [qPA]
 (try rw [hd8]);(try rw [hd9])
 refine wpMono_one' 13 (by kernel_rfl) rfl (by rfl) (fun K hK=>?_)
 go_simp
 refine (sum_f _ (2 + p.length) c' hdp _ (hm.trans hmm) (by unfold maxLen;omega) (by have:=HL5.out.reads;rw [hm,hmm] at this;exact this)).mono ?_
 rintro e w6 ⟨ks2,rfl,hbk,_,hb6⟩
 rw [hsq] at hbk
 have hlk:=Lies.blk hbk
 have HCV5:=Lib.hid (show ∀ W,Keeps nobody w6 W→(convert 163 9 (.slice (some ⟨ks2,0,none⟩) 4 4)).run Tryz.prog W=.ok (.string ⟨sq.toArray⟩) W from fun W hW=>by
  have:=(hlk.keeps hW (fun h=>h)).text 4
  rw [hq4] at this
  exact this)
 have HK6:=Lib.hid (Keeps.of_below (X:=nobody) hb6)
 have HB6:=Lib.hid (HB5.out.trans (hb6.mono HB5.out.size))
 have HCV:=Lib.hid (fun W hW=>HCV.out W ((HK5.out.trans HK6.out).trans hW))
 clear hbk hb6 hlk
 refine hK.out _ _ ?_ ?_
 ·exact HK6.out
 clear hK K
 try simp only [qPA]
 (try rw [hd8]);(try rw [hd9])
 iterate 3
  first|refine qT 14 (v:=?_) ?_ ?_|refine qT 19 (v:=?_) ?_ ?_|refine qT 20 (v:=?_) ?_ ?_
  rotate_left
  ·(intro W hSw;(first|(have hcv:=HCV5.out W hSw)|(have hcv:=HCV.out W hSw)|skip);go_simp <;> rfl)
  try simp only [qPA]
  (try rw [hd8]);(try rw [hd9])
 refine wpMono_done (by kernel_rfl) ?_ _
 have hcv:=((((HP.out.keeps (Keeps.drew (X:=nobody)) (fun h=>h)).keeps HK5.out (fun h=>h)).keeps HK6.out (fun h=>h)).text (p.length + 4))
 rw [Nat.add_zero] at hcv
 clear HCV HCV5 HK5 HK6 HL5 HH HP HLH HLR
 go_wp2_with fail
 have HR:=Lib.hid (show OpenedR p (at_ + 12 + 2 * (p.length + 4)) w (.returned (.tuple #[.string ⟨p.toArray⟩,.int .i64 (at_ + 12 + 2 * (p.length + 4):Nat),.bool true])) w6 from ⟨rfl,HB6.out⟩)
 exact bodyPost_ret (v:=.tuple #[.string ⟨p.toArray⟩,.int .i64 (at_ + 12 + 2 * (p.length + 4):Nat),.bool true]) (by simp [results,Tryz.results293,go_sem]) rfl HR.out
theorem at_nil (s:ByteArray) (n:Int) (w:World):Calls Tryz.prog 26 #[.string s,.int .i64 n,.nilIface] w fun e w'=>e=.returned .nilIface∧w'=w:=by
 go_enter Tryz.func26,Tryz.ntmps26
 go_wp2
 go_ret
 exact ⟨rfl,rfl⟩
def OpenedE (p:List UInt8) (next:Nat) (w:World) (e:Ending) (w':World):Prop:=e=.returned (.tuple #[.string ⟨p.toArray⟩,.int .i64 next,.nilIface])∧Below w.heap.size w w'
theorem open_f (s:ByteArray) (at_:Nat) (p r:List UInt8) (w:World) (hs:s.size≤1048576) (hp:p.length≤8192) (h:s.data.toList.drop at_=sealF p ++ r) :
  Calls Tryz.prog 250 #[.string s,.int .i64 at_] w (OpenedE p (at_ + (sealF p).length) w):=by
 have hlt:at_ < s.size:=by
  have:=congrArg List.length h
  rw [List.length_drop,List.length_append,seal_len] at this
  have h2:s.data.toList.length=s.size:=rfl
  omega
 have hd1:(s.size:Int)≤1048576:=by omega
 rw [wireb.byte_at hlt] at h
 have h1:s[at_]=1:=by
  unfold sealF at h
  injection h
 have h2:s.data.toList.drop (at_ + 1)=restF p ++ r:=by
  unfold sealF at h
  injection h
 have h3:((s[at_].toNat:Nat):Int)=1:=by rw [h1];rfl
 have HO:=Lib.hid (open_in s (at_ + 1) p r w hs (by omega) hp h2)
 have hn:at_ + 1 + 12 + 2 * (p.length + 4)=at_ + (sealF p).length:=by rw [seal_len];omega
 rw [hn] at HO
 have e0:((at_ + 1:Nat):Int)=(at_:Int) + 1:=by omega
 rw [e0] at HO
 have hne:((at_:Int) == (s.size:Int))=false:=by simp;omega
 generalize at_ + (sealF p).length=nx at *
 clear h h1 h2 hn e0
 go_enter Tryz.func250,Tryz.ntmps250
 go_wp2_with fail
 refine HO.out.mono ?_
 rintro e w1 ⟨rfl,hb⟩
 have HB:=Lib.hid hb
 clear hb HO
 go_wp2_with fail
 exact bodyPost_ret (v:=.tuple #[.string ⟨p.toArray⟩,.int .i64 (nx:Nat),.nilIface]) (by simp [results,Tryz.results250,go_sem]) rfl ⟨rfl,HB.out⟩
end Go.Proofs.YtdaphppdmnmicaaGreatDoor.framew
