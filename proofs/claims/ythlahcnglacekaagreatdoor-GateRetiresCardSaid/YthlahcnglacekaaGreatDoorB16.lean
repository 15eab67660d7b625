/- Part of GateRetires. -/
import Derived.Test.YthlahcnglacekaaGreatDoorB03
import Derived.Test.YthlahcnglacekaaGreatDoorB17
set_option maxRecDepth 100000
set_option maxHeartbeats 16000000
namespace Go.Proofs.YthlahcnglacekaaGreatDoor
namespace framew
open Go Go.RowKit Go.Lib base rowe rowc framep wireb appb
theorem head_byt (n:Nat) (hn:n≤65535):byt (headB n)=[.int .u8 ((n:Int) / 256),.int .u8 ((n:Int) % 256)]:=by
 unfold headB byt;simp only [List.map_cons,List.map_nil];rw [framep.byte_of (by omega),framep.byte_of (by omega),Nat.mod_eq_of_lt (show n / 256<256 by omega)];simp
theorem nib_low (a:Nat):bits .or .u8 64 ((a:Int) % 16)=(((UInt8.ofNat (64+a % 16)).toNat:Nat):Int):=by
 have h1:=u8_or_nat 64 (a % 16) (by omega) (by omega);have h2:∀ x:Fin 16,64 ||| x.val=64+x.val:=by decide +kernel
 rw [h2 ⟨a % 16,by omega⟩] at h1;rw [framep.byte_of (by omega)];exact h1
theorem nib_high (a:Nat) (h:a<256):bits .or .u8 64 ((a:Int) / 16)=(((UInt8.ofNat (64+a / 16)).toNat:Nat):Int):=by
 have h1:=u8_or_nat 64 (a / 16) (by omega) (by omega);have h2:∀ x:Fin 16,64 ||| x.val=64+x.val:=by decide +kernel
 rw [h2 ⟨a / 16,by omega⟩] at h1;rw [framep.byte_of (by omega)];exact h1
theorem nibs_next {l:List UInt8} {j:Nat} (h:j<l.length):nibs (l.take (j+1))=nibs (l.take j)++[UInt8.ofNat (64+l[j].toNat / 16),UInt8.ofNat (64+l[j].toNat % 16)]:=by
 have e:l.take (j+1)=l.take j++[l[j]]:=List.take_succ_eq_append_getElem h;unfold nibs;rw [e,List.flatMap_append];simp
def SealR (p:ByteArray) (w:World) (e:Ending) (w':World):Prop:=e=.returned (.tuple #[.string ⟨(sealF p.data.toList).toArray⟩,.nilIface])∧Below w.heap.size w w'
theorem seal_f (p : ByteArray) (hp : p.size ≤ 8192) (w : World) : Calls Tryz.prog 186 #[.string p] w (SealR p w) := by
  obtain ⟨i0, hi, hz⟩ := Option.map_eq_some_iff.1 byte_info;simp only [Prod.mk.injEq] at hz;obtain ⟨hz0, hz1, hz2⟩ := hz;obtain ⟨l, hl⟩ : ∃ l, p.data.toList = l := ⟨_, rfl⟩;have hlen : l.length = p.size := by rw [←hl]; rfl
  have d1 : decide ((8192 : Int)<(p.size : Int)) = false := decide_eq_false (by omega);have HH := qH (head_byt p.size (by omega));have HSTR := qH (fun w => by have := src_str (w := w) p; rw [hl] at this; exact this : ∀ w, Src Tryz.prog 1 9 (.string p) l.length (byt l) w);have HL := qH hl;clear hl;go_enter Tryz.func186, Tryz.ntmps186;go_wp2_with fail;have HD0 := qH (show Blk (w.alloc (.cells #[.int .u8 ((p.size : Int) / 256), .int .u8 ((p.size : Int) % 256)] 5)) w.heap.size 5 (byt (headB p.size)).toArray from by rw [HH.out]; exact Blk.new w _ _);have HB0 := qH (below_new w (.cells #[.int .u8 ((p.size : Int) / 256), .int .u8 ((p.size : Int) % 256)] 5));generalize w.alloc (.cells #[.int .u8 ((p.size : Int) / 256), .int .u8 ((p.size : Int) % 256)] 5) = w1 at *;obtain ⟨hd, hhd⟩ : ∃ x, headB p.size = x := ⟨_, rfl⟩;have hd2 : hd.length = 2 := by rw [←hhd]; rfl
  obtain ⟨sm, hsm⟩ : ∃ x, sumB hd = x := ⟨_, rfl⟩;have hs4 : sm.length = 4 := by rw [←hsm]; rfl
  have hk0 : w.heap.size<w1.heap.size := HD0.out.lt;rw [hhd] at HD0;clear HH;refine wp_region_mono (fun i => w1.heap.size ≤ i) (by kernel_rfl) ?_
  iterate 4
    first | refine qT 0 (v := ?_) ?_ ?_ | refine qT 1 (v := ?_) ?_ ?_ | refine qT 2 (v := ?_) ?_ ?_ | refine qT 5 (v := ?_) ?_ ?_
    rotate_left
    · (intro W hSw; (skip); go_simp <;> rfl)
    try simp only [qPA]
  refine wpMono_one' 3 (by kernel_rfl) rfl (by rfl) (fun K hK => ?_)
  go_simp
  refine (sum_f _ 2 2 hd _ hd2 (by decide) (by have := (Lies.blk HD0.out.drew).reads; rw [hd2] at this; exact this)).mono ?_;rintro e w2 ⟨ks, rfl, hbk, hks, hb2⟩;rw [hsm] at hbk;have HK := qH hbk;have HD2 := qH (HD0.out.drew.below hb2 hk0);have HB2 := qH ((HB0.out.drew).trans (hb2.mono (by have := HB0.out.size; simpa using this)));have hs2 : w1.heap.size ≤ w2.heap.size := hb2.size;have HK2 := qH (Keeps.of_below (X := fun i => w1.heap.size ≤ i) hb2);clear hbk hb2;refine hK.out _ _ ?_ ?_
  · exact HK2.out
  clear hK K
  try simp only [qPA]
  refine wpMono_one' 4 (by kernel_rfl) rfl (by rfl) (fun K hK => ?_);refine wp_append_new (k := w.heap.size) (off := 0) (n := 2) (l1 := hd) (l2 := sm) (.tmp 24) (.tmp 26) 86 rfl rfl rfl hd2 (Lies.blk HD2.out) (by have := (Lies.blk HK.out).src 86 Tryz.underlying86 4; rw [hs4] at this ⊢; exact this) (by omega) (by omega) (fun v3 w3 hv3 hb3 => ?_);have HV3 := qH hv3;have HD3 := qH (HD2.out.below hb3 HD2.out.lt);have HB3 := qH (HB2.out.trans (hb3.mono HB2.out.size));have hs3 := hb3.size;have HK3 := qH (Keeps.of_below (X := fun i => w1.heap.size ≤ i) hb3);clear hv3 hb3;refine hK.out _ _ ?_ ?_
  · exact HK3.out
  clear hK K
  try simp only [qPA]
  refine wpMono_one' 6 (by kernel_rfl) rfl (by rfl) (fun K hK => ?_);refine wp_append_str (l1 := hd++sm) (.tmp 27) (.tmp 28) rfl p rfl rfl HV3.out (by rw [List.length_append]; omega) hs3 (fun v4 w4 hv4 hb4 => ?_);have HV4 := qH hv4;have HD4 := qH (HD3.out.below hb4 HD2.out.lt);have HB4 := qH (HB3.out.trans (hb4.mono HB2.out.size));have hs4' := hb4.size;have HK4 := qH (Keeps.lo (X := fun i => w1.heap.size ≤ i) hb4 (fun i hi => Nat.le_trans hs2 hi));clear hv4 hb4;refine hK.out _ _ ?_ ?_
  · exact HK4.out
  clear hK K
  try simp only [qPA]
  refine qT 7 (v := ?_) ?_ ?_; rotate_left
  · (intro W hSw; (skip); go_simp <;> rfl)
  try simp only [qPA]
  refine wpMono_done (by kernel_rfl) ?_ _;clear HK HD2 HB2 HK2 HV3 HD3 HB3 HK3 HK4 HD0 HB0;obtain ⟨B, hB⟩ : ∃ x, w2.heap.size = x := ⟨_, rfl⟩;rw [hB] at HV4 hs3 hs2;have HPL := HL.out;rw [HPL] at HV4;clear HPL;obtain ⟨hdl, hhdl⟩ : ∃ x, hd++l = x := ⟨_, rfl⟩;obtain ⟨m, hm⟩ : ∃ m, hdl.length = m := ⟨_, rfl⟩;have hmm : m = 2+p.size := by rw [←hm, ← hhdl, List.length_append]; omega
  go_wp2_with (at_builtin; first
    | (refine wpList_plain rfl fun K hK => wp_append_cut (k := w.heap.size) (off := 0) (n := 2) (l1 := hd) (l2 := l) (.tmp 32) (.tmp 33) 9 rfl rfl rfl hd2 (Lies.blk HD4.out) (HSTR.out _) (by omega) hdl m hhdl hm (fun k' off' c' w5 hl5 hb5 => hK _ _ ?_)
       have HL5 := qH hl5;have HB5 := qH (HB4.out.trans (hb5.mono HB4.out.size));have hs5 := hb5.size;have HV5 := qH (HV4.out.below hb5);clear hl5 hb5 hK K)
    | fail)
  refine (sum_f _ (2+p.size) c' hdl _ (hm.trans hmm) (by unfold maxLen; omega) (by have := HL5.out.reads; rw [hm, hmm] at this; exact this)).mono ?_;rintro e w6 ⟨kq, rfl, hbk, _, hb6⟩;obtain ⟨sq, hsq⟩ : ∃ x, sumB hdl = x := ⟨_, rfl⟩;have hq4 : sq.length = 4 := by rw [←hsq]; rfl
  rw [hsq] at hbk;have hs6 := hb6.size;have HK6 := qH hbk;have HB6 := qH (HB5.out.trans (hb6.mono HB5.out.size));have HV6 := qH (HV5.out.below hb6);clear hbk hb6 HB5 HV5 HV4 HB4;obtain ⟨raw, hraw⟩ : ∃ x, hd++sm++l++sq = x := ⟨_, rfl⟩;obtain ⟨L, hL⟩ : ∃ m, raw.length = m := ⟨_, rfl⟩;have hLL : L ≤ 8300 := by rw [←hL, ← hraw]; simp only [List.length_append]; omega
  have HSEAL := qH (show (1 : UInt8) :: nibs raw = sealF l from by
    unfold sealF;rw [hlen, hhd, hsm, ← hraw, hhdl, hsq])
  go_wp2_with (at_builtin; first
    | (refine wpList_plain rfl fun K hK => wp_append_row (l1 := hd ++ sm ++ l) (l2 := sq) (c := 4) (A := some ⟨kq, 0, none⟩) (.tmp 30) (.tmp 35) rfl rfl (by rw [hq4]; rfl) HV6.out (Lies.blk HK6.out).reads (by simp only [List.length_append]; omega) (by omega) (fun v7 w7 hv7 hb7 => hK _ _ ?_)
       rw [hraw] at hv7;have HV7 := qH hv7;have hs7 := hb7.size;have HB7 := qH (HB6.out.trans (hb7.mono (by omega)));obtain ⟨A7, c7, rfl⟩ := hv7.form;rw [hL] at HV7 ⊢;clear hv7 hb7 hK K)
    | fail)
  have hraw0 : raw.length≠0 := by rw [←hraw]; simp only [List.length_append]; omega
  obtain ⟨g7, c7', hv7, _, hg7, hl7⟩ := lies_of_own (v := .slice A7 L c7) HV7.out (by omega);obtain rfl : A7 = some ⟨g7, 0, none⟩ := by injection hv7
  have HL7 := qH hl7;have HO := qH (show OwnB (w7.alloc (.cells #[.int .u8 1] 5)) w7.heap.size (.slice (some ⟨w7.heap.size, 0, none⟩) 1 1) [1] from ownsRow_new0 w7 5 1 #[.int .u8 1]);clear hl7 hv7 HV7 HV6 HK6 HL5 HD4 HB6
  go_loopw [7, 40, 9] (fun o k _ wr' => ∃ j : Nat, k = .int .i64 j ∧ j ≤ L ∧ OwnB wr' w7.heap.size o (1 :: nibs (raw.take j)) ∧ Below w7.heap.size w7 wr') (fun _ k _ _ => L-(intOf k).toNat)
  case atStart => exact ⟨0, rfl, by omega, by simpa [nibs] using HO.out, below_new _ _⟩
  case round =>
    clear HO;obtain ⟨j, rfl, hj, hown, hbw⟩ := hrel;have hsz := hbw.size;obtain ⟨q, hq⟩ : ∃ x, (1 : UInt8) :: nibs (raw.take j) = x := ⟨_, rfl⟩
    have hql : q.length ≤ 20000 := by
      rw [←hq, List.length_cons, nibs_len, List.length_take];omega
    rw [hq] at hown
    by_cases hjL : j<L
    · have dj : decide ((j : Int)<(L : Int)) = true := decide_eq_true (by omega)
      have hjr : j<raw.length := by omega
      have hc : wr.cell? ⟨g7, j, none⟩ = some (.int .u8 (raw[j].toNat : Nat)) := by
        have h1 := HL7.out.keeps (Keeps.of_below (X := nobody) (show Below w7.heap.size w7 wr from hbw)) (fun h => h) j (.int .u8 (raw[j].toNat : Nat)) (by simp only [byt, List.getElem?_map, List.getElem?_eq_getElem hjr, Option.map_some])
        rwa [Nat.zero_add] at h1
      have HN := qH (nibs_next hjr);have hc8 := raw[j].toNat_lt;have e1 := nib_high raw[j].toNat hc8;have e2 := nib_low raw[j].toNat;generalize UInt8.ofNat (64+raw[j].toNat / 16) = b1 at *;generalize UInt8.ofNat (64+raw[j].toNat % 16) = b2 at *;generalize raw[j].toNat = cn at *;have Hown := qH (show wr.ownsRow w7.heap.size 5 1 _ q.length (byt q) from hown);have Hbw := qH hbw;have HQ := qH hq;clear hown hbw hq
      go_wp2_with (at_builtin; refine wpList_append_newAt rfl (.tmp 44) (.tmp 51) _ rfl w7.heap.size 5 i0 _ 1 1 Tryz.underlying86 hi hz0 hz1 hz2 rfl (by decide) _ q.length _ rfl Hown.out 2 2 wr.heap.size (by simp) [_, _] rfl rfl (by simp [Value.oneCell']) (by unfold maxLen; omega) (by omega) hsz ?_; intro v1 w9 hown1 hbw1 hgr1 hwh1; have Hown1 := qH hown1; have Hbw1 := qH (Hbw.out.trans hbw1); clear hown1 hbw1 hgr1 hwh1)
      go_roundw
      case rel =>
        refine ⟨j+1, by go_num, by omega, ?_, Hbw1.out⟩;rw [HN.out, ← List.cons_append, HQ.out];have h := Hown1.out;unfold OwnB;rw [List.length_append, byt_app];exact h
      case measure => simp [intOf]; omega
    · obtain rfl : L = j := by omega
      have dj : decide ((L : Int)<(L : Int)) = false := by simp
      have hqs : q = sealF l := by rw [←hq, ← hL, List.take_length]; exact HSEAL.out
      have hq0 : 0<q.length := by rw [←hq]; simp
      obtain ⟨go, co, rfl, _, _, hlo⟩ := lies_of_own hown hq0;have hcv := hlo.text co;have HR := qH (show SealR p w (.returned (.tuple #[.string ⟨q.toArray⟩, .nilIface])) wr from ⟨by rw [hqs, HL.out], HB7.out.trans (hbw.mono (by omega))⟩);clear hown hbw hlo hqs hq;go_wp2_with fail;go_ret2
      exact HR.out
end framew
namespace framew
open Go Go.RowKit Go.Lib base rowe rowc framep wireb appb inp
theorem head_int (n:Nat) (hn:n≤65535):bits .or .i64 ((n:Int) / 256*256) ((n:Int) % 256)=n:=by
 have h1:=or_i64 (n / 256*256) (n % 256) (by omega) (by omega)
 have h2:n / 256*256 ||| n % 256=n:=by
  rw [show n / 256*256=2 ^ 8*(n / 256) by omega,←Nat.two_pow_add_eq_or_of_lt (show n % 256<2 ^ 8 by omega)];omega
 rw [h2] at h1;exact h1
def restF (p:List UInt8):List UInt8:=nibs (headB p.length++sumB (headB p.length)++p++sumB (headB p.length++p))
def OpenedR (p:List UInt8) (next:Nat) (w:World) (e:Ending) (w':World):Prop:=e=.returned (.tuple #[.string ⟨p.toArray⟩,.int .i64 next,.bool true])∧Below w.heap.size w w'
theorem open_in (s:ByteArray) (at_:Nat) (p r:List UInt8) (w:World) (hs:s.size≤1048576) (ha:at_≤s.size) (hp:p.length≤8192) (h:s.data.toList.drop at_=restF p++r) :
  Calls Tryz.prog 228 #[.string s,.int .i64 at_] w (OpenedR p (at_+12+2*(p.length+4)) w):=by
 obtain ⟨hd,hhd⟩:∃ x,headB p.length=x:=⟨_,rfl⟩;have hd2:hd.length=2:=by rw [←hhd];rfl
 obtain ⟨sm,hsm⟩:∃ x,sumB hd=x:=⟨_,rfl⟩;have hs4:sm.length=4:=by rw [←hsm];rfl
 obtain ⟨sq,hsq⟩:∃ x,sumB (hd++p)=x:=⟨_,rfl⟩;have hq4:sq.length=4:=by rw [←hsq];rfl
 have hn:s.data.toList.drop at_=nibs (hd++sm)++(nibs (p++sq)++r):=by
  rw [h];unfold restF;rw [hhd,hsm,hsq];simp [nibs]
 have r1:=raws_nibs (hd++sm) (nibs (p++sq)++r);rw [←hn,show (hd++sm).length=6 by rw [List.length_append];omega] at r1
 have hn2:s.data.toList.drop (at_+12)=nibs (p++sq)++r:=by
  rw [←List.drop_drop,hn];have:(nibs (hd++sm)).length=12:=by rw [nibs_len,List.length_append];omega
  rw [←this];exact List.drop_left
 have r2:=raws_nibs (p++sq) r;rw [←hn2,show (p++sq).length=p.length+4 by rw [List.length_append];omega] at r2;have HRA:=qH (raws_f s at_ 6 w hs (by omega) (by omega) (by omega));rw [r1] at HRA;have HRB:=qH (fun w=>raws_f s (at_+12) (p.length+4) w hs (by omega) (by omega) (by omega));rw [r2] at HRB;have hint:=head_int p.length (by omega);have HHB:=qH (head_byt p.length (by omega));rw [hhd] at HHB;clear r1 r2 hn hn2 h;go_enter Tryz.func228,Tryz.ntmps228;go_wp2_with fail;refine HRA.out.mono ?_;rintro e w1 ⟨hb1,k,rfl,hk,hblk,_⟩;have HB1:=qH hb1;have HK:=qH hblk;have HL:=qH (Lies.blk hblk);clear hb1 hblk HRA;go_wp2_with fail;have hh:=HL.out.cut 0 2;have hh2:=HL.out.cut 2 4;rw [List.drop_zero,show (hd++sm).take 2=hd by rw [←hd2];exact List.take_left] at hh;rw [show (hd++sm).drop 2=sm by rw [←hd2];exact List.drop_left,List.take_of_length_le (by omega)] at hh2;have HH:=qH hh
 have HCV:=qH (show ∀ W,Keeps nobody w1.drew W→(convert 86 9 (.slice (some ⟨k,2,none⟩) 4 4)).run Tryz.prog W=.ok (.string ⟨sm.toArray⟩) W from fun W hW=>by
  have:=((hh2.keeps (Keeps.drew (X:=nobody)) (fun h=>h)).keeps hW (fun h=>h)).text 4;rw [hs4] at this;exact this)
 clear hh hh2;refine wp_region_mono nobody (by kernel_rfl) ?_
 iterate 8
  first|refine qT 0 (v:=?_) ?_ ?_|refine qT 1 (v:=?_) ?_ ?_|refine qT 2 (v:=?_) ?_ ?_|refine qT 3 (v:=?_) ?_ ?_|refine qT 4 (v:=?_) ?_ ?_|refine qT 7 (v:=?_) ?_ ?_|refine qT 8 (v:=?_) ?_ ?_|refine qT 9 (v:=?_) ?_ ?_
  rotate_left
  ·(intro W hSw;(first|(have hcv:=HCV5.out W hSw)|(have hcv:=HCV.out W hSw)|skip);go_simp <;> rfl)
  try simp only [qPA]
 refine wpMono_one' 5 (by kernel_rfl) rfl (by rfl) (fun K hK=>?_)
 go_simp
 refine (sum_f _ 2 6 hd _ hd2 (by decide) (by have:=(HH.out.keeps (Keeps.drew (X:=nobody)) (fun h=>h)).reads;rw [hd2] at this;exact this)).mono ?_;rintro e w2 ⟨ks,rfl,hbk,hks,hb2⟩;rw [hsm] at hbk;have hlk:=Lies.blk hbk
 have HCV5:=qH (show ∀ W,Keeps nobody w2 W→(convert 86 9 (.slice (some ⟨ks,0,none⟩) 4 4)).run Tryz.prog W=.ok (.string ⟨sm.toArray⟩) W from fun W hW=>by
  have:=(hlk.keeps hW (fun h=>h)).text 4;rw [hs4] at this;exact this)
 have HCV:=qH (fun W hW=>HCV.out W ((Keeps.of_below (X:=nobody) hb2).trans hW));have HK2:=qH (Keeps.of_below (X:=nobody) hb2);have HL2:=qH ((HL.out.keeps (Keeps.drew (X:=nobody)) (fun h=>h)).keeps (Keeps.of_below (X:=nobody) hb2) (fun h=>h));have HK3:=qH ((HK.out.drew).keeps (Keeps.of_below (X:=nobody) hb2) (fun h=>h));have HB2:=qH ((HB1.out.drew).trans (hb2.mono (by have:=HB1.out.size;simpa using this)));clear hbk hb2 hlk;refine hK.out _ _ ?_ ?_
 ·exact HK2.out
 clear hK K
 try simp only [qPA]
 iterate 3
  first|refine qT 6 (v:=?_) ?_ ?_|refine qT 10 (v:=?_) ?_ ?_|refine qT 11 (v:=?_) ?_ ?_
  rotate_left
  ·(intro W hSw;(first|(have hcv:=HCV5.out W hSw)|(have hcv:=HCV.out W hSw)|skip);go_simp <;> rfl)
  try simp only [qPA]
 refine wpMono_done (by kernel_rfl) ?_ _;have c0:w2.cell? ⟨k,0,none⟩=some (.int .u8 ((p.length:Int) / 256)):=HL2.out 0 _ (by rw [byt_app,HHB.out];rfl);have c1:w2.cell? ⟨k,1,none⟩=some (.int .u8 ((p.length:Int) % 256)):=HL2.out 1 _ (by rw [byt_app,HHB.out];rfl);have hk2:k<w2.heap.size:=HK3.out.lt;clear HCV5 HCV HK2 HH HL HK;go_wp2_with fail
 go_quiet (fail)
 rename_i nq
 go_wp2_with fail;have HRC:=qH (HRB.out (w2.drewN nq));clear HRB;have e0:((at_+12:Nat):Int)=(at_:Int)+12:=by omega
 have e1:((p.length+4:Nat):Int)=(p.length:Int)+4:=by omega
 rw [e0,e1] at HRC;refine HRC.out.mono ?_;rintro e w3 ⟨hb3,k2,rfl,hkk,hblk,_⟩;have HB3:=qH ((below_drewN HB2.out nq).trans (hb3.mono HB2.out.size));have HLH:=qH ((HL2.out.keeps (Keeps.drewN (X:=nobody) nq) (fun h=>h)).keeps (Keeps.of_below (X:=nobody) hb3) (fun h=>h));have HLR:=qH (Lies.blk hblk);clear hb3 hblk HRC c0 c1 HL2 HK3 HB2;go_wp2_with fail;have hh:=HLH.out.cut 0 2;rw [List.drop_zero,show (hd++sm).take 2=hd by rw [←hd2];exact List.take_left] at hh;have hp1:=HLR.out.cut 0 p.length;rw [List.drop_zero,List.take_left] at hp1;have hp2:=HLR.out.cut p.length 4;rw [List.drop_left,List.take_of_length_le (by omega),Nat.zero_add] at hp2;have HH:=qH hh;have HP:=qH hp1
 have HCV:=qH (show ∀ W,Keeps nobody w3.drew W→(convert 86 9 (.slice (some ⟨k2,p.length,none⟩) 4 4)).run Tryz.prog W=.ok (.string ⟨sq.toArray⟩) W from fun W hW=>by
  have:=((hp2.keeps (Keeps.drew (X:=nobody)) (fun h=>h)).keeps hW (fun h=>h)).text 4;rw [hq4] at this;exact this)
 obtain ⟨hdp,hhdp⟩:∃ x,hd++p=x:=⟨_,rfl⟩;obtain ⟨m,hm⟩:∃ m,hdp.length=m:=⟨_,rfl⟩;have hmm:m=2+p.length:=by rw [←hm,←hhdp,List.length_append];omega
 rw [hhdp] at hsq;clear hh hp1 hp2;have hd8:decide ((8192:Int)<(p.length:Int))=false:=decide_eq_false (by omega);have hle4:(p.length:Int)≤(p.length:Int)+4:=by omega
 have hd9:decide (8192<p.length)=false:=decide_eq_false (by omega);refine wp_region_mono nobody (by kernel_rfl) ?_
 iterate 16
  first|refine qT 0 (v:=?_) ?_ ?_|refine qT 1 (v:=?_) ?_ ?_|refine qT 2 (v:=?_) ?_ ?_|refine qT 3 (v:=?_) ?_ ?_|refine qT 4 (v:=?_) ?_ ?_|refine qT 5 (v:=?_) ?_ ?_|refine qT 6 (v:=?_) ?_ ?_|refine qT 7 (v:=?_) ?_ ?_|refine qT 8 (v:=?_) ?_ ?_|refine qT 9 (v:=?_) ?_ ?_|refine qT 10 (v:=?_) ?_ ?_|refine qT 11 (v:=?_) ?_ ?_|refine qT 15 (v:=?_) ?_ ?_|refine qT 16 (v:=?_) ?_ ?_|refine qT 17 (v:=?_) ?_ ?_|refine qT 18 (v:=?_) ?_ ?_
  rotate_left
  ·(intro W hSw;(first|(have hcv:=HCV5.out W hSw)|(have hcv:=HCV.out W hSw)|skip);go_simp <;> rfl)
  try simp only [qPA]
  (try rw [hd8]);(try rw [hd9])
 refine wpMono_one' 12 (by kernel_rfl) rfl (by rfl) (fun K hK=>?_);refine wp_append_cut (k:=k) (off:=0) (n:=2) (l1:=hd) (l2:=p) (.tmp 56) (.tmp 59) 86 rfl rfl rfl hd2 (HH.out.keeps (Keeps.drew (X:=nobody)) (fun h=>h)) ((HP.out.keeps (Keeps.drew (X:=nobody)) (fun h=>h)).src 86 Tryz.underlying86 _) (by omega) hdp m hhdp hm (fun k' off' c' w5 hl5 hb5=>?_);have HL5:=qH hl5;have HK5:=qH (Keeps.of_below (X:=nobody) hb5);have HB5:=qH ((HB3.out.drew).trans (hb5.mono (by have:=HB3.out.size;simpa using this)));clear hl5 hb5;refine hK.out _ _ ?_ ?_
 ·exact HK5.out
 clear hK K
 try simp only [qPA]
 (try rw [hd8]);(try rw [hd9])
 refine wpMono_one' 13 (by kernel_rfl) rfl (by rfl) (fun K hK=>?_)
 go_simp
 refine (sum_f _ (2+p.length) c' hdp _ (hm.trans hmm) (by unfold maxLen;omega) (by have:=HL5.out.reads;rw [hm,hmm] at this;exact this)).mono ?_;rintro e w6 ⟨ks2,rfl,hbk,_,hb6⟩;rw [hsq] at hbk;have hlk:=Lies.blk hbk
 have HCV5:=qH (show ∀ W,Keeps nobody w6 W→(convert 86 9 (.slice (some ⟨ks2,0,none⟩) 4 4)).run Tryz.prog W=.ok (.string ⟨sq.toArray⟩) W from fun W hW=>by
  have:=(hlk.keeps hW (fun h=>h)).text 4;rw [hq4] at this;exact this)
 have HK6:=qH (Keeps.of_below (X:=nobody) hb6);have HB6:=qH (HB5.out.trans (hb6.mono HB5.out.size));have HCV:=qH (fun W hW=>HCV.out W ((HK5.out.trans HK6.out).trans hW));clear hbk hb6 hlk;refine hK.out _ _ ?_ ?_
 ·exact HK6.out
 clear hK K
 try simp only [qPA]
 (try rw [hd8]);(try rw [hd9])
 iterate 3
  first|refine qT 14 (v:=?_) ?_ ?_|refine qT 19 (v:=?_) ?_ ?_|refine qT 20 (v:=?_) ?_ ?_
  rotate_left
  ·(intro W hSw;(first|(have hcv:=HCV5.out W hSw)|(have hcv:=HCV.out W hSw)|skip);go_simp <;> rfl)
  try simp only [qPA]
  (try rw [hd8]);(try rw [hd9])
 refine wpMono_done (by kernel_rfl) ?_ _;have hcv:=((((HP.out.keeps (Keeps.drew (X:=nobody)) (fun h=>h)).keeps HK5.out (fun h=>h)).keeps HK6.out (fun h=>h)).text (p.length+4));rw [Nat.add_zero] at hcv;clear HCV HCV5 HK5 HK6 HL5 HH HP HLH HLR;go_wp2_with fail;have HR:=qH (show OpenedR p (at_+12+2*(p.length+4)) w (.returned (.tuple #[.string ⟨p.toArray⟩,.int .i64 (at_+12+2*(p.length+4):Nat),.bool true])) w6 from ⟨rfl,HB6.out⟩);exact bodyPost_ret (v:=.tuple #[.string ⟨p.toArray⟩,.int .i64 (at_+12+2*(p.length+4):Nat),.bool true]) (by simp [results,Tryz.results228,go_sem]) rfl HR.out
theorem at_nil (s:ByteArray) (n:Int) (w:World):Calls Tryz.prog 15 #[.string s,.int .i64 n,.nilIface] w fun e w'=>e=.returned .nilIface∧w'=w:=by
 go_enter Tryz.func15,Tryz.ntmps15;go_wp2;go_ret
 exact ⟨rfl,rfl⟩
def OpenedE (p:List UInt8) (next:Nat) (w:World) (e:Ending) (w':World):Prop:=e=.returned (.tuple #[.string ⟨p.toArray⟩,.int .i64 next,.nilIface])∧Below w.heap.size w w'
theorem open_f (s:ByteArray) (at_:Nat) (p r:List UInt8) (w:World) (hs:s.size≤1048576) (hp:p.length≤8192) (h:s.data.toList.drop at_=sealF p++r) :
  Calls Tryz.prog 185 #[.string s,.int .i64 at_] w (OpenedE p (at_+(sealF p).length) w):=by
 have hlt:at_<s.size:=by
  have:=congrArg List.length h;rw [List.length_drop,List.length_append,seal_len] at this;have h2:s.data.toList.length=s.size:=rfl;omega
 have hd1:(s.size:Int)≤1048576:=by omega
 rw [wireb.byte_at hlt] at h
 have h1:s[at_]=1:=by
  unfold sealF at h;injection h
 have h2:s.data.toList.drop (at_+1)=restF p++r:=by
  unfold sealF at h;injection h
 have h3:((s[at_].toNat:Nat):Int)=1:=by rw [h1];rfl
 have HO:=qH (open_in s (at_+1) p r w hs (by omega) hp h2);have hn:at_+1+12+2*(p.length+4)=at_+(sealF p).length:=by rw [seal_len];omega
 rw [hn] at HO;have e0:((at_+1:Nat):Int)=(at_:Int)+1:=by omega
 rw [e0] at HO;have hne:((at_:Int)==(s.size:Int))=false:=by simp;omega
 generalize at_+(sealF p).length=nx at *;clear h h1 h2 hn e0;go_enter Tryz.func185,Tryz.ntmps185;go_wp2_with fail;refine HO.out.mono ?_;rintro e w1 ⟨rfl,hb⟩;have HB:=qH hb;clear hb HO;go_wp2_with fail;exact bodyPost_ret (v:=.tuple #[.string ⟨p.toArray⟩,.int .i64 (nx:Nat),.nilIface]) (by simp [results,Tryz.results185,go_sem]) rfl ⟨rfl,HB.out⟩
end framew
namespace wireb
open Go Go.RowKit base rowe err rowc wirep inp writep
theorem int_info:(Tryz.prog.info? 3).map (fun i=>(i.zero,i.size,i.bytes))=some (some (.int .i64 0),1,8):=by kernel_rfl
def natI (v:List Nat):List Int:=v.map fun n:Nat=>(n:Int)
def encN (v:List Nat):List Value:=(natI v).map (Value.int .i64)
theorem natI_len (v:List Nat):(natI v).length=v.length:=by simp [natI]
theorem tr_nat (v:List Nat) (most:Nat):wire.trB (natI v) most=trN v most:=by
 have hg:∀ k,(natI v).getD k 0=((v.getD k 0:Nat):Int):=by
  intro k;simp only [natI,List.getD_eq_getElem?_getD,List.getElem?_map]
  cases v[k]? <;> rfl
 unfold wire.trB trN;rw [natI_len,hg]
 congr 1
 congr 1
 ·simp
 ·have e:(fun n:Nat=>wire.okN most (n:Int))=fun n:Nat=>decide (n≤most):=by
   funext n
   unfold wire.okN;rw [decide_eq_true (show (0:Int)≤(n:Int) by omega),Bool.true_and];exact decide_eq_decide.2 (by omega)
  unfold natI;rw [List.all_map,←e];rfl
def OwnN (w:World) (base:Nat) (v:Value) (l:List Nat):Prop:=w.ownsRow base 3 1 v l.length (encN l)
theorem OwnN.form {w:World} {base:Nat} {v:Value} {l:List Nat} (h:OwnN w base v l):∃ A c,v=.slice A l.length c:=ownsRow_slice h
theorem OwnN.none (w:World) (base:Nat):OwnN w base (.slice none 0 0) []:=⟨rfl,.inl ⟨rfl,rfl⟩⟩
theorem OwnN.keeps {X:Nat→Prop} {w w':World} {base:Nat} {v:Value} {l:List Nat} (h:OwnN w base v l) (hk:Keeps X w w') (hx:∀ g,base≤g→¬ X g):OwnN w' base v l:=own_keeps h hk hx
theorem OwnN.push {w:World} {base:Nat} {v:Value} {l:List Nat} {x:Int} {n:Nat} (h:w.ownsRow base 3 1 v (l.length+1) (encN l++[.int .i64 x])) (hx:x=(n:Int)):OwnN w base v (l++[n]):=by
 subst hx;unfold OwnN;rw [List.length_append];have:encN (l++[n])=encN l++[.int .i64 (n:Int)]:=by simp [encN,natI]
 rw [this];exact h
def VecR (g:Nat) (s:ByteArray) (st:Rd) (v:List Nat) (w:World) (e:Ending) (w':World):Prop :=
 ∃ x,e=.returned x∧OwnN w' w.heap.size x v∧InB w' g s st∧Keeps (· = g) w w'
theorem numR_le {most:Nat} {l r:List UInt8} {n:Nat} (h:numR most l=some (n,r)):n≤most:=by
 obtain ⟨_,_,h2,_⟩:=readN_some 9 0 0 l n r h;exact h2
theorem nums_push {k:Nat} {l r:List UInt8} {n:Nat} {d:List Nat} {R:Option (List Nat × List UInt8)} (h:numR maxNum l=some (n,r)) (e:R=(match numsR (k+1) l with|none=>none|some (v,r2)=>some (d++v,r2))) :
  R=(match numsR k r with|none=>none|some (v,r2)=>some ((d++[n])++v,r2)):=by
 rw [e,numsR,h];dsimp only
 cases numsR k r with
 | none=>rfl
 | some q=>simp
theorem nums_bad {k:Nat} {l:List UInt8} {d:List Nat} {R:Option (List Nat × List UInt8)} (h:numR maxNum l=none) (e:R=(match numsR (k+1) l with|none=>none|some (v,r2)=>some (d++v,r2))):R=none:=by
 rw [e,numsR,h]
section
variable {w w':World} {g:Nat} {s:ByteArray} {st:Rd}
def VecL (g:Nat) (s:ByteArray) (R:Option (List Nat × List UInt8)) (B:Nat) (w0:World) (v i:Value) (w:World):Prop :=
 ∃ (d:List Nat) (m:Nat),i=.int .i64 m∧m+d.length≤16∧OwnN w B v d∧Keeps (· = g) w0 w∧B≤w.heap.size ∧
  ((∃ l,InB w g s (some l)∧R=(match numsR m l with|none=>none|some (v,r2)=>some (d++v,r2)))∨(InB w g s none∧R=none))
theorem _root_.Go.Proofs.YthlahcnglacekaaGreatDoor.base.Keeps.new_ {X:Nat→Prop} {w0 w1 w2:World} (h:Keeps X w0 w1) (h2:Keeps (fun i=>w0.heap.size≤i) w1 w2):Keeps X w0 w2 :=
 ⟨h2.os.trans h.os,h2.tape.trans h.tape,h2.output.trans h.output,Nat.le_trans h.size h2.size,fun i hi hx=>(h2.block i (Nat.lt_of_lt_of_le hi h.size) (by omega)).trans (h.block i hi hx)⟩
theorem vecL_next {r0:Option (List Nat × List UInt8)} {w0 w4 w5:World} {u v1:Value} {d:List Nat} {l':List UInt8} {m:Nat} {i:Int} (hm:m+1+d.length≤16) (hg:g<w0.heap.size) (hIn:InB w4 g s (numI 1099511627776 (some l')).2)
  (hu:w4.ownsRow w0.heap.size 3 1 u d.length (encN d)) (hown:w5.ownsRow w0.heap.size 3 1 v1 (d.length+1) (encN d++[.int .i64 (numI 1099511627776 (some l')).1])) (hk0:Keeps (· = g) w0 w4) (hk5:Keeps (fun i=>u.ownBlock=some i) w4 w5)
  (hre:r0=(match numsR (m+1) l' with|none=>none|some (v,r2)=>some (d++v,r2))) (hi:i=m):VecL g s r0 w0.heap.size w0 v1 (.int .i64 i) w5:=by
 subst hi;have hin5:=hIn.keepsE hk5 (fun e=>by have:=(hu.lt g e).1;omega) (fun k cs _ hb=>own_blk_ne hu hb (by decide));have hkk:Keeps (· = g) w0 w5:=hk0.new_ (hk5.more fun i _ hi=>(hu.lt i hi).1);refine ⟨d++[(numI 1099511627776 (some l')).1],m,rfl,by rw [List.length_append,List.length_singleton];omega,OwnN.push hown rfl,hkk,hkk.size,?_⟩;unfold numI at hin5 ⊢;dsimp only at hin5 ⊢
 cases hn:numR 1099511627776 l' with
 | none =>
  rw [hn] at hin5;exact .inr ⟨hin5,nums_bad hn hre⟩
 | some q =>
  obtain ⟨n,r⟩:=q;rw [hn] at hin5;exact .inl ⟨r,hin5,nums_push hn hre⟩
theorem vec_in (h:InB w g s st):Calls Tryz.prog 81 #[.pointer (some ⟨g,0,none⟩)] w (VecR g s (vecI st).2 (vecI st).1 w):=by
 obtain ⟨i0,hi,hz⟩:=Option.map_eq_some_iff.1 int_info;simp only [Prod.mk.injEq] at hz;obtain ⟨hz0,hz1,hz2⟩:=hz;have H:=qH h
 cases st with
 | none =>
  clear h;go_enter Tryz.func81,Tryz.ntmps81;go_wp2_with fail;refine (bad_b H.out).mono ?_;rintro e w1 ⟨rfl,rfl⟩;go_wp2_with fail;go_ret
  exact ⟨_,rfl,OwnN.none _ _,H.out,Keeps.refl _ _⟩
 | some l =>
  obtain ⟨n,hb,h1,h2,hl⟩:=h.some_;have c1:w.cell? ⟨g,1,none⟩=_:=hb.cell 1;have hlt:=hb.lt;simp at c1
  clear hb h hl;generalize hR:vecI (some l)=R;go_enter Tryz.func81,Tryz.ntmps81;go_wp2_with fail;refine (bad_b H.out).mono ?_;rintro e w1 ⟨rfl,rfl⟩;go_wp2_with fail;refine (num_in 16 H.out).mono ?_;rintro e w2 ⟨rfl,h3,h4⟩;obtain ⟨k,hk⟩:∃ k,numI 16 (some l)=k:=⟨_,rfl⟩;rw [hk] at h3 ⊢
  have HV:=qH (show ∃ r0,VecL g s r0 w1.heap.size w1 (.slice none 0 0) (.int .i64 k.1) w2∧R=(match r0 with|none=>([],none)|some (v,r2)=>if trN v maxNum then (v,some r2) else ([],none)) from by
   have hsz:=h4.size;unfold numI at hk;dsimp only at hk;unfold vecI vecR at hR;dsimp only at hR
   cases hn:numR 16 l with
   | none =>
    rw [hn] at hk hR;subst hk;exact ⟨none,⟨[],0,rfl,by simp,OwnN.none _ _,h4,hsz,.inr ⟨h3,rfl⟩⟩,hR.symm⟩
   | some q =>
    obtain ⟨a,r⟩:=q;rw [hn] at hk hR;subst hk;have ha:=numR_le hn;refine ⟨numsR a r,⟨[],a,rfl,by simpa using ha,OwnN.none _ _,h4,hsz,.inl ⟨r,h3,?_⟩⟩,?_⟩
    ·cases numsR a r with
     | none=>rfl
     | some q=>rfl
    ·rw [←hR]
     dsimp only
     cases numsR a r with
     | none=>rfl
     | some q =>
      dsimp only
      cases htr:trN q.fst maxNum <;> rfl)
  clear h3 h4 hk hR H c1;obtain ⟨r0,hv0,hr0⟩:=HV.out;have HV0:=qH hv0;have HR0:=qH hr0;clear HV hv0 hr0;generalize k.1=k0 at *;go_wp2_with fail
  go_loopw [4,5] (fun v i wr'=>VecL g s r0 w1.heap.size w1 v i wr') (fun _ i _=>(intOf i).toNat)
  case atStart=>exact HV0.out
  case round =>
   clear HV0;obtain ⟨d,m,rfl,hm,hown,hbw,hsz,hcase⟩:=hrel
   rcases hcase with ⟨l',hin,hre⟩|⟨hin,hre⟩
   ·by_cases hm0:0<m
    ·have d1:decide ((0:Int)<(m:Int))=true:=decide_eq_true (by omega)
     have Hown:=qH hown;have Hbw:=qH hbw;have Hin:=qH hin;have Hre:=qH hre;clear hown hbw hin hre;go_wp2_with fail;refine (bad_b Hin.out).mono ?_;rintro e w3 ⟨rfl,rfl⟩;go_wp2_with fail;refine (num_in 1099511627776 Hin.out).mono ?_;rintro e w4 ⟨rfl,h3,h4⟩;have Hown2:=qH (show w4.ownsRow w1.heap.size 3 1 _ d.length (encN d) from Hown.out.keeps h4 (fun i hi e=>by omega));have hsz4:=Nat.le_trans hsz h4.size;have HB4:=qH (Hbw.out.trans h4);have H3:=qH h3;clear h3 h4 Hbw Hown
     go_wp2_with (at_builtin;refine wpList_append_newAt rfl (.tmp 23) (.tmp 26) _ rfl w1.heap.size 3 i0 _ 1 8 Tryz.underlying35 hi hz0 hz1 hz2 rfl (by decide) _ d.length _ rfl Hown2.out 1 1 w4.heap.size (by simp) [_] rfl rfl (by simp [Value.oneCell']) (by unfold maxLen;omega) (by omega) hsz4 ?_;intro v1 w5 hown1 hbw1 hgr1 hwh1;have Hown1:=qH hown1;have Hbw1:=qH hbw1;have Hg1:=qH hgr1;have Hwh1:=qH hwh1;clear hown1 hbw1 hgr1 hwh1)
     go_roundw
     case rel =>
      have hk5:Keeps (fun i=>u4.ownBlock=some i) w4 w5:=.grown Hg1.out fun i hi=>.inl hi;obtain ⟨m,rfl⟩:∃ j,m=j+1:=⟨m-1,by omega⟩;exact vecL_next hm hlt H3.out Hown2.out Hown1.out HB4.out hk5 Hre.out (by omega)
     case measure=>simp [intOf];omega
    ·obtain rfl:m=0:=by omega
     have d1:decide ((0:Int)<((0:Nat):Int))=false:=by decide
     obtain ⟨A1,cc1,rfl⟩:=hown.form
     have HR1:=qH (show R=if trN d maxNum then (d,some l') else ([],none) from by
      have h:=HR0.out;rw [hre] at h
      simpa [numsR] using h)
     obtain ⟨n2,hb,hn2,_,hdr⟩:=hin.some_;have f2:=hb.frozen 2;have c2:wr.cell? ⟨g,2,none⟩=_:=hb.cell 2;have hltr:=hb.lt;simp at c2
     have Hb:=qH hb;have hr:=Reads.of_own hown;have Hown:=qH hown;have Hbw:=qH hbw;have Hin:=qH hin;have Hre:=qH hre;have Hr:=qH hr;clear hown hbw hin hre hr;clear hb hm0 HR0;go_wp2_with fail;refine (bad_b Hin.out).mono ?_;rintro e w3 ⟨rfl,rfl⟩;go_wp2_with fail;refine (wire.trim_any A1 d.length cc1 (natI d) 1099511627776 _ _ (natI_len d) (by unfold maxLen;omega) Hr.out).mono ?_;rintro e w4 ⟨rfl,rfl⟩;rw [show wire.trB (natI d) 1099511627776=trN d 1099511627776 from tr_nat d 1099511627776]
     cases htr:trN d 1099511627776 with
     | true =>
      go_wp2_with fail;go_ret
      rw [HR1.out,if_pos (show trN d maxNum=true from htr)];exact ⟨_,rfl,Hown.out,Hin.out,Hbw.out⟩
     | false =>
      go_wp2_with fail;refine (wrong_b _ (inb_at (Hb.out.set_ 2 .nilIface) hn2 h2)).mono ?_;rintro e w5 ⟨rfl,h5,h6⟩
      have HQ:=qH (show VecR g s R.2 R.1 w1 (.returned (.slice none 0 0)) w5 from by
       rw [HR1.out,if_neg (by rw [show maxNum=1099511627776 from rfl,htr];decide)];exact ⟨_,rfl,OwnN.none _ _,h5,Hbw.out.trans ((Keeps.set1 w4 g 2 _).trans h6)⟩)
      clear h5 h6;go_wp2_with fail;go_ret
      exact HQ.out
   ·have HR1:=qH (show R=([],none) from by have h:=HR0.out;rw [hre] at h;exact h)
    obtain ⟨n2,x2,hb,hn2,_,_⟩:=id hin;have f2:=hb.frozen 2;have c2:wr.cell? ⟨g,2,none⟩=_:=hb.cell 2;have hltr:=hb.lt;simp at c2
    have Hb:=qH hb;have Hown:=qH hown;have Hbw:=qH hbw;have Hin:=qH hin;have Hre:=qH hre;clear hown hbw hin hre;clear hb HR0
    by_cases hm0:0<m
    ·have d1:decide ((0:Int)<(m:Int))=true:=decide_eq_true (by omega)
     go_wp2_with fail;refine (bad_b Hin.out).mono ?_;rintro e w3 ⟨rfl,rfl⟩;go_wp2_with fail;refine (bad_b Hin.out).mono ?_;rintro e w3 ⟨rfl,rfl⟩;go_wp2_with fail;refine (wrong_b _ (inb_at (Hb.out.set_ 2 .nilIface) hn2 h2)).mono ?_;rintro e w5 ⟨rfl,h5,h6⟩
     have HQ:=qH (show VecR g s R.2 R.1 w1 (.returned (.slice none 0 0)) w5 from by
      rw [HR1.out];exact ⟨_,rfl,OwnN.none _ _,h5,Hbw.out.trans ((Keeps.set1 w3 g 2 _).trans h6)⟩)
     clear h5 h6;go_wp2_with fail;go_ret
     exact HQ.out
    ·obtain rfl:m=0:=by omega
     go_wp2_with fail;refine (bad_b Hin.out).mono ?_;rintro e w3 ⟨rfl,rfl⟩;go_wp2_with fail;refine (wrong_b _ (inb_at (Hb.out.set_ 2 .nilIface) hn2 h2)).mono ?_;rintro e w5 ⟨rfl,h5,h6⟩
     have HQ:=qH (show VecR g s R.2 R.1 w1 (.returned (.slice none 0 0)) w5 from by
      rw [HR1.out];exact ⟨_,rfl,OwnN.none _ _,h5,Hbw.out.trans ((Keeps.set1 w3 g 2 _).trans h6)⟩)
     clear h5 h6;go_wp2_with fail;go_ret
     exact HQ.out
end
end wireb
namespace wireb
open Go Go.RowKit base rowe err rowc wirep writep
theorem nums_next {v:List Nat} {k:Nat} (h:k<v.length):numsW (v.take (k+1))=numsW (v.take k)++numW (v.getD k 0):=by
 have e:v.take (k+1)=v.take k++[v[k]]:=List.take_succ_eq_append_getElem h;unfold numsW;rw [e,List.flatMap_append,List.getD_eq_getElem?_getD,List.getElem?_eq_getElem h,List.flatMap_cons,List.flatMap_nil,List.append_nil];rfl
theorem natI_getD (v:List Nat) (k:Nat):(natI v).getD k 0=((v.getD k 0:Nat):Int):=by
 simp only [natI,List.getD_eq_getElem?_getD,List.getElem?_map]
 cases v[k]? <;> rfl
theorem getD_le {v:List Nat} {most k:Nat} (h:trN v most=true) (hk:k<v.length):v.getD k 0≤most:=by
 have:=(trN_all h).2 v[k] (List.getElem_mem hk);rw [List.getD_eq_getElem?_getD,List.getElem?_eq_getElem hk];exact this
theorem trN_more {v:List Nat} {a b:Nat} (h:trN v a=true) (hab:a≤b):trN v b=true:=by
 rw [←tr_nat] at h ⊢;exact wire.tr_more h (by omega)
theorem numsW_le {v:List Nat} {k:Nat} (h:trN v maxNum=true):(numsW (v.take k)).length≤9*k:=by
 have h1:=numsW_len (v.take k) (fun n hn=>(trN_all h).2 n (List.mem_of_mem_take hn));have h2:(v.take k).length≤k:=by rw [List.length_take];omega
 omega
theorem vec_b (g:Nat) (l:List UInt8) (d:Value) (v:List Nat) (w:World) (h:OutB w g l) (hd:wire.Nums w g d (natI v)) (ht:trN v maxNum=true) (hr:l.length+200≤65536) :
  Calls Tryz.prog 208 #[.pointer (some ⟨g,0,none⟩),d] w (PutB g (l++vecW v) w):=by
 obtain ⟨A,m,c,rfl,hl,hm,hrd⟩:=hd;rw [natI_len] at hl;subst hl;have h16:=(trN_all ht).1;have ht2:wire.trB (natI v) 4611686018427387903=true:=by rw [show wire.trB (natI v) 4611686018427387903=trN v 4611686018427387903 from tr_nat v 4611686018427387903];exact trN_more ht (by decide)
 obtain ⟨x,_,hb,hx⟩:=id h;have c1:w.cell? ⟨g,1,none⟩=_:=hb.cell 1;have hlt:=hb.lt;simp at c1
 have Ht2:=qH ht2;have Ht:=qH ht;have Hrd:=qH hrd;have H:=qH h;clear h;clear hb hx ht ht2 hrd;have hnl:=numW_len 0 v.length (by omega);go_enter Tryz.func208,Tryz.ntmps208;go_wp2_with fail;refine (wire.trim_any A v.length c (natI v) 4611686018427387903 g _ (natI_len v) hm Hrd.out).mono ?_;rintro e w1 ⟨rfl,rfl⟩;rw [Ht2.out];go_wp2_with fail;refine (number_b (.slice none 0 0) [] v.length w1.heap.size _ (OwnB.none _ _) (by omega) (by simp) (Nat.le_refl _)).mono ?_;rintro e w2 ⟨v1,rfl,h3,h4⟩;rw [List.nil_append] at h3;have H3:=qH h3;have H4:=qH h4;clear h3 h4;go_wp2_with fail
 go_loopw [4,6,26] (fun b _ i wr'=>∃ k:Nat,i=.int .i64 k∧k≤v.length∧OwnB wr' w1.heap.size b (numW v.length++numsW (v.take k))∧Below w1.heap.size w1 wr') (fun _ _ i _=>v.length-(intOf i).toNat)
 case atStart=>exact ⟨0,rfl,by omega,by simpa [numsW] using H3.out,H4.out⟩
 case round =>
  clear H3 H4;obtain ⟨k,rfl,hk,h3,h4⟩:=hrel;have hsz:=h4.size;have hle:=numsW_le (k:=k) Ht.out;have hll:(numW v.length++numsW (v.take k)).length≤200:=by rw [List.length_append];omega
  by_cases hlk:k<v.length
  ·have d1:decide ((k:Int)<(v.length:Int))=true:=by simp;omega
   obtain ⟨b,off,rfl,hbb⟩:=Hrd.out.at_some (by omega);have hcur:=(Hrd.out.below (h4.mono (by omega))).int (k:=k) hlk;rw [natI_getD] at hcur;have hok:=getD_le Ht.out hlk;have HN:=qH (nums_next hlk);generalize v.getD k 0=y at *;have hy2:y<9223372036854775808:=by unfold maxNum at hok;omega
   clear hok;have H3:=qH h3;have H4:=qH h4;have Hy2:=qH hy2;clear h3 h4 hy2;go_wp2_with fail;refine (number_b _ _ y w1.heap.size _ H3.out Hy2.out (by omega) hsz).mono ?_;rintro e w3 ⟨v3,rfl,h7,h8⟩;have H7:=qH (show OwnB w3 w1.heap.size v3 (numW v.length++numsW (v.take (k+1))) from by rw [HN.out,←List.append_assoc];exact h7);have H8:=qH (H4.out.trans h8);clear h7 h8 H3 H4;go_wp2_with fail;go_roundw
   case rel=>exact ⟨k+1,by go_num,by omega,H7.out,H8.out⟩
   case measure=>simp [intOf];omega
  ·obtain rfl:k=v.length:=by omega
   have d1:decide ((v.length:Int)<(v.length:Int))=false:=by simp
   rw [List.take_length] at h3 hll;have e0:numW v.length++numsW v=vecW v:=rfl;rw [e0] at h3 hll;obtain ⟨A1,c1',rfl⟩:=h3.form;have H3:=qH h3;have H4:=qH h4;clear h3 h4;clear e0;generalize vecW v=q at *;go_wp2_with fail;refine (put_b g l q A1 c1' _ (H.out.below H4.out) (H3.out.base_ (by omega)) (by omega)).mono ?_;rintro e w3 ⟨rfl,h5,h6⟩;have HR:=qH (show PutB g (l++q) w1 (.returned (.tuple #[])) w3 from ⟨rfl,h5,(H4.out.mono (by omega)).trans h6⟩);clear h5 h6;go_wp2;exact bodyPost_end (v:=.tuple #[]) (by simp [results,Tryz.results208,go_sem]) rfl HR.out
end wireb
namespace wireb
open Go Go.RowKit base rowe err rowc wirep writep
def str (l:List UInt8):ByteArray:=⟨l.toArray⟩
theorem str_list (l:List UInt8):(str l).data.toList=l:=by simp [str]
theorem str_size (l:List UInt8):(str l).size=l.length:=by simp [str,ByteArray.size]
theorem str_of (s:ByteArray):str s.data.toList=s:=by simp [str]
def _root_.Go.Proofs.YthlahcnglacekaaGreatDoor.writep.PW.wr (x:PW) (d:Value):wire.Wr:=⟨x.r,x.n,x.t,x.r,d,natI x.d,str x.se,str x.k,str x.v,x.g,x.l⟩
theorem right_pw (x:PW) (d:Value):wire.rightB (x.wr d)=x.right:=by
 have h3:wire.trB (natI x.d) 1099511627776=trN x.d maxNum:=tr_nat x.d 1099511627776
 have h4:((str x.v).toList==[])=decide (x.v=[]):=by
  have:(str x.v).toList=x.v:=ByteArray.toList_mk x.v;rw [this]
  cases x.v <;> rfl
 have e1:wire.rightB (x.wr d)=wire.rightB ⟨x.r,x.n,x.t,x.r,d,natI x.d,str x.se,str x.k,str x.v,x.g,x.l⟩:=rfl;rw [e1];unfold wire.rightB PW.right;dsimp only;simp only [str_size,h3,h4,wire.inB];rw [Bool.eq_iff_iff];simp only [Bool.and_eq_true,decide_eq_true_eq,beq_self_eq_true,true_and];rw [show maxNum=1099511627776 from rfl]
 constructor
 ·rintro ⟨h1,h2,⟨h3,h4⟩,⟨h5,h6⟩,h7,h8,h9,h10,h11,h12,h13,h14⟩
  exact ⟨by omega,by omega,by omega,by omega,by omega,by omega,h7,by omega,by omega,by omega,by omega,h12,by omega⟩
 ·rintro ⟨h1,h2,h3,h4,h5,h6,h7,h8,h9,h10,h11,h12,h13⟩
  exact ⟨by omega,by omega,⟨by omega,by omega⟩,⟨by omega,by omega⟩,h7,by omega,by omega,by omega,by omega,h12,by omega,by omega⟩
theorem nums_alloc {w:World} {B:Nat} {d:Value} {zs:List Int} (h:wire.Nums w B d zs) (o:Obj) (hB:B≤w.heap.size):wire.Nums (w.alloc o) B d zs:=h.below ((Below.refl _ _).alloc hB o)
def EncB (x:PW) (w:World) (e:Ending) (w':World):Prop:=∃ s er,e=.returned (.tuple #[.string s,er])∧((x.Ok∧s=str x.bytes∧er=.nilIface)∨(¬ x.Ok∧s=str []∧EO w' er 1))∧Below w.heap.size w w'
theorem encode_b (x:PW) (d:Value) (w:World) (hd:wire.Nums w w.heap.size d (natI x.d)) :
  Calls Tryz.prog 193 #[.agg ⟨(x.wr d).cells⟩] w (EncB x w):=by
 have hx0:=(Blk.new w 188 (x.wr d).cells.toArray);have hd2:wire.Nums (w.alloc (.cells (x.wr d).cells.toArray 188)) (w.alloc (.cells (x.wr d).cells.toArray 188)).heap.size d (natI x.d):=(hd.below (below_new _ _)).more (by simp);have hdg:=qH (hd.below (below_new w (.cells (x.wr d).cells.toArray 188)));have hb0:=below_new w (.cells (x.wr d).cells.toArray 188);have Hrt:=qH (right_pw x d);clear hd;have HX0:=qH hx0;have HD2:=qH hd2;have HB0:=qH hb0;clear hx0 hd2 hb0
 by_cases hok:x.Ok
 ·have HOK:=qH hok
  have hrt:=(PW.right_iff x).2 hok;rw [hrt] at Hrt;obtain ⟨r1,r16,n1,nm,t1,tm,tr,s1,s64,k32,v128,gv,lm⟩:=hok;have hm:maxNum=1099511627776:=rfl;have q1:=numW_len 8 x.r (by omega);have q2:=numW_len 8 x.n (by omega);have q3:=numW_len 8 x.t (by omega);have q4:=vecW_len tr;have q5:(textW x.se).length≤80:=by unfold textW;rw [List.length_append];have:=numW_len 0 x.se.length (by omega);omega
  have q6:(textW x.k).length≤80:=by unfold textW;rw [List.length_append];have:=numW_len 0 x.k.length (by omega);omega
  have q7:=numW_len 0 x.g.toNat (by cases x.g <;> decide);have q8:(textW x.v).length≤140:=by unfold textW;rw [List.length_append];have:=numW_len 1 x.v.length (by omega);omega
  have z1:(str x.se).size≤64:=by rw [str_size];exact s64
  have z2:(str x.k).size≤32:=by rw [str_size];exact k32
  have z3:(str x.v).size≤128:=by rw [str_size];exact v128
  have Htr:=qH tr;have Q:=qH (And.intro q1 (And.intro q2 (And.intro q3 (And.intro q4 (And.intro q5 (And.intro q6 (And.intro q7 q8)))))));clear hrt q1 q2 q3 q4 q5 q6 q7 q8 tr gv;have hrt:=Hrt.out;unfold PW.wr wire.Wr.cells at *;dsimp only at *;go_enter Tryz.func193,Tryz.ntmps193;go_wp2_with fail;refine (wire.right_any ⟨x.r,x.n,x.t,x.r,d,natI x.d,str x.se,str x.k,str x.v,x.g,x.l⟩ _ HD2.out).mono ?_;rintro e w1 ⟨rfl,hb1⟩;rw [hrt];have hx:=HX0.out.below hb1 (by simp);have hbb:=HB0.out.trans (hb1.mono (by simp));have hlt1:w.heap.size<w1.heap.size:=hx.lt;have Hdg:=qH (hdg.out.below (hb1.mono (by simp)));have Hdg0:=Hdg;have HX:=qH (hx.alloc (.cells #[.slice none 0 0,.nilIface] 226));have HB:=qH (hbb.alloc (by omega) (.cells #[.slice none 0 0,.nilIface] 226));have HO:=qH (show OutB (w1.alloc (.cells #[.slice none 0 0,.nilIface] 226)) w1.heap.size [] from ⟨_,_,Blk.new w1 226 _,OwnB.none _ _⟩);have c0:w1.cell? ⟨w.heap.size,0,none⟩=_:=hx.cell 0;simp at c0
  clear hx hbb hb1 HX0 HD2 HB0 hdg hrt Hrt;go_wp2_with fail;clear Hdg;have Hdg:=qH (nums_alloc Hdg0.out (.cells #[.slice none 0 0,.nilIface] 226) (Nat.le_of_lt hlt1));refine (num_b w1.heap.size x.r _ _ HO.out (by omega) (by simp)).mono ?_;rintro e w2 ⟨rfl,ho,hb⟩;have hx:=HX.out.below hb hlt1;have hbb:=HB.out.trans (hb.mono (Nat.le_of_lt hlt1));have hdg:=Hdg.out.below (hb.mono (Nat.le_of_lt hlt1));clear HX HB HO Hdg c0;have HX:=qH hx;have HB:=qH hbb
  (try rw [str_list] at ho)
  have HO:=qH ho;have Hdg:=qH hdg;have c0:(w2).cell? ⟨w.heap.size,1,none⟩=_:=hx.cell 1;simp at c0
  clear hx hbb ho hb hdg;go_wp2_with fail;refine (num_b w1.heap.size x.n _ _ HO.out (by omega) (by simp only [List.length_append,List.length_nil];obtain ⟨q1,q2,q3,q4,q5,q6,q7,q8⟩:=Q.out;omega)).mono ?_;rintro e w3 ⟨rfl,ho,hb⟩;have hx:=HX.out.below hb hlt1;have hbb:=HB.out.trans (hb.mono (Nat.le_of_lt hlt1));have hdg:=Hdg.out.below (hb.mono (Nat.le_of_lt hlt1));clear HX HB HO Hdg c0;have HX:=qH hx;have HB:=qH hbb
  (try rw [str_list] at ho)
  have HO:=qH ho;have Hdg:=qH hdg;have c0:(w3).cell? ⟨w.heap.size,2,none⟩=_:=hx.cell 2;simp at c0
  clear hx hbb ho hb hdg;go_wp2_with fail;refine (num_b w1.heap.size x.t _ _ HO.out (by omega) (by simp only [List.length_append,List.length_nil];obtain ⟨q1,q2,q3,q4,q5,q6,q7,q8⟩:=Q.out;omega)).mono ?_;rintro e w4 ⟨rfl,ho,hb⟩;have hx:=HX.out.below hb hlt1;have hbb:=HB.out.trans (hb.mono (Nat.le_of_lt hlt1));have hdg:=Hdg.out.below (hb.mono (Nat.le_of_lt hlt1));clear HX HB HO Hdg c0;have HX:=qH hx;have HB:=qH hbb
  (try rw [str_list] at ho)
  have HO:=qH ho;have Hdg:=qH hdg;have c0:(w4).cell? ⟨w.heap.size,4,none⟩=_:=hx.cell 4;simp at c0
  clear hx hbb ho hb hdg;go_wp2_with fail;refine (vec_b w1.heap.size _ d x.d _ HO.out (Hdg.out.more (by omega)) Htr.out (by simp only [List.length_append,List.length_nil];obtain ⟨q1,q2,q3,q4,q5,q6,q7,q8⟩:=Q.out;omega)).mono ?_;rintro e w5 ⟨rfl,ho,hb⟩;have hx:=HX.out.below hb hlt1;have hbb:=HB.out.trans (hb.mono (Nat.le_of_lt hlt1));have hdg:=Hdg.out.below (hb.mono (Nat.le_of_lt hlt1));clear HX HB HO Hdg c0;have HX:=qH hx;have HB:=qH hbb
  (try rw [str_list] at ho)
  have HO:=qH ho;have Hdg:=qH hdg;have c0:(w5).cell? ⟨w.heap.size,5,none⟩=_:=hx.cell 5;simp at c0
  clear hx hbb ho hb hdg;go_wp2_with fail;refine (text_b w1.heap.size (str x.se) _ _ HO.out (by omega) (by simp only [List.length_append,List.length_nil,str_size];obtain ⟨q1,q2,q3,q4,q5,q6,q7,q8⟩:=Q.out;omega)).mono ?_;rintro e w6 ⟨rfl,ho,hb⟩;have hx:=HX.out.below hb hlt1;have hbb:=HB.out.trans (hb.mono (Nat.le_of_lt hlt1));have hdg:=Hdg.out.below (hb.mono (Nat.le_of_lt hlt1));clear HX HB HO Hdg c0;have HX:=qH hx;have HB:=qH hbb
  (try rw [str_list] at ho)
  have HO:=qH ho;have Hdg:=qH hdg;have c0:(w6).cell? ⟨w.heap.size,6,none⟩=_:=hx.cell 6;simp at c0
  clear hx hbb ho hb hdg;go_wp2_with fail;refine (text_b w1.heap.size (str x.k) _ _ HO.out (by omega) (by simp only [List.length_append,List.length_nil,str_size];obtain ⟨q1,q2,q3,q4,q5,q6,q7,q8⟩:=Q.out;omega)).mono ?_;rintro e w7 ⟨rfl,ho,hb⟩;have hx:=HX.out.below hb hlt1;have hbb:=HB.out.trans (hb.mono (Nat.le_of_lt hlt1));have hdg:=Hdg.out.below (hb.mono (Nat.le_of_lt hlt1));clear HX HB HO Hdg c0;have HX:=qH hx;have HB:=qH hbb
  (try rw [str_list] at ho)
  have HO:=qH ho;have Hdg:=qH hdg;have c0:(w7).cell? ⟨w.heap.size,8,none⟩=_:=hx.cell 8;simp at c0
  clear hx hbb ho hb hdg;go_wp2_with fail;refine (flag_b w1.heap.size x.g _ _ HO.out (by simp only [List.length_append,List.length_nil];obtain ⟨q1,q2,q3,q4,q5,q6,q7,q8⟩:=Q.out;omega)).mono ?_;rintro e w8 ⟨rfl,ho,hb⟩;have hx:=HX.out.below hb hlt1;have hbb:=HB.out.trans (hb.mono (Nat.le_of_lt hlt1));have hdg:=Hdg.out.below (hb.mono (Nat.le_of_lt hlt1));clear HX HB HO Hdg c0;have HX:=qH hx;have HB:=qH hbb
  (try rw [str_list] at ho)
  have HO:=qH ho;have Hdg:=qH hdg;have c0:(w8).cell? ⟨w.heap.size,7,none⟩=_:=hx.cell 7;simp at c0
  clear hx hbb ho hb hdg;go_wp2_with fail;refine (text_b w1.heap.size (str x.v) _ _ HO.out (by omega) (by simp only [List.length_append,List.length_nil,str_size];obtain ⟨q1,q2,q3,q4,q5,q6,q7,q8⟩:=Q.out;omega)).mono ?_;rintro e w9 ⟨rfl,ho,hb⟩;have hx:=HX.out.below hb hlt1;have hbb:=HB.out.trans (hb.mono (Nat.le_of_lt hlt1));have hdg:=Hdg.out.below (hb.mono (Nat.le_of_lt hlt1));clear HX HB HO Hdg c0;have HX:=qH hx;have HB:=qH hbb
  (try rw [str_list] at ho)
  have HO:=qH ho;have Hdg:=qH hdg;have c0:(w9).cell? ⟨w.heap.size,9,none⟩=_:=hx.cell 9;simp at c0
  clear hx hbb ho hb hdg;go_wp2_with fail;refine (num_b w1.heap.size x.l _ _ HO.out (by omega) (by simp only [List.length_append,List.length_nil];obtain ⟨q1,q2,q3,q4,q5,q6,q7,q8⟩:=Q.out;omega)).mono ?_;rintro e w10 ⟨rfl,ho,hb⟩;have hx:=HX.out.below hb hlt1;have hbb:=HB.out.trans (hb.mono (Nat.le_of_lt hlt1));have hdg:=Hdg.out.below (hb.mono (Nat.le_of_lt hlt1));clear HX HB HO Hdg c0;have HX:=qH hx;have HB:=qH hbb
  (try rw [str_list] at ho)
  have HO:=qH ho;have Hdg:=qH hdg;have c0:(w10).cell? ⟨w.heap.size,0,none⟩=_:=hx.cell 0;simp at c0
  clear hx hbb ho hb hdg;go_wp2_with fail;refine (done_b w1.heap.size _ _ HO.out).mono ?_;rintro e w11 ⟨rfl,rfl⟩;have HR:=qH (show EncB x w (.returned (.tuple #[.string (str x.bytes),.nilIface])) w11 from ⟨_,_,rfl,.inl ⟨HOK.out,rfl,rfl⟩,HB.out⟩);have HL:∀ l,l=x.bytes→(⟨l.toArray⟩:ByteArray)=str x.bytes:=fun l h=>by rw [h];rfl
  rw [HL _ (by simp [PW.bytes,List.append_assoc])];clear HL;go_wp2;exact bodyPost_ret (v:=.tuple #[.string (str x.bytes),.nilIface]) (by simp [results,Tryz.results193,go_sem]) rfl HR.out
 ·have hrt:x.right=false:=by
   cases h:x.right with
   | false=>rfl
   | true=>exact absurd ((PW.right_iff x).1 h) hok
  rw [hrt] at Hrt;have HOK:=qH hok;clear hok hrt;have hrt:=Hrt.out;unfold PW.wr wire.Wr.cells at *;dsimp only at *;go_enter Tryz.func193,Tryz.ntmps193;go_wp2_with fail;refine (wire.right_any ⟨x.r,x.n,x.t,x.r,d,natI x.d,str x.se,str x.k,str x.v,x.g,x.l⟩ _ HD2.out).mono ?_;rintro e w1 ⟨rfl,hb1⟩;rw [hrt];have HB:=qH (HB0.out.trans (hb1.mono (by simp)));clear hb1 hrt;go_wp2_with fail;refine (Go.Proofs.YthlahcnglacekaaGreatDoor.err.at_any _ _ 1 _).mono ?_;rintro e w2 ⟨ve,rfl,he,hne,hb2,_⟩;have HR:=qH (show EncB x w (.returned (.tuple #[.string ⟨#[]⟩,ve])) w2 from ⟨_,_,rfl,.inr ⟨HOK.out,rfl,.inr ⟨by decide,he,hne⟩⟩,HB.out.trans (hb2.mono HB.out.size)⟩);clear he hne hb2;go_wp2;exact bodyPost_ret (v:=.tuple #[.string ⟨#[]⟩,ve]) (by simp [results,Tryz.results193,go_sem]) rfl HR.out
end wireb
namespace jrn
open Go Go.RowKit Go.Lib base rowe err rowc wirep framep wireb framew jrnp inp writep
def pcells (p:Part):List Value:=[.int .i64 p.kind,.int .i64 p.gen,.int .i64 p.place,.string (str p.text)]
theorem part_seal (p:Part) (h:p.Ok) (w:World):Calls Tryz.prog 135 #[.agg ⟨pcells p⟩] w fun e w'=>e=.returned (.string (str p.sealed))∧Below w.heap.size w w':=by
 obtain ⟨k1,k4,g1,g2,pl,tx,rc⟩:=id h;have q1:=numW_len 8 p.kind (by omega);have q2:=numW_len 8 p.gen (by omega);have q3:=numW_len 8 p.place (by omega);have z1:(str p.text).size≤4096:=by rw [str_size];exact tx
 have HBY:=qH (show []++numW p.kind++numW p.gen++numW p.place++textW p.text=p.bytes from by simp [Part.bytes]);have hbl:=jrnp.bytes_len h;have HS:=qH (show p.sealed=sealF p.bytes from rfl);have hx0:=(Blk.new w 173 (pcells p).toArray).alloc (.cells #[.slice none 0 0,.nilIface] 226);have hb0:=below_alloc (below_new w (.cells (pcells p).toArray 173)) (.cells #[.slice none 0 0,.nilIface] 226);have ho0:OutB ((w.alloc (.cells (pcells p).toArray 173)).alloc (.cells #[.slice none 0 0,.nilIface] 226)) (w.alloc (.cells (pcells p).toArray 173)).heap.size []:=⟨_,_,Blk.new _ 226 _,OwnB.none _ _⟩;have hs1:(w.alloc (.cells (pcells p).toArray 173)).heap.size=w.heap.size+1:=by simp
 rw [hs1] at ho0;have HX:=qH hx0;have HB:=qH hb0;have HO:=qH ho0;have hlt1:w.heap.size<w.heap.size+1:=Nat.lt_succ_self _;clear hx0 hb0 ho0 hs1 h rc;generalize p.bytes=by_ at *;generalize p.sealed=se at *;unfold pcells at *;have c0:((w.alloc (.cells #[.int .i64 p.kind,.int .i64 p.gen,.int .i64 p.place,.string (str p.text)] 173)).alloc (.cells #[.slice none 0 0,.nilIface] 226)).cell? ⟨w.heap.size,0,none⟩=_:=HX.out.cell 0;simp at c0
 go_enter Tryz.func135,Tryz.ntmps135;go_wp2_with fail;refine (num_b (w.heap.size+1) p.kind _ _ HO.out (by omega) (by simp)).mono ?_;rintro e w2 ⟨rfl,ho,hb⟩;have hx:=HX.out.below hb hlt1;have hbb:=HB.out.trans (hb.mono (Nat.le_of_lt hlt1));clear HX HB HO c0
 (try rw [str_list] at ho)
 have HX:=qH hx;have HB:=qH hbb;have HO:=qH ho;have c0:(w2).cell? ⟨w.heap.size,1,none⟩=_:=hx.cell 1;simp at c0
 clear hx hbb ho hb;go_wp2_with fail;refine (num_b (w.heap.size+1) p.gen _ _ HO.out (by omega) (by simp only [List.length_append,List.length_nil];omega)).mono ?_;rintro e w3 ⟨rfl,ho,hb⟩;have hx:=HX.out.below hb hlt1;have hbb:=HB.out.trans (hb.mono (Nat.le_of_lt hlt1));clear HX HB HO c0
 (try rw [str_list] at ho)
 have HX:=qH hx;have HB:=qH hbb;have HO:=qH ho;have c0:(w3).cell? ⟨w.heap.size,2,none⟩=_:=hx.cell 2;simp at c0
 clear hx hbb ho hb;go_wp2_with fail;refine (num_b (w.heap.size+1) p.place _ _ HO.out (by omega) (by simp only [List.length_append,List.length_nil];omega)).mono ?_;rintro e w4 ⟨rfl,ho,hb⟩;have hx:=HX.out.below hb hlt1;have hbb:=HB.out.trans (hb.mono (Nat.le_of_lt hlt1));clear HX HB HO c0
 (try rw [str_list] at ho)
 have HX:=qH hx;have HB:=qH hbb;have HO:=qH ho;have c0:(w4).cell? ⟨w.heap.size,3,none⟩=_:=hx.cell 3;simp at c0
 clear hx hbb ho hb;go_wp2_with fail;refine (text_b (w.heap.size+1) (str p.text) _ _ HO.out (by omega) (by simp only [List.length_append,List.length_nil];omega)).mono ?_;rintro e w5 ⟨rfl,ho,hb⟩;have hx:=HX.out.below hb hlt1;have hbb:=HB.out.trans (hb.mono (Nat.le_of_lt hlt1));clear HX HB HO c0
 (try rw [str_list] at ho)
 have HX:=qH hx;have HB:=qH hbb;have HO:=qH ho;have c0:(w5).cell? ⟨w.heap.size,0,none⟩=_:=hx.cell 0;simp at c0
 clear hx hbb ho hb;go_wp2_with fail;have ho:=HO.out;rw [HBY.out] at ho;have HO:=qH ho;clear ho;refine (done_b (w.heap.size+1) by_ _ HO.out).mono ?_;rintro e w6 ⟨rfl,rfl⟩;go_wp2_with fail;refine (seal_f ⟨by_.toArray⟩ (by show by_.toArray.size≤8192;simp;omega) _).mono ?_;rintro e w7 ⟨rfl,hb7⟩;have hsz:=HB.out.size;have HB7:=qH (HB.out.trans (hb7.mono hsz));rw [show (⟨by_.toArray⟩:ByteArray).data.toList=by_ from by simp,←HS.out];clear hb7;go_wp2_with fail;go_ret
 exact ⟨rfl,HB7.out⟩
theorem cells4 {w:World} {g:Nat} {T:TypeId} {a0 a1 a2 a3:Value} (h:Blk w g T #[a0,a1,a2,a3]) :
  w.cell? ⟨g,0,none⟩=some a0∧w.cell? ⟨g,1,none⟩=some a1∧w.cell? ⟨g,2,none⟩=some a2∧w.cell? ⟨g,3,none⟩=some a3:=⟨h.cell 0,h.cell 1,h.cell 2,h.cell 3⟩
def PartR (p:Part) (next:Nat) (w:World) (e:Ending) (w':World):Prop:=e=.returned (.tuple #[.agg ⟨pcells p⟩,.int .i64 next,.bool true])∧Below w.heap.size w w'
theorem inb_setP {w:World} {g b:Nat} {s:ByteArray} {st:Rd} {cs:Array Value} (h:InB w g s st) (hb:Blk w b 173 cs) (hg:g≠b) (i:Nat) (v:Value):InB (w.setCell ⟨b,i,none⟩ v) g s st :=
 h.keepsE (Keeps.set1 w b i v) (fun e=>hg e) (fun k cs _ hk e=>by have h1:=hb.ne_ hk (by decide);have h2:k=b:=e;omega)
theorem part_open (s:ByteArray) (at_:Nat) (p:Part) (r:List UInt8) (h:p.Ok) (hs:s.size≤1048576) (hd:s.data.toList.drop at_=p.sealed++r) (w:World) :
  Calls Tryz.prog 132 #[.string s,.int .i64 at_] w (PartR p (at_+p.sealed.length) w):=by
 obtain ⟨k1,k4,g1,g2,pl,tx,rc⟩:=id h;have hbl:=jrnp.bytes_len h
 have hal:at_+p.sealed.length≤1048576:=by
  have:=congrArg List.length hd;rw [List.length_drop,List.length_append] at this;have h2:s.data.toList.length=s.size:=rfl;have:=seal_pos p;omega
 have HO:=qH (fun w=>open_f s at_ p.bytes r w hs (by omega) hd);rw [show (sealF p.bytes).length=p.sealed.length from rfl] at HO;have hm:maxNum=1099511627776:=rfl;obtain ⟨by_,hby⟩:∃ x,p.bytes=x:=⟨_,rfl⟩;have e1:numI 4 (some by_)=(p.kind,some (numW p.gen++(numW p.place++textW p.text))):=by rw [←hby];exact numI_back _ k4 (by omega)
 have e2:numI 1099511627776 (some (numW p.gen++(numW p.place++textW p.text)))=(p.gen,some (numW p.place++textW p.text)):=numI_back _ g2 (by omega);have e3:numI 1099511627776 (some (numW p.place++textW p.text))=(p.place,some (textW p.text)):=numI_back _ pl (by omega);have e4:textI 4096 (some (textW p.text))=(p.text,some []):=by have:=textI_back (most:=4096) (s:=p.text) [] tx (by omega);rwa [List.append_nil] at this
 have HRC:=qH (show p.kind≠2→str p.text=⟨#[]⟩ from fun hk=>by
  rw [rc.resolve_left hk];rfl)
 rw [hby] at HO hbl;generalize at_+p.sealed.length=nx at *;clear hd h rc hby;go_enter Tryz.func132,Tryz.ntmps132;go_wp2_with fail;refine (HO.out _).mono ?_;rintro e w1 ⟨rfl,hb1⟩;have hs1:(w.alloc (.cells #[.int .i64 0,.int .i64 0,.int .i64 0,.string ⟨#[]⟩] 173)).heap.size=w.heap.size+1:=by simp
 have HRB:=qH ((Blk.new w 173 #[.int .i64 0,.int .i64 0,.int .i64 0,.string ⟨#[]⟩]).below hb1 (by omega));have HBB:=qH ((below_new w (.cells #[.int .i64 0,.int .i64 0,.int .i64 0,.string ⟨#[]⟩] 173)).trans (hb1.mono (by omega)));clear hb1 HO hs1;go_wp2_with fail;refine (read_in _ ⟨by_.toArray⟩ (by show by_.toArray.size≤maxLen;unfold maxLen;simp;omega)).mono ?_;rintro e w2 ⟨rfl,h3,h4⟩;rw [show (⟨by_.toArray⟩:ByteArray).data.toList=by_ from by simp] at h3;have hlr:=HRB.out.lt;obtain ⟨gi,hgi⟩:∃ x,w1.heap.size=x:=⟨_,rfl⟩;have HRB:=qH (HRB.out.below h4 hlr);have HBB:=qH (HBB.out.trans (h4.mono (by omega)));rw [hgi] at h3 ⊢;have HI:=qH h3;clear h3 h4;go_wp2_with fail;refine (num_in 4 HI.out).mono ?_;rintro e w3 ⟨rfl,h3,h4⟩;rw [e1] at h3 ⊢;have hr2:=HRB.out.keeps h4 (by omega);have HI:=qH h3;have HRB:=qH hr2;have HBB:=qH (HBB.out.trans (h4.below (B:=w.heap.size) (fun i hi e=>by omega) (by have:=HBB.out.size;omega)));clear h3 hr2 h4;go_wp2_with fail;refine (num_in 1099511627776 HI.out).mono ?_;rintro e w4 ⟨rfl,h3,h4⟩;rw [e2] at h3 ⊢;have hr2:=HRB.out.keeps h4 (by omega);have HI:=qH h3;have HRB:=qH hr2;have HBB:=qH (HBB.out.trans (h4.below (B:=w.heap.size) (fun i hi e=>by omega) (by have:=HBB.out.size;omega)));clear h3 hr2 h4;go_wp2_with fail;refine (num_in 1099511627776 HI.out).mono ?_;rintro e w5 ⟨rfl,h3,h4⟩;rw [e3] at h3 ⊢;have hr2:=HRB.out.keeps h4 (by omega);have HI:=qH h3;have HRB:=qH hr2;have HBB:=qH (HBB.out.trans (h4.below (B:=w.heap.size) (fun i hi e=>by omega) (by have:=HBB.out.size;omega)));clear h3 hr2 h4;go_wp2_with fail;obtain ⟨wb,hwb⟩:∃ x,w5.heap.size=x:=⟨_,rfl⟩;have hgb:gi<wb:=by have:=HI.out.lt;omega
 have HWn:=qH (Blk.new w5 173 #[.int .i64 p.kind,.int .i64 p.gen,.int .i64 p.place,.string ⟨#[]⟩]);have HIn:=qH (HI.out.below (below_new w5 (.cells #[.int .i64 p.kind,.int .i64 p.gen,.int .i64 p.place,.string ⟨#[]⟩] 173)));have HRn:=qH (HRB.out.alloc (.cells #[.int .i64 p.kind,.int .i64 p.gen,.int .i64 p.place,.string ⟨#[]⟩] 173));have HBn:=qH (below_alloc HBB.out (.cells #[.int .i64 p.kind,.int .i64 p.gen,.int .i64 p.place,.string ⟨#[]⟩] 173));clear HI HRB HBB;rw [hwb] at HWn ⊢;generalize w5.alloc (.cells #[.int .i64 p.kind,.int .i64 p.gen,.int .i64 p.place,.string ⟨#[]⟩] 173)=w6 at *;have HI:=HIn;have HRB:=HRn;have HBB:=HBn;clear HIn HRn HBn;refine (text_in 4096 HI.out).mono ?_;rintro e w7 ⟨rfl,h3,h4⟩;rw [e4] at h3 ⊢;have hw2:=HWn.out.keeps h4 (by omega);have hr2:=HRB.out.keeps h4 (by omega);have hb2:=HBB.out.trans (h4.below (B:=w.heap.size) (fun i hi e=>by omega) (by have:=HBB.out.size;omega));have c3:w7.cell? ⟨wb,3,none⟩=_:=hw2.cell 3;have f3:=hw2.frozen 3;have hwl:=hw2.lt;simp at c3
 have hi3:=inb_setP (st:=some []) h3 hw2 (by omega) 3 (.string (str p.text));have hw3:Blk (w7.setCell ⟨wb,3,none⟩ (.string (str p.text))) wb 173 (pcells p).toArray:=hw2.set_ 3 (.string (str p.text));have hr3:=hr2.far (p:=⟨wb,3,none⟩) (by simp;omega) (.string (str p.text));have hb3:=hb2.trans ((Keeps.set1 w7 wb 3 (.string (str p.text))).below (B:=w.heap.size) (fun i hi e=>by omega) (by have:=hb2.size;omega));have HI:=qH hi3;have HW:=qH hw3;have HRB:=qH hr3;have HBB:=qH hb3;clear h3 h4 hw2 hr2 hb2 hi3 hw3 hr3 hb3 HWn;go_wp2_with fail;clear c3 f3 hwl;have es:(⟨p.text.toArray⟩:ByteArray)=str p.text:=rfl;rw [es];generalize w7.setCell ⟨wb,3,none⟩ (.string (str p.text))=w8 at *;refine (end_in HI.out).mono ?_;rintro ee w9 ⟨er,rfl,heo,hb9⟩
 obtain rfl:er=.nilIface:=by
  rcases heo with ⟨_,h⟩|⟨h,_⟩
  ·exact h
  ·exact absurd rfl h
 have HW:=qH (HW.out.below hb9 HW.out.lt);have HRB:=qH (HRB.out.below hb9 HRB.out.lt);have HBB:=qH (HBB.out.trans (hb9.mono HBB.out.size));clear heo hb9 HI;obtain ⟨p0,p1,p2,p3⟩:=cells4 HW.out;have dk:decide ((p.kind:Int)<1)=false:=decide_eq_false (by omega);have dg:decide ((p.gen:Int)<1)=false:=decide_eq_false (by omega);have n1:¬ p.kind=0:=by omega
 have n2:¬ p.gen=0:=by omega
 by_cases hk2:p.kind=2
 ·have d2:((p.kind:Int) != 2)=false:=by simp;omega
  clear hk2
  go_wp2_with (refine wpList_store_blk rfl 173 (.tmp 4) (.tmp 60) rfl w.heap.size (pcells p) rfl rfl HRB.out (by kernel_rfl) rfl rfl ?_;intro w10 ho4 hk4 hs4)
  clear p0 p1 p2 p3;obtain ⟨p0,p1,p2,p3⟩:=cells4 ho4;have HR:=qH (show PartR p nx w (.returned (.tuple #[.agg ⟨pcells p⟩,.int .i64 nx,.bool true])) w10 from ⟨rfl,HBB.out.trans (hk4.below (fun i hi e=>by omega) HBB.out.size)⟩);clear ho4 hk4;exact bodyPost_ret (v:=.tuple #[.agg ⟨pcells p⟩,.int .i64 nx,.bool true]) (by unfold pcells;simp [results,Tryz.results132,go_sem,p0,p1,p2,p3]) rfl HR.out
 ·have d2:((p.kind:Int) != 2)=true:=by simp;omega
  have ht:=HRC.out hk2;have hpc:pcells p=[.int .i64 p.kind,.int .i64 p.gen,.int .i64 p.place,.string ⟨#[]⟩]:=by unfold pcells;rw [ht]
  have HPC:=qH hpc;rw [ht] at p3;clear hk2 ht hpc
  go_wp2_with (refine wpList_store_blk rfl 173 (.tmp 4) (.tmp 60) rfl w.heap.size [.int .i64 p.kind,.int .i64 p.gen,.int .i64 p.place,.string ⟨#[]⟩] rfl rfl HRB.out (by kernel_rfl) rfl rfl ?_;intro w10 ho4 hk4 hs4)
  clear p0 p1 p2 p3;obtain ⟨p0,p1,p2,p3⟩:=cells4 ho4;have HR:=qH (show PartR p nx w (.returned (.tuple #[.agg #[.int .i64 p.kind,.int .i64 p.gen,.int .i64 p.place,.string ⟨#[]⟩],.int .i64 nx,.bool true])) w10 from ⟨by rw [HPC.out],HBB.out.trans (hk4.below (fun i hi e=>by omega) HBB.out.size)⟩);clear ho4 hk4;exact bodyPost_ret (v:=.tuple #[.agg #[.int .i64 p.kind,.int .i64 p.gen,.int .i64 p.place,.string ⟨#[]⟩],.int .i64 nx,.bool true]) (by simp [results,Tryz.results132,go_sem,p0,p1,p2,p3]) rfl HR.out
end jrn
namespace regn
open Go Go.RowKit base err wireb wirep
section
variable {w:World}
theorem numclo (g c n:Nat) (l:List UInt8) (w:World) (h:OutB w g l) (hc:w.cell? ⟨c,0,none⟩=some (.int .i64 n)) (hn:n≤4611686018427387903) (hr:l.length+9≤65536) :
  Calls Tryz.prog 54 #[.pointer (some ⟨g,0,none⟩),.pointer (some ⟨c,0,none⟩)] w (PutB g (l++numW n) w):=by
 have H:=qH h;have hlt:=h.lt;clear h;go_enter Tryz.func54,Tryz.ntmps54;go_wp2_with fail;refine (num_b g n l _ H.out hn hr).mono ?_;rintro e w1 h1;obtain ⟨rfl,h2⟩:=h1;have HR:=qH (show PutB g (l++numW n) w (.returned noResult) w1 from ⟨rfl,h2⟩);clear h2;go_wp2_with fail;refine bodyPost_end (results_none rfl _ _ _) rfl ?_;exact HR.out
theorem record_num (c k n:Nat) (w:World) (hc:w.cell? ⟨c,0,none⟩=some (.int .i64 n)) (hcl:c<w.heap.size) (hk:k≤100) (hn:n≤4611686018427387903) :
  Calls Tryz.prog 53 #[.int .i64 k,.func (.func 54) #[] #[.pointer (some ⟨c,0,none⟩)]] w fun e w'=>e=.returned (.string (str (numW k++numW n)))∧Below w.heap.size w w':=by
 have hnl:(numW k).length≤9:=by
  have:=numW_len 0 k (by omega);omega
 go_enter Tryz.func53,Tryz.ntmps53;go_wp2_with fail;have ho:OutB (w.alloc (.cells #[.slice none 0 0,.nilIface] 226)) w.heap.size []:=⟨.slice none 0 0,_,Blk.new _ _ _,⟨rfl,.inl ⟨rfl,rfl⟩⟩⟩;have hb:Below w.heap.size w (w.alloc (.cells #[.slice none 0 0,.nilIface] 226)):=below_new _ _;have HO:=qH ho;have HB:=qH hb;clear ho hb;refine (num_b w.heap.size k [] _ HO.out (by omega) (by simp)).mono ?_;rintro e w1 ⟨rfl,ho1,hb1⟩;have HO1:=qH (show OutB w1 w.heap.size (numW k) from ho1);have hb1':=HB.out.trans hb1;have HB1:=qH hb1';have hc1:w1.cell? ⟨c,0,none⟩=some (.int .i64 n):=(hb1'.cell (p:=⟨c,0,none⟩) hcl).trans hc;clear hb1 ho1 hb1';go_wp2_with fail;refine (numclo w.heap.size c n (numW k) w1 HO1.out hc1 hn (by omega)).mono ?_;rintro e w2 ⟨rfl,ho2,hb2⟩;have HO2:=qH ho2;have HB2:=qH (HB1.out.trans hb2);clear ho2 hb2;go_wp2_with fail;refine (done_b w.heap.size _ w2 HO2.out).mono ?_;rintro e w3 ⟨rfl,rfl⟩;go_wp2_with fail;go_ret
 exact ⟨rfl,HB2.out⟩
theorem num_record (k n:Nat) (w:World) (hk:k≤100) (hn:n≤4611686018427387903) :
  Calls Tryz.prog 23 #[.int .i64 k,.int .i64 n] w fun e w'=>e=.returned (.string (str (numW k++numW n)))∧Below w.heap.size w w':=by
 go_enter Tryz.func23,Tryz.ntmps23;go_wp2_with fail;have hb:Below w.heap.size w (w.alloc (.cells #[.int .i64 n] 3)):=below_new _ _;have HB:=qH hb;refine (record_num w.heap.size k n _ (Blk.cell (Blk.new w 3 #[.int .i64 n]) 0) (by simp) hk hn).mono ?_;rintro e w1 ⟨rfl,hb1⟩;have HB1:=qH (HB.out.trans (hb1.mono hb.size));clear hb hb1;go_wp2_with fail;go_ret
 exact ⟨rfl,HB1.out⟩
end
end regn
namespace wireb
open Go Go.RowKit base rowe err rowc wirep writep inp monok
theorem OwnN.few {w:World} {base:Nat} {v:Value} {l:List Nat} (h:OwnN w base v l):l.length≤maxLen:=by
 rcases h.2 with ⟨_,h0⟩|⟨g,cap,cur,_,_,_,h3,h4,_⟩
 ·omega
 ·omega
theorem OwnN.nums {w:World} {base:Nat} {A:Option Addr} {c:Nat} {l:List Nat} (h:OwnN w base (.slice A l.length c) l):wire.Nums w w.heap.size (.slice A l.length c) (natI l) :=
 ⟨A,_,c,rfl,natI_len l,h.few,Reads.of_own h⟩
theorem own_low' {w:World} {base base':Nat} {e:TypeId} {size n:Nat} {v:Value} {xs:List Value} (h:w.ownsRow base' e size v n xs) (hb:base≤base'):w.ownsRow base e size v n xs :=
 ⟨h.1,h.2.imp id fun ⟨g,cap,cur,e,h1,r⟩=>⟨g,cap,cur,e,Nat.le_trans hb h1,r⟩⟩
end wireb
namespace wireb
open Go Go.RowKit base rowe err rowc wirep writep claimp
def _root_.Go.Proofs.YthlahcnglacekaaGreatDoor.claimp.PC.cells (x:PC) (d:Value):List Value:=[.string (str x.se),.string (str x.us),.int .i64 x.ep,.int .i64 x.is,.int .i64 x.ke,d]
theorem rightC_ok (x:PC) (d:Value) (w:World) (hd:wire.Nums w w.heap.size d (natI x.cx)) (h:x.Ok) :
  Calls Tryz.prog 207 #[.agg ⟨x.cells d⟩] w fun e w'=>e=.returned (.bool true)∧Below w.heap.size w w':=by
 obtain ⟨A,m,c,rfl,hl,hm,hr⟩:=hd;obtain ⟨s1,s64,u1,u32,em,im,km,tr⟩:=h;have hmx:maxNum=1099511627776:=rfl;rw [hmx] at em im km;have hT:=qH ((wire.trim_any A m c (natI x.cx) 1099511627776 w.heap.size (w.alloc (.cells (x.cells (.slice A m c)).toArray 37)) hl hm (hr.alloc (Nat.le_refl _) _)));rw [show wire.trB (natI x.cx) 1099511627776=true from (tr_nat x.cx 1099511627776).trans tr] at hT;have i1:wire.inB (x.ep:Int) 0=true:=by unfold wire.inB;simp;omega
 have i2:wire.inB (x.is:Int) 0=true:=by unfold wire.inB;simp;omega
 have i3:wire.inB (x.ke:Int) 0=true:=by unfold wire.inB;simp;omega
 have z1:(1:Int)≤((str x.se).size:Int):=by rw [str_size];omega
 have z2:((str x.se).size:Int)≤64:=by rw [str_size];omega
 have z3:(1:Int)≤((str x.us).size:Int):=by rw [str_size];omega
 have z4:((str x.us).size:Int)≤32:=by rw [str_size];omega
 clear hr tr;unfold PC.cells at *;generalize str x.se=S at *;generalize str x.us=U at *;go_enter Tryz.func207,Tryz.ntmps207
 go_wp2_with (first|(go_at_call 187;refine (wire.in_any _ _ _).mono ?_;rintro e w1 ⟨rfl,rfl⟩;(first|rw [i1]|rw [i2]|rw [i3]))|(go_at_call 142;refine hT.out.mono ?_;rintro e w1 ⟨rfl,rfl⟩))
 go_ret
 exact ⟨rfl,below_new _ _⟩
end wireb
end Go.Proofs.YthlahcnglacekaaGreatDoor
