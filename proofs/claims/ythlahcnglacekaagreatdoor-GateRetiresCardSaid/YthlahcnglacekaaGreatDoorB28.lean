/- Part of GateRetires. -/
import Derived.Test.YthlahcnglacekaaGreatDoorB33
import Derived.Test.YthlahcnglacekaaGreatDoorB10
import Derived.Test.YthlahcnglacekaaGreatDoorB26
import Derived.Test.YthlahcnglacekaaGreatDoorB13
import Derived.Test.YthlahcnglacekaaGreatDoorB29
set_option maxRecDepth 100000
set_option maxHeartbeats 16000000
namespace Go.Proofs.YthlahcnglacekaaGreatDoor
namespace dep
open Go Go.RowKit base rowe wire vec cmp
theorem own_keeps {X:Nat→Prop} {w w':World} {base:Nat} {e:TypeId} {size n:Nat} {v:Value} {xs:List Value} (h:w.ownsRow base e size v n xs) (hk:Keeps X w w') (hx:∀ g,v.ownBlock=some g→¬ X g):w'.ownsRow base e size v n xs:=by
 refine ⟨h.1,h.2.imp id ?_⟩;rintro ⟨g,cap,cur,rfl,h1,h2,h3⟩;exact ⟨g,cap,cur,rfl,h1,(hk.block g (heap_lt h2) (hx g rfl)).trans h2,h3⟩
theorem own_low {w:World} {base base':Nat} {e:TypeId} {size n:Nat} {v:Value} {xs:List Value} (h:w.ownsRow base' e size v n xs) (hb:base≤base'):w.ownsRow base e size v n xs :=
 ⟨h.1,h.2.imp id fun ⟨g,cap,cur,e,h1,r⟩=>⟨g,cap,cur,e,Nat.le_trans hb h1,r⟩⟩
structure InF (w:World) (S:Nat→Prop) (g:Nat) (rg:Int) (ap:List Int) (ws:List Wr) (va vw:Value):Prop where
 blk:Blk w g 261 #[.int .i64 rg,va,vw]
 app:w.ownsRow 0 3 1 va ap.length (enc ap)
 afew:ap.length≤16
 row:w.ownsRow 0 188 10 vw ws.length (ws.flatMap Wr.cells)
 wfew:ws.length≤1000
 num:∀ x ∈ ws,NumsO w 0 x.d x.z
 rng:∀ x ∈ ws,(1≤x.r∧x.r≤16)∧(1≤x.n∧x.n≤1099511627776)
 inG:S g
 inA:∀ i,va.ownBlock=some i→S i
 inW:∀ i,vw.ownBlock=some i→S i
 inN:∀ x ∈ ws,∀ i,x.d.ownBlock=some i→S i
 ga:va.ownBlock≠some g
 gw:vw.ownBlock≠some g
 gn:∀ x ∈ ws,x.d.ownBlock≠some g
 aw:∀ i,va.ownBlock=some i→vw.ownBlock≠some i
 nw:∀ x ∈ ws,∀ i,x.d.ownBlock=some i→vw.ownBlock≠some i
 small:∀ i,S i→i<w.heap.size
section
variable {w w':World} {S X:Nat→Prop} {g:Nat} {rg:Int} {ap:List Int} {ws:List Wr} {va vw:Value}
theorem InF.keeps (h : InF w S g rg ap ws va vw) (hk : Keeps X w w') (hx : ∀ i, S i → ¬ X i) : InF w' S g rg ap ws va vw :=
  { h with
    blk := h.blk.keeps hk (hx g h.inG)
    app := own_keeps h.app hk fun i hi => hx i (h.inA i hi)
    row := own_keeps h.row hk fun i hi => hx i (h.inW i hi)
    num := fun x hm => (h.num x hm).keeps hk fun i hi => hx i (h.inN x hm i hi)
    small := fun i hi => Nat.lt_of_lt_of_le (h.small i hi) hk.size }
theorem InF.below (h:InF w S g rg ap ws va vw) (hb:Below w.heap.size w w'):InF w' S g rg ap ws va vw:=h.keeps (X:=nobody) (.of_below hb) (fun _ _ h=>h)
theorem InF.more {S':Nat→Prop} (h:InF w S g rg ap ws va vw) (hs:∀ i,S i→S' i) (hb:∀ i,S' i→i<w.heap.size):InF w S' g rg ap ws va vw :=
 { h with inG:=hs _ h.inG,inA:=fun i hi=>hs i (h.inA i hi),inW:=fun i hi=>hs i (h.inW i hi),inN:=fun x hm i hi=>hs i (h.inN x hm i hi),small:=hb }
theorem InF.vec (h:InF w S g rg ap ws va vw):∃ A c,va=.slice A ap.length c∧Vec w w.heap.size A ap.length c ap:=by
 obtain ⟨A,c,e,hv⟩:=Vec.of_own (n:=ap.length) h.app;exact ⟨A,c,e,hv⟩
theorem InF.reads (h:InF w S g rg ap ws va vw):∃ A c,vw=.slice A ws.length c∧Reads w w.heap.size 10 A ws.length (ws.flatMap Wr.cells):=by
 obtain ⟨A,c,e⟩:=ownsRow_slice h.row;have hr:=h.row;subst e;exact ⟨A,c,rfl,Reads.of_own hr⟩
theorem InF.wait (h:InF w S g rg ap ws va vw):∀ x ∈ ws,WaitOk w x:=fun x hm=>by
 obtain ⟨hn,hf⟩:=h.num x hm;obtain ⟨A,c,e,hv⟩:=Vec.of_own (n:=x.z.length) (zs:=x.z) hn;exact ⟨A,x.z.length,c,e,hv,hf,h.rng x hm⟩
theorem InF.putW {S' : Nat → Prop} {w1 : World} {ws' : List Wr} {vw' : Value} (h : InF w S g rg ap ws va vw) (hk : Keeps (fun b => vw.ownBlock = some b) w w1) (hrow : w1.ownsRow 0 188 10 vw' ws'.length (ws'.flatMap Wr.cells)) (hf : ws'.length ≤ 1000)
    (hnum : ∀ x ∈ ws', NumsO w1 0 x.d x.z) (hrng : ∀ x ∈ ws', (1 ≤ x.r ∧ x.r ≤ 16) ∧ (1 ≤ x.n ∧ x.n ≤ 1099511627776))
    (hs : ∀ i, S i → S' i) (hsm : ∀ i, S' i → i<w1.heap.size) (hw : ∀ i, vw'.ownBlock = some i → S' i) (hn : ∀ x ∈ ws', ∀ i, x.d.ownBlock = some i → S' i)
    (gw : vw'.ownBlock≠some g) (gn : ∀ x ∈ ws', x.d.ownBlock≠some g) (aw : ∀ i, va.ownBlock = some i → vw'.ownBlock≠some i) (nw : ∀ x ∈ ws', ∀ i, x.d.ownBlock = some i → vw'.ownBlock≠some i) :
    InF (w1.setCell ⟨g, 2, none⟩ vw') S' g rg ap ws' va vw' := by
  have hb1 : Blk w1 g 261 #[.int .i64 rg, va, vw] := h.blk.keeps hk h.gw;have ha1 := own_keeps h.app hk fun i hi => h.aw i hi;have hk2 : Keeps (· = g) w1 (w1.setCell ⟨g, 2, none⟩ vw') := .setCell (X := (· = g)) (.inl (show g = g from rfl)) _;exact
  { blk := by simpa using hb1.set_ 2 vw'
    app := own_keeps ha1 hk2 fun i hi e => h.ga (by rw [←e]; exact hi)
    afew := h.afew
    row := own_keeps hrow hk2 fun i hi e => gw (by rw [←e]; exact hi)
    wfew := hf
    num := fun x hm => (hnum x hm).keeps hk2 fun i hi e => gn x hm (by rw [←e]; exact hi)
    rng := hrng
    inG := hs _ h.inG
    inA := fun i hi => hs i (h.inA i hi)
    inW := hw
    inN := hn
    ga := h.ga
    gw := gw
    gn := gn
    aw := aw
    nw := nw
    small := fun i hi => Nat.lt_of_lt_of_le (hsm i hi) hk2.size }
theorem InF.putA {S' : Nat → Prop} {w1 : World} {ap' : List Int} {va' : Value} (h : InF w S g rg ap ws va vw) (hb : Below w.heap.size w w1) (ha : w1.ownsRow w.heap.size 3 1 va' ap'.length (enc ap')) (hf : ap'.length ≤ 16)
    (hs : ∀ i, S i → S' i) (hsm : ∀ i, S' i → i<w1.heap.size) (hS : ∀ i, va'.ownBlock = some i → S' i) :
    InF (w1.setCell ⟨g, 1, none⟩ va') S' g rg ap' ws va' vw := by
  have h1 := h.below hb;have hk2 : Keeps (· = g) w1 (w1.setCell ⟨g, 1, none⟩ va') := .setCell (X := (· = g)) (.inl (show g = g from rfl)) _;have hlo : ∀ i, va'.ownBlock = some i → w.heap.size ≤ i := fun i hi => (ha.lt i hi).1;exact
  { blk := by simpa using h1.blk.set_ 1 va'
    app := own_keeps (own_low ha (Nat.zero_le _)) hk2 fun i hi e => by
      have h3 := hlo i hi;have h4 := h.small g h.inG;have h5 : i = g := e;omega
    afew := hf
    row := own_keeps h1.row hk2 fun i hi e => h.gw (by rw [←e]; exact hi)
    wfew := h.wfew
    num := fun x hm => (h1.num x hm).keeps hk2 fun i hi e => h.gn x hm (by rw [←e]; exact hi)
    rng := h.rng
    inG := hs _ h.inG
    inA := hS
    inW := fun i hi => hs i (h.inW i hi)
    inN := fun x hm i hi => hs i (h.inN x hm i hi)
    ga := fun e => by
      have h3 := hlo g e;have h4 := h.small g h.inG;omega
    gw := h.gw
    gn := h.gn
    aw := fun i hi e => by
      have h3 := hlo i hi;have h4 := h.small i (h.inW i e);omega
    nw := h.nw
    small := fun i hi => Nat.lt_of_lt_of_le (hsm i hi) hk2.size }
end
end dep
namespace dep
open Go Go.RowKit base rowe wire vec err
def numB (z:Int):Bool:=decide (z<0) || decide (1099511627776<z)
def headB (rg:Int) (ap:List Int):Bool:=decide (rg<1) || decide (16<rg) || decide (16<ap.length) || decide ((trimL ap).length≠ap.length)
theorem trim_self {zs:List Int} (h:(trimL zs).length=zs.length):trimL zs=zs:=by
 unfold trimL at h ⊢;rw [List.length_take] at h;exact List.take_of_length_le (by omega)
theorem InF.made {rg : Int} {ap : List Int} (w w3 : World) (v : Value) (hw : Below w.heap.size w w3) (ho : w3.ownsRow w.heap.size 3 1 v ap.length (enc ap)) (hl : ap.length ≤ 16) :
    InF (w3.alloc (.cells #[.int .i64 rg, v, .slice none 0 0] 261)) (fun i => w.heap.size ≤ i ∧ i<w3.heap.size+1) w3.heap.size rg ap [] v (.slice none 0 0) := by
  have hb4 := below_new w3 (.cells #[.int .i64 rg, v, .slice none 0 0] 261);have hsz := hw.size;have hlt : ∀ i, v.ownBlock = some i → w.heap.size ≤ i ∧ i<w3.heap.size := fun i hi => ho.lt i hi;exact
  { blk := Blk.new w3 261 #[.int .i64 rg, v, .slice none 0 0]
    app := own_keeps (own_low ho (Nat.zero_le _)) (X := nobody) (.of_below hb4) (fun _ _ h => h)
    afew := hl
    row := ⟨rfl, .inl ⟨rfl, rfl⟩⟩
    wfew := by simp
    num := fun x hx => by cases hx
    rng := fun x hx => by cases hx
    inG := ⟨hsz, by omega⟩
    inA := fun i hi => by have := hlt i hi; omega
    inW := fun i hi => by cases hi
    inN := fun x hx => by cases hx
    ga := fun e => by have := hlt _ e; omega
    gw := fun e => by cases e
    gn := fun x hx => by cases hx
    aw := fun i hi e => by cases e
    nw := fun x hx => by cases hx
    small := fun i hi => by simpa using hi.2 }
def NewR (rg:Int) (ap:List Int) (w:World) (e:Ending) (w':World):Prop :=
 ((headB rg ap || ap.any numB)=false∧∃ g S va,e=.returned (.tuple #[.pointer (some ⟨g,0,none⟩),.nilIface])∧InF w' S g rg ap [] va (.slice none 0 0)∧(∀ i,S i→w.heap.size≤i)∧Below w.heap.size w w') ∨
 ((headB rg ap || ap.any numB)=true∧∃ v,e=.returned (.tuple #[.pointer none,v])∧Err w' v 1∧v≠.nilIface∧Below w.heap.size w w')
theorem new_any (rg:Int) (A:Option Addr) (n c:Nat) (ap:List Int) (w:World) (h:Vec w w.heap.size A n c ap) (hm:n≤1000000) :
  Calls Tryz.prog 90 #[.int .i64 rg,.slice A n c] w (NewR rg ap w):=by
 have hln:=h.1;have HA:=qH h;clear h;go_enter Tryz.func90,Tryz.ntmps90
 by_cases h1:rg<1
 ·
  have HBR:=qH (show headB rg ap=true by unfold headB;simp;omega);go_wp2_with fail
  go_loopw [6,8,30] (fun b _ k wr=>∃ i:Nat,i≤n∧k=.int .i64 i∧b=.bool (headB rg ap || (ap.take i).any numB)∧Below w.heap.size w wr) (fun _ _ k _=>n-(intOf k).toNat)
  case atStart=>exact ⟨0,by omega,rfl,by rw [HBR.out];first|rfl|(simp;omega),Below.refl _ _⟩
  case round =>
   obtain ⟨i,him,rfl,rfl,hbr⟩:=hrel
   by_cases hlt:i<n
   ·obtain ⟨b0,off,rfl,hbl⟩:=HA.out.at_some (by omega)
    have c1:=(HA.out.below hbr).cell hlt;have hsz:=hbr.size;have hbl2:b0<wr.heap.size:=by omega
    have hnx:(ap.take (i+1)).any numB=((ap.take i).any numB || numB (ap.getD i 0)):=by
     rw [List.take_add_one,List.any_append,List.getD_eq_getElem?_getD,List.getElem?_eq_getElem (by omega)];simp
    generalize ap.getD i 0=z at *;have HNX:=qH hnx;have HBW:=qH hbr;clear hnx hbr
    cases hb:(headB rg ap || (ap.take i).any numB) with
    | true =>
     go_wp2_with fail;go_roundw
     case rel=>exact ⟨i+1,by omega,by go_num,by rw [HNX.out,←Bool.or_assoc,hb];rfl,HBW.out⟩
     case measure=>(simp [intOf];try omega)
    | false =>
     by_cases hz:z<0
     ·go_wp2_with fail
      go_roundw
      case rel=>exact ⟨i+1,by omega,by go_num,by rw [HNX.out,←Bool.or_assoc,hb];simp [numB,hz],HBW.out⟩
      case measure=>(simp [intOf];try omega)
     ·go_wp2_with fail
      go_roundw
      case rel=>exact ⟨i+1,by omega,by go_num,by rw [HNX.out,←Bool.or_assoc,hb];simp [numB,hz],HBW.out⟩
      case measure=>(simp [intOf];try omega)
   ·obtain rfl:i=n:=by omega
    have htk:ap.take i=ap:=List.take_of_length_le (by have:=HA.out.1;omega);rw [htk];have HBW:=qH hbr;clear hbr htk
    cases hb:(headB rg ap || ap.any numB) with
    | true =>
     go_wp2_with fail;refine (err.at_any _ _ _ _).mono ?_;rintro e w3 ⟨v3,rfl,he3,hn3,hb3,hf3⟩;have HE:=qH he3;have HB3:=qH (below_step HBW.out hb3);clear he3 hb3 hf3;obtain ⟨ge,rfl⟩:=HE.out.form;have HR:=qH (show NewR rg ap w (.returned (.tuple #[.pointer none,.iface 121 (.pointer (some ⟨ge,0,none⟩))])) w3 from .inr ⟨hb,_,rfl,HE.out,hn3,HB3.out⟩);clear hn3;go_wp2;exact bodyPost_ret (v:=.tuple #[.pointer none,.iface 121 (.pointer (some ⟨ge,0,none⟩))]) (by simp [results,Tryz.results90,go_sem]) rfl HR.out
    | false =>
     exfalso;rw [HBR.out] at hb
     cases hb
 by_cases h2:16<rg
 ·
  have HBR:=qH (show headB rg ap=true by unfold headB;simp;omega);go_wp2_with fail
  go_loopw [6,8,30] (fun b _ k wr=>∃ i:Nat,i≤n∧k=.int .i64 i∧b=.bool (headB rg ap || (ap.take i).any numB)∧Below w.heap.size w wr) (fun _ _ k _=>n-(intOf k).toNat)
  case atStart=>exact ⟨0,by omega,rfl,by rw [HBR.out];first|rfl|(simp;omega),Below.refl _ _⟩
  case round =>
   obtain ⟨i,him,rfl,rfl,hbr⟩:=hrel
   by_cases hlt:i<n
   ·obtain ⟨b0,off,rfl,hbl⟩:=HA.out.at_some (by omega)
    have c1:=(HA.out.below hbr).cell hlt;have hsz:=hbr.size;have hbl2:b0<wr.heap.size:=by omega
    have hnx:(ap.take (i+1)).any numB=((ap.take i).any numB || numB (ap.getD i 0)):=by
     rw [List.take_add_one,List.any_append,List.getD_eq_getElem?_getD,List.getElem?_eq_getElem (by omega)];simp
    generalize ap.getD i 0=z at *;have HNX:=qH hnx;have HBW:=qH hbr;clear hnx hbr
    cases hb:(headB rg ap || (ap.take i).any numB) with
    | true =>
     go_wp2_with fail;go_roundw
     case rel=>exact ⟨i+1,by omega,by go_num,by rw [HNX.out,←Bool.or_assoc,hb];rfl,HBW.out⟩
     case measure=>(simp [intOf];try omega)
    | false =>
     by_cases hz:z<0
     ·go_wp2_with fail
      go_roundw
      case rel=>exact ⟨i+1,by omega,by go_num,by rw [HNX.out,←Bool.or_assoc,hb];simp [numB,hz],HBW.out⟩
      case measure=>(simp [intOf];try omega)
     ·go_wp2_with fail
      go_roundw
      case rel=>exact ⟨i+1,by omega,by go_num,by rw [HNX.out,←Bool.or_assoc,hb];simp [numB,hz],HBW.out⟩
      case measure=>(simp [intOf];try omega)
   ·obtain rfl:i=n:=by omega
    have htk:ap.take i=ap:=List.take_of_length_le (by have:=HA.out.1;omega);rw [htk];have HBW:=qH hbr;clear hbr htk
    cases hb:(headB rg ap || ap.any numB) with
    | true =>
     go_wp2_with fail;refine (err.at_any _ _ _ _).mono ?_;rintro e w3 ⟨v3,rfl,he3,hn3,hb3,hf3⟩;have HE:=qH he3;have HB3:=qH (below_step HBW.out hb3);clear he3 hb3 hf3;obtain ⟨ge,rfl⟩:=HE.out.form;have HR:=qH (show NewR rg ap w (.returned (.tuple #[.pointer none,.iface 121 (.pointer (some ⟨ge,0,none⟩))])) w3 from .inr ⟨hb,_,rfl,HE.out,hn3,HB3.out⟩);clear hn3;go_wp2;exact bodyPost_ret (v:=.tuple #[.pointer none,.iface 121 (.pointer (some ⟨ge,0,none⟩))]) (by simp [results,Tryz.results90,go_sem]) rfl HR.out
    | false =>
     exfalso;rw [HBR.out] at hb
     cases hb
 by_cases h3:16<n
 ·
  have HBR:=qH (show headB rg ap=true by unfold headB;simp;omega);go_wp2_with fail
  go_loopw [6,8,30] (fun b _ k wr=>∃ i:Nat,i≤n∧k=.int .i64 i∧b=.bool (headB rg ap || (ap.take i).any numB)∧Below w.heap.size w wr) (fun _ _ k _=>n-(intOf k).toNat)
  case atStart=>exact ⟨0,by omega,rfl,by rw [HBR.out];first|rfl|(simp;omega),Below.refl _ _⟩
  case round =>
   obtain ⟨i,him,rfl,rfl,hbr⟩:=hrel
   by_cases hlt:i<n
   ·obtain ⟨b0,off,rfl,hbl⟩:=HA.out.at_some (by omega)
    have c1:=(HA.out.below hbr).cell hlt;have hsz:=hbr.size;have hbl2:b0<wr.heap.size:=by omega
    have hnx:(ap.take (i+1)).any numB=((ap.take i).any numB || numB (ap.getD i 0)):=by
     rw [List.take_add_one,List.any_append,List.getD_eq_getElem?_getD,List.getElem?_eq_getElem (by omega)];simp
    generalize ap.getD i 0=z at *;have HNX:=qH hnx;have HBW:=qH hbr;clear hnx hbr
    cases hb:(headB rg ap || (ap.take i).any numB) with
    | true =>
     go_wp2_with fail;go_roundw
     case rel=>exact ⟨i+1,by omega,by go_num,by rw [HNX.out,←Bool.or_assoc,hb];rfl,HBW.out⟩
     case measure=>(simp [intOf];try omega)
    | false =>
     by_cases hz:z<0
     ·go_wp2_with fail
      go_roundw
      case rel=>exact ⟨i+1,by omega,by go_num,by rw [HNX.out,←Bool.or_assoc,hb];simp [numB,hz],HBW.out⟩
      case measure=>(simp [intOf];try omega)
     ·go_wp2_with fail
      go_roundw
      case rel=>exact ⟨i+1,by omega,by go_num,by rw [HNX.out,←Bool.or_assoc,hb];simp [numB,hz],HBW.out⟩
      case measure=>(simp [intOf];try omega)
   ·obtain rfl:i=n:=by omega
    have htk:ap.take i=ap:=List.take_of_length_le (by have:=HA.out.1;omega);rw [htk];have HBW:=qH hbr;clear hbr htk
    cases hb:(headB rg ap || ap.any numB) with
    | true =>
     go_wp2_with fail;refine (err.at_any _ _ _ _).mono ?_;rintro e w3 ⟨v3,rfl,he3,hn3,hb3,hf3⟩;have HE:=qH he3;have HB3:=qH (below_step HBW.out hb3);clear he3 hb3 hf3;obtain ⟨ge,rfl⟩:=HE.out.form;have HR:=qH (show NewR rg ap w (.returned (.tuple #[.pointer none,.iface 121 (.pointer (some ⟨ge,0,none⟩))])) w3 from .inr ⟨hb,_,rfl,HE.out,hn3,HB3.out⟩);clear hn3;go_wp2;exact bodyPost_ret (v:=.tuple #[.pointer none,.iface 121 (.pointer (some ⟨ge,0,none⟩))]) (by simp [results,Tryz.results90,go_sem]) rfl HR.out
    | false =>
     exfalso;rw [HBR.out] at hb
     cases hb
 go_wp2_with fail;refine (trim_any A n c ap w HA.out hm).mono ?_;rintro e w3 ⟨v3,rfl,hown3,hb3⟩;obtain ⟨A3,c3,rfl⟩:=ownsRow_slice hown3;have HB1:=qH hb3;clear hown3 hb3
 by_cases h4:(trimL ap).length=n
 ·
  have HBR:=qH (show headB rg ap=false by unfold headB;simp;omega);go_wp2_with fail
  go_loopw [6,8,30] (fun b _ k wr=>∃ i:Nat,i≤n∧k=.int .i64 i∧b=.bool (headB rg ap || (ap.take i).any numB)∧Below w.heap.size w wr) (fun _ _ k _=>n-(intOf k).toNat)
  case atStart=>exact ⟨0,by omega,rfl,by rw [HBR.out];first|rfl|(simp;omega),HB1.out⟩
  case round =>
   obtain ⟨i,him,rfl,rfl,hbr⟩:=hrel
   by_cases hlt:i<n
   ·obtain ⟨b0,off,rfl,hbl⟩:=HA.out.at_some (by omega)
    have c1:=(HA.out.below hbr).cell hlt;have hsz:=hbr.size;have hbl2:b0<wr.heap.size:=by omega
    have hnx:(ap.take (i+1)).any numB=((ap.take i).any numB || numB (ap.getD i 0)):=by
     rw [List.take_add_one,List.any_append,List.getD_eq_getElem?_getD,List.getElem?_eq_getElem (by omega)];simp
    generalize ap.getD i 0=z at *;have HNX:=qH hnx;have HBW:=qH hbr;clear hnx hbr
    cases hb:(headB rg ap || (ap.take i).any numB) with
    | true =>
     go_wp2_with fail;go_roundw
     case rel=>exact ⟨i+1,by omega,by go_num,by rw [HNX.out,←Bool.or_assoc,hb];rfl,HBW.out⟩
     case measure=>(simp [intOf];try omega)
    | false =>
     by_cases hz:z<0
     ·go_wp2_with fail
      go_roundw
      case rel=>exact ⟨i+1,by omega,by go_num,by rw [HNX.out,←Bool.or_assoc,hb];simp [numB,hz],HBW.out⟩
      case measure=>(simp [intOf];try omega)
     ·go_wp2_with fail
      go_roundw
      case rel=>exact ⟨i+1,by omega,by go_num,by rw [HNX.out,←Bool.or_assoc,hb];simp [numB,hz],HBW.out⟩
      case measure=>(simp [intOf];try omega)
   ·obtain rfl:i=n:=by omega
    have htk:ap.take i=ap:=List.take_of_length_le (by have:=HA.out.1;omega);rw [htk];have HBW:=qH hbr;clear hbr htk
    cases hb:(headB rg ap || ap.any numB) with
    | true =>
     go_wp2_with fail;refine (err.at_any _ _ _ _).mono ?_;rintro e w3 ⟨v3,rfl,he3,hn3,hb3,hf3⟩;have HE:=qH he3;have HB3:=qH (below_step HBW.out hb3);clear he3 hb3 hf3;obtain ⟨ge,rfl⟩:=HE.out.form;have HR:=qH (show NewR rg ap w (.returned (.tuple #[.pointer none,.iface 121 (.pointer (some ⟨ge,0,none⟩))])) w3 from .inr ⟨hb,_,rfl,HE.out,hn3,HB3.out⟩);clear hn3;go_wp2;exact bodyPost_ret (v:=.tuple #[.pointer none,.iface 121 (.pointer (some ⟨ge,0,none⟩))]) (by simp [results,Tryz.results90,go_sem]) rfl HR.out
    | false =>
     have hle:ap.length≤16∧(trimL ap).length=ap.length∧1≤rg∧rg≤16:=by
      simp [headB] at hb
      omega
     go_wp2_with fail;refine (trim_any A i c ap wr ((HA.out.below HBW.out).more HBW.out.size) (by have:=HA.out.1;omega)).mono ?_;rintro e w3 ⟨v3,rfl,hown3,hb3⟩;rw [trim_self hle.2.1] at hown3;obtain ⟨A4,c4,rfl⟩:=ownsRow_slice hown3;have hw3:=below_step HBW.out hb3;have hs3:=hb3.size;have hsw:=HBW.out.size;have hb4:=below_new w3 (.cells #[.int .i64 rg,.slice A4 ap.length c4,.slice none 0 0] 261);have hI:=InF.made (rg:=rg) w w3 _ hw3 (own_low hown3 hsw) hle.1;have HI:=qH hI;have HW4:=qH (hw3.trans (hb4.mono hw3.size));clear hown3 hb3 hb4 hI hw3;have HR:=qH (show NewR rg ap w (.returned (.tuple #[.pointer (some ⟨w3.heap.size,0,none⟩),.nilIface])) (w3.alloc (.cells #[.int .i64 rg,.slice A4 ap.length c4,.slice none 0 0] 261)) from .inl ⟨hb,_,_,_,rfl,HI.out,fun j hj=>hj.1,HW4.out⟩);go_wp2_with fail;exact bodyPost_ret (v:=.tuple #[.pointer (some ⟨w3.heap.size,0,none⟩),.nilIface]) (by simp [results,Tryz.results90,go_sem]) rfl (by have h9:=HR.out;rw [hln] at h9;exact h9)
 ·
  have HBR:=qH (show headB rg ap=true by unfold headB;simp;omega);go_wp2_with fail
  go_loopw [6,8,30] (fun b _ k wr=>∃ i:Nat,i≤n∧k=.int .i64 i∧b=.bool (headB rg ap || (ap.take i).any numB)∧Below w.heap.size w wr) (fun _ _ k _=>n-(intOf k).toNat)
  case atStart=>exact ⟨0,by omega,rfl,by rw [HBR.out];first|rfl|(simp;omega),HB1.out⟩
  case round =>
   obtain ⟨i,him,rfl,rfl,hbr⟩:=hrel
   by_cases hlt:i<n
   ·obtain ⟨b0,off,rfl,hbl⟩:=HA.out.at_some (by omega)
    have c1:=(HA.out.below hbr).cell hlt;have hsz:=hbr.size;have hbl2:b0<wr.heap.size:=by omega
    have hnx:(ap.take (i+1)).any numB=((ap.take i).any numB || numB (ap.getD i 0)):=by
     rw [List.take_add_one,List.any_append,List.getD_eq_getElem?_getD,List.getElem?_eq_getElem (by omega)];simp
    generalize ap.getD i 0=z at *;have HNX:=qH hnx;have HBW:=qH hbr;clear hnx hbr
    cases hb:(headB rg ap || (ap.take i).any numB) with
    | true =>
     go_wp2_with fail;go_roundw
     case rel=>exact ⟨i+1,by omega,by go_num,by rw [HNX.out,←Bool.or_assoc,hb];rfl,HBW.out⟩
     case measure=>(simp [intOf];try omega)
    | false =>
     by_cases hz:z<0
     ·go_wp2_with fail
      go_roundw
      case rel=>exact ⟨i+1,by omega,by go_num,by rw [HNX.out,←Bool.or_assoc,hb];simp [numB,hz],HBW.out⟩
      case measure=>(simp [intOf];try omega)
     ·go_wp2_with fail
      go_roundw
      case rel=>exact ⟨i+1,by omega,by go_num,by rw [HNX.out,←Bool.or_assoc,hb];simp [numB,hz],HBW.out⟩
      case measure=>(simp [intOf];try omega)
   ·obtain rfl:i=n:=by omega
    have htk:ap.take i=ap:=List.take_of_length_le (by have:=HA.out.1;omega);rw [htk];have HBW:=qH hbr;clear hbr htk
    cases hb:(headB rg ap || ap.any numB) with
    | true =>
     go_wp2_with fail;refine (err.at_any _ _ _ _).mono ?_;rintro e w3 ⟨v3,rfl,he3,hn3,hb3,hf3⟩;have HE:=qH he3;have HB3:=qH (below_step HBW.out hb3);clear he3 hb3 hf3;obtain ⟨ge,rfl⟩:=HE.out.form;have HR:=qH (show NewR rg ap w (.returned (.tuple #[.pointer none,.iface 121 (.pointer (some ⟨ge,0,none⟩))])) w3 from .inr ⟨hb,_,rfl,HE.out,hn3,HB3.out⟩);clear hn3;go_wp2;exact bodyPost_ret (v:=.tuple #[.pointer none,.iface 121 (.pointer (some ⟨ge,0,none⟩))]) (by simp [results,Tryz.results90,go_sem]) rfl HR.out
    | false =>
     exfalso;rw [HBR.out] at hb
     cases hb
end dep
namespace regn
open Go Go.RowKit base err lease fold monoj rowe
def nil4:Array Value:=#[.nilIface,.nilIface,.nilIface,.nilIface]
def LB (w:World) (l:Nat):Prop:=Blk w l 198 nil4
theorem idx4 (k:Nat) (hk:k<4) (w:World):(Instr.index 198 (.agg nil4) (.int .i64 k)).run Tryz.prog w=.ok .nilIface w:=by
 match k,hk with
 | 0,_|1,_|2,_|3,_=>unfold nil4;go_simp;first|done|rfl
 | k+4,h=>exact absurd h (by omega)
section
variable {w:World}
structure Pre (w:World) (r f:Nat) (R:Rg) (x:Fo) (ap:List Int) (L L2:List wire.Wr) (key gs gt:Nat) (Sf:Nat→Prop):Prop where
 est:x.st=.pointer (some ⟨gs,0,none⟩)
 etb:x.tab=.pointer (some ⟨gt,0,none⟩)
 reg:RegB w r R
 fo:FoldB w f x
 ne:f≠r
 i1:1≤R.id
 i2:R.id≤R.n
 i3:R.n≤16
 c1:0≤x.clock
 c2:x.clock≤1099511627776
 m1:1≤R.m.size
 m2:R.m.size≤64
 rap:w.ownsRow 0 3 1 x.app ap.length (vec.enc ap)
 rin:∀ i,x.app.ownBlock=some i→Sf i
 apm:ap.length≤16
 apg:(dep.headB R.id ap || ap.any dep.numB)=false
 rfd:wire.OW w Sf 0 x.feed L
 nr:¬ Sf r
 small:∀ i,Sf i→i<w.heap.size
 new:feed.newL R.id R.n x.base L=some L2
 last:((x.base.toNat+L2.length:Nat):Int)=vec.atV ap R.id
 rky:x.key=key
 k2:key≤1099511627776
def LoadR (r f:Nat) (R:Rg) (x:Fo) (ap:List Int) (L2:List wire.Wr) (key gs gt:Nat) (w:World) (e:Ending) (w':World):Prop :=
 e=.returned .nilIface∧∃ gc gi gf gr va,∃ Si Sq:Nat→Prop,RegB w' r { R with st:=.pointer (some ⟨gs,0,none⟩),ep:=.pointer (some ⟨gt,0,none⟩),made:=x.made,ck:=.pointer (some ⟨gc,0,none⟩),ib:=.pointer (some ⟨gi,0,none⟩),fd:=.pointer (some ⟨gf,0,none⟩),rn:=.pointer (some ⟨gr,0,none⟩) }∧FoldB w' f x ∧
  clock.Clk w' gc x.clock R.id∧dep.InF w' Si gi R.id ap [] va (.slice none 0 0)∧feed.FeedS w' Sq gf R.id.toNat R.n.toNat x.base.toNat L2 (List.replicate R.n.toNat x.base)∧ringw.RingB w' gr R.m key ∧
  Keeps (· = r) w w'∧∃ a1 a2,w.heap.size≤gc∧gc<a1∧(∀ i,Si i→a1≤i∧i<a2)∧(∀ i,Sq i→a2≤i∧i<gr)
theorem load_w (r f:Nat) (R:Rg) (x:Fo) (ap:List Int) (L L2:List wire.Wr) (key gs gt:Nat) (Sf:Nat→Prop) (w:World) (h:Pre w r f R x ap L L2 key gs gt Sf) :
  Calls Tryz.prog 36 #[.pointer (some ⟨r,0,none⟩),.pointer (some ⟨f,0,none⟩)] w (LoadR r f R x ap L2 key gs gt w):=by
 have HP:=qH h;have hne:=h.ne;have hrl:=h.reg.lt;have hfl:=h.fo.lt;have F9:w.cell? ⟨f,9,none⟩=some x.st:=h.fo.cell 9;have F10:w.cell? ⟨f,10,none⟩=some x.tab:=h.fo.cell 10;have F3:w.cell? ⟨f,3,none⟩=some (.int .i64 x.made):=h.fo.cell 3;have r6:=h.reg.c6;have r8:=h.reg.c8;have r11:=h.reg.c11;have z6:=h.reg.frozen 6;have z8:=h.reg.frozen 8;have z11:=h.reg.frozen 11;clear h;go_enter Tryz.func36,Tryz.ntmps36;go_wp2_with fail;have hb1:Below w.heap.size w (w.alloc (.cells #[.nilIface,.nilIface,.nilIface,.nilIface] 198)):=below_new _ _;have HL1:=qH (show LB (w.alloc (.cells #[.nilIface,.nilIface,.nilIface,.nilIface] 198)) w.heap.size from Blk.new _ _ _);have HR1:=qH (show RegB _ r R from HP.out.reg.below hb1 hrl);have HF1:=qH (show FoldB _ f x from HP.out.fo.below hb1 hfl);have HB1:=qH hb1;have hl:w.heap.size=w.heap.size:=rfl;generalize hlq:w.heap.size=l at HL1 hl ⊢;clear hb1 F9 F10 F3 r6 r8 r11 z6 z8 z11;generalize w.alloc (.cells #[.nilIface,.nilIface,.nilIface,.nilIface] 198)=w1 at *;have F9:w1.cell? ⟨f,9,none⟩=some (.pointer (some ⟨gs,0,none⟩)):=by rw [←HP.out.est];exact HF1.out.cell 9
 have F10:w1.cell? ⟨f,10,none⟩=some (.pointer (some ⟨gt,0,none⟩)):=by rw [←HP.out.etb];exact HF1.out.cell 10
 have F3:w1.cell? ⟨f,3,none⟩=some (.int .i64 x.made):=HF1.out.cell 3;have r6:=HR1.out.c6;have r8:=HR1.out.c8;have r11:=HR1.out.c11;have z6:=HR1.out.frozen 6;have z8:=HR1.out.frozen 8;have z11:=HR1.out.frozen 11;have hr1:=HR1.out.lt;have hf1:=HF1.out.lt;refine wp_region_monoJ (fun i=>i=r) [18,21,24] (by kernel_rfl) ?_
 iterate 6
  first|refine qJ 0 (v:=?_) ?_ ?_|refine qJ 1 (v:=?_) ?_ ?_|refine qJ 2 (v:=?_) ?_ ?_|refine qJ 3 (v:=?_) ?_ ?_|refine qJ 4 (v:=?_) ?_ ?_|refine qJ 5 (v:=?_) ?_ ?_
  rotate_left
  ·(intro W hSw;(first|(have hcW:=hSw.cells;try simp only [qSd] at hcW)|skip);go_simp <;> rfl)
  try simp only [qPA]
 refine wpMonoJ_read' 6 [16,17,18,19,20,21,22,23,24] (v:=?_) rfl (by kernel_rfl) (by kernel_rfl) (by kernel_rfl) (by rfl) (by kernel_rfl) (by rfl) (fun _ _ _ h=>h) (by rfl) ?_ ?_;rotate_left
 ·(intro W hSw;(first|(have hcW:=hSw.cells;try simp only [qSd] at hcW)|skip);go_simp <;> rfl)
 try simp only [qPA]
 iterate 3
  first|refine qJ 7 (v:=?_) ?_ ?_|refine qJ 8 (v:=?_) ?_ ?_|refine qJ 9 (v:=?_) ?_ ?_
  rotate_left
  ·(intro W hSw;(first|(have hcW:=hSw.cells;try simp only [qSd] at hcW)|skip);go_simp <;> rfl)
  try simp only [qPA]
 refine wpMonoJ_read' 10 [16,17,18,19,20,21,22,23,24] (v:=?_) rfl (by kernel_rfl) (by kernel_rfl) (by kernel_rfl) (by rfl) (by kernel_rfl) (by rfl) (fun _ _ _ h=>h) (by rfl) ?_ ?_;rotate_left
 ·(intro W hSw;(first|(have hcW:=hSw.cells;try simp only [qSd] at hcW)|skip);go_simp <;> rfl)
 try simp only [qPA]
 iterate 4
  first|refine qJ 11 (v:=?_) ?_ ?_|refine qJ 12 (v:=?_) ?_ ?_|refine qJ 13 (v:=?_) ?_ ?_|refine qJ 14 (v:=?_) ?_ ?_
  rotate_left
  ·(intro W hSw;(first|(have hcW:=hSw.cells;try simp only [qSd] at hcW)|skip);go_simp <;> rfl)
  try simp only [qPA]
 refine wpMonoJ_read' 15 [16,17,18,19,20,21,22,23,24] (v:=?_) rfl (by kernel_rfl) (by kernel_rfl) (by kernel_rfl) (by rfl) (by kernel_rfl) (by rfl) (fun _ _ _ h=>h) (by rfl) ?_ ?_;rotate_left
 ·(intro W hSw;(first|(have hcW:=hSw.cells;try simp only [qSd] at hcW)|skip);go_simp <;> rfl)
 try simp only [qPA]
 iterate 2
  first|refine qJ 16 (v:=?_) ?_ ?_|refine qJ 17 (v:=?_) ?_ ?_
  rotate_left
  ·(intro W hSw;(first|(have hcW:=hSw.cells;try simp only [qSd] at hcW)|skip);go_simp <;> rfl)
  try simp only [qPA]
 refine wpMonoJ_one' 18 (by kernel_rfl) rfl (by rfl) (fun K hK=>?_)
 go_simp
 refine hK.out _ _ ?_ ?_
 ·exact moved (Keeps.set1 _ _ _ _) (by decide)
 clear hK K
 try simp only [Act.put]
 iterate 2
  first|refine qJ 19 (v:=?_) ?_ ?_|refine qJ 20 (v:=?_) ?_ ?_
  rotate_left
  ·(intro W hSw;(first|(have hcW:=hSw.cells;try simp only [qSd] at hcW)|skip);go_simp <;> rfl)
  try simp only [qPA]
 refine wpMonoJ_one' 21 (by kernel_rfl) rfl (by rfl) (fun K hK=>?_)
 go_simp
 refine hK.out _ _ ?_ ?_
 ·exact moved (Keeps.set1 _ _ _ _) (by decide)
 clear hK K
 try simp only [Act.put]
 iterate 2
  first|refine qJ 22 (v:=?_) ?_ ?_|refine qJ 23 (v:=?_) ?_ ?_
  rotate_left
  ·(intro W hSw;(first|(have hcW:=hSw.cells;try simp only [qSd] at hcW)|skip);go_simp <;> rfl)
  try simp only [qPA]
 refine wpMonoJ_one' 24 (by kernel_rfl) rfl (by rfl) (fun K hK=>?_)
 go_simp
 refine hK.out _ _ ?_ ?_
 ·exact moved (Keeps.set1 _ _ _ _) (by decide)
 clear hK K
 try simp only [Act.put]
 refine wpMonoJ_done (by kernel_rfl) ?_ _
 have hk2:Keeps (fun i=>i=r) w1 (((w1.setCell ⟨r,6,none⟩ (.pointer (some ⟨gs,0,none⟩))).setCell ⟨r,8,none⟩ (.pointer (some ⟨gt,0,none⟩))).setCell ⟨r,11,none⟩ (.int .i64 x.made)).drew :=
  (((Keeps.set1 w1 r 6 (.pointer (some ⟨gs,0,none⟩))).trans (Keeps.set1 _ r 8 (.pointer (some ⟨gt,0,none⟩)))).trans (Keeps.set1 _ r 11 (.int .i64 x.made))).trans Keeps.drew
 have HR2:=qH (show RegB (((w1.setCell ⟨r,6,none⟩ (.pointer (some ⟨gs,0,none⟩))).setCell ⟨r,8,none⟩ (.pointer (some ⟨gt,0,none⟩))).setCell ⟨r,11,none⟩ (.int .i64 x.made)).drew r { R with st:=.pointer (some ⟨gs,0,none⟩),ep:=.pointer (some ⟨gt,0,none⟩),made:=x.made } from
  (((HR1.out.s6 (.pointer (some ⟨gs,0,none⟩))).s8 (.pointer (some ⟨gt,0,none⟩))).s11 x.made).drew)
 have hrl1:r<l:=by omega
 have hfl1:f<l:=by omega
 have HF2:=qH (show FoldB _ f x from HF1.out.keeps hk2 (fun e=>hne e));have HL2:=qH (show LB _ l from HL1.out.keeps hk2 (fun e=>by have e:l=r:=e;omega));have HK2:=qH hk2;have hs2:=hk2.size;clear hk2 F9 F10 F3 r6 r8 r11 z6 z8 z11;generalize (((w1.setCell ⟨r,6,none⟩ (.pointer (some ⟨gs,0,none⟩))).setCell ⟨r,8,none⟩ (.pointer (some ⟨gt,0,none⟩))).setCell ⟨r,11,none⟩ (.int .i64 x.made)).drew=w2 at *;have y0:w2.cell? ⟨r,0,none⟩=some (.int .i64 R.id):=HR2.out.c0;have F1:w2.cell? ⟨f,1,none⟩=some (.int .i64 x.clock):=HF2.out.cell 1;have hr2:=HR2.out.lt;have hf2:=HF2.out.lt;have hl2:=HL2.out.lt;go_wp2_with fail;refine wp_region_monoJ (fun i=>i=r∨i=l) [17,19] (by kernel_rfl) ?_
 iterate 5
  first|refine qJ 0 (v:=?_) ?_ ?_|refine qJ 1 (v:=?_) ?_ ?_|refine qJ 2 (v:=?_) ?_ ?_|refine qJ 3 (v:=?_) ?_ ?_|refine qJ 4 (v:=?_) ?_ ?_
  rotate_left
  ·(intro W hSw;(first|(have hcW:=hSw.cells;try simp only [qSd] at hcW)|skip);go_simp <;> rfl)
  try simp only [qPA]
 refine wpMonoJ_read' 5 [11,12,13,14,15,16,17,18,19] (v:=?_) rfl (by kernel_rfl) (by kernel_rfl) (by kernel_rfl) (by rfl) (by kernel_rfl) (by rfl) (fun _ _ _ h=>h) (by rfl) ?_ ?_;rotate_left
 ·(intro W hSw;(first|(have hcW:=hSw.cells;try simp only [qSd] at hcW)|skip);go_simp <;> rfl)
 try simp only [qPA]
 iterate 4
  first|refine qJ 6 (v:=?_) ?_ ?_|refine qJ 7 (v:=?_) ?_ ?_|refine qJ 8 (v:=?_) ?_ ?_|refine qJ 9 (v:=?_) ?_ ?_
  rotate_left
  ·(intro W hSw;(first|(have hcW:=hSw.cells;try simp only [qSd] at hcW)|skip);go_simp <;> rfl)
  try simp only [qPA]
 refine wpMonoJ_read' 10 [11,12,13,14,15,16,17,18,19] (v:=?_) rfl (by kernel_rfl) (by kernel_rfl) (by kernel_rfl) (by rfl) (by kernel_rfl) (by rfl) (fun _ _ _ h=>h) (by rfl) ?_ ?_;rotate_left
 ·(intro W hSw;(first|(have hcW:=hSw.cells;try simp only [qSd] at hcW)|skip);go_simp <;> rfl)
 try simp only [qPA]
 refine wpMonoJ_one' 11 (by kernel_rfl) rfl (by rfl) (fun K hK=>?_)
 go_simp
 refine (clock.new_yes R.id x.clock _ (by have:=HP.out.i1;omega) (by have:=HP.out.i2;have:=HP.out.i3;omega) HP.out.c1 HP.out.c2).mono ?_;rintro e w3 ⟨rfl,hck,hb3⟩;have HC3:=qH hck;have HB3:=qH hb3;have HR3:=qH (show RegB w3 r _ from HR2.out.drew.below hb3 (by simpa using hr2));have HF3:=qH (show FoldB w3 f x from HF2.out.drew.below hb3 (by simpa using hf2));have HL3:=qH (show LB w3 l from HL2.out.drew.below hb3 (by simpa using hl2));have v4:=HR3.out.c4;have z4:=HR3.out.frozen 4;have v0:w3.cell? ⟨l,0,none⟩=some .nilIface:=HL3.out.cell 0;have z0:=HL3.out.frozen 0;clear hck hb3;refine hK.out _ _ ?_ ?_
 ·exact .of_below HB3.out
 clear hK K
 try simp only [qPA]
 iterate 5
  first|refine qJ 12 (v:=?_) ?_ ?_|refine qJ 13 (v:=?_) ?_ ?_|refine qJ 14 (v:=?_) ?_ ?_|refine qJ 15 (v:=?_) ?_ ?_|refine qJ 16 (v:=?_) ?_ ?_
  rotate_left
  ·(intro W hSw;(first|(have hcW:=hSw.cells;try simp only [qSd] at hcW)|skip);go_simp <;> rfl)
  try simp only [qPA]
 refine wpMonoJ_one' 17 (by kernel_rfl) rfl (by rfl) (fun K hK=>?_)
 go_simp
 refine hK.out _ _ ?_ ?_
 ·exact moved ((Keeps.set1 _ _ _ _).more fun _ _ h=>.inl h) (by decide)
 clear hK K
 try simp only [Act.put]
 refine qJ 18 (v:=?_) ?_ ?_;rotate_left
 ·(intro W hSw;(first|(have hcW:=hSw.cells;try simp only [qSd] at hcW)|skip);go_simp <;> rfl)
 try simp only [qPA]
 refine wpMonoJ_one' 19 (by kernel_rfl) rfl (by rfl) (fun K hK=>?_)
 go_simp
 refine hK.out _ _ ?_ ?_
 ·exact moved ((Keeps.set1 _ _ _ _).more fun _ _ h=>.inr h) (by decide)
 clear hK K
 try simp only [Act.put]
 refine wpMonoJ_done (by kernel_rfl) ?_ _;have hrl3:r≠l:=by omega
 have hfl3:f≠l:=by omega
 have HK3:=qH (Keeps.drew.trans (Keeps.of_below (X:=nobody) HB3.out));obtain ⟨gc,hgc⟩:∃ gc,w2.heap.size=gc:=⟨_,rfl⟩;have hgc2:w2.drew.heap.size=gc:=hgc;rw [hgc2] at HC3;rw [hgc];have hs3:=HK3.out.size
 have hk4:Keeps (fun i=>i=r∨i=l) w3 ((w3.setCell ⟨r,4,none⟩ (.pointer (some ⟨gc,0,none⟩))).setCell ⟨l,0,none⟩ .nilIface) :=
  ((Keeps.set1 _ _ _ _).more fun _ _ h=>.inl h).trans ((Keeps.set1 _ _ _ _).more fun _ _ h=>.inr h)
 have HR4:=qH (show RegB ((w3.setCell ⟨r,4,none⟩ (.pointer (some ⟨gc,0,none⟩))).setCell ⟨l,0,none⟩ .nilIface) r _ from Blk.far (HR3.out.s4 (.pointer (some ⟨gc,0,none⟩))) (p:=⟨l,0,none⟩) (by simp;omega) _);have HF4:=qH (show FoldB _ f x from HF3.out.keeps hk4 (fun e=>by rcases e with e|e <;> omega));have HL4:=qH (show LB ((w3.setCell ⟨r,4,none⟩ (.pointer (some ⟨gc,0,none⟩))).setCell ⟨l,0,none⟩ .nilIface) l from Blk.set_ (Blk.far HL3.out (p:=⟨r,4,none⟩) (by simp;omega) _) 0 .nilIface);have HK4:=qH hk4;have hs4:=hk4.size;clear hk4;clear y0 F1 v4 z4 v0 z0;generalize (w3.setCell ⟨r,4,none⟩ (.pointer (some ⟨gc,0,none⟩))).setCell ⟨l,0,none⟩ .nilIface=w4 at *;have HKw4:=qH (show Keeps (fun i=>i=r∨i=l) w w4 from (((Keeps.of_below (X:=nobody) HB1.out).more fun _ _ h=>h.elim).trans (HK2.out.more fun _ _ h=>.inl h)).trans ((HK3.out.more fun _ _ h=>h.elim).trans HK4.out))
 have HA4:=qH (show w4.ownsRow 0 3 1 x.app ap.length (vec.enc ap) from dep.own_keeps HP.out.rap HKw4.out (fun i hi e=>by
  rcases e with rfl|rfl
  ·exact HP.out.nr (HP.out.rin _ hi)
  ·have:=HP.out.small _ (HP.out.rin _ hi);omega))
 obtain ⟨Aa,ca,hxa,hva⟩:=vec.Vec.of_own HA4.out;have HV4:=qH hva;have y0:w4.cell? ⟨r,0,none⟩=some (.int .i64 R.id):=HR4.out.c0;have F2:w4.cell? ⟨f,2,none⟩=some (.slice Aa ap.length ca):=by rw [←hxa];exact HF4.out.cell 2
 have HXA:=qH hxa;have hr4:=HR4.out.lt;have hf4:=HF4.out.lt;have hl4:=HL4.out.lt;clear hva hxa;go_wp2_with fail;refine wp_region_monoJ (fun i=>i=r∨i=l) [17,19] (by kernel_rfl) ?_
 iterate 5
  first|refine qJ 0 (v:=?_) ?_ ?_|refine qJ 1 (v:=?_) ?_ ?_|refine qJ 2 (v:=?_) ?_ ?_|refine qJ 3 (v:=?_) ?_ ?_|refine qJ 4 (v:=?_) ?_ ?_
  rotate_left
  ·(intro W hSw;(first|(have hcW:=hSw.cells;try simp only [qSd] at hcW)|skip);go_simp <;> rfl)
  try simp only [qPA]
 refine wpMonoJ_read' 5 [11,12,13,14,15,16,17,18,19] (v:=?_) rfl (by kernel_rfl) (by kernel_rfl) (by kernel_rfl) (by rfl) (by kernel_rfl) (by rfl) (fun _ _ _ h=>h) (by rfl) ?_ ?_;rotate_left
 ·(intro W hSw;(first|(have hcW:=hSw.cells;try simp only [qSd] at hcW)|skip);go_simp <;> rfl)
 try simp only [qPA]
 iterate 4
  first|refine qJ 6 (v:=?_) ?_ ?_|refine qJ 7 (v:=?_) ?_ ?_|refine qJ 8 (v:=?_) ?_ ?_|refine qJ 9 (v:=?_) ?_ ?_
  rotate_left
  ·(intro W hSw;(first|(have hcW:=hSw.cells;try simp only [qSd] at hcW)|skip);go_simp <;> rfl)
  try simp only [qPA]
 refine wpMonoJ_read' 10 [11,12,13,14,15,16,17,18,19] (v:=?_) rfl (by kernel_rfl) (by kernel_rfl) (by kernel_rfl) (by rfl) (by kernel_rfl) (by rfl) (fun _ _ _ h=>h) (by rfl) ?_ ?_;rotate_left
 ·(intro W hSw;(first|(have hcW:=hSw.cells;try simp only [qSd] at hcW)|skip);go_simp <;> rfl)
 try simp only [qPA]
 refine wpMonoJ_one' 11 (by kernel_rfl) rfl (by rfl) (fun K hK=>?_)
 go_simp
 refine (dep.new_any R.id Aa ap.length ca ap w4.drew (show vec.Vec w4.drew w4.drew.heap.size Aa ap.length ca ap from HV4.out) (by have:=HP.out.apm;omega)).mono ?_;rintro e w5 h5
 rcases h5 with ⟨_,gi,Si,va,rfl,hib,hsi,hb5⟩|⟨hbad,_⟩
 rotate_left
 ·exact absurd (hbad.symm.trans HP.out.apg) (by decide)
 have HI5:=qH hib;have HB5:=qH hb5;have HS5:=qH hsi;have HR5:=qH (show RegB w5 r _ from HR4.out.drew.below hb5 (by simpa using hr4));have HF5:=qH (show FoldB w5 f x from HF4.out.drew.below hb5 (by simpa using hf4));have HL5:=qH (show LB w5 l from HL4.out.drew.below hb5 (by simpa using hl4));have v5:=HR5.out.c5;have z5:=HR5.out.frozen 5;have v1:w5.cell? ⟨l,1,none⟩=some .nilIface:=HL5.out.cell 1;have z1:=HL5.out.frozen 1;clear hib hb5 hsi;refine hK.out _ _ ?_ ?_
 ·exact .of_below HB5.out
 clear hK K
 try simp only [qPA]
 iterate 5
  first|refine qJ 12 (v:=?_) ?_ ?_|refine qJ 13 (v:=?_) ?_ ?_|refine qJ 14 (v:=?_) ?_ ?_|refine qJ 15 (v:=?_) ?_ ?_|refine qJ 16 (v:=?_) ?_ ?_
  rotate_left
  ·(intro W hSw;(first|(have hcW:=hSw.cells;try simp only [qSd] at hcW)|skip);go_simp <;> rfl)
  try simp only [qPA]
 refine wpMonoJ_one' 17 (by kernel_rfl) rfl (by rfl) (fun K hK=>?_)
 go_simp
 refine hK.out _ _ ?_ ?_
 ·exact moved ((Keeps.set1 _ _ _ _).more fun _ _ h=>.inl h) (by decide)
 clear hK K
 try simp only [Act.put]
 refine qJ 18 (v:=?_) ?_ ?_;rotate_left
 ·(intro W hSw;(first|(have hcW:=hSw.cells;try simp only [qSd] at hcW)|skip);go_simp <;> rfl)
 try simp only [qPA]
 refine wpMonoJ_one' 19 (by kernel_rfl) rfl (by rfl) (fun K hK=>?_)
 go_simp
 refine hK.out _ _ ?_ ?_
 ·exact moved ((Keeps.set1 _ _ _ _).more fun _ _ h=>.inr h) (by decide)
 clear hK K
 try simp only [Act.put]
 refine wpMonoJ_done (by kernel_rfl) ?_ _;have HK5:=qH (Keeps.drew.trans (Keeps.of_below (X:=nobody) HB5.out));have hs5:=HK5.out.size
 have hk6:Keeps (fun i=>i=r∨i=l) w5 ((w5.setCell ⟨r,5,none⟩ (.pointer (some ⟨gi,0,none⟩))).setCell ⟨l,1,none⟩ .nilIface) :=
  ((Keeps.set1 _ _ _ _).more fun _ _ h=>.inl h).trans ((Keeps.set1 _ _ _ _).more fun _ _ h=>.inr h)
 have HR6:=qH (show RegB ((w5.setCell ⟨r,5,none⟩ (.pointer (some ⟨gi,0,none⟩))).setCell ⟨l,1,none⟩ .nilIface) r _ from Blk.far (HR5.out.s5 (.pointer (some ⟨gi,0,none⟩))) (p:=⟨l,1,none⟩) (by simp;omega) _);have HF6:=qH (show FoldB _ f x from HF5.out.keeps hk6 (fun e=>by rcases e with e|e <;> omega));have HL6:=qH (show LB ((w5.setCell ⟨r,5,none⟩ (.pointer (some ⟨gi,0,none⟩))).setCell ⟨l,1,none⟩ .nilIface) l from Blk.set_ (Blk.far HL5.out (p:=⟨r,5,none⟩) (by simp;omega) _) 1 .nilIface);have HK6:=qH hk6;have hs6:=hk6.size;clear hk6;clear y0 F2 v5 z5 v1 z1;generalize (w5.setCell ⟨r,5,none⟩ (.pointer (some ⟨gi,0,none⟩))).setCell ⟨l,1,none⟩ .nilIface=w6 at *;have HKw6:=qH (show Keeps (fun i=>i=r∨i=l) w w6 from HKw4.out.trans ((HK5.out.more fun _ _ h=>h.elim).trans HK6.out))
 have HW6:=qH (show wire.OW w6 Sf 0 x.feed L from HP.out.rfd.keeps HKw6.out (fun i hi e=>by
  rcases e with rfl|rfl
  ·exact HP.out.nr hi
  ·have:=HP.out.small _ hi;omega))
 have y0:w6.cell? ⟨r,0,none⟩=some (.int .i64 R.id):=HR6.out.c0;have y1:w6.cell? ⟨r,1,none⟩=some (.int .i64 R.n):=HR6.out.c1;have F5:w6.cell? ⟨f,5,none⟩=some (.int .i64 x.base):=HF6.out.cell 5;obtain ⟨Af,cf,hxf⟩:=ownsRow_slice HW6.out.row;have F6:w6.cell? ⟨f,6,none⟩=some (.slice Af L.length cf):=by rw [←hxf];exact HF6.out.cell 6
 have HXF:=qH hxf;have hr6:=HR6.out.lt;have hf6:=HF6.out.lt;have hl6:=HL6.out.lt;clear hxf;go_wp2_with fail;refine wp_region_monoJ (fun i=>i=r∨i=l) [27,29] (by kernel_rfl) ?_
 iterate 5
  first|refine qJ 0 (v:=?_) ?_ ?_|refine qJ 1 (v:=?_) ?_ ?_|refine qJ 2 (v:=?_) ?_ ?_|refine qJ 3 (v:=?_) ?_ ?_|refine qJ 4 (v:=?_) ?_ ?_
  rotate_left
  ·(intro W hSw;(first|(have hcW:=hSw.cells;try simp only [qSd] at hcW)|skip);go_simp <;> rfl)
  try simp only [qPA]
 refine wpMonoJ_read' 5 [21,22,23,24,25,26,27,28,29] (v:=?_) rfl (by kernel_rfl) (by kernel_rfl) (by kernel_rfl) (by rfl) (by kernel_rfl) (by rfl) (fun _ _ _ h=>h) (by rfl) ?_ ?_;rotate_left
 ·(intro W hSw;(first|(have hcW:=hSw.cells;try simp only [qSd] at hcW)|skip);go_simp <;> rfl)
 try simp only [qPA]
 iterate 4
  first|refine qJ 6 (v:=?_) ?_ ?_|refine qJ 7 (v:=?_) ?_ ?_|refine qJ 8 (v:=?_) ?_ ?_|refine qJ 9 (v:=?_) ?_ ?_
  rotate_left
  ·(intro W hSw;(first|(have hcW:=hSw.cells;try simp only [qSd] at hcW)|skip);go_simp <;> rfl)
  try simp only [qPA]
 refine wpMonoJ_read' 10 [21,22,23,24,25,26,27,28,29] (v:=?_) rfl (by kernel_rfl) (by kernel_rfl) (by kernel_rfl) (by rfl) (by kernel_rfl) (by rfl) (fun _ _ _ h=>h) (by rfl) ?_ ?_;rotate_left
 ·(intro W hSw;(first|(have hcW:=hSw.cells;try simp only [qSd] at hcW)|skip);go_simp <;> rfl)
 try simp only [qPA]
 iterate 4
  first|refine qJ 11 (v:=?_) ?_ ?_|refine qJ 12 (v:=?_) ?_ ?_|refine qJ 13 (v:=?_) ?_ ?_|refine qJ 14 (v:=?_) ?_ ?_
  rotate_left
  ·(intro W hSw;(first|(have hcW:=hSw.cells;try simp only [qSd] at hcW)|skip);go_simp <;> rfl)
  try simp only [qPA]
 refine wpMonoJ_read' 15 [21,22,23,24,25,26,27,28,29] (v:=?_) rfl (by kernel_rfl) (by kernel_rfl) (by kernel_rfl) (by rfl) (by kernel_rfl) (by rfl) (fun _ _ _ h=>h) (by rfl) ?_ ?_;rotate_left
 ·(intro W hSw;(first|(have hcW:=hSw.cells;try simp only [qSd] at hcW)|skip);go_simp <;> rfl)
 try simp only [qPA]
 iterate 4
  first|refine qJ 16 (v:=?_) ?_ ?_|refine qJ 17 (v:=?_) ?_ ?_|refine qJ 18 (v:=?_) ?_ ?_|refine qJ 19 (v:=?_) ?_ ?_
  rotate_left
  ·(intro W hSw;(first|(have hcW:=hSw.cells;try simp only [qSd] at hcW)|skip);go_simp <;> rfl)
  try simp only [qPA]
 refine wpMonoJ_read' 20 [21,22,23,24,25,26,27,28,29] (v:=?_) rfl (by kernel_rfl) (by kernel_rfl) (by kernel_rfl) (by rfl) (by kernel_rfl) (by rfl) (fun _ _ _ h=>h) (by rfl) ?_ ?_;rotate_left
 ·(intro W hSw;(first|(have hcW:=hSw.cells;try simp only [qSd] at hcW)|skip);go_simp <;> rfl)
 try simp only [qPA]
 refine wpMonoJ_one' 21 (by kernel_rfl) rfl (by rfl) (fun K hK=>?_)
 go_simp
 refine (feed.new_any R.id R.n x.base (.slice Af L.length cf) L w6.drew (by rw [←HXF.out];exact HW6.out.rw)).mono ?_;rintro e w7 h7
 rcases h7 with ⟨L3,hL3,gf,Sq,rfl,hfd,hsf,hb7⟩|⟨hbad,_⟩
 rotate_left
 ·exact absurd (hbad.symm.trans HP.out.new) (by simp)
 obtain rfl:L3=L2:=by simpa using hL3.symm.trans HP.out.new
 have HD7:=qH hfd;have HB7:=qH hb7;have HS7:=qH hsf;have HR7:=qH (show RegB w7 r _ from HR6.out.drew.below hb7 (by simpa using hr6));have HF7:=qH (show FoldB w7 f x from HF6.out.drew.below hb7 (by simpa using hf6));have HL7:=qH (show LB w7 l from HL6.out.drew.below hb7 (by simpa using hl6));have v7:=HR7.out.c7;have z7:=HR7.out.frozen 7;have v2:w7.cell? ⟨l,2,none⟩=some .nilIface:=HL7.out.cell 2;have z2:=HL7.out.frozen 2;clear hfd hb7 hsf;refine hK.out _ _ ?_ ?_
 ·exact .of_below HB7.out
 clear hK K
 try simp only [qPA]
 iterate 5
  first|refine qJ 22 (v:=?_) ?_ ?_|refine qJ 23 (v:=?_) ?_ ?_|refine qJ 24 (v:=?_) ?_ ?_|refine qJ 25 (v:=?_) ?_ ?_|refine qJ 26 (v:=?_) ?_ ?_
  rotate_left
  ·(intro W hSw;(first|(have hcW:=hSw.cells;try simp only [qSd] at hcW)|skip);go_simp <;> rfl)
  try simp only [qPA]
 refine wpMonoJ_one' 27 (by kernel_rfl) rfl (by rfl) (fun K hK=>?_)
 go_simp
 refine hK.out _ _ ?_ ?_
 ·exact moved ((Keeps.set1 _ _ _ _).more fun _ _ h=>.inl h) (by decide)
 clear hK K
 try simp only [Act.put]
 refine qJ 28 (v:=?_) ?_ ?_;rotate_left
 ·(intro W hSw;(first|(have hcW:=hSw.cells;try simp only [qSd] at hcW)|skip);go_simp <;> rfl)
 try simp only [qPA]
 refine wpMonoJ_one' 29 (by kernel_rfl) rfl (by rfl) (fun K hK=>?_)
 go_simp
 refine hK.out _ _ ?_ ?_
 ·exact moved ((Keeps.set1 _ _ _ _).more fun _ _ h=>.inr h) (by decide)
 clear hK K
 try simp only [Act.put]
 refine wpMonoJ_done (by kernel_rfl) ?_ _;have HK7:=qH (Keeps.drew.trans (Keeps.of_below (X:=nobody) HB7.out));have hs7:=HK7.out.size
 have hk8:Keeps (fun i=>i=r∨i=l) w7 ((w7.setCell ⟨r,7,none⟩ (.pointer (some ⟨gf,0,none⟩))).setCell ⟨l,2,none⟩ .nilIface) :=
  ((Keeps.set1 _ _ _ _).more fun _ _ h=>.inl h).trans ((Keeps.set1 _ _ _ _).more fun _ _ h=>.inr h)
 have HR8:=qH (show RegB ((w7.setCell ⟨r,7,none⟩ (.pointer (some ⟨gf,0,none⟩))).setCell ⟨l,2,none⟩ .nilIface) r _ from Blk.far (HR7.out.s7 (.pointer (some ⟨gf,0,none⟩))) (p:=⟨l,2,none⟩) (by simp;omega) _);have HF8:=qH (show FoldB _ f x from HF7.out.keeps hk8 (fun e=>by rcases e with e|e <;> omega));have HL8:=qH (show LB ((w7.setCell ⟨r,7,none⟩ (.pointer (some ⟨gf,0,none⟩))).setCell ⟨l,2,none⟩ .nilIface) l from Blk.set_ (Blk.far HL7.out (p:=⟨r,7,none⟩) (by simp;omega) _) 2 .nilIface);have HK8:=qH hk8;have hs8:=hk8.size;clear hk8;clear y0 y1 F5 F6 v7 z7 v2 z2;generalize (w7.setCell ⟨r,7,none⟩ (.pointer (some ⟨gf,0,none⟩))).setCell ⟨l,2,none⟩ .nilIface=w8 at *;have y2:w8.cell? ⟨r,2,none⟩=some (.string R.m):=HR8.out.c2;have F4:w8.cell? ⟨f,4,none⟩=some (.int .i64 key):=by rw [←HP.out.rky];exact HF8.out.cell 4
 have hr8:=HR8.out.lt;have hf8:=HF8.out.lt;have hl8:=HL8.out.lt;go_wp2_with fail;refine wp_region_monoJ (fun i=>i=r∨i=l) [17,19] (by kernel_rfl) ?_
 iterate 5
  first|refine qJ 0 (v:=?_) ?_ ?_|refine qJ 1 (v:=?_) ?_ ?_|refine qJ 2 (v:=?_) ?_ ?_|refine qJ 3 (v:=?_) ?_ ?_|refine qJ 4 (v:=?_) ?_ ?_
  rotate_left
  ·(intro W hSw;(first|(have hcW:=hSw.cells;try simp only [qSd] at hcW)|skip);go_simp <;> rfl)
  try simp only [qPA]
 refine wpMonoJ_read' 5 [11,12,13,14,15,16,17,18,19] (v:=?_) rfl (by kernel_rfl) (by kernel_rfl) (by kernel_rfl) (by rfl) (by kernel_rfl) (by rfl) (fun _ _ _ h=>h) (by rfl) ?_ ?_;rotate_left
 ·(intro W hSw;(first|(have hcW:=hSw.cells;try simp only [qSd] at hcW)|skip);go_simp <;> rfl)
 try simp only [qPA]
 iterate 4
  first|refine qJ 6 (v:=?_) ?_ ?_|refine qJ 7 (v:=?_) ?_ ?_|refine qJ 8 (v:=?_) ?_ ?_|refine qJ 9 (v:=?_) ?_ ?_
  rotate_left
  ·(intro W hSw;(first|(have hcW:=hSw.cells;try simp only [qSd] at hcW)|skip);go_simp <;> rfl)
  try simp only [qPA]
 refine wpMonoJ_read' 10 [11,12,13,14,15,16,17,18,19] (v:=?_) rfl (by kernel_rfl) (by kernel_rfl) (by kernel_rfl) (by rfl) (by kernel_rfl) (by rfl) (fun _ _ _ h=>h) (by rfl) ?_ ?_;rotate_left
 ·(intro W hSw;(first|(have hcW:=hSw.cells;try simp only [qSd] at hcW)|skip);go_simp <;> rfl)
 try simp only [qPA]
 refine wpMonoJ_one' 11 (by kernel_rfl) rfl (by rfl) (fun K hK=>?_)
 go_simp
 refine (ringw.new_ok R.m key HP.out.m1 HP.out.m2 HP.out.k2 w8.drew).mono ?_;rintro e w9 ⟨rfl,hrg,hb9⟩;have HG9:=qH hrg;have HB9:=qH hb9;have HR9:=qH (show RegB w9 r _ from HR8.out.drew.below hb9 (by simpa using hr8));have HF9:=qH (show FoldB w9 f x from HF8.out.drew.below hb9 (by simpa using hf8));have HL9:=qH (show LB w9 l from HL8.out.drew.below hb9 (by simpa using hl8));have v9:=HR9.out.c9;have z9:=HR9.out.frozen 9;have v3:w9.cell? ⟨l,3,none⟩=some .nilIface:=HL9.out.cell 3;have z3:=HL9.out.frozen 3;clear hrg hb9;refine hK.out _ _ ?_ ?_
 ·exact .of_below HB9.out
 clear hK K
 try simp only [qPA]
 iterate 5
  first|refine qJ 12 (v:=?_) ?_ ?_|refine qJ 13 (v:=?_) ?_ ?_|refine qJ 14 (v:=?_) ?_ ?_|refine qJ 15 (v:=?_) ?_ ?_|refine qJ 16 (v:=?_) ?_ ?_
  rotate_left
  ·(intro W hSw;(first|(have hcW:=hSw.cells;try simp only [qSd] at hcW)|skip);go_simp <;> rfl)
  try simp only [qPA]
 refine wpMonoJ_one' 17 (by kernel_rfl) rfl (by rfl) (fun K hK=>?_)
 go_simp
 refine hK.out _ _ ?_ ?_
 ·exact moved ((Keeps.set1 _ _ _ _).more fun _ _ h=>.inl h) (by decide)
 clear hK K
 try simp only [Act.put]
 refine qJ 18 (v:=?_) ?_ ?_;rotate_left
 ·(intro W hSw;(first|(have hcW:=hSw.cells;try simp only [qSd] at hcW)|skip);go_simp <;> rfl)
 try simp only [qPA]
 refine wpMonoJ_one' 19 (by kernel_rfl) rfl (by rfl) (fun K hK=>?_)
 go_simp
 refine hK.out _ _ ?_ ?_
 ·exact moved ((Keeps.set1 _ _ _ _).more fun _ _ h=>.inr h) (by decide)
 clear hK K
 try simp only [Act.put]
 refine wpMonoJ_done (by kernel_rfl) ?_ _;have HK9:=qH (Keeps.drew.trans (Keeps.of_below (X:=nobody) HB9.out));have hs9:=HK9.out.size;obtain ⟨gr,hgr⟩:∃ gr,w8.heap.size=gr:=⟨_,rfl⟩;have hgr2:w8.drew.heap.size=gr:=hgr;rw [hgr2] at HG9;rw [hgr]
 have hk10:Keeps (fun i=>i=r∨i=l) w9 ((w9.setCell ⟨r,9,none⟩ (.pointer (some ⟨gr,0,none⟩))).setCell ⟨l,3,none⟩ .nilIface) :=
  ((Keeps.set1 _ _ _ _).more fun _ _ h=>.inl h).trans ((Keeps.set1 _ _ _ _).more fun _ _ h=>.inr h)
 have HR10:=qH (show RegB ((w9.setCell ⟨r,9,none⟩ (.pointer (some ⟨gr,0,none⟩))).setCell ⟨l,3,none⟩ .nilIface) r _ from Blk.far (HR9.out.s9 (.pointer (some ⟨gr,0,none⟩))) (p:=⟨l,3,none⟩) (by simp;omega) _);have HF10:=qH (show FoldB _ f x from HF9.out.keeps hk10 (fun e=>by rcases e with e|e <;> omega));have HL10:=qH (show LB ((w9.setCell ⟨r,9,none⟩ (.pointer (some ⟨gr,0,none⟩))).setCell ⟨l,3,none⟩ .nilIface) l from Blk.set_ (Blk.far HL9.out (p:=⟨r,9,none⟩) (by simp;omega) _) 3 .nilIface);have HK10:=qH hk10;have hs10:=hk10.size;clear hk10 y2 F4 v9 z9 v3 z3;generalize (w9.setCell ⟨r,9,none⟩ (.pointer (some ⟨gr,0,none⟩))).setCell ⟨l,3,none⟩ .nilIface=w10 at *;have d3:=HC3.out.lt;have hKa:Keeps (fun i=>i=r∨i=l) w7 w10:=HK8.out.trans ((HK9.out.more fun _ _ h=>h.elim).trans HK10.out);have hKb:Keeps (fun i=>i=r∨i=l) w5 w10:=HK6.out.trans ((HK7.out.more fun _ _ h=>h.elim).trans hKa);have hKc:Keeps (fun i=>i=r∨i=l) w3 w10:=HK4.out.trans ((HK5.out.more fun _ _ h=>h.elim).trans hKb);have HC10:=qH (show clock.Clk w10 gc x.clock R.id from HC3.out.keeps hKc (fun e=>by rcases e with e|e <;> omega));have HI10:=qH (show dep.InF w10 Si gi R.id ap [] va (.slice none 0 0) from HI5.out.keeps hKb (fun i hi e=>by have h9:w4.heap.size≤i:=HS5.out i hi;rcases e with e|e <;> omega));have HD10:=qH (show feed.FeedS w10 Sq gf R.id.toNat R.n.toNat x.base.toNat L3 (List.replicate R.n.toNat x.base) from HD7.out.keeps hKa (fun i hi e=>by have h9:w6.heap.size≤i:=HS7.out i hi;rcases e with e|e <;> omega));have HG10:=qH (show ringw.RingB w10 gr R.m key from HG9.out.keeps HK10.out (fun e=>by rcases e with e|e <;> omega));have HKw:=qH (HKw6.out.trans ((HK7.out.more fun _ _ h=>h.elim).trans hKa));clear hKa hKb hKc;have l0:w10.cell? ⟨l,0,none⟩=some .nilIface:=HL10.out.cell 0;have l1:w10.cell? ⟨l,1,none⟩=some .nilIface:=HL10.out.cell 1;have l2:w10.cell? ⟨l,2,none⟩=some .nilIface:=HL10.out.cell 2;have l3:w10.cell? ⟨l,3,none⟩=some .nilIface:=HL10.out.cell 3;have hl10:=HL10.out.lt;go_wp2_with fail;clear l0 l1 l2 l3;obtain ⟨ar,har⟩:∃ ar,Hid (ar=nil4):=⟨_,qH rfl⟩;rw [show #[Value.nilIface,.nilIface,.nilIface,.nilIface]=ar from har.out.symm]
 go_loopw [113] (fun i wr=>∃ k:Nat,k≤4∧i=.int .i64 k∧wr=w10) (fun i _=>4-(intOf i).toNat)
 case atStart=>exact ⟨0,by omega,rfl,rfl⟩
 case round =>
  obtain ⟨k,hk,rfl,rfl⟩:=hrel
  by_cases hlk:k<4
  ·have hx:(Instr.index 198 (.agg ar) (.int .i64 k)).run Tryz.prog wr=.ok .nilIface wr:=by rw [har.out];exact idx4 k hlk wr
   go_wp2_with fail;go_roundw
   case rel=>exact ⟨k+1,by omega,rfl,trivial⟩
   case measure=>simp [intOf];omega
  have h4:k=4:=by omega
  subst h4;clear hk hlk
  ·have y0:wr.cell? ⟨r,0,none⟩=some (.int .i64 R.id):=HR10.out.c0
   have y7:wr.cell? ⟨r,7,none⟩=some (.pointer (some ⟨gf,0,none⟩)):=HR10.out.c7;have F2:wr.cell? ⟨f,2,none⟩=some (.slice Aa ap.length ca):=by rw [←HXA.out];exact HF10.out.cell 2
   have hr10:=HR10.out.lt;have hf10:=HF10.out.lt;have hlast:((x.base.toNat+L3.length:Nat):Int)=vec.atV ap R.id:=HP.out.last;obtain ⟨bb,hbb⟩:∃ bb,x.base.toNat=bb:=⟨_,rfl⟩;have HDb:=qH (show feed.FeedS wr Sq gf R.id.toNat R.n.toNat bb L3 (List.replicate R.n.toNat x.base) by rw [←hbb];exact HD10.out);rw [hbb] at hlast;clear hbb;obtain ⟨s,hs⟩:∃ s:Nat,bb+L3.length=s:=⟨_,rfl⟩;have hat:vec.atV ap R.id=(s:Int):=by rw [←hlast,hs]
   clear hlast;have hid1:=HP.out.i1;have hid2:=HP.out.i2;have hid3:=HP.out.i3
   have HAx:=qH (show wr.ownsRow 0 3 1 x.app ap.length (vec.enc ap) from dep.own_keeps HP.out.rap HKw.out (fun i hi e=>by
    rcases e with rfl|rfl
    ·exact HP.out.nr (HP.out.rin _ hi)
    ·have:=HP.out.small _ (HP.out.rin _ hi);omega))
   have HVx:=qH (show vec.Vec wr.drew wr.drew.heap.size Aa ap.length ca ap from by
    obtain ⟨A2,c2,h2,h3⟩:=vec.Vec.of_own HAx.out;rw [HXA.out] at h2;simp only [Value.slice.injEq,true_and] at h2;obtain ⟨rfl,rfl⟩:=h2;exact h3)
   go_wp2_with fail;refine wp_region_mono nobody (by kernel_rfl) ?_
   iterate 14
    first|refine qT 0 (v:=?_) ?_ ?_|refine qT 1 (v:=?_) ?_ ?_|refine qT 2 (v:=?_) ?_ ?_|refine qT 3 (v:=?_) ?_ ?_|refine qT 5 (v:=?_) ?_ ?_|refine qT 6 (v:=?_) ?_ ?_|refine qT 7 (v:=?_) ?_ ?_|refine qT 8 (v:=?_) ?_ ?_|refine qT 9 (v:=?_) ?_ ?_|refine qT 10 (v:=?_) ?_ ?_|refine qT 11 (v:=?_) ?_ ?_|refine qT 12 (v:=?_) ?_ ?_|refine qT 13 (v:=?_) ?_ ?_|refine qT 14 (v:=?_) ?_ ?_
    rotate_left
    ·(intro W hSw;(have hcW:=hSw.cells;try simp only [qSd] at hcW);go_simp <;> rfl)
    try simp only [qPA]
   refine wpMono_one' 4 (by kernel_rfl) rfl (by rfl) (fun K hK=>?_)
   go_simp
   refine (feed.last_any (HDb.out.keeps Keeps.drew (fun _ _ h=>h))).mono ?_;rintro e wa ⟨rfl,hba⟩;rw [hs];have HBa:=qH hba;clear hba;refine hK.out _ _ ?_ ?_
   ·exact .of_below HBa.out
   clear hK K
   try simp only [qPA]
   refine wpMono_one' 15 (by kernel_rfl) rfl (by rfl) (fun K hK=>?_)
   go_simp
   refine (vec.at_any Aa ap.length ca ap R.id _ _ (HVx.out.below HBa.out) (by omega)).mono ?_;rintro e wb ⟨rfl,rfl⟩;rw [hat];refine hK.out _ _ ?_ ?_
   ·exact .refl _ _
   clear hK K
   try simp only [qPA]
   refine qT 16 (v:=?_) ?_ ?_;rotate_left
   ·(intro W hSw;(have hcW:=hSw.cells;try simp only [qSd] at hcW);go_simp <;> rfl)
   try simp only [qPA]
   refine wpMono_done (by kernel_rfl) ?_ _;have hkl:Keeps (nobody) wr wa:=Keeps.drew.trans (Keeps.of_below (X:=nobody) HBa.out);have HKl:=qH hkl;clear hkl;go_wp2_with fail;go_ret
   refine ⟨rfl,gc,gi,gf,gr,va,Si,Sq,?_,?_,?_,?_,?_,?_,?_,w4.heap.size,w6.heap.size,?_,?_,?_,?_⟩
   ·exact Blk.keeps HR10.out HKl.out (fun h=>h)
   ·exact Blk.keeps HF10.out HKl.out (fun h=>h)
   ·exact Blk.keeps HC10.out HKl.out (fun h=>h)
   ·exact HI10.out.keeps HKl.out (fun _ _ h=>h)
   ·exact HD10.out.keeps HKl.out (fun _ _ h=>h)
   ·exact Blk.keeps HG10.out HKl.out (fun h=>h)
   ·have k:=HKw.out.trans (HKl.out.more (Y:=fun i=>i=r∨i=l) fun _ _ h=>h.elim)
    exact ⟨k.os,k.tape,k.output,k.size,fun b hb hx=>k.block b hb (fun e=>by
     rcases e with e|e
     ·exact hx e
     ·omega)⟩
   ·omega
   ·omega
   ·intro i hi
    have h9:w4.heap.size≤i:=HS5.out i hi;have h8:=HI5.out.small i hi;exact ⟨h9,by omega⟩
   ·intro i hi
    have h9:w6.heap.size≤i:=HS7.out i hi;obtain ⟨_,_,_,_,_,h8⟩:=HD7.out;have h8:=h8.small i hi;exact ⟨h9,by omega⟩
end
end regn
namespace dep
open Go Go.RowKit base rowe wire
theorem run_one (x:Wr) (w:World):(Instr.buildSlice 98 1 #[(0,.agg ⟨x.cells⟩)]).run Tryz.prog w=.ok (.slice (some ⟨w.heap.size,0,none⟩) 1 1) (w.alloc (.cells x.cells.toArray 188)):=by kernel_rfl
theorem wp_one {o:Oper} {a:Act} {K:Act→World→Prop} {Q:Exit→Act→World→Prop} {w:World} (x:Operand) (ho:o.op=.buildSlice 98 1 #[(0,x)]) (y:Wr) (hx:a.eval x=.agg ⟨y.cells⟩)
  (h:K (a.put o.dst (.slice (some ⟨w.heap.size,0,none⟩) 1 1)) (w.alloc (.cells y.cells.toArray 188))):o.wp Tryz.prog a w K Q:=by
 have hr:=run_one y w;unfold Oper.wp execOp;simp only [ho,List.map_toArray,List.map_cons,List.map_nil,hx,Sem.run_bind,hr,Result.andThen_ok,Sem.run_pure];exact h
theorem wpList_one {ops:Array Oper} {rest:List Oper} {o:Oper} {a:Act} {Q:Exit→Act→World→Prop} {w:World} (hgd:o.guard=none) (x:Operand) (ho:o.op=.buildSlice 98 1 #[(0,x)]) (y:Wr) (hx:a.eval x=.agg ⟨y.cells⟩)
  (h:wpList Tryz.prog ops Q rest (a.put o.dst (.slice (some ⟨w.heap.size,0,none⟩) 1 1)) (w.alloc (.cells y.cells.toArray 188))):wpList Tryz.prog ops Q (o :: rest) a w :=
 wpList_plain hgd fun _ hK=>wp_one x ho y hx (hK _ _ h)
end dep
namespace dep
open Go Go.RowKit base rowe wire vec cmp with_ monoj
inductive Steps (ap:List Int) (ws:List Wr):List Int→List Wr→List Wr→Prop
 | zero:Steps ap ws ap ws []
 | one {a:List Int} {l out:List Wr} (h:Steps ap ws a l out) (k:Nat) (hk:k<l.length) (hr:readyB a (l.getD k wrZ)=true) (hn:∀ j,j<k→readyB a (l.getD j wrZ)=false) :
   Steps ap ws (withL a (l.getD k wrZ).r (l.getD k wrZ).n) (l.eraseIdx k) (out++[l.getD k wrZ])
theorem with_len {zs:List Int} {r n:Int} (h:zs.length≤16):(withL zs r n).length≤16:=by
 unfold withL
 split
 ·rename_i hr
  unfold trimL;rw [List.length_take];have h1:=trimN_le (setL zs (r.toNat-1) n) (setL zs (r.toNat-1) n).length;have h2:=setL_len zs (r.toNat-1) n;omega
 ·unfold trimL
  rw [List.length_take];omega
theorem Steps.ws_len {ap:List Int} {ws:List Wr} {a:List Int} {l out:List Wr} (h:Steps ap ws a l out):l.length+out.length=ws.length:=by
 induction h with
 | zero=>simp
 | one h k hk _ _ ih =>
  rw [List.length_eraseIdx_of_lt hk,List.length_append];simp
  omega
def DrainI (w:World) (S:Nat→Prop) (g:Nat) (rg:Int) (ap:List Int) (ws:List Wr) (vo:Value) (wr:World) (a:List Int) (l out:List Wr) (S':Nat→Prop):Prop :=
 Steps ap ws a l out∧(∃ va vw,InF wr S' g rg a l va vw∧(∀ i,vo.ownBlock=some i→va.ownBlock≠some i∧vw.ownBlock≠some i∧i≠g∧∀ x ∈ l,x.d.ownBlock≠some i)) ∧
  wr.ownsRow 0 188 10 vo out.length (out.flatMap Wr.cells)∧(∀ x ∈ out,NumsO wr 0 x.d x.z∧∀ i,x.d.ownBlock=some i→S' i∧vo.ownBlock≠some i∧i≠g)∧(∀ i,vo.ownBlock=some i→S' i)∧Keeps S w wr∧(∀ i,S' i→S i∨w.heap.size≤i)
theorem DrainI.below {w:World} {S:Nat→Prop} {g:Nat} {rg:Int} {ap:List Int} {ws:List Wr} {vo:Value} {wr w1:World} {a:List Int} {l out:List Wr} {S':Nat→Prop} (h:DrainI w S g rg ap ws vo wr a l out S') (hb:Below wr.heap.size wr w1):DrainI w S g rg ap ws vo w1 a l out S':=by
 obtain ⟨h1,⟨va,vw,h2,h3⟩,h4,h5,h6,h7,h8⟩:=h;exact ⟨h1,⟨va,vw,h2.below hb,h3⟩,own_keeps h4 (X:=nobody) (.of_below hb) (fun _ _ h=>h),fun x hx=>⟨(h5 x hx).1.below hb,(h5 x hx).2⟩,h6,h7.trans (.of_below hb),h8⟩
theorem own_apart {w:World} {b b':Nat} {e e':TypeId} {s s' n n':Nat} {v v':Value} {xs xs':List Value} (h:w.ownsRow b e s v n xs) (h':w.ownsRow b' e' s' v' n' xs') (hne:e≠e') (i:Nat) (hi:v.ownBlock=some i):v'.ownBlock≠some i:=by
 intro hi'
 rcases h.2 with ⟨rfl,_⟩|⟨g,cap,cur,rfl,_,h2,_⟩
 ·cases hi
 rcases h'.2 with ⟨rfl,_⟩|⟨g',cap',cur',rfl,_,h2',_⟩
 ·cases hi'
 cases hi
 cases hi'
 rw [h2] at h2';injection h2' with h2';injection h2' with _ h2';exact hne h2'
theorem InF.keepsO {w w' : World} {S X : Nat → Prop} {g : Nat} {rg : Int} {ap : List Int} {ws : List Wr} {va vw : Value} (h : InF w S g rg ap ws va vw) (hk : Keeps X w w') (hg : ¬ X g) (ha : ∀ i, va.ownBlock = some i → ¬ X i) (hw : ∀ i, vw.ownBlock = some i → ¬ X i)
    (hn : ∀ x ∈ ws, ∀ i, x.d.ownBlock = some i → ¬ X i) : InF w' S g rg ap ws va vw :=
  { h with
    blk := h.blk.keeps hk hg
    app := own_keeps h.app hk ha
    row := own_keeps h.row hk hw
    num := fun x hm => (h.num x hm).keeps hk (hn x hm)
    small := fun i hi => Nat.lt_of_lt_of_le (h.small i hi) hk.size }
theorem DrainI.next {w:World} {S:Nat→Prop} {g:Nat} {rg:Int} {ap:List Int} {ws:List Wr} {vo:Value} {wr:World} {a:List Int} {l out:List Wr} {S':Nat→Prop} {va vw:Value} {k:Nat} {y:Wr} {w13 w14 w15:World} {T:Nat→Prop} {va' vw' v':Value}
  (hst:Steps ap ws a l out) (hf:InF wr S' g rg a l va vw) (hap:∀ i,vo.ownBlock=some i→va.ownBlock≠some i∧vw.ownBlock≠some i∧i≠g∧∀ x ∈ l,x.d.ownBlock≠some i)
  (hnum:∀ x ∈ out,NumsO wr 0 x.d x.z∧∀ i,x.d.ownBlock=some i→S' i∧vo.ownBlock≠some i∧i≠g) (hvo:∀ i,vo.ownBlock=some i→S' i)
  (hK:Keeps S w wr) (hs:∀ i,S' i→S i∨w.heap.size≤i) (hkl:k<l.length) (hy:l.getD k wrZ=y) (hkr:readyB a y=true) (hkn:∀ j,j<k→readyB a (l.getD j wrZ)=false)
  (hk13:Keeps (fun i=>i=g∨vw.ownBlock=some i) wr w13) (hf13:InF w13 T g rg (withL a y.r y.n) (l.eraseIdx k) va' vw') (hT:∀ i,T i→S' i∨wr.heap.size≤i) (hva:∀ i,va'.ownBlock=some i→wr.heap.size≤i) (hvw:vw'.ownBlock=vw.ownBlock)
  (hb14:Below w13.heap.size w13 w14) (hrow15:w15.ownsRow 0 188 10 v' (out.length+1) (out.flatMap Wr.cells++y.cells)) (hg15:w14.grownBy w15 vo.ownBlock) (hv:v'.ownBlock=vo.ownBlock∨v'.ownBlock=some w14.heap.size) :
  ∃ S3,DrainI w S g rg ap ws v' w15 (withL a y.r y.n) (l.eraseIdx k) (out++[y]) S3:=by
 have hmem:y ∈ l:=by rw [←hy,List.getD_eq_getElem?_getD,List.getElem?_eq_getElem hkl];exact List.getElem_mem hkl
 have hin:∀ x,x ∈ l.eraseIdx k→x ∈ l:=fun x hx=>List.mem_of_mem_eraseIdx hx;have hk15:Keeps (fun i=>vo.ownBlock=some i) w14 w15:=.grown hg15 fun g hg=>.inl hg;have s13:=hk13.size;have s14:=hb14.size;have s15:=hk15.size;have sK:=hK.size;have hlt:∀ i,vo.ownBlock=some i→i<wr.heap.size:=fun i hi=>hf.small i (hvo i hi);have hf14:InF w14 T g rg (withL a y.r y.n) (l.eraseIdx k) va' vw':=hf13.below hb14
 have hf15:InF w15 T g rg (withL a y.r y.n) (l.eraseIdx k) va' vw':=hf14.keepsO hk15 (fun e=>(hap g e).2.2.1 rfl) (fun i hi e=>by have:=hva i hi;have:=hlt i e;omega)
  (fun i hi e=>(hap i e).2.1 (by rw [←hvw];exact hi)) (fun x hx i hi e=>(hap i e).2.2.2 x (hin x hx) hi)
 have hto:∀ x:Wr,NumsO wr 0 x.d x.z→(∀ i,x.d.ownBlock=some i→i≠g∧vw.ownBlock≠some i∧vo.ownBlock≠some i)→NumsO w15 0 x.d x.z:=fun (x:Wr) hx hi =>
  ((hx.keeps hk13 (fun i h e=>e.elim (hi i h).1 (hi i h).2.1)).below hb14).keeps hk15 fun i h e=>(hi i h).2.2 e
 have hny:NumsO w15 0 y.d y.z:=hto y (hf.num y hmem) fun i hi=>⟨fun e=>hf.gn y hmem (by rw [←e];exact hi),hf.nw y hmem i hi,fun e=>(hap i e).2.2.2 y hmem hi⟩;have hno:∀ x ∈ out,NumsO w15 0 x.d x.z:=fun x hx=>hto x (hnum x hx).1 fun i hi=>⟨((hnum x hx).2 i hi).2.2,own_apart (hnum x hx).1.1 hf.row (by decide) i hi,((hnum x hx).2 i hi).2.1⟩;have hv15:∀ i,v'.ownBlock=some i→i<w15.heap.size:=fun i hi=>(hrow15.lt i hi).2;refine ⟨fun i=>(S' i∨wr.heap.size≤i)∧i<w15.heap.size,?_,⟨va',vw',?_,?_⟩,?_,?_,?_,?_,?_⟩
 ·subst hy;exact .one hst k hkl hkr hkn
 ·exact hf15.more (fun i hi=>⟨hT i hi,hf15.small i hi⟩) fun i hi=>hi.2
 ·intro i hi
  rcases hv with e|e
  ·have hi2:vo.ownBlock=some i:=by rw [←e];exact hi
   exact ⟨fun e2=>by have:=hva i e2;have:=hlt i hi2;omega,by rw [hvw];exact (hap i hi2).2.1,(hap i hi2).2.2.1,fun x hx=>(hap i hi2).2.2.2 x (hin x hx)⟩
  ·have hi2:i=w14.heap.size:=by rw [e] at hi;injection hi with hi;exact hi.symm
   exact ⟨fun e2=>by have:=hf14.small i (hf14.inA i e2);omega,fun e2=>by have:=hf14.small i (hf14.inW i e2);omega,fun e2=>by have:=hf14.small g hf14.inG;omega,
    fun x hx e2=>by have:=hf14.small i (hf14.inN x hx i e2);omega⟩
 ·rw [List.length_append,List.flatMap_append]
  simpa using hrow15
 ·intro x hx
  rcases List.mem_append.1 hx with hx|hx
  ·refine ⟨hno x hx,fun i hi=>⟨⟨.inl ((hnum x hx).2 i hi).1,by have:=hf.small i ((hnum x hx).2 i hi).1;omega⟩,own_apart (hno x hx).1 hrow15 (by decide) i hi,((hnum x hx).2 i hi).2.2⟩⟩
  ·obtain rfl:x=y:=by simpa using hx
   refine ⟨hny,fun i hi=>⟨⟨.inl (hf.inN x hmem i hi),by have:=hf.small i (hf.inN x hmem i hi);omega⟩,own_apart hny.1 hrow15 (by decide) i hi,fun e=>hf.gn x hmem (by rw [←e];exact hi)⟩⟩
 ·intro i hi
  refine ⟨?_,hv15 i hi⟩
  rcases hv with e|e
  ·exact .inl (hvo i (by rw [←e];exact hi))
  ·rw [e] at hi;injection hi with hi;exact .inr (by omega)
 ·have hy:∀ i,S' i→(S i∨w.heap.size≤i):=hs
  have k1:Keeps (fun i=>S i∨w.heap.size≤i) w wr:=hK.more fun i _ h=>.inl h;have k2:Keeps (fun i=>S i∨w.heap.size≤i) wr w13:=hk13.more fun i _ h=>h.elim (fun e=>hs i (by rw [e];exact hf.inG)) (fun e=>hs i (hf.inW i e));have k3:Keeps (fun i=>S i∨w.heap.size≤i) w13 w14:=.of_below hb14;have k4:Keeps (fun i=>S i∨w.heap.size≤i) w14 w15:=hk15.more fun i _ e=>hs i (hvo i e);exact (((k1.trans k2).trans k3).trans k4).more fun i hi h=>h.elim id fun h=>by omega
 ·intro i hi
  rcases hi.1 with h|h
  ·exact hs i h
  ·exact .inr (by omega)
end dep
end Go.Proofs.YthlahcnglacekaaGreatDoor
