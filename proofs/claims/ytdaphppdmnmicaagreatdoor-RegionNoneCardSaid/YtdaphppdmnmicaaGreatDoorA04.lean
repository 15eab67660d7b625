/- A part of the proof of RegionNone: Is, Num, FrameP, Div. -/
import Derived.Test.YtdaphppdmnmicaaGreatDoorProg
import Derived.WalkKit
import Derived.LaidEql
import Derived.Stop.Asserts
import Derived.RowKitTokens
import Derived.Laws.BitsAllLaws
import Derived.Laws.BitsLemmas
namespace Go.Proofs.YtdaphppdmnmicaaGreatDoor.is_
open Go.RowKit Go.Extern.Stop Go.Stop Go.Extern
theorem isTypeOf (v:Value) (w:World):(Extern.ReflectliteType.typeOf #[.iface 74 v]).run Tryz.prog w=.ok (.iface 292 (.agg #[.pointer (some ⟨5,74,none⟩)])) w:=by kernel_rfl
theorem isComparable (w : World) : ((Extern.ReflectliteType.method fun t => do Extern.Rtype.noPackHeld "Comparable" t; Functor.map (fun a => Value.bool a.comparable) (typeInfo t)) #[.agg #[.pointer (some ⟨5, 74, none⟩)]]).run Tryz.prog w = .ok (.bool true) w := by kernel_rfl
theorem noIsE (v:Value) (xT:TypeId) (w:World):(Instr.typeAssert (.iface 167 v) xT 294 true).run Tryz.prog w=.ok (.tuple #[.nilIface,.bool false]) w:=run_typeAssert_lacksB Tryz.underlying294 (by kernel_rfl) (by kernel_rfl) v xT w
theorem hasUnwrap (v:Value) (xT:TypeId) (w:World):(Instr.typeAssert (.iface 167 v) xT 297 true).run Tryz.prog w=.ok (.tuple #[.iface 167 v,.bool true]) w:=run_typeAssert_hasB Tryz.underlying297 (by kernel_rfl) v xT w
theorem noIsC (v:Value) (xT:TypeId) (w:World):(Instr.typeAssert (.iface 74 v) xT 294 true).run Tryz.prog w=.ok (.tuple #[.nilIface,.bool false]) w:=run_typeAssert_lacksB Tryz.underlying294 (by kernel_rfl) (by kernel_rfl) v xT w
theorem noUnwrapC (v:Value) (xT:TypeId) (w:World):(Instr.typeAssert (.iface 74 v) xT 297 true).run Tryz.prog w=.ok (.tuple #[.nilIface,.bool false]) w:=run_typeAssert_lacksB Tryz.underlying297 (by kernel_rfl) (by kernel_rfl) v xT w
theorem noUnwrapsC (v:Value) (xT:TypeId) (w:World):(Instr.typeAssert (.iface 74 v) xT 298 true).run Tryz.prog w=.ok (.tuple #[.nilIface,.bool false]) w:=run_typeAssert_lacksB Tryz.underlying298 (by kernel_rfl) (by kernel_rfl) v xT w
theorem isComp:(Tryz.prog.info? 74).map (·.comparable)=some true:=by kernel_rfl
theorem eql_codes (c c':Int) (w:World):(binOp .eql 56 (.iface 74 (.int .i64 c)) (.iface 74 (.int .i64 c'))).run Tryz.prog w=.ok (.bool (c == c')) w:=by
 obtain ⟨i,hi,hcmp⟩:=Option.map_eq_some_iff.1 isComp
 have h:∀ d:Nat,(Op.equalIn (d + 2) 56 (.iface 74 (.int .i64 c)) (.iface 74 (.int .i64 c'))).run Tryz.prog w=.ok (c == c') w:=fun d=>by
  simp [Op.equalIn,run_underlying Tryz.underlying56,run_underlying Tryz.underlying74,hi,hcmp,typeInfo]
 simp only [binOp]
 simp [Op.equal,Op.maxDepth,h 9998]
theorem methodUnwrap (v : Value) (w : World) : (Go.method 614 167 v "Unwrap").run Tryz.prog w = .ok (371, v) w := by kernel_rfl
theorem methodComparable (v : Value) (w : World) : (Go.method 614 292 v "Comparable").run Tryz.prog w = .ok (377, v) w := by kernel_rfl
set_option maxHeartbeats 1600000 in
theorem is_code (g:Nat) (c c':Int) (w:World) (h2:w.cell? ⟨g,2,none⟩=some (.iface 74 (.int .i64 c))) :
  Calls Tryz.prog 16 #[.iface 167 (.pointer (some ⟨g,0,none⟩)),.iface 74 (.int .i64 c')] w fun e w'=>e=.returned (.bool (c == c'))∧w=w':=by
 have h8:=@run_callFunc_extern Tryz.prog 60 _ Extern.ReflectliteType.typeOf Tryz.func60 (by kernel_rfl) (by kernel_rfl) (by kernel_rfl) (by kernel_rfl)
 have h32 := @run_callFunc_extern Tryz.prog 377 _ (Extern.ReflectliteType.method fun t => do Extern.Rtype.noPackHeld "Comparable" t; pure (.bool (← typeInfo t).comparable)) Tryz.func377 (by kernel_rfl) (by kernel_rfl) (by kernel_rfl) (by kernel_rfl)
 have tT:=isTypeOf
 have cT:=isComparable
 have mR:=methodComparable
 have n1:=noIsE
 have n2:=hasUnwrap
 have n3:=noIsC
 have n4:=noUnwrapC
 have n5:=noUnwrapsC
 have mU:=methodUnwrap
 have heq:=eql_codes c c' w
 have hty:=run_eql_iface_types (P:=Tryz.prog) 167 74 (.pointer (some ⟨g,0,none⟩)) (.int .i64 c') Tryz.underlying56 (by decide) w
 generalize (c == c')=x at heq ⊢
 cases x
 all_goals
  go_enter Tryz.func16,Tryz.ntmps16
  go_wp2
  refine wp_loop_rounds 2 ?_
  rw [rounds_succ]
  go_wp2
  rw [rounds_succ]
  go_wp2
  go_ret
  exact ⟨rfl,rfl⟩
end Go.Proofs.YtdaphppdmnmicaaGreatDoor.is_
namespace Go.Proofs.YtdaphppdmnmicaaGreatDoor.num
def rnd (x:Nat):Nat:=(x / 2) ^^^ (if x % 2=1 then 2197175160 else 0)
def rnds:Nat→Nat→Nat
 | 0,x=>x
 | k + 1,x=>rnd (rnds k x)
def stepN (s c:Nat):Nat:=(rnds 8 ((s ^^^ 4294967295) ^^^ c)) ^^^ 4294967295
def stepI (s c:Int):Int:=((stepN s.toNat c.toNat:Nat):Int)
def sumI (l:List Int):Int:=l.foldl stepI 0
theorem rnd_lt {x:Nat} (h:x < 4294967296):rnd x < 4294967296:=by
 unfold rnd
 have:x / 2 < 2 ^ 32:=by omega
 have h2:(if x % 2=1 then 2197175160 else 0) < 2 ^ 32:=by split <;> decide
 exact Nat.xor_lt_two_pow this h2
theorem rnds_lt {x:Nat} (k:Nat) (h:x < 4294967296):rnds k x < 4294967296:=by
 induction k with
 | zero=>exact h
 | succ k ih=>exact rnd_lt ih
theorem xor_lt {a b:Nat} (ha:a < 4294967296) (hb:b < 4294967296):a ^^^ b < 4294967296:=Nat.xor_lt_two_pow (n:=32) ha hb
theorem stepN_lt {s c:Nat} (hs:s < 4294967296) (hc:c < 256):stepN s c < 4294967296 :=
 xor_lt (rnds_lt 8 (xor_lt (xor_lt hs (by decide)) (by omega))) (by decide)
theorem stepI_bd {s c:Int} (hs:0≤s∧s≤4294967295) (hc:0≤c∧c≤255):0≤stepI s c∧stepI s c≤4294967295:=by
 unfold stepI
 have:=stepN_lt (s:=s.toNat) (c:=c.toNat) (by omega) (by omega)
 omega
theorem foldl_bd {l:List Int}:∀ {s:Int},0≤s∧s≤4294967295→(∀ c ∈ l,0≤c∧c≤255)→0≤l.foldl stepI s∧l.foldl stepI s≤4294967295:=by
 induction l with
 | nil=>intro s hs _;exact hs
 | cons c l ih=>intro s hs hl;exact ih (stepI_bd hs (hl c (by simp))) (fun d hd=>hl d (by simp [hd]))
theorem sumI_bd {l:List Int} (hl:∀ c ∈ l,0≤c∧c≤255):0≤sumI l∧sumI l≤4294967295:=foldl_bd (by omega) hl
theorem spell_start {s c:Nat} (hs:s < 4294967296) (hc:c < 256):bits .xor .u32 (bits .xor .u32 IntKind.u32.max (s:Int)) (c:Int)=(((s ^^^ 4294967295) ^^^ c:Nat):Int):=by
 have h:IntKind.u32.max=((4294967295:Nat):Int):=by decide
 rw [h,u32_xor_nat _ _ (by decide) hs,u32_xor_nat _ _ (xor_lt (by decide) hs) (by omega),Nat.xor_comm 4294967295 s]
theorem spell_end {x:Nat} (hx:x < 4294967296):bits .xor .u32 IntKind.u32.max (x:Int)=((x ^^^ 4294967295:Nat):Int):=by
 have h:IntKind.u32.max=((4294967295:Nat):Int):=by decide
 rw [h,u32_xor_nat _ _ (by decide) hx,Nat.xor_comm 4294967295 x]
theorem spell_rnd {x:Nat} (hx:x < 4294967296):bits .xor .u32 ((x:Int) / 2) (bits .and .u32 2197175160 (-bits .and .u32 (x:Int) 1 % 4294967296))=((rnd x:Nat):Int):=by
 have h1:bits .and .u32 (x:Int) 1=((x % 2:Nat):Int):=by
  have:=u32_and_nat x 1 hx (by decide)
  rw [Nat.and_one_is_mod] at this
  exact this
 rw [h1]
 unfold rnd
 have hd:((x:Int) / 2)=((x / 2:Nat):Int):=by omega
 rw [hd]
 rcases Nat.mod_two_eq_zero_or_one x with h|h
 ·rw [h]
  have e:bits .and .u32 2197175160 (-((0:Nat):Int) % 4294967296)=((0:Nat):Int):=by decide
  rw [e,u32_xor_nat _ _ (by omega) (by decide)]
  simp
 ·rw [h]
  have e:bits .and .u32 2197175160 (-((1:Nat):Int) % 4294967296)=((2197175160:Nat):Int):=by decide
  rw [e,u32_xor_nat _ _ (by omega) (by decide)]
  simp
theorem take_succ_foldl (zs:List Int) (k:Nat) (h:k < zs.length):(zs.take (k + 1)).foldl stepI 0=stepI ((zs.take k).foldl stepI 0) (zs.getD k 0):=by
 rw [List.take_succ_eq_append_getElem h,List.foldl_append]
 simp [List.getD_eq_getElem?_getD,h]
end Go.Proofs.YtdaphppdmnmicaaGreatDoor.num
namespace Go.Proofs.YtdaphppdmnmicaaGreatDoor.framep
open num
def crcN (l:List UInt8):Nat:=l.foldl (fun s c=>stepN s c.toNat) 0
def fourB (s:Nat):List UInt8:=[UInt8.ofNat (s % 256),UInt8.ofNat (s / 256 % 256),UInt8.ofNat (s / 65536 % 256),UInt8.ofNat (s / 16777216)]
def sumB (l:List UInt8):List UInt8:=fourB (crcN l)
theorem sumB_len (l:List UInt8):(sumB l).length=4:=rfl
def nibs (l:List UInt8):List UInt8:=l.flatMap fun c=>[UInt8.ofNat (64 + c.toNat / 16),UInt8.ofNat (64 + c.toNat % 16)]
def headB (n:Nat):List UInt8:=[UInt8.ofNat (n / 256 % 256),UInt8.ofNat (n % 256)]
def sealF (p:List UInt8):List UInt8:=1 :: nibs (headB p.length ++ sumB (headB p.length) ++ p ++ sumB (headB p.length ++ p))
def rawsF:Nat→List UInt8→Option (List UInt8 × List UInt8)
 | 0,l=>some ([],l)
 | n + 1,a :: b :: r=>if a.toNat / 16=4∧b.toNat / 16=4 then (rawsF n r).map fun x=>(UInt8.ofNat (a.toNat % 16 * 16 + b.toNat % 16) :: x.1,x.2) else none
 | _ + 1,_=>none
theorem byte_of {n:Nat} (h:n < 256):(UInt8.ofNat n).toNat=n:=by rw [UInt8.toNat_ofNat'];omega
theorem nibs_len (l:List UInt8):(nibs l).length=2 * l.length:=by
 unfold nibs
 induction l with
 | nil=>rfl
 | cons c l ih=>rw [List.flatMap_cons,List.length_append,ih];simp;omega
theorem raws_nibs (l:List UInt8) (r:List UInt8):rawsF l.length (nibs l ++ r)=some (l,r):=by
 induction l with
 | nil=>rfl
 | cons c l ih =>
  have hc:c.toNat < 256:=c.toNat_lt
  have e:nibs (c :: l) ++ r=UInt8.ofNat (64 + c.toNat / 16) :: UInt8.ofNat (64 + c.toNat % 16) :: (nibs l ++ r):=by simp [nibs]
  rw [e,List.length_cons,rawsF,byte_of (by omega),byte_of (by omega),if_pos (by omega),ih,Option.map_some]
  congr 2
  congr 1
  apply UInt8.toNat_inj.mp
  rw [byte_of (by omega)]
  omega
theorem seal_len (p:List UInt8):(sealF p).length=1 + 2 * (p.length + 10):=by
 unfold sealF
 rw [List.length_cons,nibs_len]
 simp [sumB_len,headB]
 omega
end Go.Proofs.YtdaphppdmnmicaaGreatDoor.framep
namespace Go.Proofs.YtdaphppdmnmicaaGreatDoor.div
open num
def bi (b:Bool):Int:=if b then 1 else 0
def bn (b:Bool):Nat:=if b then 1 else 0
def byteBits (c:Nat):List Bool:=(List.range 8).map c.testBit
def powers:List Nat:=[28,27,26,25,23,22,20,19,18,14,13,11,10,9,8,6,0]
def flipAt (l:List Bool) (p:Nat):List Bool:=l.set p (!l.getD p false)
def flips (i:Nat) (qs:List Nat) (l:List Bool):List Bool:=qs.foldl (fun l q=>flipAt l (i + 32 - q)) l
def divStep (l:List Bool) (i:Nat):List Bool:=if l.getD i false then flips i powers l else l
def divs (l:List Bool):Nat→List Bool
 | 0=>l
 | i + 1=>divStep (divs l i) i
def msg (cs:List Nat):List Bool:=cs.flatMap byteBits
def start (cs:List Nat):List Bool:=((msg cs ++ List.replicate 32 false).take 32).map not ++ (msg cs ++ List.replicate 32 false).drop 32
def reg (m:List Bool):Nat→Nat
 | 0=>4294967295
 | i + 1=>rnd (reg m i ^^^ bn (m.getD i false))
def gather (l:List Bool) (n:Nat):Nat→Nat
 | 0=>0
 | k + 1=>gather l n k + (if l.getD (n + k) false then 0 else 2 ^ k)
theorem flipAt_len (l:List Bool) (p:Nat):(flipAt l p).length=l.length:=by simp [flipAt]
theorem flips_len (i:Nat) (qs:List Nat):∀ l:List Bool,(flips i qs l).length=l.length:=by
 induction qs with
 | nil=>intro l;rfl
 | cons q qs ih=>intro l;show (flips i qs (flipAt l (i + 32 - q))).length=_;rw [ih,flipAt_len]
theorem divs_len (l:List Bool):∀ i,(divs l i).length=l.length
 | 0=>rfl
 | i + 1=>by
  show (divStep (divs l i) i).length=_
  unfold divStep
  split
  ·rw [flips_len];exact divs_len l i
  ·exact divs_len l i
theorem byteBits_len (c:Nat):(byteBits c).length=8:=by simp [byteBits]
theorem msg_len (cs:List Nat):(msg cs).length=8 * cs.length:=by
 induction cs with
 | nil=>rfl
 | cons c cs ih=>simp [msg,List.flatMap_cons,byteBits_len] at ih ⊢;omega
theorem start_len (cs:List Nat):(start cs).length=8 * cs.length + 32:=by
 simp only [start,List.length_append,List.length_map,List.length_take,List.length_drop,msg_len,List.length_replicate];omega
theorem getD_flipAt (l:List Bool) (p q:Nat) (hp:p < l.length):(flipAt l p).getD q false=(l.getD q false != decide (q=p)):=by
 unfold flipAt
 simp only [List.getD_eq_getElem?_getD,List.getElem?_set]
 by_cases h:p=q
 ·subst h;simp [hp]
 ·have h':¬ q=p:=fun e=>h e.symm
  simp [h,h']
theorem getD_flips (i:Nat) (p:Nat):∀ (qs:List Nat) (l:List Bool),(∀ q ∈ qs,q≤32∧i + 32 - q < l.length)→qs.Nodup→(flips i qs l).getD p false=(l.getD p false != decide (∃ q ∈ qs,p=i + 32 - q)):=by
 intro qs
 induction qs with
 | nil=>intro l _ _;simp [flips]
 | cons q qs ih =>
  intro l h hn
  show (flips i qs (flipAt l (i + 32 - q))).getD p false=_
  rw [ih _ (fun r hr=>by rw [flipAt_len];exact h r (by simp [hr])) (List.nodup_cons.1 hn).2,getD_flipAt _ _ _ (h q (by simp)).2]
  have hq:=(h q (by simp)).1
  have hnot:=(List.nodup_cons.1 hn).1
  by_cases e:p=i + 32 - q
  ·have:¬ ∃ r ∈ qs,p=i + 32 - r:=by
    rintro ⟨r,hr,e'⟩
    have:=(h r (by simp [hr])).1
    have:r=q:=by omega
    subst this;exact hnot hr
   have hd:decide (∃ r ∈ qs,p=i + 32 - r)=false:=decide_eq_false this
   have hd2:decide (∃ r ∈ q :: qs,p=i + 32 - r)=true:=decide_eq_true ⟨q,by simp,e⟩
   rw [hd,hd2,decide_eq_true e];simp
  ·simp [e]
theorem poly_bit:∀ j,j < 32→(2197175160:Nat).testBit j=decide (∃ q ∈ powers,31=j + q):=by decide
theorem testBit_rnd (x j:Nat):(rnd x).testBit j=(x.testBit (j + 1) != (x.testBit 0 && (2197175160:Nat).testBit j)):=by
 unfold rnd
 rw [Nat.testBit_xor,Nat.testBit_div_two,Nat.testBit_zero]
 by_cases h:x % 2=1 <;> simp [h]
theorem reg_lt (m:List Bool):∀ i,reg m i < 4294967296
 | 0=>by show 4294967295 < _;decide
 | i + 1=>rnd_lt (xor_lt (reg_lt m i) (by unfold bn;split <;> decide))
theorem testBit_bn (b:Bool) (j:Nat):(bn b).testBit j=(b && decide (j=0)):=by
 cases b with
 | false=>simp [bn]
 | true =>
  cases j with
  | zero=>simp [bn]
  | succ j=>simp [bn,Nat.testBit_succ]
theorem divs_inv (l m : List Bool) (n : Nat) (hl : l.length = n + 32) (hm : ∀ p, l.getD p false = ((reg m 0).testBit p != m.getD p false)) :
    ∀ i, i ≤ n → ∀ p, i ≤ p → (divs l i).getD p false = ((reg m i).testBit (p - i) != m.getD p false)
  | 0, _, p, _ => hm p
  | i + 1, hi, p, hp => by
    have ih := divs_inv l m n hl hm i (by omega)
    have hlen := divs_len l i
    have htop := ih i (Nat.le_refl _)
    have hpp := ih p (by omega)
    rw [Nat.sub_self] at htop
    have hx : (reg m i ^^^ bn (m.getD i false)).testBit 0 = (divs l i).getD i false := by
      rw [Nat.testBit_xor, testBit_bn, htop]; simp
    have hreg : (reg m (i + 1)).testBit (p - (i + 1)) = ((reg m i).testBit (p - i) != ((divs l i).getD i false && (2197175160 : Nat).testBit (p - (i + 1)))) := by
      show (rnd (reg m i ^^^ bn (m.getD i false))).testBit (p - (i + 1)) = _
      rw [testBit_rnd, hx, Nat.testBit_xor, testBit_bn]
      have e : p - (i + 1) + 1 = p - i := by omega
      have e2 : ¬ (p - i = 0) := by omega
      simp [e, e2]
    show (divStep (divs l i) i).getD p false = _
    rw [hreg]
    unfold divStep
    by_cases ht : (divs l i).getD i false = true
    · rw [if_pos ht, getD_flips _ _ _ _ (by rw [hlen, hl]; simp [powers]; omega) (by decide), hpp, ht]
      have hb : decide (∃ q ∈ powers, p = i + 32 - q) = (2197175160 : Nat).testBit (p - (i + 1)) := by
        by_cases h32 : p - (i + 1) < 32
        · rw [poly_bit _ h32]
          congr 1
          apply propext
          constructor
          · rintro ⟨q, hq, e⟩; exact ⟨q, hq, by have : q ≤ 28 := by revert hq; unfold powers; simp; omega
                                                omega⟩
          · rintro ⟨q, hq, e⟩; exact ⟨q, hq, by omega⟩
        · have h1 : (2197175160 : Nat).testBit (p - (i + 1)) = false := Nat.testBit_lt_two_pow (Nat.lt_of_lt_of_le (by decide : 2197175160 < 2 ^ 32) (Nat.pow_le_pow_right (by decide) (by omega)))
          rw [h1]
          simp only [decide_eq_false_iff_not]
          rintro ⟨q, hq, e⟩
          omega
      rw [hb]
      cases (reg m i).testBit (p - i) <;> cases m.getD p false <;> cases (2197175160 : Nat).testBit (p - (i + 1)) <;> rfl
    · rw [if_neg ht, hpp]
      have : (divs l i).getD i false = false := by simpa using ht
      rw [this]; simp
theorem rnd_xor_even (x y:Nat):rnd (x ^^^ 2 * y)=rnd x ^^^ y:=by
 apply Nat.eq_of_testBit_eq
 intro j
 rw [testBit_rnd,Nat.testBit_xor,Nat.testBit_xor,Nat.testBit_xor,testBit_rnd]
 have h1:(2 * y).testBit (j + 1)=y.testBit j:=by rw [Nat.testBit_succ];congr 1;omega
 have h0:(2 * y).testBit 0=false:=by simp
 rw [h1,h0]
 cases x.testBit (j + 1) <;> cases y.testBit j <;> cases x.testBit 0 <;> cases (2197175160:Nat).testBit j <;> rfl
theorem regFrom (m:List Bool) (r i:Nat) (hr:reg m i=r) (c:Nat):∀ k,(∀ j,j < k→m.getD (i + j) false=c.testBit j)→reg m (i + k) ^^^ (c / 2 ^ k)=rnds k (r ^^^ c)
 | 0,_=>by simp [rnds,hr]
 | k + 1,h=>by
  have ih:=regFrom m r i hr c k (fun j hj=>h j (by omega))
  show rnd (reg m (i + k) ^^^ bn (m.getD (i + k) false)) ^^^ _=rnd (rnds k (r ^^^ c))
  rw [← ih,h k (by omega),← rnd_xor_even,Nat.xor_assoc]
  congr 2
  have hq:c / 2 ^ (k + 1)=c / 2 ^ k / 2:=by rw [Nat.pow_succ,Nat.div_div_eq_div_mul]
  rw [hq,Nat.testBit_eq_decide_div_mod_eq]
  generalize c / 2 ^ k=d
  apply Nat.eq_of_testBit_eq
  intro j
  rw [Nat.testBit_xor,testBit_bn]
  cases j with
  | zero=>simp [Nat.testBit_zero]
  | succ j =>
   have:(2 * (d / 2)).testBit (j + 1)=d.testBit (j + 1):=by rw [Nat.testBit_succ,Nat.testBit_succ];congr 1;omega
   rw [this];simp
theorem getD_msg (cs:List Nat):∀ (k j:Nat),k < cs.length→j < 8→(msg cs).getD (8 * k + j) false=(cs.getD k 0).testBit j:=by
 induction cs with
 | nil=>intro k j hk;simp at hk
 | cons c cs ih =>
  intro k j hk hj
  have hm:msg (c :: cs)=byteBits c ++ msg cs:=by simp [msg,List.flatMap_cons]
  rw [hm]
  cases k with
  | zero =>
   simp only [List.getD_eq_getElem?_getD]
   rw [List.getElem?_append_left (by rw [byteBits_len];omega)]
   simp [byteBits,hj]
  | succ k =>
   simp only [List.getD_eq_getElem?_getD]
   rw [List.getElem?_append_right (by rw [byteBits_len];omega),byteBits_len]
   have:=ih k j (by simpa using hk) hj
   simp only [List.getD_eq_getElem?_getD] at this
   rw [show 8 * (k + 1) + j - 8=8 * k + j by omega,this]
   simp
theorem getD_app (a:List Bool) (n p:Nat):(a ++ List.replicate n false).getD p false=a.getD p false:=by
 simp only [List.getD_eq_getElem?_getD,List.getElem?_append,List.getElem?_replicate]
 by_cases h:p < a.length
 ·simp [h]
 ·simp only [h,if_false]
  rw [List.getElem?_eq_none (by omega)]
  split <;> rfl
theorem reg_bytes (cs:List Nat) (hc:∀ c ∈ cs,c < 256):∀ k,k≤cs.length→reg (msg cs) (8 * k)=((cs.take k).foldl stepN 0) ^^^ 4294967295
 | 0,_=>by simp [reg]
 | k + 1,hk=>by
  have ih:=reg_bytes cs hc k (by omega)
  have h:=regFrom (msg cs) _ (8 * k) ih (cs.getD k 0) 8 (fun j hj=>getD_msg cs k j (by omega) hj)
  have hck:cs.getD k 0 < 256:=by
   rw [List.getD_eq_getElem?_getD,List.getElem?_eq_getElem (by omega)];exact hc _ (List.getElem_mem _)
  have hz:cs.getD k 0 / 2 ^ 8=0:=Nat.div_eq_of_lt (by omega)
  rw [hz,Nat.xor_zero] at h
  rw [show 8 * (k + 1)=8 * k + 8 by omega,h,List.take_succ_eq_append_getElem (by omega),List.foldl_append]
  simp only [List.foldl_cons,List.foldl_nil,stepN]
  rw [Nat.xor_assoc (rnds 8 _),Nat.xor_self,Nat.xor_zero]
  congr 3
  rw [List.getD_eq_getElem?_getD,List.getElem?_eq_getElem (by omega)];rfl
theorem gather_eq (l:List Bool) (n r:Nat) (h:∀ j,j < 32→l.getD (n + j) false=r.testBit j):∀ k,k≤32→gather l n k < 2 ^ k∧∀ j,(gather l n k).testBit j=(decide (j < k) && !r.testBit j)
 | 0,_=>by simp [gather]
 | k + 1,hk=>by
  obtain ⟨i1,i2⟩:=gather_eq l n r h k (by omega)
  have hb:=h k (by omega)
  unfold gather
  rw [hb]
  by_cases hr:r.testBit k=true
  ·rw [if_pos hr,Nat.add_zero]
   refine ⟨Nat.lt_of_lt_of_le i1 (Nat.pow_le_pow_right (by decide) (by omega)),fun j=>?_⟩
   rw [i2]
   by_cases hj:j=k
   ·subst hj;simp [hr]
   ·have:decide (j < k + 1)=decide (j < k):=by congr 1;apply propext;omega
    rw [this]
  ·rw [if_neg hr]
   have hr':r.testBit k=false:=by simpa using hr
   refine ⟨by rw [Nat.pow_succ];omega,fun j=>?_⟩
   have hor:gather l n k + 2 ^ k=2 ^ k ||| gather l n k:=by
    have:=Nat.two_pow_add_eq_or_of_lt i1 1
    rw [Nat.mul_one] at this
    rw [Nat.add_comm];exact this
   rw [hor,Nat.testBit_or,i2,Nat.testBit_two_pow]
   by_cases hj:j=k
   ·subst hj;simp [hr']
   ·have h1:decide (k=j)=false:=by simp;omega
    have:decide (j < k + 1)=decide (j < k):=by congr 1;apply propext;omega
    rw [h1,this];simp
theorem gather_full (l:List Bool) (n r:Nat) (hr:r < 4294967296) (h:∀ j,j < 32→l.getD (n + j) false=r.testBit j):gather l n 32=r ^^^ 4294967295:=by
 obtain ⟨_,h2⟩:=gather_eq l n r h 32 (Nat.le_refl _)
 apply Nat.eq_of_testBit_eq
 intro j
 rw [h2,Nat.testBit_xor]
 have e:(4294967295:Nat).testBit j=decide (j < 32):=by
  rw [show (4294967295:Nat)=2 ^ 32 - 1 by decide,Nat.testBit_two_pow_sub_one]
 rw [e]
 by_cases hj:j < 32
 ·simp [hj]
 ·have:r.testBit j=false:=Nat.testBit_lt_two_pow (Nat.lt_of_lt_of_le hr (by rw [show 4294967296=2 ^ 32 by decide];exact Nat.pow_le_pow_right (by decide) (by omega)))
  simp [hj,this]
theorem start_getD (cs:List Nat) (p:Nat):(start cs).getD p false=((reg (msg cs) 0).testBit p != (msg cs).getD p false):=by
 have e:(reg (msg cs) 0).testBit p=decide (p < 32):=by
  show (4294967295:Nat).testBit p=_
  rw [show (4294967295:Nat)=2 ^ 32 - 1 by decide,Nat.testBit_two_pow_sub_one]
 rw [e,← getD_app (msg cs) 32 p]
 unfold start
 generalize hM:msg cs ++ List.replicate 32 false=M
 have hlen:32≤M.length:=by rw [← hM];simp
 simp only [List.getD_eq_getElem?_getD]
 by_cases hp:p < 32
 ·rw [List.getElem?_append_left (by simp;omega)]
  have:p < M.length:=by omega
  simp [hp,List.getElem?_eq_getElem this]
 ·rw [List.getElem?_append_right (by simp;omega)]
  rw [List.length_map,List.length_take,Nat.min_eq_left hlen,List.getElem?_drop,show 32 + (p - 32)=p by omega]
  simp [hp]
theorem division (cs:List Nat) (hc:∀ c ∈ cs,c < 256):gather (divs (start cs) (8 * cs.length)) (8 * cs.length) 32=cs.foldl stepN 0:=by
 have hinv:=divs_inv (start cs) (msg cs) (8 * cs.length) (start_len cs) (start_getD cs) (8 * cs.length) (Nat.le_refl _)
 have hr:=reg_bytes cs hc cs.length (Nat.le_refl _)
 rw [List.take_length] at hr
 rw [gather_full _ _ (reg (msg cs) (8 * cs.length)) (reg_lt _ _),hr,Nat.xor_assoc,Nat.xor_self,Nat.xor_zero]
 intro j hj
 rw [hinv (8 * cs.length + j) (by omega)]
 have:(msg cs).getD (8 * cs.length + j) false=false:=by
  rw [List.getD_eq_getElem?_getD,List.getElem?_eq_none (by rw [msg_len];omega)];rfl
 rw [this]
 simp
end Go.Proofs.YtdaphppdmnmicaaGreatDoor.div
