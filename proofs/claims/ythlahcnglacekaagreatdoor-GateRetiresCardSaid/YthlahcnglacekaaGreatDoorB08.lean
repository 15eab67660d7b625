/- Part of GateRetires. -/
import Derived.Test.YthlahcnglacekaaGreatDoorProg
import Derived.WalkKit
import Derived.Stop.Asserts
import Derived.RowKitTokens
set_option maxRecDepth 100000
set_option maxHeartbeats 16000000
namespace Go.Proofs.YthlahcnglacekaaGreatDoor
namespace is_
open Go.RowKit Go.Extern.Stop Go.Stop Go.Extern
theorem isTypeOf (v:Value) (w:World):(Extern.ReflectliteType.typeOf #[.iface 41 v]).run Tryz.prog w=.ok (.iface 136 (.agg #[.pointer (some ⟨7,41,none⟩)])) w:=by kernel_rfl
theorem isComparable (w : World) : ((Extern.ReflectliteType.method fun t => do Extern.Rtype.noPackHeld "Comparable" t; Functor.map (fun a => Value.bool a.comparable) (typeInfo t)) #[.agg #[.pointer (some ⟨7, 41, none⟩)]]).run Tryz.prog w = .ok (.bool true) w := by kernel_rfl
theorem noIsE (v:Value) (xT:TypeId) (w:World):(Instr.typeAssert (.iface 121 v) xT 138 true).run Tryz.prog w=.ok (.tuple #[.nilIface,.bool false]) w:=run_typeAssert_lacksB Tryz.underlying138 (by kernel_rfl) (by kernel_rfl) v xT w
theorem hasUnwrap (v:Value) (xT:TypeId) (w:World):(Instr.typeAssert (.iface 121 v) xT 141 true).run Tryz.prog w=.ok (.tuple #[.iface 121 v,.bool true]) w:=run_typeAssert_hasB Tryz.underlying141 (by kernel_rfl) v xT w
theorem noIsC (v:Value) (xT:TypeId) (w:World):(Instr.typeAssert (.iface 41 v) xT 138 true).run Tryz.prog w=.ok (.tuple #[.nilIface,.bool false]) w:=run_typeAssert_lacksB Tryz.underlying138 (by kernel_rfl) (by kernel_rfl) v xT w
theorem noUnwrapC (v:Value) (xT:TypeId) (w:World):(Instr.typeAssert (.iface 41 v) xT 141 true).run Tryz.prog w=.ok (.tuple #[.nilIface,.bool false]) w:=run_typeAssert_lacksB Tryz.underlying141 (by kernel_rfl) (by kernel_rfl) v xT w
theorem noUnwrapsC (v:Value) (xT:TypeId) (w:World):(Instr.typeAssert (.iface 41 v) xT 142 true).run Tryz.prog w=.ok (.tuple #[.nilIface,.bool false]) w:=run_typeAssert_lacksB Tryz.underlying142 (by kernel_rfl) (by kernel_rfl) v xT w
theorem isComp:(Tryz.prog.info? 41).map (·.comparable)=some true:=by kernel_rfl
theorem eql_codes (c c':Int) (w:World):(binOp .eql 31 (.iface 41 (.int .i64 c)) (.iface 41 (.int .i64 c'))).run Tryz.prog w=.ok (.bool (c==c')) w:=by
 obtain ⟨i,hi,hcmp⟩:=Option.map_eq_some_iff.1 isComp
 have h:∀ d:Nat,(Op.equalIn (d+2) 31 (.iface 41 (.int .i64 c)) (.iface 41 (.int .i64 c'))).run Tryz.prog w=.ok (c==c') w:=fun d=>by
  simp [Op.equalIn,run_underlying Tryz.underlying31,run_underlying Tryz.underlying41,hi,hcmp,typeInfo]
 simp only [binOp];simp [Op.equal,Op.maxDepth,h 9998]
theorem methodUnwrap (v : Value) (w : World) : (Go.method 543 121 v "Unwrap").run Tryz.prog w = .ok (322, v) w := by kernel_rfl
theorem methodComparable (v : Value) (w : World) : (Go.method 543 136 v "Comparable").run Tryz.prog w = .ok (325, v) w := by kernel_rfl
theorem is_code (g:Nat) (c c':Int) (w:World) (h2:w.cell? ⟨g,2,none⟩=some (.iface 41 (.int .i64 c))) :
  Calls Tryz.prog 9 #[.iface 121 (.pointer (some ⟨g,0,none⟩)),.iface 41 (.int .i64 c')] w fun e w'=>e=.returned (.bool (c==c'))∧w=w':=by
 have h8:=@run_callFunc_extern Tryz.prog 17 _ Extern.ReflectliteType.typeOf Tryz.func17 (by kernel_rfl) (by kernel_rfl) (by kernel_rfl) (by kernel_rfl);have h32 := @run_callFunc_extern Tryz.prog 325 _ (Extern.ReflectliteType.method fun t => do Extern.Rtype.noPackHeld "Comparable" t; pure (.bool (← typeInfo t).comparable)) Tryz.func325 (by kernel_rfl) (by kernel_rfl) (by kernel_rfl) (by kernel_rfl);have tT:=isTypeOf;have cT:=isComparable;have mR:=methodComparable;have n1:=noIsE;have n2:=hasUnwrap;have n3:=noIsC;have n4:=noUnwrapC;have n5:=noUnwrapsC;have mU:=methodUnwrap;have heq:=eql_codes c c' w;have hty:=run_eql_iface_types (P:=Tryz.prog) 121 41 (.pointer (some ⟨g,0,none⟩)) (.int .i64 c') Tryz.underlying31 (by decide) w;generalize (c == c')=x at heq ⊢
 cases x
 all_goals
  go_enter Tryz.func9,Tryz.ntmps9;go_wp2;refine wp_loop_rounds 2 ?_;rw [rounds_succ];go_wp2;rw [rounds_succ];go_wp2;go_ret
  exact ⟨rfl,rfl⟩
end is_
namespace num
def rnd (x:Nat):Nat:=(x / 2) ^^^ (if x % 2=1 then 2197175160 else 0)
def rnds:Nat→Nat→Nat
 | 0,x=>x
 | k+1,x=>rnd (rnds k x)
def stepN (s c:Nat):Nat:=(rnds 8 ((s ^^^ 4294967295) ^^^ c)) ^^^ 4294967295
def stepI (s c:Int):Int:=((stepN s.toNat c.toNat:Nat):Int)
def sumI (l:List Int):Int:=l.foldl stepI 0
theorem rnd_lt {x:Nat} (h:x<4294967296):rnd x<4294967296:=by
 unfold rnd;have:x / 2<2 ^ 32:=by omega
 have h2:(if x % 2=1 then 2197175160 else 0)<2 ^ 32:=by split <;> decide
 exact Nat.xor_lt_two_pow this h2
theorem rnds_lt {x:Nat} (k:Nat) (h:x<4294967296):rnds k x<4294967296:=by
 induction k with
 | zero=>exact h
 | succ k ih=>exact rnd_lt ih
theorem xor_lt {a b:Nat} (ha:a<4294967296) (hb:b<4294967296):a ^^^ b<4294967296:=Nat.xor_lt_two_pow (n:=32) ha hb
theorem stepN_lt {s c:Nat} (hs:s<4294967296) (hc:c<256):stepN s c<4294967296 :=
 xor_lt (rnds_lt 8 (xor_lt (xor_lt hs (by decide)) (by omega))) (by decide)
theorem stepI_bd {s c:Int} (hs:0≤s∧s≤4294967295) (hc:0≤c∧c≤255):0≤stepI s c∧stepI s c≤4294967295:=by
 unfold stepI;have:=stepN_lt (s:=s.toNat) (c:=c.toNat) (by omega) (by omega);omega
theorem foldl_bd {l:List Int}:∀ {s:Int},0≤s∧s≤4294967295→(∀ c ∈ l,0≤c∧c≤255)→0≤l.foldl stepI s∧l.foldl stepI s≤4294967295:=by
 induction l with
 | nil=>intro s hs _;exact hs
 | cons c l ih=>intro s hs hl;exact ih (stepI_bd hs (hl c (by simp))) (fun d hd=>hl d (by simp [hd]))
theorem sumI_bd {l:List Int} (hl:∀ c ∈ l,0≤c∧c≤255):0≤sumI l∧sumI l≤4294967295:=foldl_bd (by omega) hl
theorem spell_start {s c:Nat} (hs:s<4294967296) (hc:c<256):bits .xor .u32 (bits .xor .u32 IntKind.u32.max (s:Int)) (c:Int)=(((s ^^^ 4294967295) ^^^ c:Nat):Int):=by
 have h:IntKind.u32.max=((4294967295:Nat):Int):=by decide
 rw [h,u32_xor_nat _ _ (by decide) hs,u32_xor_nat _ _ (xor_lt (by decide) hs) (by omega),Nat.xor_comm 4294967295 s]
theorem spell_end {x:Nat} (hx:x<4294967296):bits .xor .u32 IntKind.u32.max (x:Int)=((x ^^^ 4294967295:Nat):Int):=by
 have h:IntKind.u32.max=((4294967295:Nat):Int):=by decide
 rw [h,u32_xor_nat _ _ (by decide) hx,Nat.xor_comm 4294967295 x]
theorem spell_rnd {x:Nat} (hx:x<4294967296):bits .xor .u32 ((x:Int) / 2) (bits .and .u32 2197175160 (-bits .and .u32 (x:Int) 1 % 4294967296))=((rnd x:Nat):Int):=by
 have h1:bits .and .u32 (x:Int) 1=((x % 2:Nat):Int):=by
  have:=u32_and_nat x 1 hx (by decide);rw [Nat.and_one_is_mod] at this;exact this
 rw [h1];unfold rnd;have hd:((x:Int) / 2)=((x / 2:Nat):Int):=by omega
 rw [hd]
 rcases Nat.mod_two_eq_zero_or_one x with h|h
 ·rw [h]
  have e:bits .and .u32 2197175160 (-((0:Nat):Int) % 4294967296)=((0:Nat):Int):=by decide
  rw [e,u32_xor_nat _ _ (by omega) (by decide)];simp
 ·rw [h]
  have e:bits .and .u32 2197175160 (-((1:Nat):Int) % 4294967296)=((2197175160:Nat):Int):=by decide
  rw [e,u32_xor_nat _ _ (by omega) (by decide)];simp
theorem take_succ_foldl (zs:List Int) (k:Nat) (h:k<zs.length):(zs.take (k+1)).foldl stepI 0=stepI ((zs.take k).foldl stepI 0) (zs.getD k 0):=by
 rw [List.take_succ_eq_append_getElem h,List.foldl_append];simp [List.getD_eq_getElem?_getD,h]
end num
namespace framep
open num
def crcN (l:List UInt8):Nat:=l.foldl (fun s c=>stepN s c.toNat) 0
def fourB (s:Nat):List UInt8:=[UInt8.ofNat (s % 256),UInt8.ofNat (s / 256 % 256),UInt8.ofNat (s / 65536 % 256),UInt8.ofNat (s / 16777216)]
def sumB (l:List UInt8):List UInt8:=fourB (crcN l)
theorem sumB_len (l:List UInt8):(sumB l).length=4:=rfl
def nibs (l:List UInt8):List UInt8:=l.flatMap fun c=>[UInt8.ofNat (64+c.toNat / 16),UInt8.ofNat (64+c.toNat % 16)]
def headB (n:Nat):List UInt8:=[UInt8.ofNat (n / 256 % 256),UInt8.ofNat (n % 256)]
def sealF (p:List UInt8):List UInt8:=1 :: nibs (headB p.length++sumB (headB p.length)++p++sumB (headB p.length++p))
def rawsF:Nat→List UInt8→Option (List UInt8 × List UInt8)
 | 0,l=>some ([],l)
 | n+1,a :: b :: r=>if a.toNat / 16=4∧b.toNat / 16=4 then (rawsF n r).map fun x=>(UInt8.ofNat (a.toNat % 16*16+b.toNat % 16) :: x.1,x.2) else none
 | _+1,_=>none
theorem byte_of {n:Nat} (h:n<256):(UInt8.ofNat n).toNat=n:=by rw [UInt8.toNat_ofNat'];omega
theorem nibs_len (l:List UInt8):(nibs l).length=2*l.length:=by
 unfold nibs
 induction l with
 | nil=>rfl
 | cons c l ih=>rw [List.flatMap_cons,List.length_append,ih];simp;omega
theorem raws_nibs (l:List UInt8) (r:List UInt8):rawsF l.length (nibs l++r)=some (l,r):=by
 induction l with
 | nil=>rfl
 | cons c l ih =>
  have hc:c.toNat<256:=c.toNat_lt;have e:nibs (c :: l)++r=UInt8.ofNat (64+c.toNat / 16) :: UInt8.ofNat (64+c.toNat % 16) :: (nibs l++r):=by simp [nibs]
  rw [e,List.length_cons,rawsF,byte_of (by omega),byte_of (by omega),if_pos (by omega),ih,Option.map_some]
  congr 2
  congr 1
  apply UInt8.toNat_inj.mp
  rw [byte_of (by omega)];omega
theorem seal_len (p:List UInt8):(sealF p).length=1+2*(p.length+10):=by
 unfold sealF;rw [List.length_cons,nibs_len];simp [sumB_len,headB]
 omega
end framep
namespace macp
def rot (x k:Nat):Nat:=x*2 ^ k % 4294967296 ||| x / 2 ^ (32-k)
theorem M_lt (x:Nat):x % 4294967296<4294967296:=Nat.mod_lt _ (by decide)
theorem xorL {a b:Nat} (ha:a<4294967296) (hb:b<4294967296):a ^^^ b<4294967296:=Nat.xor_lt_two_pow (n:=32) ha hb
theorem orL {a b:Nat} (ha:a<4294967296) (hb:b<4294967296):a ||| b<4294967296:=Nat.or_lt_two_pow (n:=32) ha hb
theorem andL {a b:Nat} (ha:a<4294967296):a &&& b<4294967296:=Nat.lt_of_le_of_lt Nat.and_le_left ha
theorem divL {a:Nat} (k:Nat) (ha:a<4294967296):a / 2 ^ k<4294967296:=Nat.lt_of_le_of_lt (Nat.div_le_self _ _) ha
theorem rot_lt {x:Nat} (k:Nat) (h:x<4294967296):rot x k<4294967296:=orL (M_lt _) (divL _ h)
def word (b:List Nat):Nat→Nat
 | 0=>0
 | k+1=>(word b k*256 % 4294967296) ||| b.getD k 0
theorem word_lt {b:List Nat} (hb:∀ x ∈ b,x<256):∀ k,word b k<4294967296
 | 0=>by unfold word;omega
 | k+1=>by
  unfold word;refine orL (M_lt _) ?_;rw [List.getD_eq_getElem?_getD]
  cases h:b[k]? with
  | none=>simp
  | some x=>have:=hb x (List.mem_of_getElem? h);simp;omega
def s0 (p:Nat):Nat:=rot p 25 ^^^ rot p 14 ^^^ p / 8
def s1 (q:Nat):Nat:=rot q 15 ^^^ rot q 13 ^^^ q / 1024
def next (b l:List Nat) (i:Nat):Nat :=
 if i<16 then word (b.drop (4*i)) 4 else (l.getD (i-16) 0+s0 (l.getD (i-15) 0)+l.getD (i-7) 0+s1 (l.getD (i-2) 0)) % 4294967296
def sched (b:List Nat):Nat→List Nat
 | 0=>[]
 | i+1=>sched b i++[next b (sched b i) i]
theorem sched_len (b:List Nat):∀ i,(sched b i).length=i
 | 0=>rfl
 | i+1=>by simp [sched,sched_len b i]
theorem getD_lt {l:List Nat} {B:Nat} (h:∀ x ∈ l,x<B) (h0:0<B) (i:Nat):l.getD i 0<B:=by
 rw [List.getD_eq_getElem?_getD]
 cases hq:l[i]? with
 | none=>simpa using h0
 | some x=>simpa using h x (List.mem_of_getElem? hq)
theorem next_lt {b l:List Nat} (hb:∀ x ∈ b,x<256) (i:Nat):next b l i<4294967296:=by
 unfold next
 split
 ·exact word_lt (fun x hx=>hb x (List.mem_of_mem_drop hx)) 4
 ·exact M_lt _
theorem sched_lt {b:List Nat} (hb:∀ x ∈ b,x<256):∀ i,∀ x ∈ sched b i,x<4294967296
 | 0=>by intro x hx;cases hx
 | i+1=>by
  intro x hx;simp only [sched,List.mem_append,List.mem_singleton] at hx
  rcases hx with h|rfl
  ·exact sched_lt hb i x h
  ·exact next_lt hb i
def turns:List Nat:=[
 0x428a2f98,0x71374491,0xb5c0fbcf,0xe9b5dba5,0x3956c25b,0x59f111f1,0x923f82a4,0xab1c5ed5,
 0xd807aa98,0x12835b01,0x243185be,0x550c7dc3,0x72be5d74,0x80deb1fe,0x9bdc06a7,0xc19bf174,
 0xe49b69c1,0xefbe4786,0x0fc19dc6,0x240ca1cc,0x2de92c6f,0x4a7484aa,0x5cb0a9dc,0x76f988da,
 0x983e5152,0xa831c66d,0xb00327c8,0xbf597fc7,0xc6e00bf3,0xd5a79147,0x06ca6351,0x14292967,
 0x27b70a85,0x2e1b2138,0x4d2c6dfc,0x53380d13,0x650a7354,0x766a0abb,0x81c2c92e,0x92722c85,
 0xa2bfe8a1,0xa81a664b,0xc24b8b70,0xc76c51a3,0xd192e819,0xd6990624,0xf40e3585,0x106aa070,
 0x19a4c116,0x1e376c08,0x2748774c,0x34b0bcb5,0x391c0cb3,0x4ed8aa4a,0x5b9cca4f,0x682e6ff3,
 0x748f82ee,0x78a5636f,0x84c87814,0x8cc70208,0x90befffa,0xa4506ceb,0xbef9a3f7,0xc67178f2]
structure W8 where
 a:Nat
 b:Nat
 c:Nat
 d:Nat
 e:Nat
 f:Nat
 g:Nat
 h:Nat
def W8.list (v:W8):List Nat:=[v.a,v.b,v.c,v.d,v.e,v.f,v.g,v.h]
structure W8.Ok (v:W8):Prop where
 a:v.a<4294967296
 b:v.b<4294967296
 c:v.c<4294967296
 d:v.d<4294967296
 e:v.e<4294967296
 f:v.f<4294967296
 g:v.g<4294967296
 h:v.h<4294967296
def start:W8:=⟨0x6a09e667,0xbb67ae85,0x3c6ef372,0xa54ff53a,0x510e527f,0x9b05688c,0x1f83d9ab,0x5be0cd19⟩
theorem start_ok:start.Ok:=⟨by decide,by decide,by decide,by decide,by decide,by decide,by decide,by decide⟩
def xx (v:W8) (k w:Nat):Nat:=(v.h+(rot v.e 26 ^^^ rot v.e 21 ^^^ rot v.e 7)+(v.g ^^^ v.e &&& (v.f ^^^ v.g))+k+w) % 4294967296
def yy (v:W8):Nat:=((rot v.a 30 ^^^ rot v.a 19 ^^^ rot v.a 10)+(v.a &&& (v.b ||| v.c) ||| v.b &&& v.c)) % 4294967296
def rnd (v:W8) (k w:Nat):W8:=⟨(xx v k w+yy v) % 4294967296,v.a,v.b,v.c,(v.d+xx v k w) % 4294967296,v.e,v.f,v.g⟩
theorem rnd_ok {v:W8} (h:v.Ok) (k w:Nat):(rnd v k w).Ok:=⟨M_lt _,h.a,h.b,h.c,M_lt _,h.e,h.f,h.g⟩
def rnds (v:W8) (ws:List Nat):Nat→W8
 | 0=>v
 | i+1=>rnd (rnds v ws i) (turns.getD i 0) (ws.getD i 0)
theorem rnds_ok {v:W8} (h:v.Ok) (ws:List Nat):∀ i,(rnds v ws i).Ok
 | 0=>h
 | i+1=>rnd_ok (rnds_ok h ws i) _ _
def plus (v u:W8):W8:=⟨(v.a+u.a) % 4294967296,(v.b+u.b) % 4294967296,(v.c+u.c) % 4294967296,(v.d+u.d) % 4294967296,(v.e+u.e) % 4294967296,(v.f+u.f) % 4294967296,(v.g+u.g) % 4294967296,(v.h+u.h) % 4294967296⟩
theorem plus_ok (v u:W8):(plus v u).Ok:=⟨M_lt _,M_lt _,M_lt _,M_lt _,M_lt _,M_lt _,M_lt _,M_lt _⟩
def fold (v:W8) (b:List Nat):W8:=plus v (rnds v (sched b 64) 64)
def run:Nat→W8→List Nat→W8
 | 0,v,_=>v
 | k+1,v,b=>run k (fold v (b.take 64)) (b.drop 64)
theorem fold_ok (v:W8) (b:List Nat):(fold v b).Ok:=plus_ok _ _
theorem run_ok:∀ (k:Nat) {v:W8} (b:List Nat),v.Ok→(run k v b).Ok
 | 0,_,_,h=>h
 | k+1,_,b,_=>run_ok k (b.drop 64) (fold_ok _ _)
def byteN (n k:Nat):Nat:=n / 2 ^ k % 256
def eight (n:Nat):List Nat:=[byteN n 56,byteN n 48,byteN n 40,byteN n 32,byteN n 24,byteN n 16,byteN n 8,byteN n 0]
def four (n:Nat):List Nat:=[byteN n 24,byteN n 16,byteN n 8,byteN n 0]
def zeros (n:Nat):Nat:=(119-n % 64) % 64
def pad (l:List Nat):List Nat:=(l++[128]++List.replicate (zeros l.length) 0)++eight (l.length*8)
theorem pad_len (l:List Nat):(pad l).length % 64=0:=by
 unfold pad zeros;simp only [List.length_append,List.length_replicate,List.length_cons,List.length_nil,eight];omega
def digN (l:List Nat):List Nat:=(run ((pad l).length / 64) start (pad l)).list.flatMap four
theorem dig_len (l:List Nat):(digN l).length=32:=rfl
theorem byteN_lt (n k:Nat):byteN n k<256:=Nat.mod_lt _ (by decide)
theorem eight_lt (n:Nat):∀ x ∈ eight n,x<256:=by
 intro x hx;simp only [eight,List.mem_cons,List.not_mem_nil,or_false] at hx
 rcases hx with rfl|rfl|rfl|rfl|rfl|rfl|rfl|rfl <;> exact byteN_lt _ _
def natB (l:List UInt8):List Nat:=l.map UInt8.toNat
def byt8 (l:List Nat):List UInt8:=l.map UInt8.ofNat
theorem natB_lt (l:List UInt8):∀ x ∈ natB l,x<256:=by
 intro x hx;obtain ⟨b,_,rfl⟩:=List.mem_map.1 hx;exact b.toNat_lt
theorem natB_byt {l:List Nat} (h:∀ x ∈ l,x<256):natB (byt8 l)=l:=by
 unfold natB byt8;rw [List.map_map];refine (List.map_congr_left fun x hx=>?_).trans (List.map_id l);have:=h x hx;simp [Nat.mod_eq_of_lt (show x<256 from this)]
def dig (l:List UInt8):List UInt8:=byt8 (digN (natB l))
theorem dig_size (l:List UInt8):(dig l).length=32:=by unfold dig byt8;rw [List.length_map,dig_len]
def keyX (key:List UInt8) (m:UInt8):List UInt8:=(key++List.replicate (64-key.length) 0).map fun c=>c ^^^ m
def tag0 (key s:List UInt8):List UInt8:=dig (keyX key 0x5c++dig (keyX key 0x36++s))
def tag (key s:List UInt8):List UInt8:=tag0 (if 64<key.length then dig key else key) s
def keyW:List UInt8:=[107,101,121]
def derive (m:List UInt8) (n:Nat):List UInt8:=tag m (keyW++byt8 (eight n))
theorem tag_len (k s:List UInt8):(tag k s).length=32:=dig_size _
end macp
namespace macp
theorem run_last:∀ (k:Nat) (v:W8) (b:List Nat),run (k+1) v b=fold (run k v b) ((b.drop (64*k)).take 64)
 | 0,v,b=>by simp [run]
 | k+1,v,b=>by
  have h:=run_last k (fold v (b.take 64)) (b.drop 64);rw [List.drop_drop] at h;rw [show 64*(k+1)=64+64*k by omega];exact h
def padK (l:List UInt8) (k:Nat):List UInt8:=l++[128]++List.replicate k 0
theorem padK_len (l:List UInt8) (k:Nat):(padK l k).length=l.length+1+k:=by simp [padK];omega
theorem padK_next (l:List UInt8) (k:Nat):padK l k++[0]=padK l (k+1):=by
 unfold padK;rw [List.append_assoc,List.replicate_succ']
def padB (l:List UInt8):List UInt8:=padK l (zeros l.length)++byt8 (eight (l.length*8))
theorem natB_app (a b:List UInt8):natB (a++b)=natB a++natB b:=by simp [natB]
theorem natB_len (a:List UInt8):(natB a).length=a.length:=by simp [natB]
theorem byt8_len (a:List Nat):(byt8 a).length=a.length:=by simp [byt8]
theorem natB_pad (l:List UInt8):natB (padB l)=pad (natB l):=by
 unfold padB padK pad;rw [natB_app,natB_app,natB_app,natB_byt (eight_lt _),natB_len]
 congr 2
 simp [natB]
theorem padB_len (l:List UInt8):(padB l).length=l.length+9+zeros l.length:=by
 unfold padB;rw [List.length_append,padK_len,byt8_len];simp only [eight,List.length_cons,List.length_nil];omega
theorem zeros_end {n k:Nat} (h:k≤zeros n):(n+1+k) % 64=56↔k=zeros n:=by
 unfold zeros at *;omega
theorem zeros_lt (n:Nat):zeros n<64:=Nat.mod_lt _ (by decide)
def hK (l:List UInt8) (k:Nat):W8:=run k start (natB (padB l))
theorem hK_next (l:List UInt8) (k:Nat):hK l (k+1)=fold (hK l k) (natB (((padB l).drop (64*k)).take 64)):=by
 unfold hK;rw [run_last];simp [natB,List.map_take,List.map_drop]
theorem hK_ok (l:List UInt8) (k:Nat):(hK l k).Ok:=run_ok k _ start_ok
def outK (l:List UInt8) (j:Nat):List UInt8:=((hK l ((padB l).length / 64)).list.take j).flatMap fun x=>byt8 (four x)
theorem outK_8 (l:List UInt8):outK l 8=dig l:=by
 unfold outK dig digN hK;rw [natB_pad,show (padB l).length=(pad (natB l)).length by rw [←natB_pad,natB_len]];simp [byt8,W8.list]
theorem flat4:∀ L:List Nat,(L.flatMap fun x=>byt8 (four x)).length=4*L.length
 | []=>rfl
 | x :: L=>by rw [List.flatMap_cons,List.length_append,flat4 L,byt8_len];simp only [four,List.length_cons,List.length_nil];omega
theorem outK_len (l:List UInt8) (j:Nat):(outK l j).length≤32:=by
 unfold outK;rw [flat4,List.length_take];have:∀ v:W8,v.list.length=8:=fun v=>rfl;rw [this];omega
end macp
end Go.Proofs.YthlahcnglacekaaGreatDoor
