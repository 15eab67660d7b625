/- Part of GateRetires. -/
import Derived.Test.YthlahcnglacekaaGreatDoorB37
set_option maxRecDepth 100000
set_option maxHeartbeats 16000000
namespace Go.Proofs.YthlahcnglacekaaGreatDoor
namespace regn
open Go Go.RowKit base err lease fold disk diskp jrnp
theorem well_new (n:Nat):Well (newD n) []:=⟨rfl,rfl,by show (-1:Int)<0;omega,rfl,by simp,by show 0≤_;omega⟩
theorem start_len:(dev (startL 1 [])).length≤363:=by
 have h:=fun k (h1:1≤k) (h4:k≤4) pl (hp:pl≤1099511627776)=>seal_le (Part.mk k 1 pl []) ⟨h1,h4,by show 1≤1;omega,by show 1≤_;omega,hp,by show 0≤4096;omega,.inr rfl⟩ 0 (by show 0≤0;omega);have h1:=h 1 (by omega) (by omega) 0 (by omega);have h3:=h 3 (by omega) (by omega) 0 (by omega);have e:startL 1 []=[Part.mk 1 1 0 [],Part.mk 3 1 0 [],Part.mk 4 1 (dev [Part.mk 1 1 0 [],Part.mk 3 1 0 []]).length []]:=rfl;have e2:(dev [Part.mk 1 1 0 [],Part.mk 3 1 0 []]).length≤242:=by simp only [dev,List.flatMap_cons,List.flatMap_nil,List.length_append,List.length_nil];omega
 have h4:=h 4 (by omega) (by omega) (dev [Part.mk 1 1 0 [],Part.mk 3 1 0 []]).length (by omega);rw [e];generalize (dev [Part.mk 1 1 0 [],Part.mk 3 1 0 []]).length=q at *;simp only [dev,List.flatMap_cons,List.flatMap_nil,List.length_append,List.length_nil];omega
def freshD (db:Dk):Dk:={ db with b:=dev (startL 1 []),safe:=(dev (startL 1 [])).length }
def newX (id n:Nat) (m:ByteArray) (da db:Dk):RX:=⟨id,n,m,0,[],[],[],0,[],List.replicate n 0,[],0,fun _=>0,fun _=>0,0,1,freshD db,da⟩
theorem well_fresh {db:Dk} (h:Well db []):Well (freshD db) (startL 1 []):=by
 have hl:=start_len;refine ⟨rfl,rfl,h.fuse,h.down,?_,by show (dev (startL 1 [])).length≤_;omega⟩;have e:startL 1 []=[Part.mk 1 1 0 [],Part.mk 3 1 0 [],Part.mk 4 1 (dev [Part.mk 1 1 0 [],Part.mk 3 1 0 []]).length []]:=rfl;have e2:(dev [Part.mk 1 1 0 [],Part.mk 3 1 0 []]).length≤363:=by rw [e] at hl;unfold dev at hl ⊢;simp only [List.flatMap_cons,List.flatMap_nil,List.length_append,List.length_nil] at hl ⊢;omega
 rw [e];intro p hp;simp only [List.mem_cons,List.not_mem_nil,or_false] at hp
 rcases hp with rfl|rfl|rfl
 ·exact ⟨by show 1≤1;omega,by show 1≤4;omega,by show 1≤1;omega,by show 1≤_;omega,by show 0≤_;omega,by show 0≤4096;omega,.inr rfl⟩
 ·exact ⟨by show 1≤3;omega,by show 3≤4;omega,by show 1≤1;omega,by show 1≤_;omega,by show 0≤_;omega,by show 0≤4096;omega,.inr rfl⟩
 ·exact ⟨by show 1≤4;omega,by show 4≤4;omega,by show 1≤1;omega,by show 1≤_;omega,by show (dev _).length≤_;omega,by show 0≤4096;omega,.inr rfl⟩
theorem OpenR.regI {Sa Sb : Nat → Prop} {a b : Nat} {da db : Dk} {id n : Nat} {m : ByteArray} {w w' : World} {e : Ending} (h : OpenR Sb a b db id n m w e w') (hda : DiskS w Sa a da) (hab : ∀ i, Sa i → ¬ Sb i) (hsb : ∀ i, Sb i → i < w.heap.size) :
    ∃ p own, e = .returned (.tuple #[.pointer (some ⟨p.r, 0, none⟩), .nilIface]) ∧ RegI w' own p (newX id n m da db) ∧ p.gn = b ∧ p.gs = a ∧ (∀ i, own i = 5↔Sa i) ∧ (∀ i, own i≠0 → Sa i∨Sb i∨w.heap.size ≤ i) ∧ (∀ i, Sb i → own i = 4) ∧ Keeps Sb w w' := by
  obtain ⟨r, jn, gl, gc, gi, gf, gr, gs, bs, gt, bt, va, Sj, Si, Sq, he, h1, h2, h3, h4, h5, h6, h7, h8, h9, h10, h11, h12, hk, f, a1, a2, o1, o2, o3, o4, o5, o6, o7, o8, o9, o10, o11, o12, o13, o14, o15, o16⟩ := h;have hsa : ∀ i, Sa i → i<w.heap.size := by obtain ⟨v, hv⟩ := hda; exact hv.small
  have hda' : DiskS w' Sa a da := hda.keeps hk (fun i hi hx => hab i hi hx)
  have ngt : gt≠bt := fun e => by
    subst e;obtain ⟨es, clock, hb', _⟩ := h12.2.1;have := h12.1;unfold Blk at this;rw [hb'] at this
    cases this
  have ngs : gs≠bs := h11.ne;have si0 := o15 gi h8.inG;have sq0 := o16 gf (by obtain ⟨_, _, _, _, _, h9⟩ := h9; exact h9.inG);have fj : ∀ i, Sj i → i<f ∧ i≠jn ∧ (i<w.heap.size∨gl<i) := fun i hi => ⟨(o5 i hi).1, fun e => h6 (e ▸ hi), (o5 i hi).2.imp (hsb i) (fun h => h)⟩
  have dja : ∀ i, Sj i → ¬ Sa i := fun i hi ha => by
    rcases (o5 i hi).2 with h | h
    · exact hab i ha h
    · have := hsa i ha; omega
  have hp : ([(1, (· = r)), (2, (· = gl)), (3, (· = jn)), (4, Sj), (5, Sa), (6, (· = gc)), (7, Si), (8, (· = gs)), (9, (· = bs)), (10, Sq), (11, (· = gt)), (12, (· = bt)), (13, (· = gr))] : List (Nat × (Nat → Prop))).Pairwise (fun a b => a.1≠b.1 ∧ ∀ i, a.2 i → ¬ b.2 i) := by
    simp only [List.pairwise_cons, List.forall_mem_cons]
    repeat' apply And.intro
    all_goals first
      | exact List.Pairwise.nil
      | (intro q hq; cases hq; done)
      | (show (_ : Nat)≠_; decide)
      | (intro i e1 e2
         try dsimp only at e1 e2
         first
         | omega
         | (have z := fj i e1; omega) | (have z := fj i e2; omega)
         | (have z := hsa i e1; omega) | (have z := hsa i e2; omega)
         | (have z := o15 i e1; omega) | (have z := o15 i e2; omega)
         | (have z := o16 i e1; omega) | (have z := o16 i e2; omega)
         | (exact dja i e1 e2)
         | (have z := fj i e1; have z2 := o15 i e2; omega) | (have z := fj i e1; have z2 := o16 i e2; omega)
         | (have z := hsa i e1; have z2 := o15 i e2; omega) | (have z := hsa i e1; have z2 := o16 i e2; omega)
         | (have z := o15 i e1; have z2 := o16 i e2; omega))
  generalize hl : ([(1, (· = r)), (2, (· = gl)), (3, (· = jn)), (4, Sj), (5, Sa), (6, (· = gc)), (7, Si), (8, (· = gs)), (9, (· = bs)), (10, Sq), (11, (· = gt)), (12, (· = bt)), (13, (· = gr))] : List (Nat × (Nat → Prop))) = l at hp
  have h0 : ∀ q ∈ l, q.1≠0 := by
    rw [←hl];simp only [List.forall_mem_cons]
    repeat' apply And.intro
    all_goals first | (intro q hq; cases hq; done) | (show (_ : Nat)≠_; decide)
  have at_ : ∀ {t : Nat} {S : Nat → Prop} (i : Nat), (t, S) ∈ l → (ownOf l i = t↔S i) := fun i hq => ownOf_at hp h0 hq;have mem : ∀ q : Nat × (Nat → Prop), q ∈ ([(1, (· = r)), (2, (· = gl)), (3, (· = jn)), (4, Sj), (5, Sa), (6, (· = gc)), (7, Si), (8, (· = gs)), (9, (· = bs)), (10, Sq), (11, (· = gt)), (12, (· = bt)), (13, (· = gr))] : List (Nat × (Nat → Prop))) → q ∈ l := fun q hq => hl ▸ hq;have m1 := at_ r (mem (1, (· = r)) (by simp));have m2 := at_ gl (mem (2, (· = gl)) (by simp));have m3 := at_ jn (mem (3, (· = jn)) (by simp));have m4 := fun i => at_ i (mem (4, Sj) (by simp));have m5 := fun i => at_ i (mem (5, Sa) (by simp));have m6 := at_ gc (mem (6, (· = gc)) (by simp));have m7 := fun i => at_ i (mem (7, Si) (by simp));have m8 := at_ gs (mem (8, (· = gs)) (by simp));have m9 := at_ bs (mem (9, (· = bs)) (by simp));have m10 := fun i => at_ i (mem (10, Sq) (by simp));have m11 := at_ gt (mem (11, (· = gt)) (by simp));have m12 := at_ bt (mem (12, (· = bt)) (by simp));have m13 := at_ gr (mem (13, (· = gr)) (by simp));have e4 : (fun i => ownOf l i = 4) = Sj := setOf_eq m4;have e5 : (fun i => ownOf l i = 5) = Sa := setOf_eq m5;have e7 : (fun i => ownOf l i = 7) = Si := setOf_eq m7;have e10 : (fun i => ownOf l i = 10) = Sq := setOf_eq m10;have hsz := hk.size;have hdj : ∀ i, Sj i → i<w'.heap.size := by obtain ⟨v, hv⟩ := h5; exact hv.small
  have hall : ∀ i, ownOf l i≠0 → i<w'.heap.size ∧ (Sa i∨Sb i∨w.heap.size ≤ i) := fun i hi => by
    obtain ⟨q, hq, h⟩ := ownOf_mem hi;rw [←hl] at hq;simp only [List.mem_cons, List.not_mem_nil, or_false] at hq;have k1 := h1.lt; have k2 := h2.lt; have k3 := h3.lt; have k6 := h7.lt; have k8 := h11.lt; have k9 := h11.ltm; have k11 := h12.1.lt; have k12 := h12.2.lt; have k13 := h10.lt
    rcases hq with rfl | rfl | rfl | rfl | rfl | rfl | rfl | rfl | rfl | rfl | rfl | rfl | rfl <;> dsimp only at h
    · omega
    · omega
    · omega
    · exact ⟨hdj i h, (h4.2 i h).elim (fun h => .inr (.inl h)) (fun h => .inr (.inr h))⟩
    · exact ⟨by have := hsa i h; omega, .inl h⟩
    · omega
    · exact ⟨h8.small i h, by have := o15 i h; omega⟩
    · omega
    · omega
    · exact ⟨by obtain ⟨_, _, _, _, _, h9⟩ := h9; exact h9.small i h, by have := o16 i h; omega⟩
    · omega
    · omega
    · omega
  refine ⟨⟨r, jn, b, a, gc, gi, gf, gr, gl, gs, bs, gt, bt, va, .slice none 0 0, .map (some (w.heap.size+1))⟩, ownOf l, he, ⟨h1, h2, h3, by rw [e4]; exact h5, by rw [e5]; exact hda', h7, by rw [e7]; exact h8, h11, by rw [e10]; exact h9, h12, h10, m1.2 rfl, m2.2 rfl, m3.2 rfl, m6.2 rfl, m8.2 rfl, m9.2 rfl, m11.2 rfl, m12.2 rfl, m13.2 rfl, fun i hi => (hall i hi).1⟩, rfl, rfl, m5, fun i hi => (hall i hi).2, fun i hi => (m4 i).2 (h4.1 i hi), hk⟩
end regn
namespace regn
open Go Go.RowKit base err lease fold monoj rowe
section
variable {w:World} {r:Nat} {x:Rg}
theorem others_one (F:Value) (h:RegB w r x) (h1:x.id=1) (h2:x.n=1):Calls Tryz.prog 204 #[.pointer (some ⟨r,0,none⟩),F] w fun e w'=>e=.returned (.slice none 0 0)∧w'=w:=by
 have c0:=h.c0;have c1:=h.c1;have hlt:=h.lt;rw [h1] at c0;rw [h2] at c1;clear h h1 h2;go_enter Tryz.func204,Tryz.ntmps204;go_wp2_with fail
 go_loopw [5,6] (fun o i wr=>o=.slice none 0 0∧(i=.int .i64 1∨i=.int .i64 2)∧wr=w) (fun _ i _=>2-(intOf i).toNat)
 case atStart=>exact ⟨rfl,.inl rfl,rfl⟩
 case round =>
  obtain ⟨rfl,hi,rfl⟩:=hrel
  rcases hi with rfl|rfl
  ·go_wp2_with fail
   go_roundw
   case rel=>exact ⟨rfl,.inr rfl,trivial⟩
   case measure=>simp [intOf]
  ·go_wp2_with fail
   go_ret
   exact ⟨rfl,rfl⟩
theorem push_one (A:Option Addr) (n c:Nat) (h:RegB w r x) (h1:x.id=1) (h2:x.n=1):Calls Tryz.prog 159 #[.pointer (some ⟨r,0,none⟩),.slice A n c] w fun e w'=>e=.returned (.slice none 0 0)∧Below w.heap.size w w':=by
 have hlt:=h.lt;have HB:=qH (below_new w (.cells #[.slice A n c] 98));have HR:=qH (show RegB (w.alloc (.cells #[.slice A n c] 98)) r x from Blk.alloc h _);clear h;go_enter Tryz.func159,Tryz.ntmps159;go_wp2_with fail;refine (others_one _ HR.out h1 h2).mono ?_;rintro e w1 ⟨rfl,rfl⟩;go_wp2_with fail;go_ret
 exact ⟨rfl,HB.out⟩
end
end regn
namespace regn
open Go Go.RowKit base map_ err cmp above merge rows Go.Maps regn err store
section
variable {w:World} {r:Nat} {x:Rg}
def GetQ (v:ByteArray) (w:World) (e:Ending) (w':World):Prop:=e=.returned (.tuple #[.string v,.nilIface])∧Below w.heap.size w w'
theorem get_q {gs bs:Nat} {L:List R} (s k:ByteArray) (h:RegB w r x) (hd:x.down=false) (hp:x.st=.pointer (some ⟨gs,0,none⟩)) (hs:StI w gs bs L) (h1:s.size≤maxLen) (h2:k.size≤maxLen) (hk:getC k (atL L (s,⟨#[]⟩)) (atL L (s,k))=0) :
  Calls Tryz.prog 102 #[.pointer (some ⟨r,0,none⟩),.string s,.string k] w (GetQ (atL L (s,k)).v w):=by
 have c6:=h.c6;have hlt:=h.lt;have HR:=qH h;have HD:=qH (down_any h);have HG:=qH (get_any gs bs L s k w hs h1 h2 _ _ rfl rfl);unfold GetR at HG;rw [hk] at HG;rw [hp] at c6;rw [hd] at HD;generalize atL L (s,k)=cd at *;clear h hd hp hs h1 h2 hk;go_enter Tryz.func102,Tryz.ntmps102;go_wp2_with fail;refine HD.out.mono ?_;rintro e w1 ⟨rfl,hw⟩;subst hw;go_wp2_with fail;refine HG.out.mono ?_;rintro e w2 ⟨er,rfl,h2,hb2⟩
 rcases h2 with ⟨_,rfl⟩|⟨h0,_⟩
 rotate_left
 ·exact absurd rfl h0
 rw [if_pos rfl];have HB2:=qH hb2;have HR2:=qH (show RegB w2 r x from Blk.below HR.out hb2 hlt);clear hb2;go_wp2_with fail;refine (rat_nil HR2.out).mono ?_;rintro e w3 ⟨rfl,hw⟩;subst hw;go_wp2_with fail;go_ret2
 exact ⟨rfl,HB2.out⟩
end
end regn
end Go.Proofs.YthlahcnglacekaaGreatDoor
