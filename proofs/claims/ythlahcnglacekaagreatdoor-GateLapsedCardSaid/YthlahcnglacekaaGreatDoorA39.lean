/- A part of the proof of GateLapsed: SameS, AppS, TwoS, OfS, LoopS. -/
import Derived.Test.YthlahcnglacekaaGreatDoorA31
set_option maxRecDepth 100000
set_option maxHeartbeats 16000000
namespace Go.Proofs.YthlahcnglacekaaGreatDoor
namespace store
open Go Go.RowKit base err cmp above law merge rows rowe monoj
def rZ:R:=((⟨#[]⟩,⟨#[]⟩),zeroC)
theorem row_at {w:World} {A:Option Addr} {m B:Nat} {L:List R} (h:Reads w B 7 A m (L.flatMap rcells)) (hl:L.length=m) {k:Nat} (hk:k<m):∃ b off,A=some ⟨b,off,none⟩∧b<B∧∀ q v,(rcells (L.getD k rZ))[q]?=some v→w.cell? ⟨b,off+k*7+q,none⟩=some v:=by
 obtain ⟨b,off,rfl,hb⟩:=h.at_some (by omega);refine ⟨b,off,rfl,hb,fun q v hq=>?_⟩
 have hq2:q<7:=by
  have:=(List.getElem?_eq_some_iff.1 hq).1
  rwa [rlen] at this
 have h5:=Reads.thing rcells rlen h (k:=k) (x:=L.getD k rZ) (by omega) (by rw [List.getD_eq_getElem?_getD,List.getElem?_eq_getElem (by omega)];rfl) q hq2;rw [h5,hq]
theorem seven_of {w:World} {b off:Nat} {x:R} (h:∀ q v,(rcells x)[q]?=some v→w.cell? ⟨b,off+q,none⟩=some v) :
  w.cell? ⟨b,off,none⟩=some (.string x.1.1)∧w.cell? ⟨b,off+1,none⟩=some (.string x.1.2)∧w.cell? ⟨b,off+2,none⟩=some (.int .i64 x.2.t)∧w.cell? ⟨b,off+3,none⟩=some (.int .i64 x.2.r)∧w.cell? ⟨b,off+4,none⟩=some (.string x.2.v) ∧
   w.cell? ⟨b,off+5,none⟩=some (.bool x.2.g)∧w.cell? ⟨b,off+6,none⟩=some (.int .i64 x.2.l) :=
 ⟨h 0 _ rfl,h 1 _ rfl,h 2 _ rfl,h 3 _ rfl,h 4 _ rfl,h 5 _ rfl,h 6 _ rfl⟩
end store
namespace store
open Go above law merge rows
def Best (o:Option C) (S:C→Prop):Prop:=match o with|none=>∀ c,¬ S c|some m=>S m∧∀ c,S c→above c m=false
theorem Best.take {o:Option C} {S:C→Prop} (h:Best o S) (c:C):Best (some (takeC o c)) (fun d=>S d∨d=c):=by
 cases o with
 | none =>
  refine ⟨.inr rfl,fun d hd=>?_⟩
  rcases hd with hd|rfl
  ·exact absurd hd (h d)
  ·exact above_irrefl _
 | some m =>
  show Best (some (if above c m=true then c else m)) _
  by_cases hc:above c m=true
  ·rw [if_pos hc]
   refine ⟨.inr rfl,fun d hd=>?_⟩
   rcases hd with hd|rfl
   ·rw [Bool.eq_false_iff]
    intro hd2;have:=above_trans hd2 hc;rw [h.2 d hd] at this;cases this
   ·exact above_irrefl _
  ·rw [if_neg hc]
   refine ⟨.inl h.1,fun d hd=>?_⟩
   rcases hd with hd|rfl
   ·exact h.2 d hd
   ·simpa using hc
theorem Best.congr {o:Option C} {S S':C→Prop} (h:Best o S) (hs:∀ c,S c↔S' c):Best o S':=by
 cases o with
 | none=>exact fun c hc=>h c ((hs c).2 hc)
 | some m=>exact ⟨(hs m).1 h.1,fun c hc=>h.2 c ((hs c).2 hc)⟩
end store
namespace store
open Go Go.RowKit base above law merge rows
structure Two (w0:World) (g b g' b':Nat) (L L':List R) (w:World):Prop where
 one:StI w g b L
 two:StI w g' b' L'
 ap1:b≠b'
 ap2:b≠g'
 ap3:b'≠g
 lo1:w0.heap.size≤b
 lo2:w0.heap.size≤b'
 bel:Below w0.heap.size w0 w
section
variable {w0 w w':World} {g b g' b':Nat} {L L' M:List R}
theorem Two.below (h:Two w0 g b g' b' L L' w) (hb:Below w.heap.size w w'):Two w0 g b g' b' L L' w' :=
 ⟨h.one.below hb,h.two.below hb,h.ap1,h.ap2,h.ap3,h.lo1,h.lo2,below_step h.bel hb⟩
end
theorem own_reads {w:World} {base:Nat} {e:TypeId} {v:Value} {n:Nat} {L:List R} (h:w.ownsRow base e 7 v n (L.flatMap rcells)):∃ A c,v=.slice A n c∧Reads w w.heap.size 7 A n (L.flatMap rcells):=by
 obtain ⟨A,c,rfl⟩:=ownsRow_slice h;exact ⟨A,c,rfl,Reads.of_own h⟩
theorem wt_mem {L:List Wt} {P:Wt→Prop} (h:∀ x ∈ L,P x) {k:Nat} (hk:k<L.length):P (L.getD k wtZ):=by
 rw [List.getD_eq_getElem?_getD,List.getElem?_eq_getElem hk];exact h _ (List.getElem_mem hk)
end store
namespace store
open Go Go.RowKit base err cmp above law merge rows rowe monoj
def ErrAt (w:World) (v:Value) (s:ByteArray) (n c:Int):Prop:=∃ g,v=.iface 121 (.pointer (some ⟨g,0,none⟩))∧Blk w g 123 #[.string s,.int .i64 n,.iface 41 (.int .i64 c)]
theorem ErrAt.below {w w':World} {v:Value} {s:ByteArray} {n c:Int} (h:ErrAt w v s n c) (hb:Below w.heap.size w w'):ErrAt w' v s n c:=by
 obtain ⟨g,rfl,h⟩:=h;exact ⟨g,rfl,h.below hb h.lt⟩
theorem Grown.below {w w':World} (h:Grown w w'):Below w.heap.size w w':=by
 obtain ⟨q,os,rfl⟩:=h;refine ⟨rfl,rfl,rfl,by simp [World.drewN],fun k hk=>?_⟩;unfold Go.Sort.grow;rw [Array.getElem?_append_left (by exact hk)];rfl
theorem row_at' {w:World} {m B b off:Nat} {L:List R} (h:Reads w B 7 (some ⟨b,off,none⟩) m (L.flatMap rcells)) (hl:L.length=m) {k:Nat} (hk:k<m):∀ q v,(rcells (L.getD k rZ))[q]?=some v→w.cell? ⟨b,off+k*7+q,none⟩=some v:=by
 obtain ⟨b',off',e,_,hc⟩:=row_at h hl hk;injection e with e;injection e with e1 e2 _;subst e1 e2;exact hc
end store
namespace store
open Go Go.RowKit base err above law merge rows
structure Lst (w:World) (A:Option Addr) (m c:Nat) (l:List Wt):Prop where
 len:l.length=m
 reads:Reads w w.heap.size 10 A m (l.flatMap Wt.cells)
 ok:∀ x ∈ l,x.ss.size≤maxLen∧x.ky.size≤maxLen
theorem Lst.cells {w w':World} {A:Option Addr} {m c:Nat} {l:List Wt} (h:Lst w A m c l) (hb:Below w.heap.size w w') {k:Nat} (hk:k<m) :
  ∃ b off,A=some ⟨b,off,none⟩∧b<w'.heap.size∧(∀ q v,(l.getD k wtZ).cells[q]?=some v→w'.cell? ⟨b,off+k*10+q,none⟩=some v)∧(l.getD k wtZ).ss.size≤maxLen∧(l.getD k wtZ).ky.size≤maxLen:=by
 obtain ⟨b,off,e,h1,h2⟩:=wt_at (h.reads.below hb) h.len hk;exact ⟨b,off,e,Nat.lt_of_lt_of_le h1 hb.size,h2,wt_mem h.ok (by rw [h.len];exact hk)⟩
end store
end Go.Proofs.YthlahcnglacekaaGreatDoor
