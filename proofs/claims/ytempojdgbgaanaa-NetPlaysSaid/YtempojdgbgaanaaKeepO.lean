/- What changes, said by what blocks hold: texts' rows and maps (a net), messages, ways (the document's net). -/
import Derived.Test.YtempojdgbgaanaaOwn
import Derived.Test.YtempojdgbgaanaaArgs
namespace Go.Proofs.Ytempojdgbgaanaa.keepo
open Go.RowKit Go.Proofs.Ytempojdgbgaanaa.base Go.Proofs.Ytempojdgbgaanaa.map_ Go.Proofs.Ytempojdgbgaanaa.net Go.Proofs.Ytempojdgbgaanaa.state Go.Proofs.Ytempojdgbgaanaa.own

def byO (p : Obj → Prop) (w : World) : Nat → Prop := fun i => ∃ o, w.heap[i]? = some o ∧ p o
def KeepO (p : Obj → Prop) (w w' : World) : Prop := Keeps (byO p w) w w'
section
variable {p q : Obj → Prop} {w w1 w2 : World}
theorem KeepO.of_below (h : Below w.heap.size w w1) : KeepO p w w1 := Keeps.of_below h
theorem KeepO.refl (p : Obj → Prop) (w : World) : KeepO p w w := Keeps.refl _ _
theorem KeepO.trans (h : KeepO p w w1) (h' : KeepO p w1 w2) : KeepO p w w2 :=
  ⟨h'.os.trans h.os, h'.tape.trans h.tape, h'.output.trans h.output, Nat.le_trans h.size h'.size, fun i hi hx => by
    have e1 := h.block i hi hx
    rw [← e1]
    refine h'.block i (Nat.lt_of_lt_of_le hi h.size) fun ⟨o, ho, hp⟩ => hx ⟨o, by rw [← e1]; exact ho, hp⟩⟩
theorem KeepO.mono (h : KeepO p w w1) (hpq : ∀ o, p o → q o) : KeepO q w w1 :=
  ⟨h.os, h.tape, h.output, h.size, fun i hi hx => h.block i hi fun ⟨o, ho, hp⟩ => hx ⟨o, ho, hpq o hp⟩⟩
theorem KeepO.blk (h : KeepO p w w1) {g : Nat} {t : TypeId} {cs : Array Value} (hb : Blk w g t cs) (hp : ¬ p (.cells cs t (0, 0))) : Blk w1 g t cs :=
  (h.block g hb.lt fun ⟨o, ho, hpo⟩ => by
    unfold Blk at hb
    rw [hb] at ho; injection ho with ho; subst ho
    exact hp hpo).trans hb
theorem KeepO.set {g : Nat} {t : TypeId} {cs : Array Value} (h : KeepO p w w1) (hb : Blk w1 g t cs) (hp : p (.cells cs t (0, 0))) (j : Nat) (u : Value) : KeepO p w (w1.setCell ⟨g, j, none⟩ u) :=
  h.trans ⟨rfl, rfl, rfl, by simp [World.setCell], fun i hi hx => Below.heap_setCell w1 _ u i (by
    rintro rfl
    exact hx ⟨_, hb, hp⟩)⟩
end
def netP : Obj → Prop | .map _ _ => True | .cells _ t _ => t = 9 | _ => False
def refP : Obj → Prop | .cells _ t _ => t = 48 ∨ t = 67 ∨ t = 69 | _ => False
def bothP : Obj → Prop := fun o => netP o ∨ refP o
def NetT (w : World) (B g bb cb k : Nat) (n : Int) (F : W2 → List ByteArray) (C : W2 → Bool) : Prop :=
  ∃ S, NetO w B S g bb cb k n F C ∧ ∀ i, S i → ∃ cs, w.heap[i]? = some (.cells cs 9 (0, 0))
section
variable {w w' : World} {B g bb cb k k' : Nat} {S : Nat → Prop} {n : Int} {F F' : W2 → List ByteArray} {C C' : W2 → Bool}
theorem NetT.of (h : NetO w B S g bb cb k n F C) : NetT w B g bb cb k n F C := by
  obtain ⟨⟨h1, ⟨m, a1, a2, a3⟩, h3, h4⟩, h5, h6, h7, h8, h9⟩ := h
  refine ⟨fun i => S i ∧ ∃ cs, w.heap[i]? = some (.cells cs 9 (0, 0)), ⟨⟨h1, ⟨m, a1, fun p hp => ⟨(a2 p hp).1, fun g hg => ⟨(a2 p hp).2 g hg, ?_⟩⟩, a3⟩, h3, h4⟩, fun i hi => h5 i hi.1, h6, h7, h8, h9⟩, fun i hi => hi.2⟩
  rcases (a2 p hp).1.2 with ⟨e, _⟩ | ⟨g', cap, cur, e, _, e2, _⟩
  · rw [e] at hg; simp [Value.ownBlock] at hg
  · have hgg : g' = g := by rw [e] at hg; simpa [Value.ownBlock] using hg
    subst hgg
    exact ⟨_, e2⟩
theorem NetT.step (hN : NetO w B S g bb cb k n F C) (hS : ∀ i, S i → ∃ cs, w.heap[i]? = some (.cells cs 9 (0, 0))) (h : NetR B S g bb cb k' n F' C' w w') : NetT w' B g bb cb k' n F' C' ∧ Below B w w' ∧ KeepO netP w w' := by
  have hb := NetR.below hN h
  obtain ⟨S', hN', _, hk⟩ := h
  refine ⟨NetT.of hN', hb, hk.os, hk.tape, hk.output, hk.size, fun i hi hx => hk.block i hi fun h => hx ?_⟩
  rcases h with h | rfl | rfl
  · obtain ⟨cs, hc⟩ := hS i h
    exact ⟨_, hc, rfl⟩
  · obtain ⟨m, ⟨es, clock, hb, _⟩, _⟩ := hN.net.bags
    exact ⟨_, hb, trivial⟩
  · obtain ⟨m, ⟨es, clock, hb, _⟩, _⟩ := hN.net.cuts
    exact ⟨_, hb, trivial⟩
theorem NetT.keep {p : Obj → Prop} (h : NetT w B g bb cb k n F C) (hk : KeepO p w w') (h1 : ∀ cs fr, ¬ p (.cells cs 54 fr)) (h2 : ∀ cs fr, ¬ p (.cells cs 9 fr)) (h3 : ∀ es c, ¬ p (.map es c)) : NetT w' B g bb cb k n F C := by
  obtain ⟨S, hN, hS⟩ := h
  have hmap : ∀ b, (∃ es c, w.heap[b]? = some (.map es c)) → ¬ byO p w b := fun b ⟨es, c, hb⟩ ⟨o, ho, hp⟩ => by
    rw [hb] at ho; injection ho with ho; subst ho
    exact h3 _ _ hp
  have hstr : ∀ i, S i → ¬ byO p w i := fun i hi ⟨o, ho, hp⟩ => by
    obtain ⟨cs, hc⟩ := hS i hi
    rw [hc] at ho; injection ho with ho; subst ho
    exact h2 _ _ hp
  refine ⟨S, hN.keeps hk (fun ⟨o, ho, hp⟩ => ?_) (hmap _ ?_) (hmap _ ?_) hstr, fun i hi => ?_⟩
  · have hg := hN.net.net
    unfold NetB Blk at hg
    rw [hg] at ho; injection ho with ho; subst ho
    exact h1 _ _ hp
  · obtain ⟨m, ⟨es, clock, hb, _⟩, _⟩ := hN.net.bags
    exact ⟨_, _, hb⟩
  · obtain ⟨m, ⟨es, clock, hb, _⟩, _⟩ := hN.net.cuts
    exact ⟨_, _, hb⟩
  · obtain ⟨cs, hc⟩ := hS i hi
    exact ⟨cs, (hk.block i (heap_lt hc) (hstr i hi)).trans hc⟩
theorem NetT.ref (h : NetT w B g bb cb k n F C) (hk : KeepO refP w w') : NetT w' B g bb cb k n F C :=
  h.keep hk (fun cs fr => by simp [refP]) (fun cs fr => by simp [refP]) (fun _ _ h => h)
theorem NetT.below (h : NetT w B g bb cb k n F C) (hk : Below w.heap.size w w') : NetT w' B g bb cb k n F C :=
  h.keep (p := fun _ => False) (KeepO.of_below hk) (fun _ _ h => h) (fun _ _ h => h) (fun _ _ h => h)
end
end Go.Proofs.Ytempojdgbgaanaa.keepo
