/- An inbox and the document's, side by side. -/
import Derived.Test.YtedkcpncomgboaaWaitsRf
import Derived.Test.YtedkcpncomgboaaSameD
namespace Go.Proofs.Ytedkcpncomgboaa.dep
open Go Go.RowKit Go.Proofs.Ytedkcpncomgboaa.base Go.Proofs.Ytedkcpncomgboaa.rowe Go.Proofs.Ytedkcpncomgboaa.wire Go.Proofs.Ytedkcpncomgboaa.vec Go.Proofs.Ytedkcpncomgboaa.cmp Go.Proofs.Ytedkcpncomgboaa.with_ Go.Proofs.Ytedkcpncomgboaa.err

structure PlD (w0 : World) (g gr : Nat) (rg : Int) (S R : Nat → Prop) (ap : List Int) (ws L : List Wr) (va vw ra rl : Value) (wr : World) : Prop where
  inf : InF wr S g rg ap ws va vw
  rin : RIn wr R gr rg ap L ra rl
  apart : ∀ i, S i → ¬ R i
  loS : ∀ i, S i → w0.heap.size ≤ i
  loR : ∀ i, R i → w0.heap.size ≤ i
  bel : Below w0.heap.size w0 wr
  srt : Sorted ws
  prm : (ws.map Wr.abs).Perm (L.map Wr.abs)
  trm : trimL ap = ap
def PlI (w0 : World) (g gr : Nat) (rg : Int) (n : Nat) (wr : World) : Prop := ∃ S R ap ws L va vw ra rl, PlD w0 g gr rg S R ap ws L va vw ra rl wr ∧ ws.length ≤ n
section
variable {w0 wr w' : World} {g gr : Nat} {rg : Int} {S R : Nat → Prop} {ap : List Int} {ws L : List Wr} {va vw ra rl : Value}
theorem PlD.below (h : PlD w0 g gr rg S R ap ws L va vw ra rl wr) (hb : Below wr.heap.size wr w') : PlD w0 g gr rg S R ap ws L va vw ra rl w' :=
  { h with inf := h.inf.below hb, rin := h.rin.below hb, bel := below_step h.bel hb }
theorem PlI.below {n : Nat} (h : PlI w0 g gr rg n wr) (hb : Below wr.heap.size wr w') : PlI w0 g gr rg n w' := by
  obtain ⟨S, R, ap, ws, L, va, vw, ra, rl, h, hn⟩ := h
  exact ⟨S, R, ap, ws, L, va, vw, ra, rl, h.below hb, hn⟩
theorem PlI.more {n n' : Nat} (h : PlI w0 g gr rg n wr) (hn : n ≤ n') : PlI w0 g gr rg n' wr := by
  obtain ⟨S, R, ap, ws, L, va, vw, ra, rl, h, h2⟩ := h
  exact ⟨S, R, ap, ws, L, va, vw, ra, rl, h, by omega⟩
theorem PlD.dist (h : PlD w0 g gr rg S R ap ws L va vw ra rl wr) : Distinct L := by
  have h1 : Distinct (ws.map Wr.abs) := h.srt.absm.imp fun {a b} h e => by rw [cmpW_lt] at h; omega
  have h2 : Distinct (L.map Wr.abs) := (List.Perm.pairwise_iff (R := fun a b : Wr => ¬ (a.r = b.r ∧ a.n = b.n)) (fun {x y} h e => h ⟨e.1.symm, e.2.symm⟩) h.prm).1 h1
  unfold Distinct at h2 ⊢
  rw [List.pairwise_map] at h2
  exact h2.imp fun h => h
theorem sorted_abs {l : List Wr} (h : Sorted (l.map Wr.abs)) : Sorted l := by
  unfold Sorted at h ⊢
  rw [List.pairwise_map] at h
  exact h.imp fun h => h
theorem Steps.trim {ap a : List Int} {ws l out : List Wr} (h : Steps ap ws a l out) (ht : trimL ap = ap) : trimL a = a := by
  cases h with
  | zero => exact ht
  | one h k hk hr hn => exact trim_with _ _ _
theorem RW.none_ (w : World) : RW w (.slice none 0 0) [] := ⟨none, 0, rfl, by simp, Nat.zero_le _, Reads.none_, by simp⟩
theorem PlD.next {w1 w2 : World} {ap1 a a' : List Int} {ws1 L1 l l' out out' : List Wr} {vo vo' : Value} {S' R' : Nat → Prop} (h : PlD w0 g gr rg S R ap ws L va vw ra rl wr) (hs1 : Sorted ws1) (hp1 : (ws1.map Wr.abs).Perm (L1.map Wr.abs)) (ht1 : trimL ap1 = ap1) (hl1 : ws1.length ≤ 1000)
    (hd : DrainI wr S g rg ap1 ws1 vo w1 a l out S') (t1 : ∀ j, j < l.length → readyB a (l.getD j wrZ) = false)
    (hq : DrainQ w1 R gr rg ap1 L1 vo' w2 a' l' out' R') (t2 : ∀ j, j < l'.length → readyB a' (l'.getD j wrZ) = false) :
    PlI w0 g gr rg ws1.length w2 ∧ ∃ L2 L3, RW w2 vo L2 ∧ RW w2 vo' L3 ∧ L2.map Wr.abs = L3.map Wr.abs := by
  obtain ⟨hst, ⟨va1, vw1, hf1, hap1⟩, hrow1, hnum1, hvo1, hk1, hS1⟩ := hd
  obtain ⟨hst2, ⟨va2, vl2, hf2, hap2⟩, hrow2, hnum2, hvo2, hk2, hR2⟩ := hq
  obtain ⟨rfl, e2, e3⟩ := play_drain hs1 hp1 hst t1 hst2 t2
  have hlen1 := hst.ws_len
  have hlen2 := hst2.ws_len
  have hpl := hp1.length_eq
  simp at hpl
  have hRs : ∀ i, R i → i < wr.heap.size := h.rin.small
  have hno : ∀ i, S' i → ¬ R i := fun i hi hr => by
    rcases hS1 i hi with h1 | h1
    · exact h.apart i h1 hr
    · have := hRs i hr; omega
  have hf1' : InF w2 S' g rg a l va1 vw1 := hf1.keeps hk2 hno
  obtain ⟨_, _, _, hsub⟩ := hst.shown
  have hb1 : Below w0.heap.size w0 w1 := h.bel.trans (hk1.below (fun i hi e => by have := h.loS i e; omega) h.bel.size)
  have hb2 : Below w0.heap.size w0 w2 := hb1.trans (hk2.below (fun i hi e => by have := h.loR i e; omega) hb1.size)
  have sz1 := hk1.size
  have sz2 := hk2.size
  refine ⟨⟨S', R', a, l, l', va1, vw1, va2, vl2, ⟨hf1', hf2, ?_, ?_, ?_, hb2, hs1.sub hsub, e3, hst.trim ht1⟩, hsub.length_le⟩, out, out', ?_, ?_, e2⟩
  · intro i hi hr
    rcases hR2 i hr with h1 | h1
    · exact hno i hi h1
    · have := hf1.small i hi; omega
  · intro i hi
    rcases hS1 i hi with h1 | h1
    · exact h.loS i h1
    · have := h.bel.size; omega
  · intro i hi
    rcases hR2 i hi with h1 | h1
    · exact h.loR i h1
    · have := hb1.size; omega
  · exact OW.rw (S := S') (lo := 0) ⟨own_keeps hrow1 hk2 fun i hi => hno i (hvo1 i hi), by omega, fun x hx => (hnum1 x hx).1.keeps hk2 fun i hi => hno i ((hnum1 x hx).2 i hi).1, hvo1, fun x hx i hi => ((hnum1 x hx).2 i hi).1⟩
  · exact OW.rw (S := R') (lo := 0) ⟨hrow2, by omega, fun x hx => (hnum2 x hx).1, hvo2, fun x hx i hi => (hnum2 x hx).2 i hi⟩
theorem PlD.rin1 {w1 : World} {ap1 a : List Int} {ws1 l out : List Wr} {vo : Value} {S' : Nat → Prop} (h : PlD w0 g gr rg S R ap ws L va vw ra rl wr) (hd : DrainI wr S g rg ap1 ws1 vo w1 a l out S') : RIn w1 R gr rg ap L ra rl ∧ Below w0.heap.size w0 w1 :=
  ⟨h.rin.keeps hd.2.2.2.2.2.1 fun i hr hs => h.apart i hs hr, h.bel.trans (hd.2.2.2.2.2.1.below (fun i hi e => by have := h.loS i e; omega) h.bel.size)⟩
theorem PlD.copied {e : Ending} (h : PlD w0 g gr rg S R ap ws L va vw ra rl wr) (hc : CopyR rg ap ws wr e w') : ∃ g1, e = .returned (.pointer (some ⟨g1, 0, none⟩)) ∧ PlI w0 g1 gr rg ws.length w' ∧ Below wr.heap.size wr w' ∧ ∃ S' ws' va' vw', InF w' S' g1 rg ap ws' va' vw' ∧ (∀ i, S' i → wr.heap.size ≤ i) ∧ Sorted ws' ∧ ws'.length = ws.length := by
  obtain ⟨g1, S', ws', va', vw', rfl, hf, hab, hS, hb⟩ := hc
  rw [h.trm] at hf
  have hso : Sorted ws' := sorted_abs (by rw [hab]; exact h.srt.absm)
  have hll : ws'.length = ws.length := by have := congrArg List.length hab; simpa using this
  have hbs := h.bel.size
  refine ⟨g1, rfl, ⟨S', R, ap, ws', L, va', vw', ra, rl, ⟨hf, h.rin.below hb, fun i hi hr => ?_, fun i hi => Nat.le_trans hbs (hS i hi), h.loR, below_step h.bel hb, hso, by rw [hab]; exact h.prm, h.trm⟩, by omega⟩, hb, S', ws', va', vw', hf, hS, hso, hll⟩
  have := h.rin.small i hr
  have := hS i hi
  omega
end
end Go.Proofs.Ytedkcpncomgboaa.dep
