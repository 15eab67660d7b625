/- A net of the law's own: every call of it in one contract, with what may have changed. -/
import Derived.Test.YtempojdgbgaanaaAwake
import Derived.Test.YtempojdgbgaanaaDouble
import Derived.Test.YtempojdgbgaanaaAll
namespace Go.Proofs.Ytempojdgbgaanaa.own
open Go.RowKit Go.Proofs.Ytempojdgbgaanaa.base Go.Proofs.Ytempojdgbgaanaa.map_ Go.Proofs.Ytempojdgbgaanaa.err Go.Proofs.Ytempojdgbgaanaa.net Go.Proofs.Ytempojdgbgaanaa.state Go.Proofs.Ytempojdgbgaanaa.at_ Go.Proofs.Ytempojdgbgaanaa.send Go.Proofs.Ytempojdgbgaanaa.drop Go.Proofs.Ytempojdgbgaanaa.take Go.Proofs.Ytempojdgbgaanaa.double Go.Proofs.Ytempojdgbgaanaa.cut Go.Proofs.Ytempojdgbgaanaa.all_ Go.Maps

structure NetO (w : World) (B : Nat) (S : Nat → Prop) (g bb cb k : Nat) (n : Int) (F : W2 → List ByteArray) (C : W2 → Bool) : Prop where
  net : NetS w S g bb cb k n F C
  own : ∀ i, S i → B ≤ i ∧ i < w.heap.size
  hg : B ≤ g
  hb : B ≤ bb
  hc : B ≤ cb
  fits : ∀ x, (F x).length ≤ 64
def NetR (B : Nat) (S : Nat → Prop) (g bb cb k : Nat) (n : Int) (F : W2 → List ByteArray) (C : W2 → Bool) (w w' : World) : Prop :=
  ∃ S', NetO w' B S' g bb cb k n F C ∧ (∀ i, S' i → S i ∨ w.heap.size ≤ i) ∧ Keeps (fun i => S i ∨ i = bb ∨ i = cb) w w'
section
variable {w w' : World} {B g bb cb k k' : Nat} {S S' : Nat → Prop} {n : Int} {F F' : W2 → List ByteArray} {C C' : W2 → Bool}
theorem NetO.size (h : NetO w B S g bb cb k n F C) : B ≤ w.heap.size := by have := h.hg; have := h.net.net.lt; omega
theorem NetS.trim (h : NetS w S g bb cb k n F C) : NetS w (fun i => S i ∧ i < w.heap.size) g bb cb k n F C := by
  obtain ⟨h1, ⟨m, a1, a2, a3⟩, h3, h4⟩ := h
  exact ⟨h1, ⟨m, a1, fun p hp => ⟨(a2 p hp).1, fun g hg => ⟨(a2 p hp).2 g hg, ((a2 p hp).1.lt g hg).2⟩⟩, a3⟩, h3, h4⟩
theorem NetR.mk {X : Nat → Prop} (h : NetO w B S g bb cb k n F C) (hS : ∀ i, S' i → S i ∨ w.heap.size ≤ i) (h' : NetS w' S' g bb cb k' n F' C') (hk : Keeps X w w') (hX : ∀ i, X i → S i ∨ i = bb ∨ i = cb) (hf : ∀ x, (F' x).length ≤ 64) : NetR B S g bb cb k' n F' C' w w' := by
  refine ⟨fun i => S' i ∧ i < w'.heap.size, ⟨NetS.trim h', fun i hi => ⟨?_, hi.2⟩, h.hg, h.hb, h.hc, hf⟩, fun i hi => hS i hi.1, ⟨hk.os, hk.tape, hk.output, hk.size, fun i hi hx => hk.block i hi fun hX' => hx (hX i hX')⟩⟩
  rcases hS i hi.1 with h1 | h1
  · exact (h.own i h1).1
  · exact Nat.le_trans h.size h1
theorem NetR.below (h : NetO w B S g bb cb k n F C) (h' : NetR B S g bb cb k' n F' C' w w') : Below B w w' := by
  obtain ⟨S', _, _, hk⟩ := h'
  refine hk.below (fun i hi hx => ?_) h.size
  rcases hx with h1 | rfl | rfl
  · have := (h.own i h1).1; omega
  · have := h.hb; omega
  · have := h.hc; omega
theorem NetO.below (h : NetO w B S g bb cb k n F C) (hb : Below w.heap.size w w') : NetO w' B S g bb cb k n F C :=
  ⟨h.net.below hb, fun i hi => ⟨(h.own i hi).1, Nat.lt_of_lt_of_le (h.own i hi).2 hb.size⟩, h.hg, h.hb, h.hc, h.fits⟩
theorem NetO.keeps {X : Nat → Prop} (h : NetO w B S g bb cb k n F C) (hk : Keeps X w w') (hg : ¬ X g) (hb : ¬ X bb) (hc : ¬ X cb) (hx : ∀ i, S i → ¬ X i) : NetO w' B S g bb cb k n F C :=
  ⟨h.net.keeps hk hg hb hc (fun i hi _ => hx i hi), fun i hi => ⟨(h.own i hi).1, Nat.lt_of_lt_of_le (h.own i hi).2 hk.size⟩, h.hg, h.hb, h.hc, h.fits⟩
theorem fits_upd (h : ∀ x, (F x).length ≤ 64) {x : W2} {l : List ByteArray} (hl : l.length ≤ 64) : ∀ y, (upd F x l y).length ≤ 64 := by
  intro y
  unfold upd
  split
  · exact hl
  · exact h y
end
def sendF (n : Int) (F : W2 → List ByteArray) (C : W2 → Bool) (x : W2) (s : ByteArray) : W2 → List ByteArray := if sendB n F C x then upd F x (F x ++ [s]) else F
def takeF (n : Int) (F : W2 → List ByteArray) (C : W2 → Bool) (x : W2) (i : Int) : W2 → List ByteArray := if takeB n F C x then upd F x ((F x).eraseIdx (idx i (F x).length)) else F
def dropF (n : Int) (F : W2 → List ByteArray) (x : W2) (i : Int) : W2 → List ByteArray := if atOk n F x then upd F x ((F x).eraseIdx (idx i (F x).length)) else F
def doubleF (n : Int) (F : W2 → List ByteArray) (x : W2) (i : Int) : W2 → List ByteArray := if doubleB n F x then upd F x (F x ++ [msg F x i]) else F
section
variable (B : Nat) (S : Nat → Prop) (g bb cb k : Nat) (n a b i : Int) (F : W2 → List ByteArray) (C : W2 → Bool) (s : ByteArray) (w : World)
theorem send_o (h : NetO w B S g bb cb k n F C) (hx : okW (a, b)) (hk : k ≤ 100000) :
    Calls Try.prog 9 #[.pointer (some ⟨g, 0, none⟩), .int .i64 a, .int .i64 b, .string s] w fun e w' => e = .returned (.bool (sendB n F C (a, b))) ∧ NetR B S g bb cb (k + 1) n (sendF n F C (a, b) s) C w w' := by
  refine (send_any S g bb cb k n a b F C s w h.net hx hk).mono ?_
  rintro e w' ⟨S', rfl, hS, h', hk'⟩
  refine ⟨rfl, NetR.mk h hS h' hk' (fun i hi => hi.imp_right .inl) ?_⟩
  unfold sendF
  split
  · rename_i hs
    simp [sendB] at hs
    exact fits_upd h.fits (by simp; omega)
  · exact h.fits
theorem take_o (h : NetO w B S g bb cb k n F C) (hx : okW (a, b)) :
    Calls Try.prog 10 #[.pointer (some ⟨g, 0, none⟩), .int .i64 a, .int .i64 b, .int .i64 i] w fun e w' => e = .returned (.tuple #[.string (if takeB n F C (a, b) then msg F (a, b) i else ⟨#[]⟩), .bool (takeB n F C (a, b))]) ∧ NetR B S g bb cb (k + 1) n (takeF n F C (a, b) i) C w w' := by
  refine (take_any S g bb cb k n a b i F C w h.net hx (h.fits _)).mono ?_
  rintro e w' ⟨S', rfl, hS, h', hk'⟩
  refine ⟨rfl, NetR.mk h hS h' hk' (fun i hi => hi.imp_right .inl) ?_⟩
  unfold takeF
  split
  · exact fits_upd h.fits (Nat.le_trans (List.length_eraseIdx_le _ _) (h.fits _))
  · exact h.fits
theorem drop_o (h : NetO w B S g bb cb k n F C) (hx : okW (a, b)) :
    Calls Try.prog 11 #[.pointer (some ⟨g, 0, none⟩), .int .i64 a, .int .i64 b, .int .i64 i] w fun e w' => e = .returned (.bool (atOk n F (a, b))) ∧ NetR B S g bb cb (k + 1) n (dropF n F (a, b) i) C w w' := by
  refine (drop_any S g bb cb k n a b i F C w h.net hx (h.fits _)).mono ?_
  rintro e w' ⟨S', rfl, hS, h', hk'⟩
  refine ⟨rfl, NetR.mk h hS h' hk' (fun i hi => hi.imp_right .inl) ?_⟩
  unfold dropF
  split
  · exact fits_upd h.fits (Nat.le_trans (List.length_eraseIdx_le _ _) (h.fits _))
  · exact h.fits
theorem double_o (h : NetO w B S g bb cb k n F C) (hx : okW (a, b)) (hk : k ≤ 100000) :
    Calls Try.prog 12 #[.pointer (some ⟨g, 0, none⟩), .int .i64 a, .int .i64 b, .int .i64 i] w fun e w' => e = .returned (.bool (doubleB n F (a, b))) ∧ NetR B S g bb cb (k + 1) n (doubleF n F (a, b) i) C w w' := by
  refine (double_any S g bb cb k n a b i F C w h.net hx (h.fits _) hk).mono ?_
  rintro e w' ⟨S', rfl, hS, h', hk'⟩
  refine ⟨rfl, NetR.mk h hS h' hk' (fun i hi => hi.imp_right .inl) ?_⟩
  unfold doubleF
  split
  · rename_i hs
    simp [doubleB] at hs
    exact fits_upd h.fits (by simp; omega)
  · exact h.fits
theorem cut_o (h : NetO w B S g bb cb k n F C) (hx : okW (a, b)) (hk : k ≤ 100000) :
    Calls Try.prog 14 #[.pointer (some ⟨g, 0, none⟩), .int .i64 a, .int .i64 b] w fun e w' => e = .returned (.tuple #[]) ∧ NetR B S g bb cb (k + 2) n F (cutC n a b C) w w' := by
  refine (cut_any S g bb cb k n a b F C w h.net hx ⟨hx.2, hx.1⟩ hk).mono ?_
  rintro e w' ⟨rfl, h', hk'⟩
  exact ⟨rfl, NetR.mk h (fun i hi => .inl hi) h' hk' (fun i hi => .inr (.inr hi)) h.fits⟩
theorem join_o (h : NetO w B S g bb cb k n F C) (hx : okW (a, b)) :
    Calls Try.prog 16 #[.pointer (some ⟨g, 0, none⟩), .int .i64 a, .int .i64 b] w fun e w' => e = .returned (.tuple #[]) ∧ NetR B S g bb cb k n F (joinC n a b C) w w' := by
  refine (join_any S g bb cb k n a b F C w h.net hx ⟨hx.2, hx.1⟩).mono ?_
  rintro e w' ⟨rfl, h', hk'⟩
  exact ⟨rfl, NetR.mk h (fun i hi => .inl hi) h' hk' (fun i hi => .inr (.inr hi)) h.fits⟩
theorem heal_o (h : NetO w B S g bb cb k n F C) :
    Calls Try.prog 15 #[.pointer (some ⟨g, 0, none⟩)] w fun e w' => e = .returned (.tuple #[]) ∧ NetR B S g bb cb k n F (fun _ => false) w w' := by
  refine (heal_any S g bb cb k n F C w h.net).mono ?_
  rintro e w' ⟨rfl, h', hk'⟩
  exact ⟨rfl, NetR.mk h (fun i hi => .inl hi) h' hk' (fun i hi => .inr (.inr hi)) h.fits⟩
theorem count_o (h : NetO w B S g bb cb k n F C) (hx : okW (a, b)) :
    Calls Try.prog 13 #[.pointer (some ⟨g, 0, none⟩), .int .i64 a, .int .i64 b] w fun e w' => e = .returned (.int .i64 (F (a, b)).length) ∧ w' = w :=
  count_any S g bb cb k n a b F C w h.net hx
theorem all_o (h : NetO w B S g bb cb k n F C) (hk : k ≤ 100000) :
    Calls Try.prog 17 #[.pointer (some ⟨g, 0, none⟩)] w (AllR F w) :=
  all_any S g bb cb k n F C w h.net hk h.fits
theorem new_o (h1 : 1 ≤ n) (h2 : n ≤ 16) : Calls Try.prog 8 #[.int .i64 n] w fun e w' => ∃ g bb cb, e = .returned (.tuple #[.pointer (some ⟨g, 0, none⟩), .nilIface]) ∧ NetO w' w.heap.size nobody g bb cb 0 n (fun _ => []) (fun _ => false) ∧ Below w.heap.size w w' := by
  refine (new_yes n w h1 h2).mono ?_
  rintro e w' ⟨g, bb, cb, rfl, h, hg, hb, hc, hB⟩
  exact ⟨g, bb, cb, rfl, ⟨h, fun i hi => hi.elim, hg, hb, hc, fun _ => by simp⟩, hB⟩
end
end Go.Proofs.Ytempojdgbgaanaa.own
