/- A net and the document's net, side by side: what each call answers, in the document's words. -/
import Derived.Test.YtempojdgbgaanaaNetLaw
namespace Go.Proofs.Ytempojdgbgaanaa.play
open Go.RowKit Go.Proofs.Ytempojdgbgaanaa.base Go.Proofs.Ytempojdgbgaanaa.err Go.Proofs.Ytempojdgbgaanaa.net Go.Proofs.Ytempojdgbgaanaa.state Go.Proofs.Ytempojdgbgaanaa.at_ Go.Proofs.Ytempojdgbgaanaa.send Go.Proofs.Ytempojdgbgaanaa.take Go.Proofs.Ytempojdgbgaanaa.double Go.Proofs.Ytempojdgbgaanaa.cut Go.Proofs.Ytempojdgbgaanaa.all_ Go.Proofs.Ytempojdgbgaanaa.own Go.Proofs.Ytempojdgbgaanaa.keepo Go.Proofs.Ytempojdgbgaanaa.refnet Go.Proofs.Ytempojdgbgaanaa.refat Go.Proofs.Ytempojdgbgaanaa.refcnt Go.Proofs.Ytempojdgbgaanaa.refsend Go.Proofs.Ytempojdgbgaanaa.reftake Go.Proofs.Ytempojdgbgaanaa.refcut Go.Proofs.Ytempojdgbgaanaa.netlaw

def NewNo (w : World) (e : Ending) (w' : World) : Prop := ∃ v, e = .returned (.tuple #[.pointer none, v]) ∧ Err w' v 1 ∧ Below w.heap.size w w'
theorem new_no (n : Int) (w : World) (h : n < 1 ∨ 16 < n) : Calls Try.prog 8 #[.int .i64 n] w (NewNo w) := by
  by_cases h1 : n < 1
  · have d1 : decide (n < 1) = true := by simpa using h1
    go_enter Try.func8, Try.ntmps8
    go_wp2_with fail
    refine (err.at_any _ 0 1 _).mono ?_
    rintro e w2 ⟨v, rfl, hv, hn, hb, _⟩
    have Hv := Lib.hid hv
    have Hb := Lib.hid hb
    clear hv hb
    go_wp2
    go_ret2
    exact ⟨v, rfl, Hv.out, Hb.out⟩
  · have d1 : decide (n < 1) = false := by simpa using h1
    have d2 : decide (16 < n) = true := by simp; omega
    go_enter Try.func8, Try.ntmps8
    go_wp2_with fail
    refine (err.at_any _ 0 1 _).mono ?_
    rintro e w2 ⟨v, rfl, hv, hn, hb, _⟩
    have Hv := Lib.hid hv
    have Hb := Lib.hid hb
    clear hv hb
    go_wp2
    go_ret2
    exact ⟨v, rfl, Hv.out, Hb.out⟩
theorem byO_not {p : Obj → Prop} {w : World} {g : Nat} {t : TypeId} {cs : Array Value} (hb : Blk w g t cs) (hp : ¬ p (.cells cs t (0, 0))) : ¬ byO p w g := fun ⟨o, ho, h⟩ => by
  unfold Blk at hb
  rw [hb] at ho; injection ho with ho; subst ho
  exact hp h
/-- What a net's call, and then the document's, may have changed. -/
def bothX (w : World) : Nat → Prop := fun i => byO bothP w i ∨ w.heap.size ≤ i
theorem chain {w w1 w2 : World} (h : KeepO netP w w1) (h' : KeepO refP w1 w2) : Keeps (bothX w) w1 w2 :=
  ⟨h'.os, h'.tape, h'.output, h'.size, fun i hi hx => h'.block i hi fun ⟨o, ho, hp⟩ => hx (by
    rcases Nat.lt_or_ge i w.heap.size with h1 | h1
    · left
      by_cases hn : byO netP w i
      · obtain ⟨o2, h2, h3⟩ := hn; exact ⟨o2, h2, .inl h3⟩
      · exact ⟨o, by rw [← h.block i h1 hn]; exact ho, .inr hp⟩
    · exact .inr h1)⟩
theorem first {w w1 : World} (h : KeepO netP w w1) : Keeps (bothX w) w w1 :=
  ⟨h.os, h.tape, h.output, h.size, fun i hi hx => h.block i hi fun ⟨o, ho, hp⟩ => hx (.inl ⟨o, ho, .inl hp⟩)⟩
theorem op_not {w : World} {g : Nat} {cs : Array Value} (hb : Blk w g 30 cs) : ¬ bothX w g := fun h => by
  rcases h with h | h
  · exact byO_not hb (by simp [bothP, netP, refP]) h
  · have := hb.lt; omega
def RefX (w : World) (B g : Nat) (n : Int) (L : List M) (Ws : List W2) : Prop := ∃ A1 c1 A2 c2, RefT w B g n A1 c1 A2 c2 L Ws
structure Sta (w : World) (B g bb cb rg k : Nat) (n : Int) (F : W2 → List ByteArray) (C : W2 → Bool) (L : List M) (Ws : List W2) : Prop where
  net : NetT w B g bb cb k n F C
  ref : RefX w B rg n L Ws
  rel : Rel n F C L Ws
  hL : L.length ≤ k
  hW : Ws.length ≤ k
theorem RefX.below {w w' : World} {B g : Nat} {n : Int} {L : List M} {Ws : List W2} (h : RefX w B g n L Ws) (hb : Below w.heap.size w w') : RefX w' B g n L Ws := by
  obtain ⟨A1, c1, A2, c2, h⟩ := h
  exact ⟨A1, c1, A2, c2, h.below hb⟩
theorem RefX.net {w w' : World} {B g : Nat} {n : Int} {L : List M} {Ws : List W2} (h : RefX w B g n L Ws) (hb : KeepO netP w w') : RefX w' B g n L Ws := by
  obtain ⟨A1, c1, A2, c2, h⟩ := h
  exact ⟨A1, c1, A2, c2, h.net hb⟩
theorem Sta.below {w w' : World} {B g bb cb rg k : Nat} {n : Int} {F : W2 → List ByteArray} {C : W2 → Bool} {L : List M} {Ws : List W2} (h : Sta w B g bb cb rg k n F C L Ws) (hb : Below w.heap.size w w') : Sta w' B g bb cb rg k n F C L Ws :=
  ⟨h.net.below hb, h.ref.below hb, h.rel, h.hL, h.hW⟩
section
variable (B g bb cb rg k : Nat) (n a b i : Int) (F : W2 → List ByteArray) (C : W2 → Bool) (L : List M) (Ws : List W2) (s : ByteArray) (w : World)
theorem send_t (h : NetT w B g bb cb k n F C) (r : Rel n F C L Ws) (hx : okW (a, b)) (hk : k ≤ 5000) :
    Calls Try.prog 9 #[.pointer (some ⟨g, 0, none⟩), .int .i64 a, .int .i64 b, .string s] w fun e w' => e = .returned (.bool (sendD n L Ws (a, b))) ∧ NetT w' B g bb cb (k + 1) n (sendF n F C (a, b) s) C ∧ Below B w w' ∧ KeepO netP w w' := by
  obtain ⟨S, hN, hS⟩ := h
  refine (send_o B S g bb cb k n a b F C s w hN hx (by omega)).mono ?_
  rintro e w' ⟨rfl, h'⟩
  exact ⟨by rw [(rel_send r (a, b) s).1], NetT.step hN hS h'⟩
theorem take_t (h : NetT w B g bb cb k n F C) (r : Rel n F C L Ws) (hx : okW (a, b)) :
    Calls Try.prog 10 #[.pointer (some ⟨g, 0, none⟩), .int .i64 a, .int .i64 b, .int .i64 i] w fun e w' => e = .returned (.tuple #[.string (takeS L Ws (a, b) i), .bool (takeD L Ws (a, b))]) ∧ NetT w' B g bb cb (k + 1) n (takeF n F C (a, b) i) C ∧ Below B w w' ∧ KeepO netP w w' := by
  obtain ⟨S, hN, hS⟩ := h
  refine (take_o B S g bb cb k n a b i F C w hN hx).mono ?_
  rintro e w' ⟨rfl, h'⟩
  obtain ⟨r1, r2, _⟩ := rel_take r (a, b) i
  exact ⟨by rw [r2, r1], NetT.step hN hS h'⟩
theorem drop_t (h : NetT w B g bb cb k n F C) (r : Rel n F C L Ws) (hx : okW (a, b)) :
    Calls Try.prog 11 #[.pointer (some ⟨g, 0, none⟩), .int .i64 a, .int .i64 b, .int .i64 i] w fun e w' => e = .returned (.bool (hasB L (a, b))) ∧ NetT w' B g bb cb (k + 1) n (dropF n F (a, b) i) C ∧ Below B w w' ∧ KeepO netP w w' := by
  obtain ⟨S, hN, hS⟩ := h
  refine (drop_o B S g bb cb k n a b i F C w hN hx).mono ?_
  rintro e w' ⟨rfl, h'⟩
  exact ⟨by rw [(rel_drop r (a, b) i).1], NetT.step hN hS h'⟩
theorem double_t (h : NetT w B g bb cb k n F C) (r : Rel n F C L Ws) (hx : okW (a, b)) (hk : k ≤ 5000) :
    Calls Try.prog 12 #[.pointer (some ⟨g, 0, none⟩), .int .i64 a, .int .i64 b, .int .i64 i] w fun e w' => e = .returned (.bool (doubleD L (a, b))) ∧ NetT w' B g bb cb (k + 1) n (doubleF n F (a, b) i) C ∧ Below B w w' ∧ KeepO netP w w' := by
  obtain ⟨S, hN, hS⟩ := h
  refine (double_o B S g bb cb k n a b i F C w hN hx (by omega)).mono ?_
  rintro e w' ⟨rfl, h'⟩
  exact ⟨by rw [(rel_double r (a, b) i).1], NetT.step hN hS h'⟩
theorem cut_t (h : NetT w B g bb cb k n F C) (hx : okW (a, b)) (hk : k ≤ 5000) :
    Calls Try.prog 14 #[.pointer (some ⟨g, 0, none⟩), .int .i64 a, .int .i64 b] w fun e w' => e = .returned (.tuple #[]) ∧ NetT w' B g bb cb (k + 2) n F (cutC n a b C) ∧ Below B w w' ∧ KeepO netP w w' := by
  obtain ⟨S, hN, hS⟩ := h
  refine (cut_o B S g bb cb k n a b F C w hN hx (by omega)).mono ?_
  rintro e w' ⟨rfl, h'⟩
  exact ⟨rfl, NetT.step hN hS h'⟩
theorem join_t (h : NetT w B g bb cb k n F C) (hx : okW (a, b)) :
    Calls Try.prog 16 #[.pointer (some ⟨g, 0, none⟩), .int .i64 a, .int .i64 b] w fun e w' => e = .returned (.tuple #[]) ∧ NetT w' B g bb cb k n F (joinC n a b C) ∧ Below B w w' ∧ KeepO netP w w' := by
  obtain ⟨S, hN, hS⟩ := h
  refine (join_o B S g bb cb k n a b F C w hN hx).mono ?_
  rintro e w' ⟨rfl, h'⟩
  exact ⟨rfl, NetT.step hN hS h'⟩
theorem heal_t (h : NetT w B g bb cb k n F C) :
    Calls Try.prog 15 #[.pointer (some ⟨g, 0, none⟩)] w fun e w' => e = .returned (.tuple #[]) ∧ NetT w' B g bb cb k n F (fun _ => false) ∧ Below B w w' ∧ KeepO netP w w' := by
  obtain ⟨S, hN, hS⟩ := h
  refine (heal_o B S g bb cb k n F C w hN).mono ?_
  rintro e w' ⟨rfl, h'⟩
  exact ⟨rfl, NetT.step hN hS h'⟩
theorem count_t (h : NetT w B g bb cb k n F C) (r : Rel n F C L Ws) (hx : okW (a, b)) :
    Calls Try.prog 13 #[.pointer (some ⟨g, 0, none⟩), .int .i64 a, .int .i64 b] w fun e w' => e = .returned (.int .i64 (bag L (a, b)).length) ∧ w' = w := by
  obtain ⟨S, hN, hS⟩ := h
  refine (count_o B S g bb cb k n a b F C w hN hx).mono ?_
  rintro e w' ⟨rfl, h'⟩
  exact ⟨by rw [r.len], h'⟩
theorem all_t (h : NetT w B g bb cb k n F C) (r : Rel n F C L Ws) (hk : k ≤ 5000) :
    Calls Try.prog 17 #[.pointer (some ⟨g, 0, none⟩)] w fun e w' => e = .returned (.int .i64 L.length) ∧ Below w.heap.size w w' := by
  obtain ⟨S, hN, hS⟩ := h
  refine (all_o B S g bb cb k n F C w hN (by omega)).mono ?_
  rintro e w' ⟨⟨l, h1, h2, rfl⟩, hb⟩
  exact ⟨by rw [r.all h1 h2], hb⟩
/-! the document's -/
theorem send_x (h : RefX w B g n L Ws) (hl : L.length ≤ 10000) (hl2 : Ws.length ≤ 10000) :
    Calls Try.prog 19 #[.pointer (some ⟨g, 0, none⟩), .int .i64 a, .int .i64 b, .string s] w fun e w' => e = .returned (.bool (sendD n L Ws (a, b))) ∧ RefR B g n (sendL n L Ws (a, b) s) Ws w w' := by
  obtain ⟨A1, c1, A2, c2, h⟩ := h
  exact send_ref B g n a b A1 A2 c1 c2 L Ws s w h hl hl2
theorem take_x (h : RefX w B g n L Ws) (hl : L.length ≤ 10000) (hl2 : Ws.length ≤ 10000) :
    Calls Try.prog 20 #[.pointer (some ⟨g, 0, none⟩), .int .i64 a, .int .i64 b, .int .i64 i] w fun e w' => e = .returned (.tuple #[.string (takeS L Ws (a, b) i), .bool (takeD L Ws (a, b))]) ∧ RefR B g n (takeL L Ws (a, b) i) Ws w w' := by
  obtain ⟨A1, c1, A2, c2, h⟩ := h
  exact take_ref B g n a b i A1 A2 c1 c2 L Ws w h hl hl2
theorem drop_x (h : RefX w B g n L Ws) (hl : L.length ≤ 10000) :
    Calls Try.prog 21 #[.pointer (some ⟨g, 0, none⟩), .int .i64 a, .int .i64 b, .int .i64 i] w fun e w' => e = .returned (.bool (hasB L (a, b))) ∧ RefR B g n (dropD L (a, b) i) Ws w w' := by
  obtain ⟨A1, c1, A2, c2, h⟩ := h
  exact drop_ref B g n a b i A1 A2 c1 c2 L Ws w h hl
theorem double_x (h : RefX w B g n L Ws) (hl : L.length ≤ 10000) :
    Calls Try.prog 22 #[.pointer (some ⟨g, 0, none⟩), .int .i64 a, .int .i64 b, .int .i64 i] w fun e w' => e = .returned (.bool (doubleD L (a, b))) ∧ RefR B g n (doubleL L (a, b) i) Ws w w' := by
  obtain ⟨A1, c1, A2, c2, h⟩ := h
  exact double_ref B g n a b i A1 A2 c1 c2 L Ws w h hl
theorem cut_x (h : RefX w B g n L Ws) (hl2 : Ws.length ≤ 10000) :
    Calls Try.prog 23 #[.pointer (some ⟨g, 0, none⟩), .int .i64 a, .int .i64 b] w fun e w' => e = .returned (.tuple #[]) ∧ RefR B g n L (cutW n Ws (a, b)) w w' := by
  obtain ⟨A1, c1, A2, c2, h⟩ := h
  exact cut_ref B g n a b A1 A2 c1 c2 L Ws w h hl2
theorem join_x (h : RefX w B g n L Ws) (hl2 : Ws.length ≤ 10000) :
    Calls Try.prog 24 #[.pointer (some ⟨g, 0, none⟩), .int .i64 a, .int .i64 b] w fun e w' => e = .returned (.tuple #[]) ∧ RefR B g n L (joinW Ws (a, b)) w w' := by
  obtain ⟨A1, c1, A2, c2, h⟩ := h
  exact join_ref B g n a b A1 A2 c1 c2 L Ws w h hl2
theorem count_x (h : RefX w B g n L Ws) (hl : L.length ≤ 100000) :
    Calls Try.prog 25 #[.pointer (some ⟨g, 0, none⟩), .int .i64 a, .int .i64 b] w fun e w' => e = .returned (.int .i64 (bag L (a, b)).length) ∧ w' = w := by
  obtain ⟨A1, c1, A2, c2, h⟩ := h
  exact count_ref B g n a b A1 A2 c1 c2 L Ws w h hl
end
/-! ### both together -/
section
variable {w w1 w2 : World} {B g bb cb rg k k' : Nat} {n : Int} {F F' : W2 → List ByteArray} {C C' : W2 → Bool} {L L' : List M} {Ws Ws' : List W2}
/-- Behind a net's call and the document's. -/
theorem Sta.both (hN : NetT w1 B g bb cb k' n F' C') (hR : RefR B rg n L' Ws' w1 w2) (hr : Rel n F' C' L' Ws') (hL : L'.length ≤ k') (hW : Ws'.length ≤ k') : Sta w2 B g bb cb rg k' n F' C' L' Ws' :=
  ⟨hN.ref hR.2.2, hR.1, hr, hL, hW⟩
theorem NetT.more (h : NetT w B g bb cb k n F C) (hk : k ≤ k') : NetT w B g bb cb k' n F C := by
  obtain ⟨S, hN, hS⟩ := h
  exact ⟨S, ⟨NetS.more hN.net hk, hN.own, hN.hg, hN.hb, hN.hc, hN.fits⟩, hS⟩
theorem sendL_le (n : Int) (L : List M) (Ws : List W2) (x : W2) (s : ByteArray) : (sendL n L Ws x s).length ≤ L.length + 1 := by unfold sendL; split <;> simp
theorem dropD_le (L : List M) (x : W2) (i : Int) : (dropD L x i).length ≤ L.length := by unfold dropD; split; exact List.length_eraseIdx_le _ _; exact Nat.le_refl _
theorem takeL_le (L : List M) (Ws : List W2) (x : W2) (i : Int) : (takeL L Ws x i).length ≤ L.length := by unfold takeL; split; exact dropD_le _ _ _; exact Nat.le_refl _
theorem doubleL_le (L : List M) (x : W2) (i : Int) : (doubleL L x i).length ≤ L.length + 1 := by unfold doubleL; split <;> simp
theorem cutW_le (n : Int) (Ws : List W2) (x : W2) : (cutW n Ws x).length ≤ Ws.length + 1 := by unfold cutW; split <;> simp
theorem joinW_le (Ws : List W2) (x : W2) : (joinW Ws x).length ≤ Ws.length := List.length_filter_le _ _
end
end Go.Proofs.Ytempojdgbgaanaa.play
