/- What the document's net does: it sends, drops, takes, doubles. -/
import Derived.Test.YtempojdgbgaanaaRefCnt
namespace Go.Proofs.Ytempojdgbgaanaa.refsend
open Go.RowKit Go.Proofs.Ytempojdgbgaanaa.base Go.Proofs.Ytempojdgbgaanaa.net Go.Proofs.Ytempojdgbgaanaa.state Go.Proofs.Ytempojdgbgaanaa.at_ Go.Proofs.Ytempojdgbgaanaa.keepo Go.Proofs.Ytempojdgbgaanaa.refnet Go.Proofs.Ytempojdgbgaanaa.refat Go.Proofs.Ytempojdgbgaanaa.refcnt

def RefR (B g : Nat) (n : Int) (L : List M) (Ws : List W2) (w w' : World) : Prop := (∃ A1 c1 A2 c2, RefT w' B g n A1 c1 A2 c2 L Ws) ∧ Below B w w' ∧ KeepO refP w w'
section
variable {w w' w4 : World} {B g : Nat} {n : Int} {A1 A2 A' : Option Addr} {c1 c2 c' : Nat} {L L' : List M} {Ws Ws' : List W2}
theorem RefT.size (h : RefT w B g n A1 c1 A2 c2 L Ws) : B ≤ w.heap.size := by have := h.hg; have := h.blk.lt; omega
theorem RefR.same (h : RefT w B g n A1 c1 A2 c2 L Ws) (hb : Below w.heap.size w w') : RefR B g n L Ws w w' := ⟨⟨A1, c1, A2, c2, h.below hb⟩, hb.mono (RefT.size h), KeepO.of_below hb⟩
theorem own_set {e : TypeId} {size m : Nat} {v : Value} {xs : List Value} {t : TypeId} {cs : Array Value} (h : w.ownsRow B e size v m xs) (hg : Blk w g t cs) (hne : e ≠ t) (j : Nat) (u : Value) : (w.setCell ⟨g, j, none⟩ u).ownsRow B e size v m xs :=
  ⟨h.1, h.2.imp id fun ⟨g', cap, cur, e0, h1, h2, r⟩ => ⟨g', cap, cur, e0, h1, ((Keeps.set1 w g j u).block g' (heap_lt h2) (fun hx => by
    have hx : g' = g := hx
    subst hx
    exact own_blk_ne h hg hne (by rw [e0]; rfl))).trans h2, r⟩⟩
theorem keepO_grown {p : Obj → Prop} {e : TypeId} {size m : Nat} {v : Value} {xs : List Value} (h : w.ownsRow B e size v m xs) (hg : w.grownBy w' v.ownBlock) (hp : ∀ cs, p (.cells cs e (0, 0))) : KeepO p w w' :=
  ⟨hg.os, hg.tape, hg.output, hg.size, fun i hi hx => hg.block i hi fun he => hx (by
    rcases h.2 with ⟨e0, _⟩ | ⟨g', cap, cur, e0, _, h2, _⟩
    · rw [e0] at he; simp [Value.ownBlock] at he
    · have : i = g' := by rw [e0] at he; simpa [Value.ownBlock] using he
      subst this
      exact ⟨_, h2, hp _⟩)⟩
/-- The list's row anew. -/
theorem RefT.set1 (h : RefT w B g n A1 c1 A2 c2 L Ws) (hk : KeepO refP w w4) (hB : Below B w w4) (hb : Blk w4 g 48 #[.int .i64 n, .slice A1 L.length c1, .slice A2 Ws.length c2])
    (h1 : w4.ownsRow B 67 3 (.slice A' L'.length c') L'.length (L'.flatMap mc)) (h2 : w4.ownsRow B 69 2 (.slice A2 Ws.length c2) Ws.length (Ws.flatMap wc)) :
    RefR B g n L' Ws w (w4.setCell ⟨g, 1, none⟩ (.slice A' L'.length c')) := by
  refine ⟨⟨A', c', A2, c2, by have := hb.set_ 1 (.slice A' L'.length c'); simpa using this, own_set h1 hb (by decide) 1 _, own_set h2 hb (by decide) 1 _, h.hg⟩, below_keeps hB (RefT.size h) (Keeps.set1 _ _ _ _) (fun i hi hx => ?_), hk.set hb (.inl rfl) 1 _⟩
  have : i = g := hx
  have := h.hg
  omega
/-- The ways' row anew. -/
theorem RefT.set2 (h : RefT w B g n A1 c1 A2 c2 L Ws) (hk : KeepO refP w w4) (hB : Below B w w4) (hb : Blk w4 g 48 #[.int .i64 n, .slice A1 L.length c1, .slice A2 Ws.length c2])
    (h1 : w4.ownsRow B 67 3 (.slice A1 L.length c1) L.length (L.flatMap mc)) (h2 : w4.ownsRow B 69 2 (.slice A' Ws'.length c') Ws'.length (Ws'.flatMap wc)) :
    RefR B g n L Ws' w (w4.setCell ⟨g, 2, none⟩ (.slice A' Ws'.length c')) := by
  refine ⟨⟨A1, c1, A', c', by have := hb.set_ 2 (.slice A' Ws'.length c'); simpa using this, own_set h1 hb (by decide) 2 _, own_set h2 hb (by decide) 2 _, h.hg⟩, below_keeps hB (RefT.size h) (Keeps.set1 _ _ _ _) (fun i hi hx => ?_), hk.set hb (.inl rfl) 2 _⟩
  have : i = g := hx
  have := h.hg
  omega
/-- Behind one message more in the row: ready for the store. -/
theorem RefT.more1 (h : RefT w B g n A1 c1 A2 c2 L Ws) {v' : Value} {m : M} (hv : w4.ownsRow B 67 3 v' (L.length + 1) (L.flatMap mc ++ mc m)) (hB : Below B w w4) (hg : w.grownBy w4 (Value.slice A1 L.length c1).ownBlock) :
    ∃ A' c', v' = .slice A' (L ++ [m]).length c' ∧ Blk w4 g 48 #[.int .i64 n, .slice A1 L.length c1, .slice A2 Ws.length c2] ∧ RefR B g n (L ++ [m]) Ws w (w4.setCell ⟨g, 1, none⟩ (.slice A' (L ++ [m]).length c')) := by
  obtain ⟨A', c', rfl⟩ := ownsRow_slice hv
  have hb := h.blk.grown hg (fun e => own_blk_ne h.own1 h.blk (by decide) e.symm)
  refine ⟨A', c', by simp, hb, RefT.set1 h (keepO_grown h.own1 hg (fun _ => .inr (.inl rfl))) hB hb ?_ ?_⟩
  · simpa using hv
  · have hk : KeepO (fun o => ∃ cs, o = .cells cs 67 (0, 0)) w w4 := keepO_grown h.own1 hg (fun cs => ⟨cs, rfl⟩)
    exact own_keepO h.own2 hk (fun cs fr ⟨cs', e⟩ => by injection e with _ e; exact absurd e (by decide))
theorem RefT.more2 (h : RefT w B g n A1 c1 A2 c2 L Ws) {v' : Value} {m : W2} (hv : w4.ownsRow B 69 2 v' (Ws.length + 1) (Ws.flatMap wc ++ wc m)) (hB : Below B w w4) (hg : w.grownBy w4 (Value.slice A2 Ws.length c2).ownBlock) :
    ∃ A' c', v' = .slice A' (Ws ++ [m]).length c' ∧ Blk w4 g 48 #[.int .i64 n, .slice A1 L.length c1, .slice A2 Ws.length c2] ∧ RefR B g n L (Ws ++ [m]) w (w4.setCell ⟨g, 2, none⟩ (.slice A' (Ws ++ [m]).length c')) := by
  obtain ⟨A', c', rfl⟩ := ownsRow_slice hv
  have hb := h.blk.grown hg (fun e => own_blk_ne h.own2 h.blk (by decide) e.symm)
  refine ⟨A', c', by simp, hb, RefT.set2 h (keepO_grown h.own2 hg (fun _ => .inr (.inr rfl))) hB hb ?_ ?_⟩
  · have hk : KeepO (fun o => ∃ cs, o = .cells cs 69 (0, 0)) w w4 := keepO_grown h.own2 hg (fun cs => ⟨cs, rfl⟩)
    exact own_keepO h.own1 hk (fun cs fr ⟨cs', e⟩ => by injection e with _ e; exact absurd e (by decide))
  · simpa using hv
theorem own_up {B' : Nat} {e : TypeId} {size m : Nat} {v : Value} {xs : List Value} (h : w.ownsRow B' e size v m xs) (hb : B ≤ B') : w.ownsRow B e size v m xs :=
  ⟨h.1, h.2.imp id fun ⟨g', cap, cur, e0, h1, r⟩ => ⟨g', cap, cur, e0, Nat.le_trans hb h1, r⟩⟩
theorem RefR.from {w1 : World} (hb : Below w.heap.size w w1) (hB : B ≤ w.heap.size) (h : RefR B g n L Ws w1 w') : RefR B g n L Ws w w' := ⟨h.1, (hb.mono hB).trans h.2.1, (KeepO.of_below hb).trans h.2.2⟩
end
def sendD (n : Int) (L : List M) (Ws : List W2) (x : W2) : Bool := isW n x.1 x.2 && !isC Ws x && decide ((bag L x).length < 64)
def sendL (n : Int) (L : List M) (Ws : List W2) (x : W2) (s : ByteArray) : List M := if sendD n L Ws x then L ++ [⟨x.1, x.2, s⟩] else L
set_option maxRecDepth 100000 in
set_option maxHeartbeats 1600000 in
theorem send_ref (B g : Nat) (n a b : Int) (A1 A2 : Option Addr) (c1 c2 : Nat) (L : List M) (Ws : List W2) (s : ByteArray) (w : World) (h : RefT w B g n A1 c1 A2 c2 L Ws) (hl : L.length ≤ 10000) (hl2 : Ws.length ≤ 10000) :
    Calls Try.prog 19 #[.pointer (some ⟨g, 0, none⟩), .int .i64 a, .int .i64 b, .string s] w fun e w' => e = .returned (.bool (sendD n L Ws (a, b))) ∧ RefR B g n (sendL n L Ws (a, b) s) Ws w w' := by
  obtain ⟨i0, hi0, hz0, hz1, hz2⟩ := info_parts m_info
  have H := Lib.hid h
  have hsz := RefT.size h
  clear h
  cases t1 : isW n a b
  · have hD : sendD n L Ws (a, b) = false := by simp [sendD, t1]
    go_enter Try.func19, Try.ntmps19
    go_wp2_with fail
    refine (there_any B g n a b A1 A2 c1 c2 L Ws w H.out).mono ?_
    rintro e w2 ⟨rfl, rfl⟩
    rw [t1]
    have HD := Lib.hid hD
    have Hb := Lib.hid (Below.refl w2.heap.size w2)
    clear hD
    go_wp2
    go_ret
    exact ⟨by rw [HD.out]; rfl, by unfold sendL; rw [HD.out]; exact RefR.same H.out Hb.out⟩
  · cases t2 : isC Ws (a, b)
    · by_cases t3 : (bag L (a, b)).length < 64
      · have hD : sendD n L Ws (a, b) = true := by simp [sendD, t1, t2, t3]
        have HD := Lib.hid hD
        clear hD
        have hd : decide (64 ≤ ((bag L (a, b)).length : Int)) = false := by simp; omega
        go_enter Try.func19, Try.ntmps19
        go_wp2_with fail
        refine (there_any B g n a b A1 A2 c1 c2 L Ws w H.out).mono ?_
        rintro e w2 ⟨rfl, rfl⟩
        rw [t1]
        go_wp2_with fail
        refine (is_ref B g n a b A1 A2 c1 c2 L Ws w2 H.out (by omega)).mono ?_
        rintro e w3 ⟨rfl, hb3⟩
        rw [t2]
        have hR3 := H.out.below hb3
        have H3 := Lib.hid hR3
        have Hb3 := Lib.hid hb3
        have q1 : w3.cell? ⟨g, 1, none⟩ = some (.slice A1 L.length c1) := hR3.blk.cell 1
        have q2 := hR3.blk.lt
        clear hR3 hb3
        go_wp2_with fail
        refine (count_ref B g n a b A1 A2 c1 c2 L Ws _ H3.out (by omega)).mono ?_
        rintro e w4 ⟨rfl, rfl⟩
        go_wp2_with (at_builtin; refine wpList_append_new rfl (.tmp 31) (.tmp 36) _ rfl B 67 i0 _ 3 32 Try.underlying45 hi0 hz0 hz1 hz2 rfl (by decide) _ _ _ rfl H3.out.own1 1 1 [.int .i64 a, .int .i64 b, .string s] rfl rfl (by simp [Value.oneCell']) (by unfold maxLen; omega) (by omega) (RefT.size H3.out) ?_; intro v1 w5 hown1 hbw1 hgr1 hwh1; obtain ⟨A', c', rfl, hbk, hRR⟩ := RefT.more1 H3.out (m := ⟨a, b, s⟩) hown1 hbw1 hgr1; have HRR := Lib.hid hRR; have q1 : w5.cell? ⟨g, 1, none⟩ = some (.slice A1 L.length c1) := hbk.cell 1; have q2 := hbk.lt; have qf := hbk.frozen 1; clear hown1 hbw1 hgr1 hwh1 hbk hRR)
        go_wp2
        go_ret
        exact ⟨by rw [HD.out]; rfl, by unfold sendL; rw [if_pos HD.out]; have h := HRR.out; simp only [List.length_append, List.length_cons, List.length_nil] at h; exact RefR.from Hb3.out hsz h⟩
      · have hD : sendD n L Ws (a, b) = false := by simp [sendD, t3]
        have hd : decide (64 ≤ ((bag L (a, b)).length : Int)) = true := by simp; omega
        go_enter Try.func19, Try.ntmps19
        go_wp2_with fail
        refine (there_any B g n a b A1 A2 c1 c2 L Ws w H.out).mono ?_
        rintro e w2 ⟨rfl, rfl⟩
        rw [t1]
        go_wp2_with fail
        refine (is_ref B g n a b A1 A2 c1 c2 L Ws w2 H.out (by omega)).mono ?_
        rintro e w3 ⟨rfl, hb3⟩
        rw [t2]
        have H3 := Lib.hid (H.out.below hb3)
        go_wp2_with fail
        refine (count_ref B g n a b A1 A2 c1 c2 L Ws _ H3.out (by omega)).mono ?_
        rintro e w4 ⟨rfl, rfl⟩
        have HD := Lib.hid hD
        have Hb := Lib.hid hb3
        clear hD
        go_wp2
        go_ret
        exact ⟨by rw [HD.out]; rfl, by unfold sendL; rw [HD.out]; exact RefR.same H.out Hb.out⟩
    · have hD : sendD n L Ws (a, b) = false := by simp [sendD, t2]
      go_enter Try.func19, Try.ntmps19
      go_wp2_with fail
      refine (there_any B g n a b A1 A2 c1 c2 L Ws w H.out).mono ?_
      rintro e w2 ⟨rfl, rfl⟩
      rw [t1]
      go_wp2_with fail
      refine (is_ref B g n a b A1 A2 c1 c2 L Ws w2 H.out (by omega)).mono ?_
      rintro e w3 ⟨rfl, hb3⟩
      rw [t2]
      have HD := Lib.hid hD
      have Hb := Lib.hid hb3
      clear hD
      go_wp2
      go_ret
      exact ⟨by rw [HD.out]; rfl, by unfold sendL; rw [HD.out]; exact RefR.same H.out Hb.out⟩
/-! ### drop -/
def dropD (L : List M) (x : W2) (i : Int) : List M := if hasB L x then L.eraseIdx (posN L x i) else L
theorem del_short {L : List M} {P k : Nat} (h : k ≤ P) : (L.take k).eraseIdx P = L.take k := List.eraseIdx_of_length_le (Nat.le_trans (by rw [List.length_take]; exact Nat.min_le_left _ _) h)
theorem del_here {L : List M} {P k : Nat} (h : k = P) (hk : k < L.length) : (L.take (k + 1)).eraseIdx P = (L.take k).eraseIdx P := by
  subst h
  have hlen : (L.take k).length = k := by rw [List.length_take]; omega
  rw [del_short (Nat.le_refl _), List.take_add_one, List.getElem?_eq_getElem hk, List.eraseIdx_append_of_length_le (by omega), hlen, Nat.sub_self]
  simp
theorem del_there {L : List M} {P k : Nat} {m : M} (hk : L[k]? = some m) (h : k ≠ P) : (L.take (k + 1)).eraseIdx P = (L.take k).eraseIdx P ++ [m] := by
  have hl := (List.getElem?_eq_some_iff.1 hk).1
  have hlen : (L.take k).length = k := by rw [List.length_take]; omega
  rcases Nat.lt_or_ge P k with h1 | h1
  · rw [List.take_add_one, hk, List.eraseIdx_append_of_lt_length (by omega)]
    rfl
  · rw [del_short (by omega), del_short h1, List.take_add_one, hk]
    rfl
set_option maxRecDepth 100000 in
set_option maxHeartbeats 1600000 in
theorem drop_ref (B g : Nat) (n a b i : Int) (A1 A2 : Option Addr) (c1 c2 : Nat) (L : List M) (Ws : List W2) (w : World) (h : RefT w B g n A1 c1 A2 c2 L Ws) (hl : L.length ≤ 10000) :
    Calls Try.prog 21 #[.pointer (some ⟨g, 0, none⟩), .int .i64 a, .int .i64 b, .int .i64 i] w fun e w' => e = .returned (.bool (hasB L (a, b))) ∧ RefR B g n (dropD L (a, b) i) Ws w w' := by
  obtain ⟨i0, hi0, hz0, hz1, hz2⟩ := info_parts m_info
  have H := Lib.hid h
  have hsz := RefT.size h
  clear h
  cases t1 : hasB L (a, b)
  · have hp : posI L (a, b) i = -1 := by unfold posI; rw [t1]; rfl
    have hd : dropD L (a, b) i = L := by unfold dropD; rw [t1]; rfl
    have Hd := Lib.hid hd
    clear hd
    go_enter Try.func21, Try.ntmps21
    go_wp2_with fail
    refine (at_ref B g n a b i A1 A2 c1 c2 L Ws w H.out (by omega)).mono ?_
    rintro e w2 ⟨rfl, rfl⟩
    rw [hp]
    clear hp
    go_wp2
    go_ret
    exact ⟨rfl, by rw [Hd.out]; exact RefR.same H.out (Below.refl _ _)⟩
  · have hp : posI L (a, b) i = (posN L (a, b) i : Nat) := by unfold posI; rw [t1]; rfl
    have hd : dropD L (a, b) i = L.eraseIdx (posN L (a, b) i) := by unfold dropD; rw [t1]; rfl
    have hP := (posN_spec i t1).1
    have Hd := Lib.hid hd
    have hq := H.out.blk.cell 1
    have hq2 := H.out.blk.lt
    clear hd
    go_enter Try.func21, Try.ntmps21
    go_wp2_with fail
    refine (at_ref B g n a b i A1 A2 c1 c2 L Ws w H.out (by omega)).mono ?_
    rintro e w2 ⟨rfl, rfl⟩
    rw [hp]
    clear hp
    generalize posN L (a, b) i = P at *
    have hdP : decide ((P : Int) < 0) = false := by simp
    go_wp2
    go_loopw [10, 11] (fun sv iv wr => ∃ (k : Nat) (A : Option Addr) (m c : Nat), k ≤ L.length ∧ m ≤ k ∧ iv = .int .i64 k ∧ sv = .slice A m c ∧ wr.ownsRow w2.heap.size 67 3 (.slice A m c) m (((L.take k).eraseIdx P).flatMap mc) ∧ Below w2.heap.size w2 wr) (fun _ iv _ => L.length - (intOf iv).toNat)
    case atStart => exact ⟨0, _, 0, 0, by omega, by omega, rfl, rfl, by have := ownsRow_new0 w2 67 3 #[] (n := 0); simpa using this, below_new _ _⟩
    case round =>
      obtain ⟨k, A, m, c, hk, hm, rfl, rfl, hown, hb⟩ := hrel
      have hR := H.out.below hb
      have q2 : wr.cell? ⟨g, 1, none⟩ = some (.slice A1 L.length c1) := hR.blk.cell 1
      have q3 := hR.blk.lt
      have hlk : decide ((k : Int) < (L.length : Int)) = decide (k < L.length) := decide_eq_decide.2 (by omega)
      by_cases hlt : k < L.length
      · by_cases hkP : k = P
        · have hd := del_here (L := L) hkP hlt
          have hne : ((k : Int) != (P : Int)) = false := by simp [hkP]
          rw [← hd] at hown
          have Hown := Lib.hid hown
          have Hb := Lib.hid hb
          clear hown hb hd hR
          go_wp2
          go_roundw
          case rel => exact ⟨k + 1, A, m, c, by omega, by omega, by go_num, rfl, Hown.out, Hb.out⟩
          case measure => simp [intOf]; omega
        · have hne : ((k : Int) != (P : Int)) = true := by simp; omega
          have hrow := hR.row1
          obtain ⟨sb, so, rfl, hsb⟩ := hrow.at_some (by omega)
          obtain ⟨x, hv⟩ : ∃ m, L[k]? = some m := ⟨L[k], List.getElem?_eq_getElem hlt⟩
          have g0 := hrow.thing mc mc_len hlt hv 0 (by omega)
          have g1 := hrow.thing mc mc_len hlt hv 1 (by omega)
          have g2 := hrow.thing mc mc_len hlt hv 2 (by omega)
          have hd := del_there hv hkP
          obtain ⟨xf, xt, xs⟩ := x
          simp [mc] at g0 g1 g2
          have Hown := Lib.hid hown
          have Hb := Lib.hid hb
          have Hd := Lib.hid hd
          have hws := hb.size
          clear hown hb hd hR hrow hv
          go_wp2_with (at_builtin; refine wpList_append_new rfl (.tmp 32) (.tmp 40) _ rfl w2.heap.size 67 i0 _ 3 32 Try.underlying45 hi0 hz0 hz1 hz2 rfl (by decide) _ _ _ rfl Hown.out 1 1 [.int .i64 xf, .int .i64 xt, .string xs] rfl rfl (by simp [Value.oneCell']) (by unfold maxLen; omega) (by omega) hws ?_; intro v1 w5 hown1 hbw1 hgr1 hwh1; obtain ⟨A', c', rfl⟩ := ownsRow_slice hown1; have Hown1 := Lib.hid hown1; have Hbw1 := Lib.hid (Hb.out.trans hbw1); clear hown1 hbw1 hgr1 hwh1)
          go_roundw
          case rel => exact ⟨k + 1, A', m + 1, c', by omega, by omega, by go_num, rfl, by rw [Hd.out, List.flatMap_append]; simpa [mc] using Hown1.out, Hbw1.out⟩
          case measure => simp [intOf]; omega
      · have hf : L.take k = L := List.take_of_length_le (by omega)
        rw [hf] at hown
        have hm2 : (L.eraseIdx P).length = m := by have := hown.1; rw [len_flat mc mc_len] at this; omega
        subst hm2
        have hset := RefT.set1 (L' := L.eraseIdx P) H.out (KeepO.of_below hb) (hb.mono hsz) hR.blk (own_up hown hsz) hR.own2
        have Hset := Lib.hid hset
        have qf := hR.blk.frozen 1
        clear hown hb hR hset
        go_wp2
        go_ret
        exact ⟨rfl, by rw [Hd.out]; exact Hset.out⟩
end Go.Proofs.Ytempojdgbgaanaa.refsend
