/- The document's net: one list of all messages, and the ways that are cut; what its methods answer. -/
import Derived.Test.YtempojdgbgaanaaKeepO
import Derived.LoopTactic
import Derived.LoopN
import Derived.OwnWalk
namespace Go.Proofs.Ytempojdgbgaanaa.refnet
open Go.RowKit Go.Proofs.Ytempojdgbgaanaa.base Go.Proofs.Ytempojdgbgaanaa.net Go.Proofs.Ytempojdgbgaanaa.state Go.Proofs.Ytempojdgbgaanaa.at_ Go.Proofs.Ytempojdgbgaanaa.keepo

structure M where
  f : Int
  t : Int
  s : ByteArray
def mc (m : M) : List Value := [.int .i64 m.f, .int .i64 m.t, .string m.s]
theorem mc_len (m : M) : (mc m).length = 3 := rfl
def wc (v : W2) : List Value := [.int .i64 v.1, .int .i64 v.2]
theorem wc_len (v : W2) : (wc v).length = 2 := rfl
theorem m_info : (Try.prog.info? 67).map (fun i => (i.zero, i.size, i.bytes)) = some (some (.agg #[.int .i64 0, .int .i64 0, .string ⟨#[]⟩]), 3, 32) := by kernel_rfl
theorem w_info : (Try.prog.info? 69).map (fun i => (i.zero, i.size, i.bytes)) = some (some (.agg #[.int .i64 0, .int .i64 0]), 2, 16) := by kernel_rfl
/-! ### the plain answers -/
def ofW (x : W2) (m : M) : Bool := decide (m.f = x.1) && decide (m.t = x.2)
def bag (L : List M) (x : W2) : List M := L.filter (ofW x)
def hit (x v : W2) : Bool := (decide (v.1 = x.1) && decide (v.2 = x.2)) || (decide (v.1 = x.2) && decide (v.2 = x.1))
def isC (Ws : List W2) (x : W2) : Bool := Ws.any (hit x)
def pos : List M → W2 → Nat → Nat
  | [], _, _ => 0
  | m :: l, x, j => if ofW x m then (if j = 0 then 0 else pos l x (j - 1) + 1) else pos l x j + 1
theorem pos_spec : ∀ (L : List M) (x : W2) (j : Nat), j < (bag L x).length → pos L x j < L.length ∧ L[pos L x j]? = (bag L x)[j]? ∧ bag (L.eraseIdx (pos L x j)) x = (bag L x).eraseIdx j ∧ ∀ y, y ≠ x → bag (L.eraseIdx (pos L x j)) y = bag L y
  | [], x, j, h => by simp [bag] at h
  | m :: l, x, j, h => by
    unfold pos
    cases hm : ofW x m
    · have hb : bag (m :: l) x = bag l x := by simp [bag, hm]
      rw [hb] at h ⊢
      obtain ⟨h1, h2, h3, h4⟩ := pos_spec l x j h
      simp only [Bool.false_eq_true, if_false]
      refine ⟨by simp; exact h1, by simpa using h2, ?_, fun y hy => ?_⟩
      · rw [List.eraseIdx_cons_succ]
        have : bag (m :: l.eraseIdx (pos l x j)) x = bag (l.eraseIdx (pos l x j)) x := by simp [bag, hm]
        rw [this, h3]
      · rw [List.eraseIdx_cons_succ]
        have := h4 y hy
        unfold bag at this ⊢
        rw [List.filter_cons, List.filter_cons, this]
    · have hb : bag (m :: l) x = m :: bag l x := by simp [bag, hm]
      rw [hb] at h ⊢
      simp only [if_true]
      by_cases h0 : j = 0
      · subst h0
        rw [if_pos rfl]
        refine ⟨by simp, by simp, by simp, fun y hy => ?_⟩
        have hmy : ofW y m = false := by
          cases hc : ofW y m with
          | false => rfl
          | true =>
            simp [ofW] at hc hm
            exact absurd (Prod.ext (hc.1.symm.trans hm.1) (hc.2.symm.trans hm.2)) hy
        simp [bag, hmy]
      · obtain ⟨i, rfl⟩ : ∃ i, j = i + 1 := ⟨j - 1, by omega⟩
        rw [if_neg h0, Nat.add_sub_cancel]
        obtain ⟨h1, h2, h3, h4⟩ := pos_spec l x i (by simpa using h)
        refine ⟨by simp; exact h1, by simpa using h2, ?_, fun y hy => ?_⟩
        · rw [List.eraseIdx_cons_succ, List.eraseIdx_cons_succ]
          have : bag (m :: l.eraseIdx (pos l x i)) x = m :: bag (l.eraseIdx (pos l x i)) x := by simp [bag, hm]
          rw [this, h3]
        · rw [List.eraseIdx_cons_succ]
          have := h4 y hy
          unfold bag at this ⊢
          rw [List.filter_cons, List.filter_cons, this]
def posN (L : List M) (x : W2) (i : Int) : Nat := pos L x (idx i (bag L x).length)
def hasB (L : List M) (x : W2) : Bool := decide ((bag L x).length ≠ 0)
def msgM (L : List M) (x : W2) (i : Int) : M := (bag L x).getD (idx i (bag L x).length) ⟨0, 0, ⟨#[]⟩⟩
theorem posN_spec {L : List M} {x : W2} (i : Int) (h : hasB L x = true) : posN L x i < L.length ∧ L[posN L x i]? = some (msgM L x i) ∧ bag (L.eraseIdx (posN L x i)) x = (bag L x).eraseIdx (idx i (bag L x).length) ∧ ∀ y, y ≠ x → bag (L.eraseIdx (posN L x i)) y = bag L y := by
  have h1 : 1 ≤ (bag L x).length := by have := of_decide_eq_true h; omega
  obtain ⟨p1, p2, p3, p4⟩ := pos_spec L x (idx i (bag L x).length) (idx_lt i h1)
  refine ⟨p1, ?_, p3, p4⟩
  unfold posN msgM
  rw [p2, List.getD_eq_getElem?_getD, List.getElem?_eq_getElem (idx_lt i h1)]
  rfl
/-! ### the document's net in memory -/
structure RefT (w : World) (B g : Nat) (n : Int) (A1 : Option Addr) (c1 : Nat) (A2 : Option Addr) (c2 : Nat) (L : List M) (Ws : List W2) : Prop where
  blk : Blk w g 48 #[.int .i64 n, .slice A1 L.length c1, .slice A2 Ws.length c2]
  own1 : w.ownsRow B 67 3 (.slice A1 L.length c1) L.length (L.flatMap mc)
  own2 : w.ownsRow B 69 2 (.slice A2 Ws.length c2) Ws.length (Ws.flatMap wc)
  hg : B ≤ g
section
variable {w w' : World} {B g : Nat} {n : Int} {A1 A2 : Option Addr} {c1 c2 : Nat} {L : List M} {Ws : List W2}
theorem own_keepO {p : Obj → Prop} {e : TypeId} {size m : Nat} {v : Value} {xs : List Value} (h : w.ownsRow B e size v m xs) (hk : KeepO p w w') (hp : ∀ cs fr, ¬ p (.cells cs e fr)) : w'.ownsRow B e size v m xs :=
  ⟨h.1, h.2.imp id fun ⟨g, cap, cur, e0, h1, h2, r⟩ => ⟨g, cap, cur, e0, h1, (hk.block g (heap_lt h2) (fun ⟨o, ho, hpo⟩ => by rw [h2] at ho; injection ho with ho; subst ho; exact hp _ _ hpo)).trans h2, r⟩⟩
theorem RefT.keep {p : Obj → Prop} (h : RefT w B g n A1 c1 A2 c2 L Ws) (hk : KeepO p w w') (h1 : ∀ cs fr, ¬ p (.cells cs 48 fr)) (h2 : ∀ cs fr, ¬ p (.cells cs 67 fr)) (h3 : ∀ cs fr, ¬ p (.cells cs 69 fr)) : RefT w' B g n A1 c1 A2 c2 L Ws :=
  ⟨hk.blk h.blk (h1 _ _), own_keepO h.own1 hk h2, own_keepO h.own2 hk h3, h.hg⟩
theorem RefT.net (h : RefT w B g n A1 c1 A2 c2 L Ws) (hk : KeepO netP w w') : RefT w' B g n A1 c1 A2 c2 L Ws :=
  h.keep hk (fun cs fr => by simp [netP]) (fun cs fr => by simp [netP]) (fun cs fr => by simp [netP])
theorem RefT.below (h : RefT w B g n A1 c1 A2 c2 L Ws) (hk : Below w.heap.size w w') : RefT w' B g n A1 c1 A2 c2 L Ws :=
  h.keep (p := fun _ => False) (KeepO.of_below hk) (fun _ _ h => h) (fun _ _ h => h) (fun _ _ h => h)
theorem RefT.row1 (h : RefT w B g n A1 c1 A2 c2 L Ws) : Reads w w.heap.size 3 A1 L.length (L.flatMap mc) := Reads.of_own h.own1
theorem RefT.row2 (h : RefT w B g n A1 c1 A2 c2 L Ws) : Reads w w.heap.size 2 A2 Ws.length (Ws.flatMap wc) := Reads.of_own h.own2
end
/-! ### the methods that read -/
theorem there_any (B g : Nat) (n a b : Int) (A1 A2 : Option Addr) (c1 c2 : Nat) (L : List M) (Ws : List W2) (w : World) (h : RefT w B g n A1 c1 A2 c2 L Ws) :
    Calls Try.prog 32 #[.pointer (some ⟨g, 0, none⟩), .int .i64 a, .int .i64 b] w fun e w' => e = .returned (.bool (isW n a b)) ∧ w' = w := by
  have h0 : w.cell? ⟨g, 0, none⟩ = some (.int .i64 n) := h.blk.cell 0
  have hlt := h.blk.lt
  clear h
  by_cases d1 : a = b
  · have hw : isW n a b = false := by simp [isW, d1]
    rw [hw]; clear hw
    go_enter Try.func32, Try.ntmps32
    go_wp2
    go_ret
    exact ⟨rfl, rfl⟩
  · have e1 : (a != b) = true := by simpa using d1
    by_cases d2 : 1 ≤ a
    · have e2 : decide (1 ≤ a) = true := by simpa using d2
      by_cases d3 : a ≤ n
      · have e3 : decide (a ≤ n) = true := by simpa using d3
        by_cases d4 : 1 ≤ b
        · have e4 : decide (1 ≤ b) = true := by simpa using d4
          have hw : isW n a b = decide (b ≤ n) := by simp [isW, d1, d2, d3, d4]
          rw [hw]; clear hw
          go_enter Try.func32, Try.ntmps32
          go_wp2
          go_ret
          exact ⟨rfl, rfl⟩
        · have e4 : decide (1 ≤ b) = false := by simpa using d4
          have hw : isW n a b = false := by simp [isW, d4]
          rw [hw]; clear hw
          go_enter Try.func32, Try.ntmps32
          go_wp2
          go_ret
          exact ⟨rfl, rfl⟩
      · have e3 : decide (a ≤ n) = false := by simpa using d3
        have hw : isW n a b = false := by simp [isW, d3]
        rw [hw]; clear hw
        go_enter Try.func32, Try.ntmps32
        go_wp2
        go_ret
        exact ⟨rfl, rfl⟩
    · have e2 : decide (1 ≤ a) = false := by simpa using d2
      have hw : isW n a b = false := by simp [isW, d2]
      rw [hw]; clear hw
      go_enter Try.func32, Try.ntmps32
      go_wp2
      go_ret
      exact ⟨rfl, rfl⟩
end Go.Proofs.Ytempojdgbgaanaa.refnet
