/- Learn and Raise in one contract each. -/
import Derived.Test.YtojmnkcncjconaaLaw
import Derived.Test.YtojmnkcncjconaaOps
import Derived.Test.YtojmnkcncjconaaKeys
import Derived.Test.YtojmnkcncjconaaRefT
namespace Go.Proofs.Ytojmnkcncjconaa.all_
open Go.RowKit Go.Proofs.Ytojmnkcncjconaa.base Go.Proofs.Ytojmnkcncjconaa.list Go.Proofs.Ytojmnkcncjconaa.err Go.Proofs.Ytojmnkcncjconaa.tab Go.Proofs.Ytojmnkcncjconaa.new Go.Proofs.Ytojmnkcncjconaa.law

def LearnT (g b : Nat) (L : List Ep) (u : ByteArray) (n : Int) (w : World) (e : Ending) (w' : World) : Prop :=
  ∃ ok v, e = .returned (.tuple #[.bool ok, v]) ∧ EO w' v (canC L u n) ∧ ok = (decide (canC L u n = 0) && !decide (n ≤ getL L u)) ∧ Tab w' g b (learnL L u n) ∧ Keeps (fun i => w.heap.size ≤ i ∨ i = b) w w'
theorem learn_all (g b : Nat) (L : List Ep) (u : ByteArray) (n : Int) (w : World) (h : Tab w g b L) (hG : GoodL L) (hu : u.size ≤ maxLen) :
    Calls Try.prog 12 #[.pointer (some ⟨g, 0, none⟩), .string u, .int .i64 n] w (LearnT g b L u n w) := by
  by_cases hc : canC L u n = 0
  · by_cases hn : n ≤ getL L u
    · refine (learn_old g b L u n w h hG hu hc hn).mono ?_
      rintro e w' ⟨v, rfl, he, hb⟩
      exact ⟨false, v, rfl, by rw [hc]; exact he, by simp [hc, hn], by unfold learnL; rw [if_pos hc, if_pos hn]; exact h.below hb, .of_below hb⟩
    · refine (learn_new g b L u n w h hG hu hc hn).mono ?_
      rintro e w' ⟨rfl, hT, hk⟩
      exact ⟨true, .nilIface, rfl, by rw [hc]; exact .nil _, by simp [hc]; omega, by unfold learnL; rw [if_pos hc, if_neg hn]; exact hT, hk⟩
  · refine (learn_no g b L u n w h hG hu hc).mono ?_
    rintro e w' ⟨v, rfl, he, hb⟩
    exact ⟨false, v, rfl, he, by simp [hc], by unfold learnL; rw [if_neg hc]; exact h.below hb, .of_below hb⟩
def RaiseT (g b : Nat) (L : List Ep) (u : ByteArray) (w : World) (e : Ending) (w' : World) : Prop :=
  ∃ n v, e = .returned (.tuple #[.int .i64 n, v]) ∧ EO w' v (canC L u (getL L u + 1)) ∧ n = (if canC L u (getL L u + 1) = 0 then getL L u + 1 else 0) ∧ Tab w' g b (raiseL L u) ∧ Keeps (fun i => w.heap.size ≤ i ∨ i = b) w w'
theorem raise_all (g b : Nat) (L : List Ep) (u : ByteArray) (w : World) (h : Tab w g b L) (hG : GoodL L) (hu : u.size ≤ maxLen) :
    Calls Try.prog 16 #[.pointer (some ⟨g, 0, none⟩), .string u] w (RaiseT g b L u w) := by
  by_cases hc : canC L u (getL L u + 1) = 0
  · refine (raise_yes g b L u w h hG hu hc).mono ?_
    rintro e w' ⟨rfl, hT, hk⟩
    exact ⟨_, .nilIface, rfl, by rw [hc]; exact .nil _, by rw [if_pos hc], by unfold raiseL; rw [if_pos hc]; exact hT, hk⟩
  · refine (raise_no g b L u w h hG hu hc).mono ?_
    rintro e w' ⟨v, rfl, he, _, hb⟩
    exact ⟨0, v, rfl, he, by rw [if_neg hc], by unfold raiseL; rw [if_neg hc]; exact h.below hb, .of_below hb⟩
/-- A table of the call's own: its blocks from base on, what it says users, short. -/
structure Own (w : World) (base g b : Nat) (L : List Ep) : Prop where
  tab : Tab w g b L
  good : GoodL L
  hg : base ≤ g
  hb : base ≤ b
theorem Own.below {w w' : World} {base g b : Nat} {L : List Ep} (h : Own w base g b L) (hb : Below w.heap.size w w') : Own w' base g b L := ⟨h.tab.below hb, h.good, h.hg, h.hb⟩
theorem Tab.ne {w : World} {g b : Nat} {L : List Ep} (h : Tab w g b L) : g ≠ b := fun e => by
  subst e
  obtain ⟨es, clock, hb', _⟩ := h.2.1
  have := h.1
  unfold Blk at this
  rw [hb'] at this; cases this
theorem user_small {L : List Ep} (h : GoodL L) : ∀ e ∈ L, e.u.size ≤ 1000000 := fun e he => by have := of_decide_eq_true (h.2.2 e he); omega
theorem own_keep {X : Nat → Prop} {w w' : World} {base : Nat} {e : TypeId} {size n : Nat} {v : Value} {xs : List Value} (h : w.ownsRow base e size v n xs) (hk : Keeps X w w') (hx : ∀ g, base ≤ g → g < w.heap.size → ¬ X g) : w'.ownsRow base e size v n xs :=
  ⟨h.1, h.2.imp id fun ⟨g, cap, cur, e, h1, h2, r⟩ => ⟨g, cap, cur, e, h1, (hk.block g (heap_lt h2) (hx g h1 (heap_lt h2))).trans h2, r⟩⟩
theorem eps_own {w : World} {base n c : Nat} {A : Option Addr} {L : List Ep} (h : w.ownsRow base 38 2 (.slice A n c) n (L.flatMap ep)) : Eps w w.heap.size A n c L := by
  obtain ⟨_, _, e', hE⟩ := Eps.of_own h
  injection e' with e1 _ e2
  subst e1 e2
  exact hE
theorem eo_none {w : World} {v : Value} (h : EO w v 0) : v = .nilIface := by
  rcases h with ⟨_, h⟩ | ⟨h, _⟩
  · exact h
  · exact absurd rfl h
end Go.Proofs.Ytojmnkcncjconaa.all_
