/- How many messages a net has. -/
import Derived.Test.YtempojdgbgaanaaState
import Derived.Test.YtempojdgbgaanaaRange
import Derived.LoopTactic
import Derived.LoopN
namespace Go.Proofs.Ytempojdgbgaanaa.all_
open Go.RowKit Go.Proofs.Ytempojdgbgaanaa.base Go.Proofs.Ytempojdgbgaanaa.map_ Go.Proofs.Ytempojdgbgaanaa.range_ Go.Proofs.Ytempojdgbgaanaa.err Go.Proofs.Ytempojdgbgaanaa.net Go.Proofs.Ytempojdgbgaanaa.state Go.Maps

/-- The lengths of the bags of these ways, together. -/
def sumB (F : W2 → List ByteArray) (l : List W2) : Nat := (l.map fun x => (F x).length).sum
def sumV (F : W2 → List ByteArray) (l : List (W2 × Value)) : Nat := sumB F (l.map (·.1))
theorem sumV_split (F : W2 → List ByteArray) (l1 l2 : List (W2 × Value)) (p : W2 × Value) : sumV F (l1 ++ p :: l2) = sumV F (l1 ++ l2) + (F p.1).length := by
  simp [sumV, sumB]; omega
theorem sumB_le (F : W2 → List ByteArray) (h : ∀ x, (F x).length ≤ 64) (l : List W2) : sumB F l ≤ l.length * 64 := by
  induction l with
  | nil => simp [sumB]
  | cons x l ih => have := h x; simp [sumB] at ih ⊢; omega
def AllR (F : W2 → List ByteArray) (w : World) (e : Ending) (w' : World) : Prop :=
  (∃ l : List W2, l.Nodup ∧ (∀ x, x ∉ l → F x = []) ∧ e = .returned (.int .i64 (sumB F l))) ∧ Below w.heap.size w w'
set_option maxRecDepth 100000 in
theorem all_any (S : Nat → Prop) (g bb cb k : Nat) (n : Int) (F : W2 → List ByteArray) (C : W2 → Bool) (w : World) (h : NetS w S g bb cb k n F C) (hk : k ≤ 100000) (hF : ∀ x, (F x).length ≤ 64) :
    Calls Try.prog 17 #[.pointer (some ⟨g, 0, none⟩)] w (AllR F w) := by
  obtain ⟨m, h1, h2, h3, h4, h5⟩ := h.bags
  obtain ⟨o, hrg, hit⟩ := h1.range (T := 51) Try.underlying51
  have q0 : w.cell? ⟨g, 1, none⟩ = _ := h.net.cell 1
  simp at q0
  have hR : AllR F w (.returned (.int .i64 (sumV F m))) w := ⟨⟨m.map (·.1), by have := h1.apart; exact this, fun x hx => h4 x (get_none.2 fun p hp he => hx (List.mem_map.2 ⟨p, hp, he⟩)), rfl⟩, Below.refl _ _⟩
  have hle : sumV F m ≤ 6400000 := by
    refine Nat.le_trans (sumB_le F hF (m.map (·.1))) ?_
    rw [List.length_map]
    omega
  have hsh : ∀ p ∈ m, ∃ A c, p.2 = .slice A (F p.1).length c := fun p hp => ownsRow_slice (h2 p hp).1
  have hbw : Below w.heap.size w (w.alloc o) := below_new _ _
  have HR := Lib.hid hR
  have Hit := Lib.hid hit
  have Hsh := Lib.hid hsh
  have Hle := Lib.hid hle
  have Hbw := Lib.hid hbw
  have HF := Lib.hid hF
  generalize hr : w.heap.size = r at *
  generalize w.alloc o = w1 at *
  clear h1 h2 h3 h4 h hR hit hsh hle hbw hF
  go_enter Try.func17, Try.ntmps17
  go_wp2
  go_loopw [3] (fun s wr => ∃ left, IterM wayE wr r bb m left ∧ sumV F left ≤ sumV F m ∧ Below r w wr ∧ s = .int .i64 ((sumV F m - sumV F left : Nat) : Int)) (fun _ wr => leftN wr r bb)
  case atStart => exact ⟨m, Hit.out, Nat.le_refl _, Hbw.out, by simp⟩
  case round =>
    obtain ⟨left, i1, i2, i3, rfl⟩ := hrel
    rcases i1.next 0 with ⟨rfl, hrun⟩ | ⟨l1, p, l2, w3, rfl, hrun, i4, hen, hk3⟩
    · have I3 := Lib.hid i3
      clear i1 i3 i2
      go_wp2
      go_ret
      exact ⟨by simpa [sumV, sumB] using HR.out.1, by rw [hr]; exact I3.out⟩
    · obtain ⟨A, c, hp⟩ := Hsh.out p (by obtain ⟨_, _, _, _, _, _, _, _, _, _, _, _, _, hs⟩ := i1; exact hs p (by simp))
      rw [hp] at hrun hen
      have e1 := sumV_split F l1 l2 p
      have e2 := HF.out p.1
      have I4 := Lib.hid i4
      have I3 := Lib.hid i3
      have I1 := Lib.hid i1
      have Hk3 := Lib.hid hk3
      have hle := Hle.out
      clear i1 i3 i4 hk3
      go_wp2
      go_roundw
      case rel =>
        refine ⟨l1 ++ l2, I4.out, by omega, ?_, ?_⟩
        · exact below_keeps I3.out (by have := I3.out.size; omega) Hk3.out (fun i hi hx => by omega)
        · simp only [Value.int.injEq, true_and]
          omega
      case measure =>
        rw [I4.out.size, I1.out.size, List.length_append, List.length_append, List.length_cons]
        omega
end Go.Proofs.Ytempojdgbgaanaa.all_
