/- The document's example. -/
import Derived.Test.YtempojdgbgaanaaCut
namespace Go.Proofs.Ytempojdgbgaanaa.awake
open Go.RowKit Go.Proofs.Ytempojdgbgaanaa.base Go.Proofs.Ytempojdgbgaanaa.map_ Go.Proofs.Ytempojdgbgaanaa.err Go.Proofs.Ytempojdgbgaanaa.net Go.Proofs.Ytempojdgbgaanaa.state Go.Proofs.Ytempojdgbgaanaa.send Go.Proofs.Ytempojdgbgaanaa.at_ Go.Proofs.Ytempojdgbgaanaa.take Go.Proofs.Ytempojdgbgaanaa.cut Go.Maps

def aTxt : ByteArray := ⟨#[97]⟩
def F0 : W2 → List ByteArray := fun _ => []
def C0 : W2 → Bool := fun _ => false
def F1 : W2 → List ByteArray := upd F0 (1, 2) [aTxt]
def C1 : W2 → Bool := cutC 2 1 2 C0
def C2 : W2 → Bool := joinC 2 2 1 C1
theorem ok12 : okW (1, 2) := ⟨by decide, by decide⟩
theorem ok21 : okW (2, 1) := ⟨by decide, by decide⟩
theorem b1 : sendB 2 F0 C0 (1, 2) = true := by decide +kernel
theorem b2 : takeB 2 F1 C1 (1, 2) = false := by decide +kernel
theorem b3 : takeB 2 F1 C2 (1, 2) = true := by decide +kernel
theorem b4 : msg F1 (1, 2) 0 = aTxt := by decide +kernel
theorem awake_yes (w : World) : Calls Try.prog 7 #[] w fun e w' => e = .returned (.bool true) ∧ Below w.heap.size w w' := by
  go_enter Try.func7, Try.ntmps7
  go_wp2_with fail
  refine (new_yes 2 w (by omega) (by omega)).mono ?_
  rintro e w1 ⟨g, bb, cb, rfl, h1, g1, g2, g3, hB1⟩
  have H1 := Lib.hid h1
  have HB1 := Lib.hid hB1
  clear h1 hB1
  go_wp2_with fail
  refine (send_any _ g bb cb 0 2 1 2 F0 C0 aTxt _ H1.out ok12 (by omega)).mono ?_
  rintro e w2 ⟨S2, rfl, s2, h2, k2⟩
  rw [b1] at h2 ⊢
  rw [if_pos rfl] at h2
  have H2 := Lib.hid h2
  have K2 := Lib.hid k2
  have hS2 : ∀ i, S2 i → w.heap.size ≤ i := fun i hi => by
    have := HB1.out.size
    rcases s2 i hi with h | h
    · exact h.elim
    · omega
  have HS2 := Lib.hid hS2
  clear h2 k2 hS2 s2
  go_wp2_with fail
  refine (cut_any _ g bb cb 1 2 1 2 F1 C0 _ H2.out ok12 ok21 (by omega)).mono ?_
  rintro e w3 ⟨rfl, h3, k3⟩
  have H3 := Lib.hid h3
  have K3 := Lib.hid k3
  clear h3 k3
  go_wp2_with fail
  refine (take_any _ g bb cb 3 2 1 2 0 F1 C1 _ H3.out ok12 (by decide +kernel)).mono ?_
  rintro e w4 ⟨S4, rfl, s4, h4, k4⟩
  rw [b2] at h4 ⊢
  rw [if_neg (by decide)] at h4 ⊢
  have H4 := Lib.hid h4
  have K4 := Lib.hid k4
  have hz : ∀ i, S4 i → w.heap.size ≤ i := fun i hi => by
    have z1 := HB1.out.size
    have z2 := K2.out.size
    have z3 := K3.out.size
    rcases s4 i hi with h | h
    · exact HS2.out i h
    · omega
  have HS4 := Lib.hid hz
  clear h4 k4 s4 hz
  go_wp2_with fail
  refine (join_any _ g bb cb 4 2 2 1 F1 C1 _ H4.out ok21 ok12).mono ?_
  rintro e w5 ⟨rfl, h5, k5⟩
  have H5 := Lib.hid h5
  have K5 := Lib.hid k5
  clear h5 k5
  go_wp2_with fail
  refine (take_any _ g bb cb 4 2 1 2 0 F1 C2 _ H5.out ok12 (by decide +kernel)).mono ?_
  rintro e w6 ⟨S6, rfl, s6, h6, k6⟩
  rw [b3, if_pos rfl, b4]
  have hfin : Below w.heap.size w w6 := by
    have z1 := below_kept HB1.out K2.out (fun i hi => hi.elim (fun h => h.elim) (fun h => by omega))
    have z2 := below_kept z1 K3.out (fun i hi => by have : i = cb := hi; omega)
    have z3 := below_kept z2 K4.out (fun i hi => hi.elim (fun h => HS2.out i h) (fun h => by omega))
    have z4 := below_kept z3 K5.out (fun i hi => by have : i = cb := hi; omega)
    exact below_kept z4 k6 (fun i hi => hi.elim (fun h => HS4.out i h) (fun h => by omega))
  have Hfin := Lib.hid hfin
  clear h6 k6 s6 hfin
  unfold aTxt
  go_wp2
  go_ret
  exact ⟨rfl, Hfin.out⟩
end Go.Proofs.Ytempojdgbgaanaa.awake
