/- The smallest success of the laws of package epoch. -/
import Derived.Test.YtojmnkcncjconaaNew
namespace Go.Proofs.Ytojmnkcncjconaa.awake
open Go.RowKit Go.Proofs.Ytojmnkcncjconaa.base Go.Proofs.Ytojmnkcncjconaa.list Go.Proofs.Ytojmnkcncjconaa.err Go.Proofs.Ytojmnkcncjconaa.tab Go.Proofs.Ytojmnkcncjconaa.new

def ann : ByteArray := ⟨#[97, 110, 110]⟩
theorem good_nil : GoodL [] := ⟨trivial, by simp, by simp⟩
set_option maxHeartbeats 800000 in
theorem awake_any (w : World) : Calls Try.prog 8 #[] w fun e w' => e = .returned (.bool true) ∧ Below w.heap.size w w' := by
  have h1 : Eps w w.heap.size none 0 0 [] := ⟨rfl, Nat.le_refl _, Nat.zero_le _, Reads.none_⟩
  have hsz : ann.size ≤ maxLen := by decide
  have g0 : getL [] ann + 1 = 1 := rfl
  have c0 : canC [] ann (getL [] ann + 1) = 0 := by decide +kernel
  have p0 : putL [] ann 1 = [⟨ann, 1⟩] := rfl
  have G1 := (good_put (u := ann) (n := getL [] ann + 1) good_nil c0).1
  rw [g0, p0] at G1
  have g1' : getL [⟨ann, 1⟩] ann = 1 := by decide +kernel
  have c1 : canC [⟨ann, 1⟩] ann (getL [⟨ann, 1⟩] ann + 1) = 0 := by decide +kernel
  have p1 : putL [⟨ann, 1⟩] ann 2 = [⟨ann, 2⟩] := by simp [putL, bl_irr, eqb_self]
  have G2 := (good_put (u := ann) (n := getL [⟨ann, 1⟩] ann + 1) G1 c1).1
  rw [g1'] at G2
  rw [show (1 : Int) + 1 = 2 by rfl, p1] at G2
  have c2 : canC [⟨ann, 2⟩] ann 1 = 0 := by decide +kernel
  have g2' : getL [⟨ann, 2⟩] ann = 2 := by decide +kernel
  have Q1 := Lib.hid G1
  have Q2 := Lib.hid G2
  clear G1 G2
  have H1 := Lib.hid h1
  have Hsz := Lib.hid hsz
  have G0 := Lib.hid g0
  have C0 := Lib.hid c0
  have P0 := Lib.hid p0
  have G1' := Lib.hid g1'
  have C1 := Lib.hid c1
  have P1 := Lib.hid p1
  have C2 := Lib.hid c2
  have G2' := Lib.hid g2'
  clear h1 hsz g0 c0 p0 g1' c1 p1 c2 g2'
  go_enter Try.func8, Try.ntmps8
  go_wp2_with fail
  refine (new_any none 0 0 [] _ H1.out (by omega) (by simp)).mono ?_
  rintro e w1 (⟨_, g, b, rfl, hg, hb, hT, hbw⟩ | ⟨hn, _⟩)
  case inr => exact absurd good_nil hn
  have hr := raise_yes g b [] ann w1 hT good_nil Hsz.out C0.out
  rw [G0.out, P0.out] at hr
  have Hbw := Lib.hid hbw
  clear hbw
  clear hT
  go_wp2_with fail
  refine (hr).mono ?_
  rintro e w2 ⟨rfl, hT2, hk2⟩
  have hb2 := below_kept Hbw.out hk2 (fun i hi => by have := Hbw.out.size; omega)
  have hr := raise_yes g b _ ann w2 hT2 Q1.out Hsz.out C1.out
  rw [G1'.out, show (1 : Int) + 1 = 2 by rfl, P1.out] at hr
  have Hb2 := Lib.hid hb2
  clear hb2
  clear hT2 hk2
  go_wp2_with fail
  refine (hr).mono ?_
  rintro e w3 ⟨rfl, hT3, hk3⟩
  have hb3 := below_kept Hb2.out hk3 (fun i hi => by have := Hb2.out.size; omega)
  have Hb3 := Lib.hid hb3
  have HT3 := Lib.hid hT3
  clear hb3 hT3
  clear hk3 hr
  go_wp2_with fail
  refine (learn_old g b _ ann 1 _ HT3.out Q2.out Hsz.out C2.out (by rw [G2'.out]; decide)).mono ?_
  rintro e w4 ⟨v, rfl, he, hb4⟩
  obtain ⟨_, rfl⟩ | ⟨h, _⟩ := he
  case inr => exact absurd rfl h
  have hT4 := HT3.out.below hb4
  have hb5 := below_step Hb3.out hb4
  have hr := get_any g b _ ann _ hT4 Hsz.out
  rw [G2'.out] at hr
  have Hb5 := Lib.hid hb5
  clear hb5
  clear hb4 hT4
  go_wp2_with fail
  refine (hr).mono ?_
  rintro e w5 ⟨rfl, rfl⟩
  clear hr
  go_wp2
  go_ret
  exact ⟨rfl, Hb5.out⟩
end Go.Proofs.Ytojmnkcncjconaa.awake
