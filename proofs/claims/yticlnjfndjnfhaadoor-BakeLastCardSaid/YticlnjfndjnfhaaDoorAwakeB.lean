/- The laws' own awake. -/
import Derived.Test.YticlnjfndjnfhaaDoorLawP
namespace Go.Proofs.YticlnjfndjnfhaaDoor.bake
open Go Go.RowKit Go.Proofs.YticlnjfndjnfhaaDoor.base Go.Proofs.YticlnjfndjnfhaaDoor.dec Go.Proofs.YticlnjfndjnfhaaDoor.err Go.Proofs.YticlnjfndjnfhaaDoor.rowe
open Go.Lib (decDigits)

theorem aw_right : rightB ⟨#[97]⟩ ⟨#[49]⟩ ⟨#[47]⟩ 60 true 0 = true := by decide +kernel
theorem aw_head : mkB (headL ⟨#[97]⟩ ⟨#[49]⟩ ⟨#[47]⟩ 60 true false 0) = ⟨#[97, 61, 49, 59, 32, 80, 97, 116, 104, 61, 47, 59, 32, 77, 97, 120, 45, 65, 103, 101, 61, 54, 48, 59, 32, 83, 101, 99, 117, 114, 101]⟩ := by
  have h : decDigits (60 : Int).toNat = [54, 48] := by
    rw [show (60 : Int).toNat = 60 from rfl, dec_big (by decide), dec_small (by decide)]; rfl
  unfold headL pA
  rw [if_pos (by decide), h]
  rfl
theorem aw_parse : parse ⟨#[97, 32, 61, 32, 49, 32, 59, 109, 97, 120, 45, 65, 71, 69, 61, 45, 53]⟩ = some ⟨⟨#[97]⟩, ⟨#[49]⟩, ⟨#[]⟩, 0, false, false, 0⟩ := by rfl
set_option maxRecDepth 10000 in
set_option maxHeartbeats 1600000 in
theorem awake_any (w : World) (ht : Tabs w) : Calls Tryd.prog 6 #[] w fun e w' => e = .returned (.bool true) ∧ Below w.heap.size w w' := by
  have HT := Lib.hid ht
  clear ht
  go_enter Tryd.func6, Tryd.ntmps6
  go_wp2_with fail
  refine (write_any ⟨#[97]⟩ ⟨#[49]⟩ ⟨#[47]⟩ 60 true false 0 w (by decide) (by decide) (by decide) HT.out).mono ?_
  rintro e w1 h1
  obtain ⟨rfl, hb1⟩ : e = .returned (.tuple #[.string ⟨#[97, 61, 49, 59, 32, 80, 97, 116, 104, 61, 47, 59, 32, 77, 97, 120, 45, 65, 103, 101, 61, 54, 48, 59, 32, 83, 101, 99, 117, 114, 101]⟩, .nilIface]) ∧ Below w.heap.size w w1 := by
    rcases h1 with ⟨_, h, h2⟩ | ⟨h, _⟩
    · rw [aw_head] at h
      exact ⟨h, h2⟩
    · rw [aw_right] at h; cases h
  clear h1
  have HT1 := Lib.hid (HT.out.below hb1)
  have HB1 := Lib.hid hb1
  clear hb1
  go_wp2_with fail
  refine (parse_any ⟨#[97, 32, 61, 32, 49, 32, 59, 109, 97, 120, 45, 65, 71, 69, 61, 45, 53]⟩ w1 (by decide) HT1.out.m).mono ?_
  rintro e w2 h2
  rw [aw_parse] at h2
  obtain ⟨rfl, hb2⟩ := h2
  unfold Ck.val Ck.cells
  have HB2 := Lib.hid (HB1.out.trans (hb2.mono HB1.out.size))
  clear hb2
  go_wp2_with fail
  go_ret
  exact ⟨rfl, HB2.out.alloc HB2.out.size _⟩
end Go.Proofs.YticlnjfndjnfhaaDoor.bake
