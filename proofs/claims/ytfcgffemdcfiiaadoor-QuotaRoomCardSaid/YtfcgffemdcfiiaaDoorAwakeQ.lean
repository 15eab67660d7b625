/- The law's own awake. -/
import Derived.Test.YtfcgffemdcfiiaaDoorParseQ
namespace Go.Proofs.YtfcgffemdcfiiaaDoor.quota
open Go Go.RowKit Go.Proofs.YtfcgffemdcfiiaaDoor.base Go.Proofs.YtfcgffemdcfiiaaDoor.dec Go.Proofs.YtfcgffemdcfiiaaDoor.err
open Go.Lib (decDigits)

theorem nm_2_10 : nm 2 10 = [50, 45, 49, 48] := by
  unfold nm
  rw [dec_small (u := 2) (by decide), dec_big (u := 10) (by decide), dec_small (u := 10 / 10) (by decide)]
  rfl
theorem no_02 (a b : Nat) (h : OkN a b) : ([48, 50, 45, 49] : List UInt8) ≠ nm a b := fun e => by
  have h1 := dec_hd a h.1
  rw [nm_eq] at e
  have h2 := congrArg List.head? e
  rw [head_app (dec_ne a)] at h2
  exact h1 h2.symm
set_option maxHeartbeats 1600000 in
theorem awake_any (w : World) (ht : Tabs w) : Calls Tryd.prog 7 #[] w fun e w' => e = .returned (.bool true) ∧ Below w.heap.size w w' := by
  have HT := Lib.hid ht
  clear ht
  go_enter Tryd.func7, Tryd.ntmps7
  go_wp2_with fail
  refine (name_any 2 10 w HT.out).mono ?_
  rintro e w1 h1
  obtain ⟨rfl, hb1⟩ : e = .returned (.tuple #[.string ⟨#[50, 45, 49, 48]⟩, .nilIface]) ∧ Below w.heap.size w w1 := by
    rcases h1 with ⟨a, b, ha, hb, _, h, h2⟩ | ⟨h, _⟩
    · obtain rfl : a = 2 := by omega
      obtain rfl : b = 10 := by omega
      rw [nm_2_10] at h
      exact ⟨h, h2⟩
    · unfold BadN at h; omega
  clear h1
  have HT1 := Lib.hid (HT.out.below hb1)
  go_wp2_with fail
  refine (parse_any ⟨#[50, 45, 49, 48]⟩ w1 (by decide) HT1.out).mono ?_
  rintro e w2 h2
  obtain ⟨rfl, hb2⟩ : e = .returned (.tuple #[.int .i64 2, .int .i64 10, .nilIface]) ∧ Below w1.heap.size w1 w2 := by
    rcases h2 with ⟨a, b, hok, h3, h, h4⟩ | ⟨h, _⟩
    · have h5 : nm 2 10 = nm a b := by rw [nm_2_10]; exact h3
      obtain ⟨rfl, rfl⟩ := nm_inj h5
      exact ⟨h, h4⟩
    · exact absurd nm_2_10.symm (h 2 10 (by unfold OkN; omega))
  clear h2
  have HT2 := Lib.hid (HT1.out.below hb2)
  go_wp2_with fail
  refine (parse_any ⟨#[48, 50, 45, 49]⟩ w2 (by decide) HT2.out).mono ?_
  rintro e w3 h3
  obtain ⟨g, rfl, hb3⟩ : ∃ g, e = .returned (.tuple #[.int .i64 0, .int .i64 0, .iface 99 (.pointer (some ⟨g, 0, none⟩))]) ∧ Below w2.heap.size w2 w3 := by
    rcases h3 with ⟨a, b, hok, h3, _⟩ | ⟨_, v, h, h1, _, h4⟩
    · exact absurd h3 (no_02 a b hok)
    · obtain ⟨g, rfl⟩ := h1.form
      exact ⟨g, h, h4⟩
  clear h3
  go_wp2_with fail
  go_ret
  exact ⟨rfl, hb1.trans ((hb2.trans (hb3.mono hb2.size)).mono hb1.size)⟩
end Go.Proofs.YtfcgffemdcfiiaaDoor.quota
