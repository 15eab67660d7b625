/- What the document's net answers: is a way cut, how many, where. -/
import Derived.Test.YtempojdgbgaanaaRefNet
namespace Go.Proofs.Ytempojdgbgaanaa.refat
open Go.RowKit Go.Proofs.Ytempojdgbgaanaa.base Go.Proofs.Ytempojdgbgaanaa.net Go.Proofs.Ytempojdgbgaanaa.state Go.Proofs.Ytempojdgbgaanaa.at_ Go.Proofs.Ytempojdgbgaanaa.keepo Go.Proofs.Ytempojdgbgaanaa.refnet

section
variable {a b p q : Int}
theorem hit_t1 (d1 : (p == a) = true) (d2 : (q == b) = true) : hit (a, b) (p, q) = true := by simp [hit, beq_iff_eq.1 d1, beq_iff_eq.1 d2]
theorem hit_t2 (d3 : (p == b) = true) (d4 : (q == a) = true) : hit (a, b) (p, q) = true := by simp [hit, beq_iff_eq.1 d3, beq_iff_eq.1 d4]
theorem hit_f (d2 : (q == b) = false) (d4 : (q == a) = false) : hit (a, b) (p, q) = false := by simp at d2 d4; simp [hit, d2, d4]
theorem hit_f2 (d2 : (q == b) = false) (d3 : (p == b) = false) : hit (a, b) (p, q) = false := by simp at d2 d3; simp [hit, d2, d3]
theorem hit_f3 (d1 : (p == a) = false) (d4 : (q == a) = false) : hit (a, b) (p, q) = false := by simp at d1 d4; simp [hit, d1, d4]
theorem hit_f4 (d1 : (p == a) = false) (d3 : (p == b) = false) : hit (a, b) (p, q) = false := by simp at d1 d3; simp [hit, d1, d3]
end
theorem miss_step {Ws : List W2} {x v : W2} {k : Nat} (hk : Ws[k]? = some v) (h : ∀ u ∈ Ws.take k, hit x u = false) (hv : hit x v = false) : ∀ u ∈ Ws.take (k + 1), hit x u = false := by
  intro u hu
  rw [List.take_add_one, hk] at hu
  rcases List.mem_append.1 hu with hu | hu
  · exact h u hu
  · simp at hu; subst hu; exact hv
theorem hit_some {Ws : List W2} {x v : W2} {k : Nat} (hk : Ws[k]? = some v) (hv : hit x v = true) : isC Ws x = true := by
  unfold isC
  exact List.any_eq_true.2 ⟨v, List.mem_of_getElem? hk, hv⟩
theorem miss_all {Ws : List W2} {x : W2} (h : ∀ u ∈ Ws, hit x u = false) : isC Ws x = false := by
  unfold isC
  exact List.any_eq_false.2 (fun u hu => by rw [h u hu]; simp)
set_option maxRecDepth 100000 in
set_option maxHeartbeats 1600000 in
theorem is_ref (B g : Nat) (n a b : Int) (A1 A2 : Option Addr) (c1 c2 : Nat) (L : List M) (Ws : List W2) (w : World) (h : RefT w B g n A1 c1 A2 c2 L Ws) (hl : Ws.length ≤ 100000) :
    Calls Try.prog 33 #[.pointer (some ⟨g, 0, none⟩), .int .i64 a, .int .i64 b] w fun e w' => e = .returned (.bool (isC Ws (a, b))) ∧ Below w.heap.size w w' := by
  have H := Lib.hid h
  clear h
  go_enter Try.func33, Try.ntmps33
  go_wp2
  go_loopw [7, 8] (fun i _ wr => ∃ k : Nat, k ≤ Ws.length ∧ i = .int .i64 k ∧ (∀ u ∈ Ws.take k, hit (a, b) u = false) ∧ Below w.heap.size w wr) (fun i _ _ => Ws.length - (intOf i).toNat)
  case atStart => exact ⟨0, by omega, rfl, by simp, Below.refl _ _⟩
  case round =>
    obtain ⟨k, hk, rfl, hm, hb⟩ := hrel
    have hR := H.out.below hb
    have q2 : wr.cell? ⟨g, 2, none⟩ = some (.slice A2 Ws.length c2) := hR.blk.cell 2
    have q3 := hR.blk.lt
    have hlk : decide ((k : Int) < (Ws.length : Int)) = decide (k < Ws.length) := decide_eq_decide.2 (by omega)
    by_cases hlt : k < Ws.length
    · have hrow := hR.row2
      obtain ⟨sb, so, rfl, hsb⟩ := hrow.at_some (by omega)
      obtain ⟨v, hv⟩ : ∃ v, Ws[k]? = some v := ⟨Ws[k], List.getElem?_eq_getElem hlt⟩
      have g0 := hrow.thing wc wc_len hlt hv 0 (by omega)
      have g1 := hrow.thing wc wc_len hlt hv 1 (by omega)
      have hmiss := fun h => miss_step (x := (a, b)) hv hm h
      have hhit := fun h => hit_some (x := (a, b)) hv h
      obtain ⟨p, q⟩ := v
      simp [wc] at g0 g1
      have hb2 := below_alloc hb (.cells #[.int .i64 p, .int .i64 q] 69)
      have Hb2 := Lib.hid hb2
      have Hmiss := Lib.hid hmiss
      have Hhit := Lib.hid hhit
      clear hb hb2 hR hrow hm hmiss hhit hv
      cases d1 : (p == a)
      · cases d3 : (p == b)
        · skip
          have hh := Hmiss.out (hit_f4 d1 d3)
          have Hh := Lib.hid hh
          clear hh
          go_wp2
          go_roundw
          case rel => exact ⟨k + 1, by omega, by go_num, Hh.out, Hb2.out⟩
          case measure => simp [intOf]; omega
        · cases d4 : (q == a)
          · skip
            have hh := Hmiss.out (hit_f3 d1 d4)
            have Hh := Lib.hid hh
            clear hh
            go_wp2
            go_roundw
            case rel => exact ⟨k + 1, by omega, by go_num, Hh.out, Hb2.out⟩
            case measure => simp [intOf]; omega
          · skip
            have hh : isC Ws (a, b) = true := Hhit.out (hit_t2 d3 d4)
            have Hh := Lib.hid hh
            clear hh
            go_wp2
            go_ret
            exact ⟨by rw [Hh.out]; rfl, Hb2.out⟩
      · cases d2 : (q == b)
        · cases d3 : (p == b)
          · skip
            have hh := Hmiss.out (hit_f2 d2 d3)
            have Hh := Lib.hid hh
            clear hh
            go_wp2
            go_roundw
            case rel => exact ⟨k + 1, by omega, by go_num, Hh.out, Hb2.out⟩
            case measure => simp [intOf]; omega
          · cases d4 : (q == a)
            · skip
              have hh := Hmiss.out (hit_f d2 d4)
              have Hh := Lib.hid hh
              clear hh
              go_wp2
              go_roundw
              case rel => exact ⟨k + 1, by omega, by go_num, Hh.out, Hb2.out⟩
              case measure => simp [intOf]; omega
            · skip
              have hh : isC Ws (a, b) = true := Hhit.out (hit_t2 d3 d4)
              have Hh := Lib.hid hh
              clear hh
              go_wp2
              go_ret
              exact ⟨by rw [Hh.out]; rfl, Hb2.out⟩
        · skip
          have hh : isC Ws (a, b) = true := Hhit.out (hit_t1 d1 d2)
          have Hh := Lib.hid hh
          clear hh
          go_wp2
          go_ret
          exact ⟨by rw [Hh.out]; rfl, Hb2.out⟩
    · have hf : isC Ws (a, b) = false := miss_all (by rw [List.take_of_length_le (by omega)] at hm; exact hm)
      have Hb := Lib.hid hb
      have Hf := Lib.hid hf
      clear hb hR hm hf
      go_wp2
      go_ret
      exact ⟨by rw [Hf.out]; rfl, Hb.out⟩
end Go.Proofs.Ytempojdgbgaanaa.refat
