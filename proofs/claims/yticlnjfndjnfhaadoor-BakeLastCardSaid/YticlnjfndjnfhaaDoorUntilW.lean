/- A text up to a byte's first place, and behind it; what stands ahead of the first equals sign, and behind it. -/
import Derived.Test.YticlnjfndjnfhaaDoorUntilP
import Derived.OwnWalk
namespace Go.Proofs.YticlnjfndjnfhaaDoor.bake
open Go Go.RowKit Go.Proofs.YticlnjfndjnfhaaDoor.base Go.Proofs.YticlnjfndjnfhaaDoor.dec

def mkB (l : List UInt8) : ByteArray := ⟨l.toArray⟩
theorem mkB_data (l : List UInt8) : (mkB l).data.toList = l := by simp [mkB]
theorem mkB_size (l : List UInt8) : (mkB l).size = l.length := by simp [mkB, ByteArray.size]
theorem mkB_of (s : ByteArray) : mkB s.data.toList = s := bytes_eq (mkB_data _)
theorem until_len (c : UInt8) (l : List UInt8) : (untilL c l).1.length ≤ l.length ∧ (untilL c l).2.1.length ≤ l.length := by
  rcases until_cases c l with ⟨a, b, rfl, h2, h3⟩ | ⟨h2, h3⟩
  · rw [h3]; simp; omega
  · rw [h3]; simp
theorem until_at {c : UInt8} {s : ByteArray} {k : Nat} (hk : k < s.size) (h : ∀ x ∈ s.data.toList.take k, x ≠ c) (hc : s[k] = c) : untilL c s.data.toList = ((s.extract 0 k).data.toList, (s.extract (k + 1) s.size).data.toList, true) := by
  have h2 : k < s.data.toList.length := hk
  have he : s.data.toList = s.data.toList.take k ++ c :: s.data.toList.drop (k + 1) := by
    rw [← hc]
    conv => lhs; rw [← List.take_append_drop k s.data.toList, List.drop_eq_getElem_cons h2]
    rfl
  rw [ext_toList, ext_toList, List.drop_zero]
  rw [show s.size = s.data.toList.length from rfl, List.take_length]
  conv => lhs; rw [he]
  exact until_hit _ _ h
theorem take_free {c : UInt8} {s : ByteArray} {k : Nat} (hk : k < s.size) (h : ∀ x ∈ s.data.toList.take k, x ≠ c) (hc : s[k] ≠ c) : ∀ x ∈ s.data.toList.take (k + 1), x ≠ c := by
  have h2 : k < s.data.toList.length := hk
  rw [List.take_succ_eq_append_getElem h2]
  intro x hx
  rcases List.mem_append.mp hx with hx | hx
  · exact h x hx
  · rw [List.mem_singleton] at hx; subst hx; exact hc
set_option maxHeartbeats 3200000 in
theorem until_ref (s : ByteArray) (c : UInt8) (w : World) (hs : s.size ≤ 1000000) : Calls Tryd.prog 30 #[.string s, .int .u8 c.toNat] w fun e w' => e = .returned (.tuple #[.string (mkB (untilL c s.data.toList).1), .string (mkB (untilL c s.data.toList).2.1), .bool (untilL c s.data.toList).2.2]) ∧ ∃ n, w' = w.drewN n := by
  have hc256 : c.toNat < 256 := c.toNat_lt
  go_enter Tryd.func30, Tryd.ntmps30
  go_wp2
  go_loop [7] (fun v => ∃ k : Nat, k ≤ s.size ∧ v = .int .i64 k ∧ ∀ x ∈ s.data.toList.take k, x ≠ c) (fun v => s.size - (intOf v).toNat)
  case atStart => exact ⟨0, by omega, rfl, by simp⟩
  case round =>
    obtain ⟨k, hk, rfl, hf⟩ := hrel
    by_cases h0 : k < s.size
    · have h256 : s[k].toNat < 256 := s[k].toNat_lt
      by_cases hc : s[k] = c
      · have HU := Lib.hid (until_at h0 hf hc)
        have e1 : ((s[k].toNat : Int) == (c.toNat : Int)) = true := by rw [hc]; simp
        clear hf
        have c1 : 0 ≤ (k : Int) ∧ (k : Int) ≤ (s.size : Int) := by omega
        have c2 : 0 ≤ (k : Int) + 1 ∧ (k : Int) + 1 ≤ (s.size : Int) := by omega
        go_wp2_with fail
        have hwk : IntKind.i64.wrap ((k : Int) + 1) = (k : Int) + 1 := by rw [IntKind.wrap_i64]; omega
        refine wp_region_mono nobody (by kernel_rfl) ?_
        -- 0 Op.move (Operand.tmp 0)
        refine wpMono_take' 0 (v := ?_) rfl (by kernel_rfl) (by kernel_rfl) (by kernel_rfl) (fun _ _ _ h => h) (by rfl) ?_ ?_
        rotate_left
        · (intro W hSw; have hcW := hSw.cells; try simp only [World.size_drew, World.cell?_drew] at hcW
           go_simp; first | done | rfl | (rw [if_pos c1]; rfl) | (rw [if_pos c2]; rfl))
        try simp only [Act.put, List.setIfInBounds_toArray, List.set_cons_zero, List.set_cons_succ]
        (try rw [hwk])
        -- 1 Op.move (Operand.tmp 7)
        refine wpMono_take' 1 (v := ?_) rfl (by kernel_rfl) (by kernel_rfl) (by kernel_rfl) (fun _ _ _ h => h) (by rfl) ?_ ?_
        rotate_left
        · (intro W hSw; have hcW := hSw.cells; try simp only [World.size_drew, World.cell?_drew] at hcW
           go_simp; first | done | rfl | (rw [if_pos c1]; rfl) | (rw [if_pos c2]; rfl))
        try simp only [Act.put, List.setIfInBounds_toArray, List.set_cons_zero, List.set_cons_succ]
        (try rw [hwk])
        -- 2 Op.slice 9 (Operand.tmp 19) none (some (Operand.tmp 20)) none
        refine wpMono_take' 2 (v := ?_) rfl (by kernel_rfl) (by kernel_rfl) (by kernel_rfl) (fun _ _ _ h => h) (by rfl) ?_ ?_
        rotate_left
        · (intro W hSw; have hcW := hSw.cells; try simp only [World.size_drew, World.cell?_drew] at hcW
           go_simp; first | done | rfl | (rw [if_pos c1]; rfl) | (rw [if_pos c2]; rfl))
        try simp only [Act.put, List.setIfInBounds_toArray, List.set_cons_zero, List.set_cons_succ]
        (try rw [hwk])
        -- 3 Op.move (Operand.tmp 0)
        refine wpMono_take' 3 (v := ?_) rfl (by kernel_rfl) (by kernel_rfl) (by kernel_rfl) (fun _ _ _ h => h) (by rfl) ?_ ?_
        rotate_left
        · (intro W hSw; have hcW := hSw.cells; try simp only [World.size_drew, World.cell?_drew] at hcW
           go_simp; first | done | rfl | (rw [if_pos c1]; rfl) | (rw [if_pos c2]; rfl))
        try simp only [Act.put, List.setIfInBounds_toArray, List.set_cons_zero, List.set_cons_succ]
        (try rw [hwk])
        -- 4 Op.move (Operand.tmp 7)
        refine wpMono_take' 4 (v := ?_) rfl (by kernel_rfl) (by kernel_rfl) (by kernel_rfl) (fun _ _ _ h => h) (by rfl) ?_ ?_
        rotate_left
        · (intro W hSw; have hcW := hSw.cells; try simp only [World.size_drew, World.cell?_drew] at hcW
           go_simp; first | done | rfl | (rw [if_pos c1]; rfl) | (rw [if_pos c2]; rfl))
        try simp only [Act.put, List.setIfInBounds_toArray, List.set_cons_zero, List.set_cons_succ]
        (try rw [hwk])
        -- 5 Op.binOp BinOp.add 3 (Operand.tmp 23) (Operand.const (Value.int IntKind.i64 1)) 3
        refine wpMono_take' 5 (v := ?_) rfl (by kernel_rfl) (by kernel_rfl) (by kernel_rfl) (fun _ _ _ h => h) (by rfl) ?_ ?_
        rotate_left
        · (intro W hSw; have hcW := hSw.cells; try simp only [World.size_drew, World.cell?_drew] at hcW
           go_simp; first | done | rfl | (rw [if_pos c1]; rfl) | (rw [if_pos c2]; rfl))
        try simp only [Act.put, List.setIfInBounds_toArray, List.set_cons_zero, List.set_cons_succ]
        (try rw [hwk])
        -- 6 Op.slice 9 (Operand.tmp 22) (some (Operand.tmp 24)) none none
        refine wpMono_take' 6 (v := ?_) rfl (by kernel_rfl) (by kernel_rfl) (by kernel_rfl) (fun _ _ _ h => h) (by rfl) ?_ ?_
        rotate_left
        · (intro W hSw; have hcW := hSw.cells; try simp only [World.size_drew, World.cell?_drew] at hcW
           go_simp; first | done | rfl | (rw [if_pos c1]; rfl) | (rw [if_pos c2]; rfl))
        try simp only [Act.put, List.setIfInBounds_toArray, List.set_cons_zero, List.set_cons_succ]
        (try rw [hwk])
        -- 7 Op.assign (Operand.tmp 21)
        refine wpMono_take' 7 (v := ?_) rfl (by kernel_rfl) (by kernel_rfl) (by kernel_rfl) (fun _ _ _ h => h) (by rfl) ?_ ?_
        rotate_left
        · (intro W hSw; have hcW := hSw.cells; try simp only [World.size_drew, World.cell?_drew] at hcW
           go_simp; first | done | rfl | (rw [if_pos c1]; rfl) | (rw [if_pos c2]; rfl))
        try simp only [Act.put, List.setIfInBounds_toArray, List.set_cons_zero, List.set_cons_succ]
        (try rw [hwk])
        -- 8 Op.assign (Operand.tmp 25)
        refine wpMono_take' 8 (v := ?_) rfl (by kernel_rfl) (by kernel_rfl) (by kernel_rfl) (fun _ _ _ h => h) (by rfl) ?_ ?_
        rotate_left
        · (intro W hSw; have hcW := hSw.cells; try simp only [World.size_drew, World.cell?_drew] at hcW
           go_simp; first | done | rfl | (rw [if_pos c1]; rfl) | (rw [if_pos c2]; rfl))
        try simp only [Act.put, List.setIfInBounds_toArray, List.set_cons_zero, List.set_cons_succ]
        (try rw [hwk])
        -- 9 Op.assign (Operand.const (Value.bool true))
        refine wpMono_take' 9 (v := ?_) rfl (by kernel_rfl) (by kernel_rfl) (by kernel_rfl) (fun _ _ _ h => h) (by rfl) ?_ ?_
        rotate_left
        · (intro W hSw; have hcW := hSw.cells; try simp only [World.size_drew, World.cell?_drew] at hcW
           go_simp; first | done | rfl | (rw [if_pos c1]; rfl) | (rw [if_pos c2]; rfl))
        try simp only [Act.put, List.setIfInBounds_toArray, List.set_cons_zero, List.set_cons_succ]
        (try rw [hwk])
        refine wpMono_done (by kernel_rfl) ?_ _
        go_wp2_with fail
        go_ret3
        refine ⟨?_, 1, rfl⟩
        rw [HU.out]
        simp only [mkB_of]
        rfl
      · have HF := Lib.hid (take_free h0 hf hc)
        have e1 : ((s[k].toNat : Int) == (c.toNat : Int)) = false := by
          rw [beq_eq_false_iff_ne]
          intro h
          exact hc (UInt8.toNat_inj.mp (by omega))
        clear hf hc
        go_wp2_with fail
        go_round
        case rel => exact ⟨k + 1, by omega, by go_num, HF.out⟩
        case measure => simp [intOf]; omega
    · obtain rfl : k = s.size := by omega
      have HU := Lib.hid (until_miss s.data.toList (c := c) (by rw [show s.size = s.data.toList.length from rfl, List.take_length] at hf; exact hf))
      clear hf
      go_wp2_with fail
      go_ret3
      refine ⟨?_, 0, rfl⟩
      rw [HU.out]
      simp only [mkB_of]
      rfl
set_option maxHeartbeats 3200000 in
theorem split_any (s : ByteArray) (m : Int) (w : World) (hs : s.size ≤ 1000000) (hm : w.cell? ⟨0, 0, none⟩ = some (.int .i64 m)) : Calls Tryd.prog 14 #[.string s] w fun e w' => e = .returned (.tuple #[.string (trimA (mkB (untilL 61 s.data.toList).1)), .string (trimA (mkB (untilL 61 s.data.toList).2.1)), .bool (untilL 61 s.data.toList).2.2]) ∧ ∃ n, w' = w.drewN n := by
  have HM := Lib.hid hm
  clear hm
  go_enter Tryd.func14, Tryd.ntmps14
  have hl := until_len 61 s.data.toList
  rw [show s.data.toList.length = s.size from rfl] at hl
  go_wp2_with fail
  refine (Tryd.strings_Cut s ⟨#[61]⟩ m w (by omega) HM.out).mono ?_
  rintro e w1 ⟨rfl, hw1⟩
  rw [show (⟨#[61]⟩ : ByteArray).data.toList = [61] from rfl, cut_until] at *
  generalize hu : untilL 61 s.data.toList = u at *
  obtain ⟨u1, u2, u3⟩ := u
  dsimp only at hl
  have HU := Lib.hid hu
  clear hu
  have HL := Lib.hid hl
  have HW := Lib.hid hw1
  clear hl hw1
  go_wp2_with fail
  refine (trim_text (mkB u1) w1 (by rw [mkB_size]; have := HL.out; omega)).mono ?_
  rintro e w2 ⟨⟨rfl, _⟩, rfl⟩
  go_wp2_with fail
  refine (trim_text (mkB u2) _ (by rw [mkB_size]; have := HL.out; omega)).mono ?_
  rintro e w3 ⟨⟨rfl, _⟩, rfl⟩
  go_wp2_with fail
  go_ret3
  rw [HU.out]
  exact ⟨rfl, HW.out⟩
end Go.Proofs.YticlnjfndjnfhaaDoor.bake
