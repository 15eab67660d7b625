/- Whether a path may be said. -/
import Derived.Test.YticlnjfndjnfhaaDoorSiteW
namespace Go.Proofs.YticlnjfndjnfhaaDoor.bake
open Go Go.RowKit Go.Proofs.YticlnjfndjnfhaaDoor.base Go.Proofs.YticlnjfndjnfhaaDoor.dec

def pathC (c : UInt8) : Bool := decide (32 ≤ c.toNat) && decide (c.toNat ≤ 126) && !decide (c.toNat = 59)
def pathL (l : List UInt8) : Bool := match l with
  | [] => true
  | c :: r => decide (c = 47) && decide (trimB r = r) && l.all pathC
theorem text_eq (a b : ByteArray) : (a.toList == b.toList) = decide (a = b) := by
  rw [ByteArray.toList_eq, ByteArray.toList_eq, Bool.eq_iff_iff]
  simp
  exact ⟨fun h => bytes_eq (by rw [h]), fun h => by rw [h]⟩
theorem path_cons {s : ByteArray} (h : 0 < s.size) : pathL s.data.toList = (decide (s[0] = 47) && decide (trimB (s.extract 1 s.size).data.toList = (s.extract 1 s.size).data.toList) && s.data.toList.all pathC) := by
  conv => lhs; rw [cons_of h]
  conv => rhs; rw [cons_of h]
  simp [pathL]
theorem trim_same {t : ByteArray} : decide (trimB t.data.toList = t.data.toList) = decide (trimA t = t) := by
  rw [decide_eq_decide]
  exact ⟨fun h => bytes_eq h, fun h => by conv => { rhs; rw [← h] }; simp [trimA]⟩
theorem pall_take {s : ByteArray} {k : Nat} (h : k < s.size) (ha : (s.data.toList.take k).all pathC = true) (hc : pathC s[k] = true) : (s.data.toList.take (k + 1)).all pathC = true := by
  have h2 : k < s.data.toList.length := h
  rw [List.take_succ_eq_append_getElem h2, List.all_append, ha]
  simp
  exact hc
theorem pall_bad {s : ByteArray} {k : Nat} (h : k < s.size) (hc : pathC s[k] = false) : s.data.toList.all pathC = false := by
  rw [List.all_eq_false]
  exact ⟨s[k], by exact List.getElem_mem (l := s.data.toList) h, by rw [hc]; simp⟩
set_option maxHeartbeats 3200000 in
theorem path_any (s : ByteArray) (w : World) (hs : s.size ≤ 1000000) : Calls Tryd.prog 22 #[.string s] w fun e w' => e = .returned (.bool (pathL s.data.toList)) ∧ ∃ n, w' = w.drewN n := by
  have hse := str_ne s
  go_enter Tryd.func22, Tryd.ntmps22
  by_cases h0 : 0 < s.size
  · have d0 : s.toList.isEmpty = false := by rw [decide_eq_true h0] at hse; simpa using hse
    have h256 : s[0].toNat < 256 := s[0].toNat_lt
    clear hse
    by_cases h47 : s[0] = 47
    · have e1 : ((s[0].toNat : Int) == 47) = true := by rw [h47]; rfl
      have e1b : ((s[0].toNat : Int) != 47) = false := by rw [bne, e1]; rfl
      have c1 : 0 ≤ (1 : Int) ∧ (1 : Int) ≤ (s.size : Int) := by omega
      go_wp2_with fail
      refine wp_region_mono nobody (by kernel_rfl) ?_
      -- 0 Op.move (Operand.tmp 0)
      refine wpMono_take' 0 (v := ?_) rfl (by kernel_rfl) (by kernel_rfl) (by kernel_rfl) (fun _ _ _ h => h) (by rfl) ?_ ?_
      rotate_left
      · (intro W hSw; have hcW := hSw.cells; try simp only [World.size_drew, World.cell?_drew] at hcW
         go_simp; first | done | rfl | (rw [if_pos c1]; rfl))
      try simp only [Act.put, List.setIfInBounds_toArray, List.set_cons_zero, List.set_cons_succ]
      (try rw [d0]); (try rw [e1b]); (try rw [Bool.false_or])
      -- 1 Op.binOp BinOp.eql 9 (Operand.tmp 4) (Operand.const (Value.string { data := #[] })) 9
      refine wpMono_take' 1 (v := ?_) rfl (by kernel_rfl) (by kernel_rfl) (by kernel_rfl) (fun _ _ _ h => h) (by rfl) ?_ ?_
      rotate_left
      · (intro W hSw; have hcW := hSw.cells; try simp only [World.size_drew, World.cell?_drew] at hcW
         go_simp; first | done | rfl | (rw [if_pos c1]; rfl))
      try simp only [Act.put, List.setIfInBounds_toArray, List.set_cons_zero, List.set_cons_succ]
      (try rw [d0]); (try rw [e1b]); (try rw [Bool.false_or])
      -- 2 Op.move (Operand.tmp 5)
      refine wpMono_take' 2 (v := ?_) rfl (by kernel_rfl) (by kernel_rfl) (by kernel_rfl) (fun _ _ _ h => h) (by rfl) ?_ ?_
      rotate_left
      · (intro W hSw; have hcW := hSw.cells; try simp only [World.size_drew, World.cell?_drew] at hcW
         go_simp; first | done | rfl | (rw [if_pos c1]; rfl))
      try simp only [Act.put, List.setIfInBounds_toArray, List.set_cons_zero, List.set_cons_succ]
      (try rw [d0]); (try rw [e1b]); (try rw [Bool.false_or])
      -- 3 Op.move (Operand.tmp 0)
      refine wpMono_take' 3 (v := ?_) rfl (by kernel_rfl) (by kernel_rfl) (by kernel_rfl) (fun _ _ _ h => h) (by rfl) ?_ ?_
      rotate_left
      · (intro W hSw; have hcW := hSw.cells; try simp only [World.size_drew, World.cell?_drew] at hcW
         go_simp; first | done | rfl | (rw [if_pos c1]; rfl))
      try simp only [Act.put, List.setIfInBounds_toArray, List.set_cons_zero, List.set_cons_succ]
      (try rw [d0]); (try rw [e1b]); (try rw [Bool.false_or])
      -- 4 Op.index 9 (Operand.tmp 7) (Operand.const (Value.int IntKind.i64 0))
      refine wpMono_take' 4 (v := ?_) rfl (by kernel_rfl) (by kernel_rfl) (by kernel_rfl) (fun _ _ _ h => h) (by rfl) ?_ ?_
      rotate_left
      · (intro W hSw; have hcW := hSw.cells; try simp only [World.size_drew, World.cell?_drew] at hcW
         go_simp; first | done | rfl | (rw [if_pos c1]; rfl))
      try simp only [Act.put, List.setIfInBounds_toArray, List.set_cons_zero, List.set_cons_succ]
      (try rw [d0]); (try rw [e1b]); (try rw [Bool.false_or])
      -- 5 Op.binOp BinOp.neq 5 (Operand.tmp 8) (Operand.const (Value.int IntKind.u8 47)) 5
      refine wpMono_take' 5 (v := ?_) rfl (by kernel_rfl) (by kernel_rfl) (by kernel_rfl) (fun _ _ _ h => h) (by rfl) ?_ ?_
      rotate_left
      · (intro W hSw; have hcW := hSw.cells; try simp only [World.size_drew, World.cell?_drew] at hcW
         go_simp; first | done | rfl | (rw [if_pos c1]; rfl))
      try simp only [Act.put, List.setIfInBounds_toArray, List.set_cons_zero, List.set_cons_succ]
      (try rw [d0]); (try rw [e1b]); (try rw [Bool.false_or])
      -- 6 Op.pick (Operand.tmp 6) (Operand.const (Value.bool true)) (Operand.tmp 9)
      refine wpMono_take' 6 (v := ?_) rfl (by kernel_rfl) (by kernel_rfl) (by kernel_rfl) (fun _ _ _ h => h) (by rfl) ?_ ?_
      rotate_left
      · (intro W hSw; have hcW := hSw.cells; try simp only [World.size_drew, World.cell?_drew] at hcW
         go_simp; first | done | rfl | (rw [if_pos c1]; rfl))
      try simp only [Act.put, List.setIfInBounds_toArray, List.set_cons_zero, List.set_cons_succ]
      (try rw [d0]); (try rw [e1b]); (try rw [Bool.false_or])
      -- 7 Op.move (Operand.tmp 10)
      refine wpMono_take' 7 (v := ?_) rfl (by kernel_rfl) (by kernel_rfl) (by kernel_rfl) (fun _ _ _ h => h) (by rfl) ?_ ?_
      rotate_left
      · (intro W hSw; have hcW := hSw.cells; try simp only [World.size_drew, World.cell?_drew] at hcW
         go_simp; first | done | rfl | (rw [if_pos c1]; rfl))
      try simp only [Act.put, List.setIfInBounds_toArray, List.set_cons_zero, List.set_cons_succ]
      (try rw [d0]); (try rw [e1b]); (try rw [Bool.false_or])
      -- 8 Op.move (Operand.tmp 0)
      refine wpMono_take' 8 (v := ?_) rfl (by kernel_rfl) (by kernel_rfl) (by kernel_rfl) (fun _ _ _ h => h) (by rfl) ?_ ?_
      rotate_left
      · (intro W hSw; have hcW := hSw.cells; try simp only [World.size_drew, World.cell?_drew] at hcW
         go_simp; first | done | rfl | (rw [if_pos c1]; rfl))
      try simp only [Act.put, List.setIfInBounds_toArray, List.set_cons_zero, List.set_cons_succ]
      (try rw [d0]); (try rw [e1b]); (try rw [Bool.false_or])
      -- 9 Op.slice 9 (Operand.tmp 12) (some (Operand.const (Value.int IntKind.i64 1))) none none
      refine wpMono_take' 9 (v := ?_) rfl (by kernel_rfl) (by kernel_rfl) (by kernel_rfl) (fun _ _ _ h => h) (by rfl) ?_ ?_
      rotate_left
      · (intro W hSw; have hcW := hSw.cells; try simp only [World.size_drew, World.cell?_drew] at hcW
         go_simp; first | done | rfl | (rw [if_pos c1]; rfl))
      try simp only [Act.put, List.setIfInBounds_toArray, List.set_cons_zero, List.set_cons_succ]
      (try rw [d0]); (try rw [e1b]); (try rw [Bool.false_or])
      -- 11 Op.move (Operand.tmp 0)
      refine wpMono_take' 11 (v := ?_) rfl (by kernel_rfl) (by kernel_rfl) (by kernel_rfl) (fun _ _ _ h => h) (by rfl) ?_ ?_
      rotate_left
      · (intro W hSw; have hcW := hSw.cells; try simp only [World.size_drew, World.cell?_drew] at hcW
         go_simp; first | done | rfl | (rw [if_pos c1]; rfl))
      try simp only [Act.put, List.setIfInBounds_toArray, List.set_cons_zero, List.set_cons_succ]
      (try rw [d0]); (try rw [e1b]); (try rw [Bool.false_or])
      -- 12 Op.slice 9 (Operand.tmp 15) (some (Operand.const (Value.int IntKind.i64 1))) none none
      refine wpMono_take' 12 (v := ?_) rfl (by kernel_rfl) (by kernel_rfl) (by kernel_rfl) (fun _ _ _ h => h) (by rfl) ?_ ?_
      rotate_left
      · (intro W hSw; have hcW := hSw.cells; try simp only [World.size_drew, World.cell?_drew] at hcW
         go_simp; first | done | rfl | (rw [if_pos c1]; rfl))
      try simp only [Act.put, List.setIfInBounds_toArray, List.set_cons_zero, List.set_cons_succ]
      (try rw [d0]); (try rw [e1b]); (try rw [Bool.false_or])
      -- EFFECT 10 Op.call { callee := Callee.value (Operand.func 36), args := #[Operand.tmp 13], argTypes := #[9] }
      refine wpMono_one' 10 (by kernel_rfl) rfl (by rfl) (fun K hK => ?_)
      go_simp
      refine (trim_text (s.extract 1 s.size) _ (by simp [ByteArray.size_extract]; omega)).mono ?_
      rintro e w2 ⟨⟨rfl, _⟩, rfl⟩
      refine hK.out _ _ ?_ ?_
      · exact .refl _ _
      clear hK K
      try simp only [Act.put, List.setIfInBounds_toArray, List.set_cons_zero, List.set_cons_succ]
      (try rw [d0]); (try rw [e1b]); (try rw [Bool.false_or])
      -- 13 Op.binOp BinOp.neq 9 (Operand.tmp 14) (Operand.tmp 16) 9
      refine wpMono_take' 13 (v := ?_) rfl (by kernel_rfl) (by kernel_rfl) (by kernel_rfl) (fun _ _ _ h => h) (by rfl) ?_ ?_
      rotate_left
      · (intro W hSw; have hcW := hSw.cells; try simp only [World.size_drew, World.cell?_drew] at hcW
         go_simp; first | done | rfl | (rw [if_pos c1]; rfl))
      try simp only [Act.put, List.setIfInBounds_toArray, List.set_cons_zero, List.set_cons_succ]
      (try rw [d0]); (try rw [e1b]); (try rw [Bool.false_or])
      -- 14 Op.pick (Operand.tmp 11) (Operand.const (Value.bool true)) (Operand.tmp 17)
      refine wpMono_take' 14 (v := ?_) rfl (by kernel_rfl) (by kernel_rfl) (by kernel_rfl) (fun _ _ _ h => h) (by rfl) ?_ ?_
      rotate_left
      · (intro W hSw; have hcW := hSw.cells; try simp only [World.size_drew, World.cell?_drew] at hcW
         go_simp; first | done | rfl | (rw [if_pos c1]; rfl))
      try simp only [Act.put, List.setIfInBounds_toArray, List.set_cons_zero, List.set_cons_succ]
      (try rw [d0]); (try rw [e1b]); (try rw [Bool.false_or])
      refine wpMono_done (by kernel_rfl) ?_ _
      have heq := text_eq (trimA (s.extract 1 s.size)) (s.extract 1 s.size)
      rw [heq]
      clear heq
      have hpl : pathL s.data.toList = (decide (trimA (s.extract 1 s.size) = s.extract 1 s.size) && s.data.toList.all pathC) := by
        rw [path_cons h0, h47, trim_same]; simp
      cases hT : decide (trimA (s.extract 1 s.size) = s.extract 1 s.size) with
      | false =>
        rw [hT] at hpl
        have HP := Lib.hid (show pathL s.data.toList = false from by rw [hpl]; rfl)
        clear hpl hT
        go_wp2_with fail
        go_ret
        exact ⟨ret_bool HP.out.symm, 1, rfl⟩
      | true =>
        rw [hT, Bool.true_and] at hpl
        have HP := Lib.hid hpl
        clear hpl hT e1 e1b h47 c1
        obtain ⟨X, hX⟩ : ∃ X, s.extract 1 s.size = X := ⟨_, rfl⟩
        rw [hX]
        obtain ⟨Y, hY⟩ : ∃ Y, trimA X = Y := ⟨_, rfl⟩
        rw [hY]
        clear hX hY
        go_wp2_with fail
        go_loop [3] (fun x => ∃ k : Nat, k ≤ s.size ∧ x = .int .i64 k ∧ (s.data.toList.take k).all pathC = true) (fun x => s.size - (intOf x).toNat)
        case atStart => exact ⟨0, by omega, rfl, rfl⟩
        case round =>
          obtain ⟨k, hk, rfl, ha⟩ := hrel
          by_cases h1 : k < s.size
          · have h256k : s[k].toNat < 256 := s[k].toNat_lt
            cases hc : pathC s[k] with
            | true =>
              have HA := Lib.hid (pall_take h1 ha hc)
              unfold pathC at hc
              simp at hc
              obtain ⟨⟨g1, g2⟩, g3⟩ := hc
              have d1 : decide ((s[k].toNat : Int) < 32) = false := by simp; omega
              have d2 : decide ((126 : Int) < (s[k].toNat : Int)) = false := by simp; omega
              have e3 : ((s[k].toNat : Int) == 59) = false := by rw [beq_eq_false_iff_ne]; omega
              clear ha g1 g2 g3
              go_wp2_with fail
              go_round
              case rel => exact ⟨k + 1, by omega, by go_num, HA.out⟩
              case measure => simp [intOf]; omega
            | false =>
              have HN := Lib.hid (pall_bad h1 hc)
              clear ha
              have hbad : s[k].toNat < 32 ∨ 126 < s[k].toNat ∨ s[k].toNat = 59 := by unfold pathC at hc; simp at hc; omega
              clear hc
              by_cases g1 : s[k].toNat < 32
              · have d1 : decide ((s[k].toNat : Int) < 32) = true := by simp; omega
                go_wp2_with fail
                go_ret
                exact ⟨ret_bool (by rw [HP.out, HN.out]), 1, rfl⟩
              · have d1 : decide ((s[k].toNat : Int) < 32) = false := by simp; omega
                by_cases g2 : 126 < s[k].toNat
                · have d2 : decide ((126 : Int) < (s[k].toNat : Int)) = true := by simp; omega
                  go_wp2_with fail
                  go_ret
                  exact ⟨ret_bool (by rw [HP.out, HN.out]), 1, rfl⟩
                · have d2 : decide ((126 : Int) < (s[k].toNat : Int)) = false := by simp; omega
                  have e3 : ((s[k].toNat : Int) == 59) = true := by rw [beq_iff_eq]; omega
                  go_wp2_with fail
                  go_ret
                  exact ⟨ret_bool (by rw [HP.out, HN.out]), 1, rfl⟩
          · obtain rfl : k = s.size := by omega
            have HN := Lib.hid (show s.data.toList.all pathC = true from by rw [show s.size = s.data.toList.length from rfl, List.take_length] at ha; exact ha)
            clear ha
            go_wp2_with fail
            go_ret
            exact ⟨ret_bool (by rw [HP.out, HN.out]), 1, rfl⟩
    · have e1 : ((s[0].toNat : Int) == 47) = false := by
        rw [beq_eq_false_iff_ne]
        intro h
        exact h47 (UInt8.toNat_inj.mp (show s[0].toNat = 47 by omega))
      have e1b : ((s[0].toNat : Int) != 47) = true := by rw [bne, e1]; rfl
      have HP := Lib.hid (show pathL s.data.toList = false from by rw [cons_of h0]; simp [pathL, h47])
      go_wp2_with fail
      refine wp_region_mono nobody (by kernel_rfl) ?_
      -- 0 Op.move (Operand.tmp 0)
      refine wpMono_take' 0 (v := ?_) rfl (by kernel_rfl) (by kernel_rfl) (by kernel_rfl) (fun _ _ _ h => h) (by rfl) ?_ ?_
      rotate_left
      · (intro W hSw; have hcW := hSw.cells; try simp only [World.size_drew, World.cell?_drew] at hcW
         go_simp; first | done | rfl)
      try simp only [Act.put, List.setIfInBounds_toArray, List.set_cons_zero, List.set_cons_succ]
      (try rw [d0]); (try rw [e1b]); (try rw [Bool.false_or])
      -- 1 Op.binOp BinOp.eql 9 (Operand.tmp 4) (Operand.const (Value.string { data := #[] })) 9
      refine wpMono_take' 1 (v := ?_) rfl (by kernel_rfl) (by kernel_rfl) (by kernel_rfl) (fun _ _ _ h => h) (by rfl) ?_ ?_
      rotate_left
      · (intro W hSw; have hcW := hSw.cells; try simp only [World.size_drew, World.cell?_drew] at hcW
         go_simp; first | done | rfl)
      try simp only [Act.put, List.setIfInBounds_toArray, List.set_cons_zero, List.set_cons_succ]
      (try rw [d0]); (try rw [e1b]); (try rw [Bool.false_or])
      -- 2 Op.move (Operand.tmp 5)
      refine wpMono_take' 2 (v := ?_) rfl (by kernel_rfl) (by kernel_rfl) (by kernel_rfl) (fun _ _ _ h => h) (by rfl) ?_ ?_
      rotate_left
      · (intro W hSw; have hcW := hSw.cells; try simp only [World.size_drew, World.cell?_drew] at hcW
         go_simp; first | done | rfl)
      try simp only [Act.put, List.setIfInBounds_toArray, List.set_cons_zero, List.set_cons_succ]
      (try rw [d0]); (try rw [e1b]); (try rw [Bool.false_or])
      -- 3 Op.move (Operand.tmp 0)
      refine wpMono_take' 3 (v := ?_) rfl (by kernel_rfl) (by kernel_rfl) (by kernel_rfl) (fun _ _ _ h => h) (by rfl) ?_ ?_
      rotate_left
      · (intro W hSw; have hcW := hSw.cells; try simp only [World.size_drew, World.cell?_drew] at hcW
         go_simp; first | done | rfl)
      try simp only [Act.put, List.setIfInBounds_toArray, List.set_cons_zero, List.set_cons_succ]
      (try rw [d0]); (try rw [e1b]); (try rw [Bool.false_or])
      -- 4 Op.index 9 (Operand.tmp 7) (Operand.const (Value.int IntKind.i64 0))
      refine wpMono_take' 4 (v := ?_) rfl (by kernel_rfl) (by kernel_rfl) (by kernel_rfl) (fun _ _ _ h => h) (by rfl) ?_ ?_
      rotate_left
      · (intro W hSw; have hcW := hSw.cells; try simp only [World.size_drew, World.cell?_drew] at hcW
         go_simp; first | done | rfl)
      try simp only [Act.put, List.setIfInBounds_toArray, List.set_cons_zero, List.set_cons_succ]
      (try rw [d0]); (try rw [e1b]); (try rw [Bool.false_or])
      -- 5 Op.binOp BinOp.neq 5 (Operand.tmp 8) (Operand.const (Value.int IntKind.u8 47)) 5
      refine wpMono_take' 5 (v := ?_) rfl (by kernel_rfl) (by kernel_rfl) (by kernel_rfl) (fun _ _ _ h => h) (by rfl) ?_ ?_
      rotate_left
      · (intro W hSw; have hcW := hSw.cells; try simp only [World.size_drew, World.cell?_drew] at hcW
         go_simp; first | done | rfl)
      try simp only [Act.put, List.setIfInBounds_toArray, List.set_cons_zero, List.set_cons_succ]
      (try rw [d0]); (try rw [e1b]); (try rw [Bool.false_or])
      -- 6 Op.pick (Operand.tmp 6) (Operand.const (Value.bool true)) (Operand.tmp 9)
      refine wpMono_take' 6 (v := ?_) rfl (by kernel_rfl) (by kernel_rfl) (by kernel_rfl) (fun _ _ _ h => h) (by rfl) ?_ ?_
      rotate_left
      · (intro W hSw; have hcW := hSw.cells; try simp only [World.size_drew, World.cell?_drew] at hcW
         go_simp; first | done | rfl)
      try simp only [Act.put, List.setIfInBounds_toArray, List.set_cons_zero, List.set_cons_succ]
      (try rw [d0]); (try rw [e1b]); (try rw [Bool.false_or])
      -- 7 Op.move (Operand.tmp 10)
      refine wpMono_take' 7 (v := ?_) rfl (by kernel_rfl) (by kernel_rfl) (by kernel_rfl) (fun _ _ _ h => h) (by rfl) ?_ ?_
      rotate_left
      · (intro W hSw; have hcW := hSw.cells; try simp only [World.size_drew, World.cell?_drew] at hcW
         go_simp; first | done | rfl)
      try simp only [Act.put, List.setIfInBounds_toArray, List.set_cons_zero, List.set_cons_succ]
      (try rw [d0]); (try rw [e1b]); (try rw [Bool.false_or])
      -- 8 Op.move (Operand.tmp 0)
      refine wpMono_skip' 8 rfl (by kernel_rfl) (by kernel_rfl) (by kernel_rfl) (fun _ _ _ h => h) (by rfl) ?_
      try simp only [Act.put, List.setIfInBounds_toArray, List.set_cons_zero, List.set_cons_succ]
      (try rw [d0]); (try rw [e1b]); (try rw [Bool.false_or])
      -- 9 Op.slice 9 (Operand.tmp 12) (some (Operand.const (Value.int IntKind.i64 1))) none none
      refine wpMono_skip' 9 rfl (by kernel_rfl) (by kernel_rfl) (by kernel_rfl) (fun _ _ _ h => h) (by rfl) ?_
      try simp only [Act.put, List.setIfInBounds_toArray, List.set_cons_zero, List.set_cons_succ]
      (try rw [d0]); (try rw [e1b]); (try rw [Bool.false_or])
      -- 10 Op.call { callee := Callee.value (Operand.func 36), args := #[Operand.tmp 13], argTypes :=
      refine wpMono_skip' 10 rfl (by kernel_rfl) (by kernel_rfl) (by kernel_rfl) (fun _ _ _ h => h) (by rfl) ?_
      try simp only [Act.put, List.setIfInBounds_toArray, List.set_cons_zero, List.set_cons_succ]
      (try rw [d0]); (try rw [e1b]); (try rw [Bool.false_or])
      -- 11 Op.move (Operand.tmp 0)
      refine wpMono_skip' 11 rfl (by kernel_rfl) (by kernel_rfl) (by kernel_rfl) (fun _ _ _ h => h) (by rfl) ?_
      try simp only [Act.put, List.setIfInBounds_toArray, List.set_cons_zero, List.set_cons_succ]
      (try rw [d0]); (try rw [e1b]); (try rw [Bool.false_or])
      -- 12 Op.slice 9 (Operand.tmp 15) (some (Operand.const (Value.int IntKind.i64 1))) none none
      refine wpMono_skip' 12 rfl (by kernel_rfl) (by kernel_rfl) (by kernel_rfl) (fun _ _ _ h => h) (by rfl) ?_
      try simp only [Act.put, List.setIfInBounds_toArray, List.set_cons_zero, List.set_cons_succ]
      (try rw [d0]); (try rw [e1b]); (try rw [Bool.false_or])
      -- 13 Op.binOp BinOp.neq 9 (Operand.tmp 14) (Operand.tmp 16) 9
      refine wpMono_skip' 13 rfl (by kernel_rfl) (by kernel_rfl) (by kernel_rfl) (fun _ _ _ h => h) (by rfl) ?_
      try simp only [Act.put, List.setIfInBounds_toArray, List.set_cons_zero, List.set_cons_succ]
      (try rw [d0]); (try rw [e1b]); (try rw [Bool.false_or])
      -- 14 Op.pick (Operand.tmp 11) (Operand.const (Value.bool true)) (Operand.tmp 17)
      refine wpMono_take' 14 (v := ?_) rfl (by kernel_rfl) (by kernel_rfl) (by kernel_rfl) (fun _ _ _ h => h) (by rfl) ?_ ?_
      rotate_left
      · (intro W hSw; have hcW := hSw.cells; try simp only [World.size_drew, World.cell?_drew] at hcW
         go_simp; first | done | rfl)
      try simp only [Act.put, List.setIfInBounds_toArray, List.set_cons_zero, List.set_cons_succ]
      (try rw [d0]); (try rw [e1b]); (try rw [Bool.false_or])
      refine wpMono_done (by kernel_rfl) ?_ _
      go_wp2_with fail
      go_ret
      exact ⟨ret_bool HP.out.symm, 1, rfl⟩
  · have d0 : s.toList.isEmpty = true := by rw [decide_eq_false h0] at hse; simpa using hse
    have HP := Lib.hid (show pathL s.data.toList = true from by rw [drop_none h0]; rfl)
    clear hse
    go_wp2_with fail
    refine wp_region_mono nobody (by kernel_rfl) ?_
    -- 0 Op.move (Operand.tmp 0)
    refine wpMono_take' 0 (v := ?_) rfl (by kernel_rfl) (by kernel_rfl) (by kernel_rfl) (fun _ _ _ h => h) (by rfl) ?_ ?_
    rotate_left
    · (intro W hSw; have hcW := hSw.cells; try simp only [World.size_drew, World.cell?_drew] at hcW
       go_simp; first | done | rfl)
    try simp only [Act.put, List.setIfInBounds_toArray, List.set_cons_zero, List.set_cons_succ]
    (try rw [d0]); (try rw [Bool.true_or])
    -- 1 Op.binOp BinOp.eql 9 (Operand.tmp 4) (Operand.const (Value.string { data := #[] })) 9
    refine wpMono_take' 1 (v := ?_) rfl (by kernel_rfl) (by kernel_rfl) (by kernel_rfl) (fun _ _ _ h => h) (by rfl) ?_ ?_
    rotate_left
    · (intro W hSw; have hcW := hSw.cells; try simp only [World.size_drew, World.cell?_drew] at hcW
       go_simp; first | done | rfl)
    try simp only [Act.put, List.setIfInBounds_toArray, List.set_cons_zero, List.set_cons_succ]
    (try rw [d0]); (try rw [Bool.true_or])
    -- 2 Op.move (Operand.tmp 5)
    refine wpMono_take' 2 (v := ?_) rfl (by kernel_rfl) (by kernel_rfl) (by kernel_rfl) (fun _ _ _ h => h) (by rfl) ?_ ?_
    rotate_left
    · (intro W hSw; have hcW := hSw.cells; try simp only [World.size_drew, World.cell?_drew] at hcW
       go_simp; first | done | rfl)
    try simp only [Act.put, List.setIfInBounds_toArray, List.set_cons_zero, List.set_cons_succ]
    (try rw [d0]); (try rw [Bool.true_or])
    -- 3 Op.move (Operand.tmp 0)
    refine wpMono_skip' 3 rfl (by kernel_rfl) (by kernel_rfl) (by kernel_rfl) (fun _ _ _ h => h) (by rfl) ?_
    try simp only [Act.put, List.setIfInBounds_toArray, List.set_cons_zero, List.set_cons_succ]
    (try rw [d0]); (try rw [Bool.true_or])
    -- 4 Op.index 9 (Operand.tmp 7) (Operand.const (Value.int IntKind.i64 0))
    refine wpMono_skip' 4 rfl (by kernel_rfl) (by kernel_rfl) (by kernel_rfl) (fun _ _ _ h => h) (by rfl) ?_
    try simp only [Act.put, List.setIfInBounds_toArray, List.set_cons_zero, List.set_cons_succ]
    (try rw [d0]); (try rw [Bool.true_or])
    -- 5 Op.binOp BinOp.neq 5 (Operand.tmp 8) (Operand.const (Value.int IntKind.u8 47)) 5
    refine wpMono_skip' 5 rfl (by kernel_rfl) (by kernel_rfl) (by kernel_rfl) (fun _ _ _ h => h) (by rfl) ?_
    try simp only [Act.put, List.setIfInBounds_toArray, List.set_cons_zero, List.set_cons_succ]
    (try rw [d0]); (try rw [Bool.true_or])
    -- 6 Op.pick (Operand.tmp 6) (Operand.const (Value.bool true)) (Operand.tmp 9)
    refine wpMono_take' 6 (v := ?_) rfl (by kernel_rfl) (by kernel_rfl) (by kernel_rfl) (fun _ _ _ h => h) (by rfl) ?_ ?_
    rotate_left
    · (intro W hSw; have hcW := hSw.cells; try simp only [World.size_drew, World.cell?_drew] at hcW
       go_simp; first | done | rfl)
    try simp only [Act.put, List.setIfInBounds_toArray, List.set_cons_zero, List.set_cons_succ]
    (try rw [d0]); (try rw [Bool.true_or])
    -- 7 Op.move (Operand.tmp 10)
    refine wpMono_take' 7 (v := ?_) rfl (by kernel_rfl) (by kernel_rfl) (by kernel_rfl) (fun _ _ _ h => h) (by rfl) ?_ ?_
    rotate_left
    · (intro W hSw; have hcW := hSw.cells; try simp only [World.size_drew, World.cell?_drew] at hcW
       go_simp; first | done | rfl)
    try simp only [Act.put, List.setIfInBounds_toArray, List.set_cons_zero, List.set_cons_succ]
    (try rw [d0]); (try rw [Bool.true_or])
    -- 8 Op.move (Operand.tmp 0)
    refine wpMono_skip' 8 rfl (by kernel_rfl) (by kernel_rfl) (by kernel_rfl) (fun _ _ _ h => h) (by rfl) ?_
    try simp only [Act.put, List.setIfInBounds_toArray, List.set_cons_zero, List.set_cons_succ]
    (try rw [d0]); (try rw [Bool.true_or])
    -- 9 Op.slice 9 (Operand.tmp 12) (some (Operand.const (Value.int IntKind.i64 1))) none none
    refine wpMono_skip' 9 rfl (by kernel_rfl) (by kernel_rfl) (by kernel_rfl) (fun _ _ _ h => h) (by rfl) ?_
    try simp only [Act.put, List.setIfInBounds_toArray, List.set_cons_zero, List.set_cons_succ]
    (try rw [d0]); (try rw [Bool.true_or])
    -- 10 Op.call { callee := Callee.value (Operand.func 36), args := #[Operand.tmp 13], argTypes :=
    refine wpMono_skip' 10 rfl (by kernel_rfl) (by kernel_rfl) (by kernel_rfl) (fun _ _ _ h => h) (by rfl) ?_
    try simp only [Act.put, List.setIfInBounds_toArray, List.set_cons_zero, List.set_cons_succ]
    (try rw [d0]); (try rw [Bool.true_or])
    -- 11 Op.move (Operand.tmp 0)
    refine wpMono_skip' 11 rfl (by kernel_rfl) (by kernel_rfl) (by kernel_rfl) (fun _ _ _ h => h) (by rfl) ?_
    try simp only [Act.put, List.setIfInBounds_toArray, List.set_cons_zero, List.set_cons_succ]
    (try rw [d0]); (try rw [Bool.true_or])
    -- 12 Op.slice 9 (Operand.tmp 15) (some (Operand.const (Value.int IntKind.i64 1))) none none
    refine wpMono_skip' 12 rfl (by kernel_rfl) (by kernel_rfl) (by kernel_rfl) (fun _ _ _ h => h) (by rfl) ?_
    try simp only [Act.put, List.setIfInBounds_toArray, List.set_cons_zero, List.set_cons_succ]
    (try rw [d0]); (try rw [Bool.true_or])
    -- 13 Op.binOp BinOp.neq 9 (Operand.tmp 14) (Operand.tmp 16) 9
    refine wpMono_skip' 13 rfl (by kernel_rfl) (by kernel_rfl) (by kernel_rfl) (fun _ _ _ h => h) (by rfl) ?_
    try simp only [Act.put, List.setIfInBounds_toArray, List.set_cons_zero, List.set_cons_succ]
    (try rw [d0]); (try rw [Bool.true_or])
    -- 14 Op.pick (Operand.tmp 11) (Operand.const (Value.bool true)) (Operand.tmp 17)
    refine wpMono_take' 14 (v := ?_) rfl (by kernel_rfl) (by kernel_rfl) (by kernel_rfl) (fun _ _ _ h => h) (by rfl) ?_ ?_
    rotate_left
    · (intro W hSw; have hcW := hSw.cells; try simp only [World.size_drew, World.cell?_drew] at hcW
       go_simp; first | done | rfl)
    try simp only [Act.put, List.setIfInBounds_toArray, List.set_cons_zero, List.set_cons_succ]
    (try rw [d0]); (try rw [Bool.true_or])
    refine wpMono_done (by kernel_rfl) ?_ _
    go_wp2_with fail
    go_ret
    exact ⟨ret_bool HP.out.symm, 1, rfl⟩
end Go.Proofs.YticlnjfndjnfhaaDoor.bake
