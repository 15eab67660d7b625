/- The walk of the law EpochBack. -/
import Derived.Test.YtojmnkcncjconaaAll
namespace Go.Proofs.Ytojmnkcncjconaa.wEpochBack
open Go.RowKit Go.Proofs.Ytojmnkcncjconaa.base Go.Proofs.Ytojmnkcncjconaa.list Go.Proofs.Ytojmnkcncjconaa.err Go.Proofs.Ytojmnkcncjconaa.tab Go.Proofs.Ytojmnkcncjconaa.new Go.Proofs.Ytojmnkcncjconaa.awake Go.Proofs.Ytojmnkcncjconaa.ops Go.Proofs.Ytojmnkcncjconaa.law Go.Proofs.Ytojmnkcncjconaa.all_ Go.Proofs.Ytojmnkcncjconaa.keys Go.Proofs.Ytojmnkcncjconaa.reft

set_option maxRecDepth 100000 in
set_option maxHeartbeats 3200000 in
theorem walk (v0 : Value) (v1 : Value) (w : World) (a0 : Arg Try.prog w 25 v0) (a1 : Arg Try.prog w 25 v1) :
    Calls Try.prog 5 #[v0, v1] w fun e w' => e = .returned (.bool true) ∧ Below w.heap.size w w' := by
  obtain ⟨A, len, cap, l, rfl, ha⟩ := ops_arg a0
  obtain ⟨A', len', cap', l', rfl, ha'⟩ := ops_arg a1
  clear a0 a1
  have hlc := ha.2.1
  have hcm := ha.2.2.1
  have hlc' := ha'.2.1
  have hcm' := ha'.2.2.1
  unfold maxLen at hcm hcm'
  have Ha := Lib.hid ha
  have Ha' := Lib.hid ha'
  clear ha ha'
  have hcase : 30 < len ∨ (len ≤ 30 ∧ 30 < len') ∨ (len ≤ 30 ∧ len' ≤ 30) := by omega
  rcases hcase with h1 | ⟨h1, h2⟩ | ⟨h1, h2⟩
  · have hd : decide (30 < (len : Int)) = true := by simp; omega
    go_enter Try.func5, Try.ntmps5
    go_wp2_with fail
    refine (awake_any _).mono ?_
    rintro e w1 ⟨rfl, hb1⟩
    have Hb1 := Lib.hid hb1
    clear hb1
    go_wp2
    go_ret
    exact ⟨rfl, Hb1.out⟩
  · have hd : decide (30 < (len : Int)) = false := by simp; omega
    have hd2 : decide (30 < (len' : Int)) = true := by simp; omega
    go_enter Try.func5, Try.ntmps5
    go_wp2_with fail
    refine (awake_any _).mono ?_
    rintro e w1 ⟨rfl, hb1⟩
    have Hb1 := Lib.hid hb1
    clear hb1
    go_wp2
    go_ret
    exact ⟨rfl, Hb1.out⟩
  · have hd : decide (30 < (len : Int)) = false := by simp; omega
    have hd2 : decide (30 < (len' : Int)) = false := by simp; omega
    have hnil : ∀ w, Eps w w.heap.size none 0 0 [] := fun w => ⟨rfl, Nat.le_refl _, Nat.zero_le _, Reads.none_⟩
    have Hnil := Lib.hid hnil
    clear hnil
    go_enter Try.func5, Try.ntmps5
    go_wp2_with fail
    refine (awake_any _).mono ?_
    rintro e w1 ⟨rfl, hb1⟩
    have Hb1 := Lib.hid hb1
    clear hb1
    go_wp2_with fail
    refine (new_any none 0 0 [] _ (Hnil.out _) (by omega) (by simp)).mono ?_
    rintro e w2 (⟨_, g, b, rfl, hg, hb, hT, hb2⟩ | ⟨hn, _⟩)
    case inr => exact absurd good_nil hn
    have hg' : w.heap.size ≤ g := Nat.le_trans Hb1.out.size hg
    have hb' : w.heap.size ≤ b := Nat.le_trans Hb1.out.size hb
    have hb3 := below_step Hb1.out hb2
    have Hb3 := Lib.hid hb3
    have HT := Lib.hid hT
    clear hb3 hT
    clear hb2 hg hb
    go_wp2
    go_loopw [8, 33] (fun _ i wr => ∃ (k : Nat) (L : List Ep), k ≤ len ∧ i = .int .i64 k ∧ GoodL L ∧ Tab wr g b L ∧ Below w.heap.size w wr) (fun _ i _ => len - (intOf i).toNat)
    case atStart => exact ⟨0, [], by omega, rfl, good_nil, HT.out, Hb3.out⟩
    case round =>
      obtain ⟨k, L, hk, rfl, hG, hT, hbw⟩ := hrel
      by_cases hlt : k < len
      · obtain ⟨ob, off, rfl, hob⟩ := Ha.out.at_some (by omega)
        obtain ⟨o, ho⟩ := Ha.out.get hlt
        obtain ⟨c0, c1, c2⟩ := (Ha.out.below hbw).cell hlt ho
        have Hou := Lib.hid (Ha.out.2.2.2.2 o (List.mem_of_getElem? ho)).2
        obtain ⟨ok, ou, on⟩ := o
        dsimp only at c0 c1 c2
        have HG := Lib.hid hG
        have hT2 := hT.below (below_new wr (.cells #[.int .i64 ok, .string ou, .int .i64 on] 32))
        have hbw2 := below_alloc hbw (.cells #[.int .i64 ok, .string ou, .int .i64 on] 32)
        have HT2 := Lib.hid hT2
        have Hbw2 := Lib.hid hbw2
        clear hT2 hbw2
        clear hT hbw ho hG
        go_wp2_with fail
        refine (learn_all g b L ou on _ HT2.out HG.out Hou.out).mono ?_
        rintro e w3 ⟨_, v, rfl, _, _, hT3, hk3⟩
        have hbw3 := below_kept Hbw2.out hk3 (fun i hi => by have := Hbw2.out.size; omega)
        have HT3 := Lib.hid hT3
        have Hbw3 := Lib.hid hbw3
        clear hT3 hbw3
        clear hk3
        go_wp2
        go_roundw
        case rel => exact ⟨k + 1, _, by omega, by go_num, learn_good HG.out _ _, HT3.out, Hbw3.out⟩
        case measure => simp [intOf]; omega
      · have HG := Lib.hid hG
        have HT2 := Lib.hid hT
        have Hbw := Lib.hid hbw
        clear hT hbw hG
        go_wp2_with fail
        refine (list_any g b L _ HT2.out (by have := HG.out.2.1; omega) (user_small HG.out)).mono ?_
        rintro e w3 ⟨lA, lc, rfl, hown, hb4⟩
        obtain ⟨lA', lc', e', hE⟩ := Eps.of_own hown
        injection e' with e1 _ e2
        subst e1 e2
        have hT3 := HT2.out.below hb4
        have hbw3 := below_step Hbw.out hb4
        have HE := Lib.hid hE
        have HT3 := Lib.hid hT3
        have Hbw3 := Lib.hid hbw3
        clear hE hT3 hbw3
        clear hown hb4
        go_wp2_with fail
        refine (new_any lA _ lc L _ HE.out (by have := HG.out.2.1; omega) (user_small HG.out)).mono ?_
        rintro e w4 (⟨_, g2, b2, rfl, hg2, hb2, hT4, hb5⟩ | ⟨hn, _⟩)
        case inr => exact absurd HG.out hn
        have hT5 := HT3.out.below hb5
        have hbw4 := below_step Hbw3.out hb5
        have hlt1 := HT3.out.1.lt
        have hlt2 := HT3.out.2.lt
        have hsz := Hbw3.out.size
        have HT4 := Lib.hid hT4
        have HT5 := Lib.hid hT5
        have Hbw4 := Lib.hid hbw4
        clear hT4 hT5 hbw4
        clear hb5
        go_wp2
        go_loopw [12, 13, 14, 15, 16, 54] (fun _ _ _ _ _ i wr => ∃ (k : Nat) (L : List Ep), k ≤ len' ∧ i = .int .i64 k ∧ GoodL L ∧ Tab wr g b L ∧ Tab wr g2 b2 L ∧ Below w.heap.size w wr) (fun _ _ _ _ _ i _ => len' - (intOf i).toNat)
        case atStart => exact ⟨0, L, by omega, rfl, HG.out, HT5.out, HT4.out, Hbw4.out⟩
        case round =>
          obtain ⟨k2, M, hk2, rfl, hG, hTa, hTb, hbw⟩ := hrel
          by_cases hlt : k2 < len'
          · obtain ⟨ob, off, rfl, hob⟩ := Ha'.out.at_some (by omega)
            obtain ⟨o, ho⟩ := Ha'.out.get hlt
            obtain ⟨c0, c1, c2⟩ := (Ha'.out.below hbw).cell hlt ho
            have Hou := Lib.hid (Ha'.out.2.2.2.2 o (List.mem_of_getElem? ho)).2
            obtain ⟨ok, ou, on⟩ := o
            dsimp only at c0 c1 c2
            have HGM := Lib.hid hG
            have hTa2 := hTa.below (below_new wr (.cells #[.int .i64 ok, .string ou, .int .i64 on] 32))
            have hTb2 := hTb.below (below_new wr (.cells #[.int .i64 ok, .string ou, .int .i64 on] 32))
            have hbw2 := below_alloc hbw (.cells #[.int .i64 ok, .string ou, .int .i64 on] 32)
            have hO := Blk.new wr 32 #[.int .i64 ok, .string ou, .int .i64 on]
            have hsw := hbw.size
            have hgw := hTb.1.lt
            have hgb := hTb.2.lt
            have hga := hTa.2.lt
            have HTa2 := Lib.hid hTa2
            have HTb2 := Lib.hid hTb2
            have Hbw2 := Lib.hid hbw2
            have HO := Lib.hid hO
            clear hTa2 hTb2 hbw2 hO
            clear hTa hTb hbw ho hG
            go_wp2_with fail
            refine (raise_all g b M ou _ HTa2.out HGM.out Hou.out).mono ?_
            rintro e w5 ⟨n5, v5, rfl, he5, hn5, hTa3, hk5⟩
            have hbw3 := below_kept Hbw2.out hk5 (fun i hi => by have := Hbw2.out.size; omega)
            have hTb3 := HTb2.out.keeps hk5 (by simp; omega) (by simp; omega)
            have hO2 := HO.out.keeps hk5 (by simp; omega)
            have q1 : w5.cell? ⟨wr.heap.size, 1, none⟩ = _ := hO2.cell 1
            have q2 := hO2.lt
            simp at q1
            have hk5s := hk5.size
            have HTa3 := Lib.hid hTa3
            have HTb3 := Lib.hid hTb3
            have Hbw3 := Lib.hid hbw3
            have He5 := Lib.hid he5
            have Hn5 := Lib.hid hn5
            clear hTa3 hTb3 hbw3 he5 hn5
            clear hk5 hO2
            go_wp2_with fail
            refine (raise_all g2 b2 M ou _ HTb3.out HGM.out Hou.out).mono ?_
            rintro e w6 ⟨n6, v6, rfl, he6, hn6, hTb4, hk6⟩
            have hbw4 := below_kept Hbw3.out hk6 (fun i hi => by have := Hbw3.out.size; omega)
            have hTa4 := HTa3.out.keeps hk6 (by simp; omega) (by simp; omega)
            have hnn : n5 = n6 := by rw [Hn5.out, hn6]
            subst hnn
            have HTa4 := Lib.hid hTa4
            have HTb4 := Lib.hid hTb4
            have Hbw4 := Lib.hid hbw4
            have He6 := Lib.hid he6
            clear hTa4 hTb4 hbw4 he6
            clear hk6 hn6
            generalize canC M ou (getL M ou + 1) = cc at He5 He6
            have hfin : Below w.heap.size w w6 := Hbw4.out
            have Hfin := Lib.hid (And.intro (raise_good HGM.out ou) (And.intro HTa4.out (And.intro HTb4.out hfin)))
            have hform : (v5 = .nilIface ∧ v6 = .nilIface) ∨ ∃ p q, v5 = .iface 92 (.pointer (some ⟨p, 0, none⟩)) ∧ v6 = .iface 92 (.pointer (some ⟨q, 0, none⟩)) := by
              by_cases hc : cc = 0
              · left
                constructor
                · rcases He5.out with ⟨_, h⟩ | ⟨h, _⟩; exact h; exact absurd hc h
                · rcases He6.out with ⟨_, h⟩ | ⟨h, _⟩; exact h; exact absurd hc h
              · right
                obtain ⟨p, hp⟩ := He5.out.form hc
                obtain ⟨q, hq⟩ := He6.out.form hc
                exact ⟨p, q, hp, hq⟩
            clear hfin He5 He6 Hn5
            rcases hform with ⟨rfl, rfl⟩ | ⟨p, q, rfl, rfl⟩
            all_goals
              go_wp2_with fail
              refine wp_region_mono nobody (by kernel_rfl) ?_
              -- 0 Op.move (Operand.tmp 13)
              refine wpMono_take' 0 (v := ?_) rfl (by kernel_rfl) (by kernel_rfl) (by kernel_rfl) (fun _ _ _ h => h) (by rfl) ?_ ?_
              rotate_left
              · (intro W hSw; have hcW := hSw.cells; try simp only [World.size_drew, World.cell?_drew] at hcW
                 go_simp; first | done | rfl)
              try simp only [Act.put, List.setIfInBounds_toArray, List.set_cons_zero, List.set_cons_succ]
              -- 1 Op.move (Operand.tmp 15)
              refine wpMono_take' 1 (v := ?_) rfl (by kernel_rfl) (by kernel_rfl) (by kernel_rfl) (fun _ _ _ h => h) (by rfl) ?_ ?_
              rotate_left
              · (intro W hSw; have hcW := hSw.cells; try simp only [World.size_drew, World.cell?_drew] at hcW
                 go_simp; first | done | rfl)
              try simp only [Act.put, List.setIfInBounds_toArray, List.set_cons_zero, List.set_cons_succ]
              -- 2 Op.binOp BinOp.neq 3 (Operand.tmp 72) (Operand.tmp 73) 3
              refine wpMono_take' 2 (v := ?_) rfl (by kernel_rfl) (by kernel_rfl) (by kernel_rfl) (fun _ _ _ h => h) (by rfl) ?_ ?_
              rotate_left
              · (intro W hSw; have hcW := hSw.cells; try simp only [World.size_drew, World.cell?_drew] at hcW
                 go_simp; first | done | rfl)
              try simp only [Act.put, List.setIfInBounds_toArray, List.set_cons_zero, List.set_cons_succ]
              -- 3 Op.move (Operand.tmp 74)
              refine wpMono_take' 3 (v := ?_) rfl (by kernel_rfl) (by kernel_rfl) (by kernel_rfl) (fun _ _ _ h => h) (by rfl) ?_ ?_
              rotate_left
              · (intro W hSw; have hcW := hSw.cells; try simp only [World.size_drew, World.cell?_drew] at hcW
                 go_simp; first | done | rfl)
              try simp only [Act.put, List.setIfInBounds_toArray, List.set_cons_zero, List.set_cons_succ]
              -- 4 Op.move (Operand.tmp 14)
              refine wpMono_take' 4 (v := ?_) rfl (by kernel_rfl) (by kernel_rfl) (by kernel_rfl) (fun _ _ _ h => h) (by rfl) ?_ ?_
              rotate_left
              · (intro W hSw; have hcW := hSw.cells; try simp only [World.size_drew, World.cell?_drew] at hcW
                 go_simp; first | done | rfl)
              try simp only [Act.put, List.setIfInBounds_toArray, List.set_cons_zero, List.set_cons_succ]
              -- 5 Op.binOp BinOp.eql 28 (Operand.tmp 76) (Operand.const Value.nilIface) 28
              refine wpMono_take' 5 (v := ?_) rfl (by kernel_rfl) (by kernel_rfl) (by kernel_rfl) (fun _ _ _ h => h) (by rfl) ?_ ?_
              rotate_left
              · (intro W hSw; have hcW := hSw.cells; try simp only [World.size_drew, World.cell?_drew] at hcW
                 go_simp; first | done | rfl)
              try simp only [Act.put, List.setIfInBounds_toArray, List.set_cons_zero, List.set_cons_succ]
              -- 6 Op.move (Operand.tmp 16)
              refine wpMono_take' 6 (v := ?_) rfl (by kernel_rfl) (by kernel_rfl) (by kernel_rfl) (fun _ _ _ h => h) (by rfl) ?_ ?_
              rotate_left
              · (intro W hSw; have hcW := hSw.cells; try simp only [World.size_drew, World.cell?_drew] at hcW
                 go_simp; first | done | rfl)
              try simp only [Act.put, List.setIfInBounds_toArray, List.set_cons_zero, List.set_cons_succ]
              -- 7 Op.binOp BinOp.eql 28 (Operand.tmp 78) (Operand.const Value.nilIface) 28
              refine wpMono_take' 7 (v := ?_) rfl (by kernel_rfl) (by kernel_rfl) (by kernel_rfl) (fun _ _ _ h => h) (by rfl) ?_ ?_
              rotate_left
              · (intro W hSw; have hcW := hSw.cells; try simp only [World.size_drew, World.cell?_drew] at hcW
                 go_simp; first | done | rfl)
              try simp only [Act.put, List.setIfInBounds_toArray, List.set_cons_zero, List.set_cons_succ]
              -- 8 Op.binOp BinOp.neq 4 (Operand.tmp 77) (Operand.tmp 79) 4
              refine wpMono_take' 8 (v := ?_) rfl (by kernel_rfl) (by kernel_rfl) (by kernel_rfl) (fun _ _ _ h => h) (by rfl) ?_ ?_
              rotate_left
              · (intro W hSw; have hcW := hSw.cells; try simp only [World.size_drew, World.cell?_drew] at hcW
                 go_simp; first | done | rfl)
              try simp only [Act.put, List.setIfInBounds_toArray, List.set_cons_zero, List.set_cons_succ]
              -- 9 Op.pick (Operand.tmp 75) (Operand.const (Value.bool true)) (Operand.tmp 80)
              refine wpMono_take' 9 (v := ?_) rfl (by kernel_rfl) (by kernel_rfl) (by kernel_rfl) (fun _ _ _ h => h) (by rfl) ?_ ?_
              rotate_left
              · (intro W hSw; have hcW := hSw.cells; try simp only [World.size_drew, World.cell?_drew] at hcW
                 go_simp; first | done | rfl)
              try simp only [Act.put, List.setIfInBounds_toArray, List.set_cons_zero, List.set_cons_succ]
              refine wpMono_done (by kernel_rfl) ?_ _
              go_wp2
              go_roundw
              case rel => exact ⟨k2 + 1, raiseL M ou, by omega, by go_num, Hfin.out.1, by exact Hfin.out.2.1.keeps (X := nobody) .drew (fun h => h) (fun h => h), by exact Hfin.out.2.2.1.keeps (X := nobody) .drew (fun h => h) (fun h => h), by exact Hfin.out.2.2.2.drew⟩
              case measure => simp [intOf]; omega
          · have HGM := Lib.hid hG
            have HTa2 := Lib.hid hTa
            have HTb2 := Lib.hid hTb
            have Hbw := Lib.hid hbw
            clear hbw
            clear hTa hTb hG
            go_wp2_with fail
            refine (list_any g b M _ HTa2.out (by have := HGM.out.2.1; omega) (user_small HGM.out)).mono ?_
            rintro e w5 ⟨xA, xc, rfl, hown, hb5⟩
            obtain ⟨xA', xc', e', hE5⟩ := Eps.of_own hown
            injection e' with e1 _ e2
            subst e1 e2
            have hTb3 := HTb2.out.below hb5
            have hbw5 := below_step Hbw.out hb5
            have HE5 := Lib.hid hE5
            have HTb3 := Lib.hid hTb3
            have Hbw5 := Lib.hid hbw5
            clear hE5 hTb3 hbw5
            clear hown hb5
            go_wp2_with fail
            refine (list_any g2 b2 M _ HTb3.out (by have := HGM.out.2.1; omega) (user_small HGM.out)).mono ?_
            rintro e w6 ⟨yA, yc, rfl, hown, hb6⟩
            obtain ⟨yA', yc', e', hE6⟩ := Eps.of_own hown
            injection e' with e1 _ e2
            subst e1 e2
            have hE5' := (HE5.out.below hb6).more hb6.size
            have hbw6 := below_step Hbw5.out hb6
            have HE6 := Lib.hid hE6
            have HE5' := Lib.hid hE5'
            have Hbw6 := Lib.hid hbw6
            clear hE6 hE5' hbw6
            clear hown hb6
            go_wp2_with fail
            refine (same_any _ _ _ _ _ _ _ HE5'.out HE6.out).mono ?_
            rintro e w7 ⟨rfl, hb7⟩
            have hbw7 := below_step Hbw6.out hb7
            have Hbw7 := Lib.hid hbw7
            clear hbw7
            clear hb7
            go_wp2
            go_ret
            exact ⟨rfl, Hbw7.out⟩
end Go.Proofs.Ytojmnkcncjconaa.wEpochBack
