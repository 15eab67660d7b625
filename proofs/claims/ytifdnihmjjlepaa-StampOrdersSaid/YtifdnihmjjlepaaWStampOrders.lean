/- The walk of the law StampOrders. -/
import Derived.Test.YtifdnihmjjlepaaAwake
import Derived.Test.YtifdnihmjjlepaaGreat
namespace Go.Proofs.Ytifdnihmjjlepaa.wStampOrders
open Go.RowKit Go.Proofs.Ytifdnihmjjlepaa.base Go.Proofs.Ytifdnihmjjlepaa.is_ Go.Proofs.Ytifdnihmjjlepaa.clock Go.Proofs.Ytifdnihmjjlepaa.awake Go.Proofs.Ytifdnihmjjlepaa.stamps Go.Proofs.Ytifdnihmjjlepaa.cmp Go.Proofs.Ytifdnihmjjlepaa.great

def eqB (a b : St) : Bool := a.t == b.t && a.r == b.r
theorem eql_st (a b c d : Int) (w : World) : (binOp .eql 31 (.agg #[.int .i64 a, .int .i64 b]) (.agg #[.int .i64 c, .int .i64 d])).run Try.prog w = .ok (.bool (eqB ⟨a, b⟩ ⟨c, d⟩)) w := by
  have hp : Try.prog.stoodInHeld 31 = false := by kernel_rfl
  unfold eqB
  cases h1 : (a == c) <;> cases h2 : (b == d) <;> simp [go_sem, Try.underlying31, Try.underlying3, h1, h2, hp] <;> simp_all
theorem eqB_law (a b : St) : (eqB a b == (lt a b != lt b a)) = false := by
  have h : (eqB a b = true ∧ lt a b = false ∧ lt b a = false) ∨ (eqB a b = false ∧ lt a b = true ∧ lt b a = false) ∨ (eqB a b = false ∧ lt a b = false ∧ lt b a = true) := by
    unfold eqB
    simp only [lt_false, lt_iff, Bool.and_eq_true, Bool.and_eq_false_iff, beq_iff_eq, beq_eq_false_iff_ne]
    omega
  rcases h with ⟨h1, h2, h3⟩ | ⟨h1, h2, h3⟩ | ⟨h1, h2, h3⟩ <;> simp [h1, h2, h3]
theorem less_prog (a b : St) (w : World) : Calls Try.prog 12 #[.agg #[.int .i64 a.t, .int .i64 a.r], .agg #[.int .i64 b.t, .int .i64 b.r]] w fun e w' => e = .returned (.bool (lt a b)) ∧ Below w.heap.size w w' :=
  (less_stamp _ _ _ _ w).mono fun e w' ⟨h1, h2⟩ => ⟨by rw [h1, lessS_eq]; rfl, h2⟩
theorem less_doc (a b : St) (w : World) : Calls Try.prog 15 #[.agg #[.int .i64 a.t, .int .i64 a.r], .agg #[.int .i64 b.t, .int .i64 b.r]] w fun e w' => e = .returned (.bool (lt a b)) ∧ Below w.heap.size w w' := less_ref _ _ _ _ w
theorem both {w w' : World} {g h : Nat} {t : TypeId} {a b c d : Value} (hb : Below w.heap.size w w') (X : Blk w g t #[a, b]) (Y : Blk w h t #[c, d]) :
    (Blk w' g t #[a, b] ∧ Blk w' h t #[c, d]) ∧ w'.cell? ⟨g, 0, none⟩ = some a ∧ w'.cell? ⟨g, 1, none⟩ = some b ∧ w'.cell? ⟨h, 0, none⟩ = some c ∧ w'.cell? ⟨h, 1, none⟩ = some d ∧ g < w'.heap.size ∧ h < w'.heap.size :=
  have X' := X.below hb X.lt
  have Y' := Y.below hb Y.lt
  ⟨⟨X', Y'⟩, X'.cell 0, X'.cell 1, Y'.cell 0, Y'.cell 1, X'.lt, Y'.lt⟩
set_option maxRecDepth 100000 in
set_option maxHeartbeats 1600000 in
theorem walk (v0 : Value) (w : World) (a0 : Arg Try.prog w 22 v0) :
    Calls Try.prog 6 #[v0] w fun e w' => e = .returned (.bool true) ∧ Below w.heap.size w w' := by
  obtain ⟨A, len, cap, l, rfl, hz, _⟩ := sts_arg a0
  clear a0
  have hlc := hz.2.1
  have hcm := hz.2.2.1
  unfold maxLen at hcm
  have Hz := Lib.hid hz
  clear hz
  by_cases h100 : len ≤ 100
  · go_enter Try.func6, Try.ntmps6
    go_wp2_with fail
    refine (awake_any _).mono ?_
    rintro e w1 ⟨rfl, hb1⟩
    have Hz1 := Lib.hid (Hz.out.below hb1)
    have Hb1 := Lib.hid hb1
    clear hb1
    go_wp2
    go_loopw [4, 6, 18] (fun _ _ i wr => ∃ n : Nat, n ≤ len ∧ i = .int .i64 n ∧ Below w1.heap.size w1 wr) (fun _ _ i _ => len - (intOf i).toNat)
    case atStart => exact ⟨0, by omega, rfl, Below.refl _ _⟩
    case round =>
      obtain ⟨n, hn, rfl, hbw⟩ := hrel
      have Hbw := Lib.hid hbw
      clear hbw
      by_cases hlt : n < len
      · obtain ⟨b, off, rfl, hb⟩ := Hz.out.at_some (by omega)
        obtain ⟨x, hx⟩ := Hz.out.get hlt
        obtain ⟨hx0, hx1⟩ := ((Hz1.out.more Hb1.out.size).below Hbw.out).cell hlt hx
        obtain ⟨xt, xr⟩ := x
        dsimp only at hx0 hx1
        clear hx
        obtain ⟨wo, rfl⟩ : ∃ wo : World, wo = wr := ⟨_, rfl⟩
        have hX := Blk.new wo 31 #[.int .i64 xt, .int .i64 xr]
        have hB2 := below_alloc Hbw.out (.cells #[.int .i64 xt, .int .i64 xr] 31)
        have HX := Lib.hid hX
        have HB2 := Lib.hid hB2
        clear hX hB2
        go_wp2
        go_loopw [6, 24] (fun _ j wr => ∃ m : Nat, m ≤ len ∧ j = .int .i64 m ∧ Below (wo.heap.size + 1) (wo.alloc (.cells #[.int .i64 xt, .int .i64 xr] 31)) wr) (fun _ j _ => len - (intOf j).toNat)
        case atStart => exact ⟨0, by omega, rfl, Below.refl _ _⟩
        case round =>
          obtain ⟨m, hm, rfl, hbq⟩ := hrel
          have Hbq := Lib.hid hbq
          clear hbq
          have hbq' : Below w1.heap.size w1 wr := HB2.out.trans (Hbq.out.mono (by have := Hbw.out.size; omega))
          have Hbq' := Lib.hid hbq'
          clear hbq'
          by_cases hml : m < len
          · obtain ⟨y, hy⟩ := Hz.out.get hml
            obtain ⟨hy0, hy1⟩ := ((Hz1.out.more Hb1.out.size).below Hbq'.out).cell hml hy
            obtain ⟨yt, yr⟩ := y
            dsimp only at hy0 hy1
            have hX2 := HX.out.below Hbq.out (by omega)
            have hx2 := hX2.cell 0
            have hx3 := hX2.cell 1
            simp at hx2 hx3
            have hxl := hX2.lt
            have hbl := Nat.lt_of_lt_of_le (Nat.lt_of_lt_of_le hb Hb1.out.size) Hbq'.out.size
            have heq := eql_st xt xr yt yr
            have hlaw := Lib.hid (eqB_law ⟨xt, xr⟩ ⟨yt, yr⟩)
            have hXY := Lib.hid (And.intro (hX2.alloc (.cells #[.int .i64 yt, .int .i64 yr] 31)) (Blk.new wr 31 #[.int .i64 yt, .int .i64 yr]))
            clear hy hX2 hx0 hx1
            go_wp2_with fail
            refine wp_region_mono nobody (by kernel_rfl) ?_
            -- 0 Op.load 31 (Operand.tmp 4)
            refine wpMono_take' 0 (v := ?_) rfl (by kernel_rfl) (by kernel_rfl) (by kernel_rfl) (fun _ _ _ h => h) (by rfl) ?_ ?_
            rotate_left
            · (intro W hSw; have hcW := hSw.cells; try simp only [World.size_drew, World.cell?_drew] at hcW
               go_simp; first | done | rfl)
            try simp only [Act.put, List.setIfInBounds_toArray, List.set_cons_zero, List.set_cons_succ]
            -- 1 Op.load 31 (Operand.tmp 6)
            refine wpMono_take' 1 (v := ?_) rfl (by kernel_rfl) (by kernel_rfl) (by kernel_rfl) (fun _ _ _ h => h) (by rfl) ?_ ?_
            rotate_left
            · (intro W hSw; have hcW := hSw.cells; try simp only [World.size_drew, World.cell?_drew] at hcW
               go_simp; first | done | rfl)
            try simp only [Act.put, List.setIfInBounds_toArray, List.set_cons_zero, List.set_cons_succ]
            -- 3 Op.load 31 (Operand.tmp 4)
            refine wpMono_take' 3 (v := ?_) rfl (by kernel_rfl) (by kernel_rfl) (by kernel_rfl) (fun _ _ _ h => h) (by rfl) ?_ ?_
            rotate_left
            · (intro W hSw; have hcW := hSw.cells; try simp only [World.size_drew, World.cell?_drew] at hcW
               go_simp; first | done | rfl)
            try simp only [Act.put, List.setIfInBounds_toArray, List.set_cons_zero, List.set_cons_succ]
            -- 4 Op.load 31 (Operand.tmp 6)
            refine wpMono_take' 4 (v := ?_) rfl (by kernel_rfl) (by kernel_rfl) (by kernel_rfl) (fun _ _ _ h => h) (by rfl) ?_ ?_
            rotate_left
            · (intro W hSw; have hcW := hSw.cells; try simp only [World.size_drew, World.cell?_drew] at hcW
               go_simp; first | done | rfl)
            try simp only [Act.put, List.setIfInBounds_toArray, List.set_cons_zero, List.set_cons_succ]
            -- EFFECT 2 Op.call { callee := Callee.value (Operand.func 12), args := #[Operand.tmp 28, Operand.tmp 29], argTypes := #[31, 31] }
            refine wpMono_one' 2 (by kernel_rfl) rfl (by rfl) (fun K hK => ?_)
            go_simp
            refine (less_prog ⟨xt, xr⟩ ⟨yt, yr⟩ _).mono ?_
            rintro e w2 ⟨rfl, hb2⟩
            have hb2' := below_ofDrew hb2
            obtain ⟨hf2, c20, c21, c22, c23, c24, c25⟩ := both hb2' hXY.out.1 hXY.out.2
            have HF2 := Lib.hid hf2
            have HV2 := Lib.hid (below_step Hbq'.out (below_step (below_new wr _) hb2'))
            clear hf2 hb2' hy0 hy1 hx2 hx3 hxl hbl
            refine hK.out _ _ ?_ ?_
            · exact .of_below hb2
            clear hK K
            try simp only [Act.put, List.setIfInBounds_toArray, List.set_cons_zero, List.set_cons_succ]
            -- EFFECT 5 Op.call { callee := Callee.value (Operand.func 15), args := #[Operand.tmp 31, Operand.tmp 32], argTypes := #[31, 31] }
            refine wpMono_one' 5 (by kernel_rfl) rfl (by rfl) (fun K hK => ?_)
            go_simp
            refine (less_doc ⟨xt, xr⟩ ⟨yt, yr⟩ _).mono ?_
            rintro e w3 ⟨rfl, hb3⟩
            obtain ⟨hf3, c30, c31, c32, c33, c34, c35⟩ := both hb3 HF2.out.1 HF2.out.2
            have HF3 := Lib.hid hf3
            have HV3 := Lib.hid (below_step HV2.out hb3)
            clear hf3 c20 c21 c22 c23 c24 c25
            refine hK.out _ _ ?_ ?_
            · exact .of_below hb3
            clear hK K
            try simp only [Act.put, List.setIfInBounds_toArray, List.set_cons_zero, List.set_cons_succ]
            -- 6 Op.binOp BinOp.neq 4 (Operand.tmp 30) (Operand.tmp 33) 4
            refine wpMono_take' 6 (v := ?_) rfl (by kernel_rfl) (by kernel_rfl) (by kernel_rfl) (fun _ _ _ h => h) (by rfl) ?_ ?_
            rotate_left
            · (intro W hSw; have hcW := hSw.cells; try simp only [World.size_drew, World.cell?_drew] at hcW
               go_simp; first | done | rfl)
            try simp only [Act.put, List.setIfInBounds_toArray, List.set_cons_zero, List.set_cons_succ]
            -- 7 Op.move (Operand.tmp 34)
            refine wpMono_take' 7 (v := ?_) rfl (by kernel_rfl) (by kernel_rfl) (by kernel_rfl) (fun _ _ _ h => h) (by rfl) ?_ ?_
            rotate_left
            · (intro W hSw; have hcW := hSw.cells; try simp only [World.size_drew, World.cell?_drew] at hcW
               go_simp; first | done | rfl)
            try simp only [Act.put, List.setIfInBounds_toArray, List.set_cons_zero, List.set_cons_succ]
            -- 8 Op.load 31 (Operand.tmp 4)
            refine wpMono_take' 8 (v := ?_) rfl (by kernel_rfl) (by kernel_rfl) (by kernel_rfl) (fun _ _ _ h => h) (by rfl) ?_ ?_
            rotate_left
            · (intro W hSw; have hcW := hSw.cells; try simp only [World.size_drew, World.cell?_drew] at hcW
               go_simp; first | done | rfl)
            try simp only [Act.put, List.setIfInBounds_toArray, List.set_cons_zero, List.set_cons_succ]
            -- 9 Op.load 31 (Operand.tmp 6)
            refine wpMono_take' 9 (v := ?_) rfl (by kernel_rfl) (by kernel_rfl) (by kernel_rfl) (fun _ _ _ h => h) (by rfl) ?_ ?_
            rotate_left
            · (intro W hSw; have hcW := hSw.cells; try simp only [World.size_drew, World.cell?_drew] at hcW
               go_simp; first | done | rfl)
            try simp only [Act.put, List.setIfInBounds_toArray, List.set_cons_zero, List.set_cons_succ]
            -- 10 Op.binOp BinOp.eql 31 (Operand.tmp 36) (Operand.tmp 37) 31
            refine wpMono_take' 10 (v := ?_) rfl (by kernel_rfl) (by kernel_rfl) (by kernel_rfl) (fun _ _ _ h => h) (by rfl) ?_ ?_
            rotate_left
            · (intro W hSw; have hcW := hSw.cells; try simp only [World.size_drew, World.cell?_drew] at hcW
               go_simp; first | done | rfl)
            try simp only [Act.put, List.setIfInBounds_toArray, List.set_cons_zero, List.set_cons_succ]
            -- 11 Op.load 31 (Operand.tmp 4)
            refine wpMono_take' 11 (v := ?_) rfl (by kernel_rfl) (by kernel_rfl) (by kernel_rfl) (fun _ _ _ h => h) (by rfl) ?_ ?_
            rotate_left
            · (intro W hSw; have hcW := hSw.cells; try simp only [World.size_drew, World.cell?_drew] at hcW
               go_simp; first | done | rfl)
            try simp only [Act.put, List.setIfInBounds_toArray, List.set_cons_zero, List.set_cons_succ]
            -- 12 Op.load 31 (Operand.tmp 6)
            refine wpMono_take' 12 (v := ?_) rfl (by kernel_rfl) (by kernel_rfl) (by kernel_rfl) (fun _ _ _ h => h) (by rfl) ?_ ?_
            rotate_left
            · (intro W hSw; have hcW := hSw.cells; try simp only [World.size_drew, World.cell?_drew] at hcW
               go_simp; first | done | rfl)
            try simp only [Act.put, List.setIfInBounds_toArray, List.set_cons_zero, List.set_cons_succ]
            -- 14 Op.load 31 (Operand.tmp 6)
            refine wpMono_take' 14 (v := ?_) rfl (by kernel_rfl) (by kernel_rfl) (by kernel_rfl) (fun _ _ _ h => h) (by rfl) ?_ ?_
            rotate_left
            · (intro W hSw; have hcW := hSw.cells; try simp only [World.size_drew, World.cell?_drew] at hcW
               go_simp; first | done | rfl)
            try simp only [Act.put, List.setIfInBounds_toArray, List.set_cons_zero, List.set_cons_succ]
            -- 15 Op.load 31 (Operand.tmp 4)
            refine wpMono_take' 15 (v := ?_) rfl (by kernel_rfl) (by kernel_rfl) (by kernel_rfl) (fun _ _ _ h => h) (by rfl) ?_ ?_
            rotate_left
            · (intro W hSw; have hcW := hSw.cells; try simp only [World.size_drew, World.cell?_drew] at hcW
               go_simp; first | done | rfl)
            try simp only [Act.put, List.setIfInBounds_toArray, List.set_cons_zero, List.set_cons_succ]
            -- EFFECT 13 Op.call { callee := Callee.value (Operand.func 12), args := #[Operand.tmp 39, Operand.tmp 40], argTypes := #[31, 31] }
            refine wpMono_one' 13 (by kernel_rfl) rfl (by rfl) (fun K hK => ?_)
            go_simp
            refine (less_prog ⟨xt, xr⟩ ⟨yt, yr⟩ _).mono ?_
            rintro e w4 ⟨rfl, hb4⟩
            obtain ⟨hf4, c40, c41, c42, c43, c44, c45⟩ := both hb4 HF3.out.1 HF3.out.2
            have HF4 := Lib.hid hf4
            have HV4 := Lib.hid (below_step HV3.out hb4)
            clear hf4 c30 c31 c32 c33 c34 c35
            refine hK.out _ _ ?_ ?_
            · exact .of_below hb4
            clear hK K
            try simp only [Act.put, List.setIfInBounds_toArray, List.set_cons_zero, List.set_cons_succ]
            -- EFFECT 16 Op.call { callee := Callee.value (Operand.func 12), args := #[Operand.tmp 42, Operand.tmp 43], argTypes := #[31, 31] }
            refine wpMono_one' 16 (by kernel_rfl) rfl (by rfl) (fun K hK => ?_)
            go_simp
            refine (less_prog ⟨yt, yr⟩ ⟨xt, xr⟩ _).mono ?_
            rintro e w5 ⟨rfl, hb5⟩
            obtain ⟨hf5, c50, c51, c52, c53, c54, c55⟩ := both hb5 HF4.out.1 HF4.out.2
            have HF5 := Lib.hid hf5
            have HV5 := Lib.hid (below_step HV4.out hb5)
            clear hf5 c40 c41 c42 c43 c44 c45
            refine hK.out _ _ ?_ ?_
            · exact .of_below hb5
            clear hK K
            try simp only [Act.put, List.setIfInBounds_toArray, List.set_cons_zero, List.set_cons_succ]
            -- 17 Op.binOp BinOp.neq 4 (Operand.tmp 41) (Operand.tmp 44) 4
            refine wpMono_take' 17 (v := ?_) rfl (by kernel_rfl) (by kernel_rfl) (by kernel_rfl) (fun _ _ _ h => h) (by rfl) ?_ ?_
            rotate_left
            · (intro W hSw; have hcW := hSw.cells; try simp only [World.size_drew, World.cell?_drew] at hcW
               go_simp; first | done | rfl)
            try simp only [Act.put, List.setIfInBounds_toArray, List.set_cons_zero, List.set_cons_succ]
            -- 18 Op.binOp BinOp.eql 4 (Operand.tmp 38) (Operand.tmp 45) 4
            refine wpMono_take' 18 (v := ?_) rfl (by kernel_rfl) (by kernel_rfl) (by kernel_rfl) (fun _ _ _ h => h) (by rfl) ?_ ?_
            rotate_left
            · (intro W hSw; have hcW := hSw.cells; try simp only [World.size_drew, World.cell?_drew] at hcW
               go_simp; first | done | rfl)
            try simp only [Act.put, List.setIfInBounds_toArray, List.set_cons_zero, List.set_cons_succ]
            -- 19 Op.pick (Operand.tmp 35) (Operand.const (Value.bool true)) (Operand.tmp 46)
            refine wpMono_take' 19 (v := ?_) rfl (by kernel_rfl) (by kernel_rfl) (by kernel_rfl) (fun _ _ _ h => h) (by rfl) ?_ ?_
            rotate_left
            · (intro W hSw; have hcW := hSw.cells; try simp only [World.size_drew, World.cell?_drew] at hcW
               go_simp; first | done | rfl)
            try simp only [Act.put, List.setIfInBounds_toArray, List.set_cons_zero, List.set_cons_succ]
            refine wpMono_done (by kernel_rfl) ?_ _
            have hl := hlaw.out
            have hbw5 : Below (wo.heap.size + 1) (wo.alloc (.cells #[.int .i64 xt, .int .i64 xr] 31)) w5 := by
              refine Hbq.out.trans ?_
              have h1 : Below wr.heap.size wr w5 := below_step (below_step (below_step (below_step (below_new wr _) (below_ofDrew hb2)) hb3) (below_step hb4 hb5)) (Below.refl _ _)
              exact h1.mono (by have := Hbq.out.size; simpa using this)
            have Hbw5 := Lib.hid hbw5
            clear hbw5
            clear c50 c51 c52 c53 c54 c55 hb2 hb3 hb4 hb5 heq hlaw
            generalize eqB ⟨xt, xr⟩ ⟨yt, yr⟩ = e1 at hl ⊢
            generalize lt ⟨xt, xr⟩ ⟨yt, yr⟩ = e2 at hl ⊢
            generalize lt ⟨yt, yr⟩ ⟨xt, xr⟩ = e3 at hl ⊢
            cases e1 <;> cases e2 <;> cases e3
            all_goals first
              | (exfalso; revert hl; decide)
              | (clear hl
                 go_wp2
                 go_roundw
                 case rel => exact ⟨m + 1, by omega, by go_num, Hbw5.out⟩
                 case measure => simp [intOf]; omega)
          · clear hx0 hx1
            go_wp2
            go_roundw
            case rel => exact ⟨n + 1, by omega, by go_num, Hbq'.out⟩
            case measure => simp [intOf]; omega
      · obtain rfl : n = len := by omega
        have hzr := (Hz1.out.more Hb1.out.size).below Hbw.out
        have hz3 := hzr.more Hbw.out.size
        have Hz3 := Lib.hid hz3
        clear hz3
        clear hzr
        obtain ⟨gt, gr, ok, hg⟩ : ∃ gt gr ok, greatE l = .tuple #[.agg #[.int .i64 gt, .int .i64 gr], .bool ok] := by
          unfold greatE
          split
          · exact ⟨_, _, _, rfl⟩
          · exact ⟨_, _, _, rfl⟩
        have hc1 := greatest_any A n cap l wr Hz3.out (by omega)
        rw [hg] at hc1
        have Hg := Lib.hid hg; clear hg
        go_wp2_with fail
        refine (hc1).mono ?_
        rintro e w2 ⟨rfl, hb2⟩
        clear hc1
        have hz4 := ((Hz3.out.below hb2).more hb2.size).below (below_new w2 (.cells #[.int .i64 gt, .int .i64 gr] 31))
        have hc2 := ref_any A n cap l (w2.alloc (.cells #[.int .i64 gt, .int .i64 gr] 31)) (hz4.more (by simp)) (by omega)
        rw [Hg.out] at hc2
        have hb3 := below_alloc (below_step Hb1.out (below_step Hbw.out hb2)) (.cells #[.int .i64 gt, .int .i64 gr] 31)
        have hN := Blk.new w2 31 #[.int .i64 gt, .int .i64 gr]
        have Hb3 := Lib.hid hb3
        have HN := Lib.hid hN
        clear hb3 hN
        clear hb2 hz4
        go_wp2_with fail
        refine (hc2).mono ?_
        rintro e w3 ⟨rfl, hb4⟩
        clear hc2
        have hN2 := HN.out.below hb4 HN.out.lt
        have hN0 := hN2.cell 0
        have hN1 := hN2.cell 1
        have hNl := hN2.lt
        simp at hN0 hN1
        have hb5 := below_alloc (below_step Hb3.out hb4) (.cells #[.int .i64 gt, .int .i64 gr] 31)
        have Hb5 := Lib.hid hb5
        clear hb5
        clear hb4 hN2
        go_wp2
        go_ret
        exact ⟨ret_bool (by simp), Hb5.out⟩
  · have hl : decide (100 < (len : Int)) = true := by simp; omega
    go_enter Try.func6, Try.ntmps6
    go_wp2_with fail
    refine (awake_any _).mono ?_
    rintro e w1 ⟨rfl, hb1⟩
    have Hb1 := Lib.hid hb1
    clear hb1
    go_wp2
    go_ret
    exact ⟨rfl, Hb1.out⟩
end Go.Proofs.Ytifdnihmjjlepaa.wStampOrders
