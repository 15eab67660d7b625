/- The walk of the reference's Merge: what it returns; nothing that was there is written. -/
import Derived.Test.YtgfamdakjcjdkaaDoorLaw
namespace Go.Proofs.YtgfamdakjcjdkaaDoor.refmerge
open Go.RowKit Go.Proofs.YtgfamdakjcjdkaaDoor.base Go.Proofs.YtgfamdakjcjdkaaDoor.cmp Go.Proofs.YtgfamdakjcjdkaaDoor.above Go.Proofs.YtgfamdakjcjdkaaDoor.merge Go.Proofs.YtgfamdakjcjdkaaDoor.law

set_option maxRecDepth 10000 in
set_option maxHeartbeats 4000000 in
theorem merge_ref (A : Option Addr) (len cap : Nat) (cs : List C) (w : World) (hl : cs.length = len) (hm : len ≤ maxLen) (hr : Reads w w.heap.size 5 A len (cs.flatMap C.cells)) :
    Calls Tryd.prog 39 #[.slice A len cap] w fun e w' => e = .returned (cval (rmFrom cs cs)) ∧ Below w.heap.size w w' := by
  unfold maxLen at hm
  have Hl := Lib.hid hl; clear hl
  have Hr := Lib.hid hr; clear hr
  generalize hR : rmFrom cs cs = R
  have HR := Lib.hid hR; clear hR
  go_enter Tryd.func39, Tryd.ntmps39
  go_wp2
  go_loopw [3, 4, 5] (fun i _ _ wr => ∃ n : Nat, n ≤ len ∧ i = .int .i64 n ∧ R = rmFrom cs (cs.drop n) ∧ Blk wr w.heap.size 33 #[.int .i64 0, .int .i64 0, .string ⟨#[]⟩, .bool false, .int .i64 0] ∧ Below w.heap.size w wr) (fun i _ _ _ => len - (intOf i).toNat)
  case atStart => exact ⟨0, by omega, rfl, HR.out.symm, Blk.new w 33 _, (Below.refl _ _).alloc (Nat.le_refl _) _⟩
  case round =>
    clear HR
    obtain ⟨n, hn, rfl, hR, hres, hb⟩ := hrel
    by_cases hlt : n < len
    · obtain ⟨b, off, hA, hblt, hc⟩ := (Hr.out.below hb).2 (by omega)
      subst hA
      have hnc : n < cs.length := by rw [Hl.out]; exact hlt
      rw [List.drop_eq_getElem_cons hnc] at hR
      obtain ⟨c, hcn⟩ : ∃ c, cs[n] = c := ⟨_, rfl⟩
      rw [hcn] at hR
      have Hcn := Lib.hid hcn
      clear hcn
      unfold rmFrom at hR
      have HR := Lib.hid hR; clear hR hc
      have Hres := Lib.hid hres; clear hres
      have Hb := Lib.hid hb; clear hb
      obtain ⟨t, r, v, g, l⟩ := c
      go_wp2
      go_loopw [4, 5] (fun x k wr => ∃ m : Nat, m ≤ len ∧ k = .int .i64 m ∧ x = .bool ((cs.take m).all fun x => !above x ⟨t, r, v, g, l⟩) ∧ Blk wr w.heap.size 33 #[.int .i64 0, .int .i64 0, .string ⟨#[]⟩, .bool false, .int .i64 0] ∧ Below w.heap.size w wr) (fun _ k _ => len - (intOf k).toNat)
      case atStart => exact ⟨0, by omega, rfl, rfl, Hres.out, Hb.out⟩
      case round =>
        clear Hres Hb
        obtain ⟨m, hm2, rfl, rfl, hres, hb⟩ := hrel
        by_cases hlt2 : m < len
        · obtain ⟨b2, off2, hA, _, hc⟩ := (Hr.out.below hb).2 (by omega)
          injection hA with hA; injection hA with hA1 hA2 _
          subst hA1 hA2
          have hmc : m < cs.length := by rw [Hl.out]; exact hlt2
          obtain ⟨c0, c1, c2, c3, c4⟩ := cells_at hc hnc
          obtain ⟨d0, d1, d2, d3, d4⟩ := cells_at hc hmc
          have htk : (cs.take (m + 1)).all (fun x => !above x ⟨t, r, v, g, l⟩) = ((cs.take m).all (fun x => !above x ⟨t, r, v, g, l⟩) && !above cs[m] ⟨t, r, v, g, l⟩) := by
            rw [List.take_succ_eq_append_getElem hmc, List.all_append]; simp
          rw [Hcn.out] at c0 c1 c2 c3 c4
          generalize cs[m] = cb at *
          obtain ⟨t', r', v', g', l'⟩ := cb
          dsimp only at c0 c1 c2 c3 c4 d0 d1 d2 d3 d4
          have hbs := hb.size
          have hbl := Nat.lt_of_lt_of_le hblt hbs
          generalize (cs.take m).all (fun x => !above x ⟨t, r, v, g, l⟩) = bt at htk ⊢
          have Htk := Lib.hid htk; clear htk hc
          have Hres := Lib.hid hres; clear hres
          have Hb := Lib.hid hb; clear hb
          cases bt with
          | false =>
            go_wp2_with fail
            refine wp_region_mono nobody (by kernel_rfl) ?_
            -- 0 Op.move (Operand.tmp 4)
            refine wpMono_take' 0 (v := ?_) rfl (by kernel_rfl) (by kernel_rfl) (by kernel_rfl) (fun _ _ _ h => h) (by rfl) ?_ ?_
            rotate_left
            · (intro W hSw; have hcW := hSw.cells; try simp only [World.size_drew, World.cell?_drew] at hcW
               go_simp; first | done | rfl)
            try simp only [Act.put, List.setIfInBounds_toArray, List.set_cons_zero, List.set_cons_succ]
            -- 1 Op.move (Operand.tmp 18)
            refine wpMono_take' 1 (v := ?_) rfl (by kernel_rfl) (by kernel_rfl) (by kernel_rfl) (fun _ _ _ h => h) (by rfl) ?_ ?_
            rotate_left
            · (intro W hSw; have hcW := hSw.cells; try simp only [World.size_drew, World.cell?_drew] at hcW
               go_simp; first | done | rfl)
            try simp only [Act.put, List.setIfInBounds_toArray, List.set_cons_zero, List.set_cons_succ]
            -- 2 Op.move (Operand.tmp 0)
            refine wpMono_skip' 2 rfl (by kernel_rfl) (by kernel_rfl) (by kernel_rfl) (fun _ _ _ h => h) (by rfl) ?_
            try simp only [Act.put, List.setIfInBounds_toArray, List.set_cons_zero, List.set_cons_succ]
            -- 3 Op.move (Operand.tmp 5)
            refine wpMono_skip' 3 rfl (by kernel_rfl) (by kernel_rfl) (by kernel_rfl) (fun _ _ _ h => h) (by rfl) ?_
            try simp only [Act.put, List.setIfInBounds_toArray, List.set_cons_zero, List.set_cons_succ]
            -- 4 Op.indexAddr 34 (Operand.tmp 20) (Operand.tmp 21)
            refine wpMono_skip' 4 rfl (by kernel_rfl) (by kernel_rfl) (by kernel_rfl) (fun _ _ _ h => h) (by rfl) ?_
            try simp only [Act.put, List.setIfInBounds_toArray, List.set_cons_zero, List.set_cons_succ]
            -- 5 Op.load 31 (Operand.tmp 22)
            refine wpMono_skip' 5 rfl (by kernel_rfl) (by kernel_rfl) (by kernel_rfl) (fun _ _ _ h => h) (by rfl) ?_
            try simp only [Act.put, List.setIfInBounds_toArray, List.set_cons_zero, List.set_cons_succ]
            -- 6 Op.move (Operand.tmp 0)
            refine wpMono_skip' 6 rfl (by kernel_rfl) (by kernel_rfl) (by kernel_rfl) (fun _ _ _ h => h) (by rfl) ?_
            try simp only [Act.put, List.setIfInBounds_toArray, List.set_cons_zero, List.set_cons_succ]
            -- 7 Op.move (Operand.tmp 3)
            refine wpMono_skip' 7 rfl (by kernel_rfl) (by kernel_rfl) (by kernel_rfl) (fun _ _ _ h => h) (by rfl) ?_
            try simp only [Act.put, List.setIfInBounds_toArray, List.set_cons_zero, List.set_cons_succ]
            -- 8 Op.indexAddr 34 (Operand.tmp 24) (Operand.tmp 25)
            refine wpMono_skip' 8 rfl (by kernel_rfl) (by kernel_rfl) (by kernel_rfl) (fun _ _ _ h => h) (by rfl) ?_
            try simp only [Act.put, List.setIfInBounds_toArray, List.set_cons_zero, List.set_cons_succ]
            -- 9 Op.load 31 (Operand.tmp 26)
            refine wpMono_skip' 9 rfl (by kernel_rfl) (by kernel_rfl) (by kernel_rfl) (fun _ _ _ h => h) (by rfl) ?_
            try simp only [Act.put, List.setIfInBounds_toArray, List.set_cons_zero, List.set_cons_succ]
            -- 10 Op.call { callee := Callee.value (Operand.func 12), args := #[Operand.tmp 23, Operand.tmp 
            refine wpMono_skip' 10 rfl (by kernel_rfl) (by kernel_rfl) (by kernel_rfl) (fun _ _ _ h => h) (by rfl) ?_
            try simp only [Act.put, List.setIfInBounds_toArray, List.set_cons_zero, List.set_cons_succ]
            -- 11 Op.unOp UnOp.not 4 (Operand.tmp 28)
            refine wpMono_skip' 11 rfl (by kernel_rfl) (by kernel_rfl) (by kernel_rfl) (fun _ _ _ h => h) (by rfl) ?_
            try simp only [Act.put, List.setIfInBounds_toArray, List.set_cons_zero, List.set_cons_succ]
            -- 12 Op.pick (Operand.tmp 19) (Operand.tmp 29) (Operand.const (Value.bool false))
            refine wpMono_take' 12 (v := ?_) rfl (by kernel_rfl) (by kernel_rfl) (by kernel_rfl) (fun _ _ _ h => h) (by rfl) ?_ ?_
            rotate_left
            · (intro W hSw; have hcW := hSw.cells; try simp only [World.size_drew, World.cell?_drew] at hcW
               go_simp; first | done | rfl)
            try simp only [Act.put, List.setIfInBounds_toArray, List.set_cons_zero, List.set_cons_succ]
            -- 13 Op.assign (Operand.tmp 30)
            refine wpMono_take' 13 (v := ?_) rfl (by kernel_rfl) (by kernel_rfl) (by kernel_rfl) (fun _ _ _ h => h) (by rfl) ?_ ?_
            rotate_left
            · (intro W hSw; have hcW := hSw.cells; try simp only [World.size_drew, World.cell?_drew] at hcW
               go_simp; first | done | rfl)
            try simp only [Act.put, List.setIfInBounds_toArray, List.set_cons_zero, List.set_cons_succ]
            refine wpMono_done (by kernel_rfl) ?_ _
            go_wp2
            go_roundw
            case rel => exact ⟨m + 1, by omega, by go_num, by rw [Htk.out]; rfl, Hres.out.drew, Hb.out.drew⟩
            case measure => simp [intOf]; omega
          | true =>
            go_wp2_with fail
            refine wp_region_mono nobody (by kernel_rfl) ?_
            -- 0 Op.move (Operand.tmp 4)
            refine wpMono_take' 0 (v := ?_) rfl (by kernel_rfl) (by kernel_rfl) (by kernel_rfl) (fun _ _ _ h => h) (by rfl) ?_ ?_
            rotate_left
            · (intro W hSw; have hcW := hSw.cells; try simp only [World.size_drew, World.cell?_drew] at hcW
               go_simp; first | done | rfl)
            try simp only [Act.put, List.setIfInBounds_toArray, List.set_cons_zero, List.set_cons_succ]
            -- 1 Op.move (Operand.tmp 18)
            refine wpMono_take' 1 (v := ?_) rfl (by kernel_rfl) (by kernel_rfl) (by kernel_rfl) (fun _ _ _ h => h) (by rfl) ?_ ?_
            rotate_left
            · (intro W hSw; have hcW := hSw.cells; try simp only [World.size_drew, World.cell?_drew] at hcW
               go_simp; first | done | rfl)
            try simp only [Act.put, List.setIfInBounds_toArray, List.set_cons_zero, List.set_cons_succ]
            -- 2 Op.move (Operand.tmp 0)
            refine wpMono_take' 2 (v := ?_) rfl (by kernel_rfl) (by kernel_rfl) (by kernel_rfl) (fun _ _ _ h => h) (by rfl) ?_ ?_
            rotate_left
            · (intro W hSw; have hcW := hSw.cells; try simp only [World.size_drew, World.cell?_drew] at hcW
               go_simp; first | done | rfl)
            try simp only [Act.put, List.setIfInBounds_toArray, List.set_cons_zero, List.set_cons_succ]
            -- 3 Op.move (Operand.tmp 5)
            refine wpMono_take' 3 (v := ?_) rfl (by kernel_rfl) (by kernel_rfl) (by kernel_rfl) (fun _ _ _ h => h) (by rfl) ?_ ?_
            rotate_left
            · (intro W hSw; have hcW := hSw.cells; try simp only [World.size_drew, World.cell?_drew] at hcW
               go_simp; first | done | rfl)
            try simp only [Act.put, List.setIfInBounds_toArray, List.set_cons_zero, List.set_cons_succ]
            -- 4 Op.indexAddr 34 (Operand.tmp 20) (Operand.tmp 21)
            refine wpMono_take' 4 (v := ?_) rfl (by kernel_rfl) (by kernel_rfl) (by kernel_rfl) (fun _ _ _ h => h) (by rfl) ?_ ?_
            rotate_left
            · (intro W hSw; have hcW := hSw.cells; try simp only [World.size_drew, World.cell?_drew] at hcW
               go_simp; first | done | rfl)
            try simp only [Act.put, List.setIfInBounds_toArray, List.set_cons_zero, List.set_cons_succ]
            -- 5 Op.load 31 (Operand.tmp 22)
            refine wpMono_take' 5 (v := ?_) rfl (by kernel_rfl) (by kernel_rfl) (by kernel_rfl) (fun _ _ _ h => h) (by rfl) ?_ ?_
            rotate_left
            · (intro W hSw; have hcW := hSw.cells; try simp only [World.size_drew, World.cell?_drew] at hcW
               go_simp; first | done | rfl)
            try simp only [Act.put, List.setIfInBounds_toArray, List.set_cons_zero, List.set_cons_succ]
            -- 6 Op.move (Operand.tmp 0)
            refine wpMono_take' 6 (v := ?_) rfl (by kernel_rfl) (by kernel_rfl) (by kernel_rfl) (fun _ _ _ h => h) (by rfl) ?_ ?_
            rotate_left
            · (intro W hSw; have hcW := hSw.cells; try simp only [World.size_drew, World.cell?_drew] at hcW
               go_simp; first | done | rfl)
            try simp only [Act.put, List.setIfInBounds_toArray, List.set_cons_zero, List.set_cons_succ]
            -- 7 Op.move (Operand.tmp 3)
            refine wpMono_take' 7 (v := ?_) rfl (by kernel_rfl) (by kernel_rfl) (by kernel_rfl) (fun _ _ _ h => h) (by rfl) ?_ ?_
            rotate_left
            · (intro W hSw; have hcW := hSw.cells; try simp only [World.size_drew, World.cell?_drew] at hcW
               go_simp; first | done | rfl)
            try simp only [Act.put, List.setIfInBounds_toArray, List.set_cons_zero, List.set_cons_succ]
            -- 8 Op.indexAddr 34 (Operand.tmp 24) (Operand.tmp 25)
            refine wpMono_take' 8 (v := ?_) rfl (by kernel_rfl) (by kernel_rfl) (by kernel_rfl) (fun _ _ _ h => h) (by rfl) ?_ ?_
            rotate_left
            · (intro W hSw; have hcW := hSw.cells; try simp only [World.size_drew, World.cell?_drew] at hcW
               go_simp; first | done | rfl)
            try simp only [Act.put, List.setIfInBounds_toArray, List.set_cons_zero, List.set_cons_succ]
            -- 9 Op.load 31 (Operand.tmp 26)
            refine wpMono_take' 9 (v := ?_) rfl (by kernel_rfl) (by kernel_rfl) (by kernel_rfl) (fun _ _ _ h => h) (by rfl) ?_ ?_
            rotate_left
            · (intro W hSw; have hcW := hSw.cells; try simp only [World.size_drew, World.cell?_drew] at hcW
               go_simp; first | done | rfl)
            try simp only [Act.put, List.setIfInBounds_toArray, List.set_cons_zero, List.set_cons_succ]
            -- EFFECT 10 Op.call { callee := Callee.value (Operand.func 12), args := #[Operand.tmp 23, Operand.tmp 27], argTypes := #[31, 31] }
            refine wpMono_one' 10 (by kernel_rfl) rfl (by rfl) (fun K hK => ?_)
            go_simp
            refine (above_ref t' r' v' g' l' t r v g l _).mono ?_
            rintro e w4 ⟨rfl, hb4⟩
            refine hK.out _ _ ?_ ?_
            · exact Keeps.of_below hb4
            clear hK K
            try simp only [Act.put, List.setIfInBounds_toArray, List.set_cons_zero, List.set_cons_succ]
            -- 11 Op.unOp UnOp.not 4 (Operand.tmp 28)
            refine wpMono_take' 11 (v := ?_) rfl (by kernel_rfl) (by kernel_rfl) (by kernel_rfl) (fun _ _ _ h => h) (by rfl) ?_ ?_
            rotate_left
            · (intro W hSw; have hcW := hSw.cells; try simp only [World.size_drew, World.cell?_drew] at hcW
               go_simp; first | done | rfl)
            try simp only [Act.put, List.setIfInBounds_toArray, List.set_cons_zero, List.set_cons_succ]
            -- 12 Op.pick (Operand.tmp 19) (Operand.tmp 29) (Operand.const (Value.bool false))
            refine wpMono_take' 12 (v := ?_) rfl (by kernel_rfl) (by kernel_rfl) (by kernel_rfl) (fun _ _ _ h => h) (by rfl) ?_ ?_
            rotate_left
            · (intro W hSw; have hcW := hSw.cells; try simp only [World.size_drew, World.cell?_drew] at hcW
               go_simp; first | done | rfl)
            try simp only [Act.put, List.setIfInBounds_toArray, List.set_cons_zero, List.set_cons_succ]
            -- 13 Op.assign (Operand.tmp 30)
            refine wpMono_take' 13 (v := ?_) rfl (by kernel_rfl) (by kernel_rfl) (by kernel_rfl) (fun _ _ _ h => h) (by rfl) ?_ ?_
            rotate_left
            · (intro W hSw; have hcW := hSw.cells; try simp only [World.size_drew, World.cell?_drew] at hcW
               go_simp; first | done | rfl)
            try simp only [Act.put, List.setIfInBounds_toArray, List.set_cons_zero, List.set_cons_succ]
            refine wpMono_done (by kernel_rfl) ?_ _
            have Hres4 := Lib.hid (Hres.out.drew.below hb4 (by have := Hres.out.lt; simpa using this))
            have Hb4 := Lib.hid (Hb.out.drew.trans (hb4.mono (by simpa using hbs)))
            clear hb4
            go_wp2
            go_roundw
            case rel => exact ⟨m + 1, by omega, by go_num, by rw [Htk.out]; rfl, Hres4.out, Hb4.out⟩
            case measure => simp [intOf]; omega
        · have hmn : m = len := by omega
          have e8 : cs.take m = cs := List.take_of_length_le (by rw [Hl.out]; omega)
          rw [e8]
          clear e8 hmn
          obtain ⟨b2, off2, hA, _, hc⟩ := (Hr.out.below hb).2 (by omega)
          injection hA with hA; injection hA with hA1 hA2 _
          subst hA1 hA2
          obtain ⟨c0, c1, c2, c3, c4⟩ := cells_at hc hnc
          rw [Hcn.out] at c0 c1 c2 c3 c4
          dsimp only at c0 c1 c2 c3 c4
          have f0 := hres.frozen 0
          have f1 := hres.frozen 1
          have f2 := hres.frozen 2
          have f3 := hres.frozen 3
          have f4 := hres.frozen 4
          obtain ⟨j0, j1, j2, j3, j4⟩ := Blk.cells5 hres
          have Hres := Lib.hid hres; clear hres
          have Hb := Lib.hid hb; clear hb hc
          generalize hall : cs.all (fun x => !above x ⟨t, r, v, g, l⟩) = bt at HR ⊢
          clear hall
          cases bt with
          | true =>
            rw [if_pos rfl] at HR
            go_wp2
            obtain ⟨q0, q1, q2, q3, q4⟩ := Blk.cells5 (set5 (b0 := .int .i64 t) (b1 := .int .i64 r) (b2 := .string v) (b3 := .bool g) (b4 := .int .i64 l) Hres.out)
            exact bodyPost_ret (v := .agg #[.int .i64 t, .int .i64 r, .string v, .bool g, .int .i64 l]) (by simp [results, Tryd.results39, go_sem, q0, q1, q2, q3, q4]) rfl ⟨by rw [HR.out]; rfl, below5 Hb.out (Nat.le_refl _) _ _ _ _ _⟩
          | false =>
            rw [if_neg (by simp)] at HR
            go_wp2
            go_roundw
            case rel => exact ⟨n + 1, by omega, by go_num, HR.out, Hres.out, Hb.out⟩
            case measure => simp [intOf]; omega
    · have hnl : cs.drop n = [] := List.drop_eq_nil_of_le (by rw [Hl.out]; omega)
      rw [hnl] at hR
      have HR := Lib.hid hR; clear hR hnl
      have f0 := hres.frozen 0
      have f1 := hres.frozen 1
      have f2 := hres.frozen 2
      have f3 := hres.frozen 3
      have f4 := hres.frozen 4
      obtain ⟨j0, j1, j2, j3, j4⟩ := Blk.cells5 hres
      have Hres := Lib.hid hres; clear hres
      have Hb := Lib.hid hb; clear hb
      go_wp2
      obtain ⟨q0, q1, q2, q3, q4⟩ := Blk.cells5 (set5 (b0 := .int .i64 0) (b1 := .int .i64 0) (b2 := .string ⟨#[]⟩) (b3 := .bool false) (b4 := .int .i64 0) Hres.out)
      exact bodyPost_ret (v := .agg #[.int .i64 0, .int .i64 0, .string ⟨#[]⟩, .bool false, .int .i64 0]) (by simp [results, Tryd.results39, go_sem, q0, q1, q2, q3, q4]) rfl ⟨by rw [HR.out]; rfl, below5 Hb.out (Nat.le_refl _) _ _ _ _ _⟩
end Go.Proofs.YtgfamdakjcjdkaaDoor.refmerge
