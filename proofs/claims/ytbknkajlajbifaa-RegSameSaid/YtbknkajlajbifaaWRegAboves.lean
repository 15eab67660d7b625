/- The walk of the law RegAboves: it returns true; nothing that was there is written. -/
import Derived.Test.YtbknkajlajbifaaAwake
namespace Go.Proofs.Ytbknkajlajbifaa.wRegAboves
open Go.RowKit Go.Proofs.Ytbknkajlajbifaa.base Go.Proofs.Ytbknkajlajbifaa.cmp Go.Proofs.Ytbknkajlajbifaa.above Go.Proofs.Ytbknkajlajbifaa.merge Go.Proofs.Ytbknkajlajbifaa.awake

theorem bytesLess_tri : ∀ a b : List UInt8, (a = b ∧ Op.bytesLess a b = false ∧ Op.bytesLess b a = false) ∨ (a ≠ b ∧ Op.bytesLess a b = true ∧ Op.bytesLess b a = false) ∨ (a ≠ b ∧ Op.bytesLess a b = false ∧ Op.bytesLess b a = true)
  | [], [] => .inl ⟨rfl, rfl, rfl⟩
  | [], b :: y => .inr (.inl ⟨by simp, rfl, rfl⟩)
  | a :: x, [] => .inr (.inr ⟨by simp, rfl, rfl⟩)
  | a :: x, b :: y => by
    have ih := bytesLess_tri x y
    simp only [Op.bytesLess, List.cons.injEq, ne_eq]
    by_cases h : a = b
    · subst h
      have hl : decide (a < a) = false := by simp
      simp only [hl, Bool.false_or, beq_self_eq_true, Bool.true_and, true_and]
      exact ih
    · have h1 : (a == b) = false := by simpa using h
      have h2 : (b == a) = false := by simpa using fun e : b = a => h e.symm
      simp only [h1, h2, h, Bool.false_and, Bool.or_false, false_and, not_false_eq_true, true_and, false_or]
      rcases Nat.lt_trichotomy a.toNat b.toNat with hl | hl | hl
      · left; simp [UInt8.lt_iff_toNat_lt]; omega
      · exact absurd (UInt8.toNat_inj.1 hl) h
      · right; simp [UInt8.lt_iff_toNat_lt]; omega
theorem open_cells {w : World} {v : Value} (h : Arg Try.prog w 22 v) : ∃ (A : Option Addr) (len cap : Nat) (cs : List C), v = .slice A len cap ∧ cs.length = len ∧ len ≤ maxLen ∧ len ≤ cap ∧ cap ≤ maxLen ∧ Reads w w.heap.size 5 A len (cs.flatMap C.cells) := by
  have e28 : Try.prog.cellsOf 28 = 5 := by kernel_rfl
  obtain ⟨A, len, cap, rows, rfl, hl, hm, hlen, hr, hreads, hnil⟩ := h.rows Try.underlying22 (by rw [e28]; decide)
  rw [e28] at hr hreads
  have hreads := hreads.take (fun r h => (hr r h).1) hlen hl
  have e3 : Try.prog.cellsOf 3 = 1 := by kernel_rfl
  have e4 : Try.prog.cellsOf 4 = 1 := by kernel_rfl
  have e9 : Try.prog.cellsOf 9 = 1 := by kernel_rfl
  have e26 : Try.prog.cellsOf 26 = 2 := by kernel_rfl
  have key : ∀ l : List (List Value), (∀ r ∈ l, r.length = 5 ∧ Sees Try.prog w 28 r) → ∃ cs : List C, cs.length = l.length ∧ l.flatten = cs.flatMap C.cells := by
    intro l
    induction l with
    | nil => intro _; exact ⟨[], rfl, rfl⟩
    | cons x l ih =>
      intro hh
      obtain ⟨cs, h1, h2⟩ := ih (fun r hr => hh r (by simp [hr]))
      obtain ⟨hx, hs⟩ := hh x (by simp)
      obtain ⟨_, hf⟩ := hs.struct Try.underlying28
      match x, hx with
      | [x0, x1, x2, x3, x4], _ =>
        simp [e3, e4, e9, e26] at hf
        obtain ⟨f0, f1, f2, f3⟩ := hf
        obtain ⟨_, hg⟩ := f0.struct Try.underlying26
        simp [e3] at hg
        obtain ⟨n0, q0, _⟩ := hg.1.int Try.underlying3
        obtain ⟨n1, q1, _⟩ := hg.2.int Try.underlying3
        obtain ⟨s, q2, _⟩ := f1.string Try.underlying9
        obtain ⟨b, q3⟩ := f2.bool Try.underlying4
        obtain ⟨n4, q4, _⟩ := f3.int Try.underlying3
        simp at q0 q1 q2 q3 q4
        subst q0 q1 q2 q3 q4
        exact ⟨⟨n0, n1, s, b, n4⟩ :: cs, by simp [h1], by simp [h2, C.cells]⟩
  obtain ⟨cs, h1, h2⟩ := key (rows.take len) (fun r h => hr r (List.mem_of_mem_take h))
  rw [h2] at hreads
  exact ⟨A, len, cap, cs, rfl, by rw [h1]; simp; omega, by omega, hl, hm, hreads⟩

def eqC (a b : C) : Bool := decide (a.t = b.t ∧ a.r = b.r ∧ a.v.toList = b.v.toList ∧ a.g = b.g ∧ a.l = b.l)
theorem run_eqC (a b : C) (W : World) : (Op.equalIn 10000 28 (.agg #[.int .i64 a.t, .int .i64 a.r, .string a.v, .bool a.g, .int .i64 a.l]) (.agg #[.int .i64 b.t, .int .i64 b.r, .string b.v, .bool b.g, .int .i64 b.l])).run Try.prog W = .ok (eqC a b) W := by
  unfold eqC
  go_simp
  by_cases h1 : a.t = b.t <;> by_cases h2 : a.r = b.r <;> by_cases h3 : a.v.toList = b.v.toList <;> by_cases h4 : a.g = b.g <;> by_cases h5 : a.l = b.l <;> simp [h1, h2, h3, h4, h5]
theorem above_tri (a b : C) : (eqC a b = true ∧ above a b = false ∧ above b a = false) ∨ (eqC a b = false ∧ above a b = !above b a) := by
  unfold eqC above
  by_cases h1 : a.t = b.t
  · by_cases h2 : a.r = b.r
    · by_cases h4 : a.g = b.g
      · have hc := cmpS_cases a.v b.v
        have hd := cmpS_cases b.v a.v
        have htri := bytesLess_tri a.v.toList b.v.toList
        have key : ∀ x y : Int, (x = y → cmpI x y = 0) ∧ (x < y → cmpI x y = -1) ∧ (y < x → cmpI x y = 1) := by
          intro x y; unfold cmpI; refine ⟨?_, ?_, ?_⟩ <;> intro h <;> (repeat' split) <;> omega
        rcases htri with ⟨e, l1, l2⟩ | ⟨e, l1, l2⟩ | ⟨e, l1, l2⟩
        · have s1 : cmpS a.v b.v = 0 := by unfold cmpS; rw [l1, e]; simp
          have s2 : cmpS b.v a.v = 0 := by unfold cmpS; rw [l2, e]; simp
          rcases (by omega : a.l = b.l ∨ a.l < b.l ∨ b.l < a.l) with h5 | h5 | h5
          · left; simp [h1, h2, h4, e, h5, s1, s2, or2, (key b.l b.l).1 rfl]
          · right; simp [h1, h2, h4, e, s1, s2, or2, (key a.l b.l).2.1 h5, (key b.l a.l).2.2 h5]; omega
          · right; simp [h1, h2, h4, e, s1, s2, or2, (key a.l b.l).2.2 h5, (key b.l a.l).2.1 h5]; omega
        · have s1 : cmpS a.v b.v = -1 := by unfold cmpS; rw [l1]; simp
          have s2 : cmpS b.v a.v = 1 := by
            have e' : ¬ b.v.toList = a.v.toList := fun h => e h.symm
            unfold cmpS; rw [l2]; simp [e']
          right; simp [h1, h2, h4, e, s1, s2, or2]
        · have s1 : cmpS a.v b.v = 1 := by unfold cmpS; rw [l1]; simp [e]
          have s2 : cmpS b.v a.v = -1 := by unfold cmpS; rw [l2]; simp
          right; simp [h1, h2, h4, e, s1, s2, or2]
      · right
        have h4' : ¬ b.g = a.g := fun e => h4 e.symm
        simp only [h1, h2, h4, h4', true_and, false_and, and_false, decide_false, and_self, if_true, if_false]
        revert h4; cases a.g <;> cases b.g <;> simp
    · right
      have h2' : ¬ b.r = a.r := fun e => h2 e.symm
      rcases (by omega : a.r < b.r ∨ b.r < a.r) with h | h
      · have hx : ¬ b.r < a.r := by omega
        simp [h1, h2, h2', lessS, h, hx]
      · have hx : ¬ a.r < b.r := by omega
        simp [h1, h2, h2', lessS, h, hx]
  · right
    have h1' : ¬ b.t = a.t := fun e => h1 e.symm
    rcases (by omega : a.t < b.t ∨ b.t < a.t) with h | h
    · have hx : ¬ b.t < a.t := by omega
      simp [h1, h1', lessS, h, hx]
    · have hx : ¬ a.t < b.t := by omega
      simp [h1, h1', lessS, h, hx]
set_option maxRecDepth 10000 in
set_option maxHeartbeats 8000000 in
theorem walk (v0 : Value) (w : World) (a0 : Arg Try.prog w 22 v0) :
    Calls Try.prog 3 #[v0] w fun e w' => e = .returned (.bool true) ∧ Below w.heap.size w w' := by
  obtain ⟨A, len, cap, cs, rfl, hl, hm, _, _, hr⟩ := open_cells a0
  clear a0
  have Hl := Lib.hid hl; clear hl
  have Hr := Lib.hid hr; clear hr
  have hm' := hm
  unfold maxLen at hm
  cases hgr : greatB cs with
  | true =>
    have Hgr := Lib.hid hgr; clear hgr
    go_enter Try.func3, Try.ntmps3
    go_wp2_with fail
    refine (awake_any _).mono ?_
    rintro e w1 ⟨rfl, hb1⟩
    go_wp2_with fail
    refine (great_any A len cap cs _ Hl.out hm' (by exact (Hr.out.below hb1).more hb1.size)).mono ?_
    rintro e w2 ⟨rfl, hb2⟩
    rw [Hgr.out]
    go_wp2
    go_ret
    exact ⟨rfl, hb1.trans (hb2.mono hb1.size)⟩
  | false =>
    have Hgr := Lib.hid hgr; clear hgr
    go_enter Try.func3, Try.ntmps3
    go_wp2_with fail
    refine (awake_any _).mono ?_
    rintro e w1 ⟨rfl, hb1⟩
    go_wp2_with fail
    refine (great_any A len cap cs _ Hl.out hm' (by exact (Hr.out.below hb1).more hb1.size)).mono ?_
    rintro e w2 ⟨rfl, hb2⟩
    rw [Hgr.out]
    have Hb2 := Lib.hid (hb1.trans (hb2.mono hb1.size))
    clear hb1 hb2
    go_wp2
    go_loopw [4, 6, 13] (fun _ _ i wr => ∃ n : Nat, n ≤ len ∧ i = .int .i64 n ∧ Below w.heap.size w wr) (fun _ _ i _ => len - (intOf i).toNat)
    case atStart => exact ⟨0, by omega, rfl, Hb2.out⟩
    case round =>
      clear Hb2
      obtain ⟨n, hn, rfl, hb⟩ := hrel
      by_cases hlt : n < len
      · obtain ⟨b, off, hA, hblt, hc⟩ := (Hr.out.below hb).2 (by omega)
        subst hA
        have hnc : n < cs.length := by rw [Hl.out]; exact hlt
        obtain ⟨c0, c1, c2, c3, c4⟩ := cells_at hc hnc
        generalize cs[n] = ca at *
        obtain ⟨t, r, v, g, l⟩ := ca
        dsimp only at c0 c1 c2 c3 c4
        have hbs := hb.size
        have Hb := Lib.hid hb; clear hb hc
        go_wp2_with fail
        refine wp_region_mono nobody (by kernel_rfl) ?_
        -- 0 Op.load 28 (Operand.tmp 4)
        refine wpMono_take' 0 (v := ?_) rfl (by kernel_rfl) (by kernel_rfl) (by kernel_rfl) (fun _ _ _ h => h) (by rfl) ?_ ?_
        rotate_left
        · (intro W hSw; have hcW := hSw.cells; try simp only [World.size_drew, World.cell?_drew] at hcW
           go_simp; first | done | rfl)
        try simp only [Act.put, List.setIfInBounds_toArray, List.set_cons_zero, List.set_cons_succ]
        -- 2 Op.load 28 (Operand.tmp 4)
        refine wpMono_take' 2 (v := ?_) rfl (by kernel_rfl) (by kernel_rfl) (by kernel_rfl) (fun _ _ _ h => h) (by rfl) ?_ ?_
        rotate_left
        · (intro W hSw; have hcW := hSw.cells; try simp only [World.size_drew, World.cell?_drew] at hcW
           go_simp; first | done | rfl)
        try simp only [Act.put, List.setIfInBounds_toArray, List.set_cons_zero, List.set_cons_succ]
        -- EFFECT 1 Op.call { callee := Callee.value (Operand.func 9), args := #[Operand.tmp 17], argTypes := #[28] }
        refine wpMono_one' 1 (by kernel_rfl) rfl (by rfl) (fun K hK => ?_)
        go_simp
        refine (visible_any t r v g l _).mono ?_
        rintro e w2 ⟨rfl, hb2⟩
        have e2 := fun o => hb2.cell (p := ⟨wr.heap.size, o, none⟩) (by simp <;> omega)
        have hz2 := hb2.size; simp at hz2
        have y2 : wr.heap.size < w2.heap.size := by omega
        refine hK.out _ _ ?_ ?_
        · exact Keeps.of_below hb2
        clear hK K
        try simp only [Act.put, List.setIfInBounds_toArray, List.set_cons_zero, List.set_cons_succ]
        -- EFFECT 3 Op.call { callee := Callee.value (Operand.func 10), args := #[Operand.tmp 19], argTypes := #[31] }
        refine wpMono_one' 3 (by kernel_rfl) rfl (by rfl) (fun K hK => ?_)
        go_simp
        refine (visible_ref t r v g l _).mono ?_
        rintro e w3 ⟨rfl, hb3⟩
        refine hK.out _ _ ?_ ?_
        · exact Keeps.of_below hb3
        clear hK K
        try simp only [Act.put, List.setIfInBounds_toArray, List.set_cons_zero, List.set_cons_succ]
        -- 4 Op.binOp BinOp.neq 4 (Operand.tmp 18) (Operand.tmp 20) 4
        refine wpMono_take' 4 (v := ?_) rfl (by kernel_rfl) (by kernel_rfl) (by kernel_rfl) (fun _ _ _ h => h) (by rfl) ?_ ?_
        rotate_left
        · (intro W hSw; have hcW := hSw.cells; try simp only [World.size_drew, World.cell?_drew] at hcW
           go_simp; first | done | rfl)
        try simp only [Act.put, List.setIfInBounds_toArray, List.set_cons_zero, List.set_cons_succ]
        refine wpMono_done (by kernel_rfl) ?_ _
        have Hb3 := Lib.hid ((((Hb.out.alloc hbs (.cells #[.int .i64 t, .int .i64 r, .string v, .bool g, .int .i64 l] 28)).drew).trans (hb2.mono (by simp <;> omega))).trans (hb3.mono (by omega)))
        have Hga := Lib.hid (((Blk.new wr 28 #[.int .i64 t, .int .i64 r, .string v, .bool g, .int .i64 l]).drew.below hb2 (by simp)).below hb3 (by omega))
        have hz3 := hb3.size
        have hgaw : w.heap.size ≤ wr.heap.size := hbs
        clear hb2 hb3 e2 y2 hbs
        generalize wr.heap.size = ga at *
        go_wp2
        go_loopw [6, 24] (fun _ i wr => ∃ m : Nat, m ≤ len ∧ i = .int .i64 m ∧ Blk wr ga 28 #[.int .i64 t, .int .i64 r, .string v, .bool g, .int .i64 l] ∧ Below w.heap.size w wr) (fun _ i _ => len - (intOf i).toNat)
        case atStart => exact ⟨0, by omega, rfl, Hga.out, Hb3.out⟩
        case round =>
          clear Hb3 Hga Hb hz2 hz3
          obtain ⟨m, hm3, rfl, hga, hb⟩ := hrel
          by_cases hlt2 : m < len
          · obtain ⟨b2, off2, hA, hblt2, hc⟩ := (Hr.out.below hb).2 (by omega)
            injection hA with hA; injection hA with hA1 hA2 _
            subst hA1 hA2
            have hmc : m < cs.length := by rw [Hl.out]; exact hlt2
            obtain ⟨d0, d1, d2, d3, d4⟩ := cells_at hc hmc
            generalize cs[m] = cb at *
            obtain ⟨t', r', v', g', l'⟩ := cb
            dsimp only at d0 d1 d2 d3 d4
            obtain ⟨k0, k1, k2, k3, k4⟩ := Blk.cells5 hga
            have hbs := hb.size
            have hgl := hga.lt
            have Hga := Lib.hid hga; clear hga
            have Hb := Lib.hid hb; clear hb hc
            obtain ⟨ab, hab⟩ : ∃ x, above ⟨t, r, v, g, l⟩ ⟨t', r', v', g', l'⟩ = x := ⟨_, rfl⟩
            obtain ⟨ba, hba⟩ : ∃ x, above ⟨t', r', v', g', l'⟩ ⟨t, r, v, g, l⟩ = x := ⟨_, rfl⟩
            have Hab := Lib.hid hab
            have Hba := Lib.hid hba
            have htri := above_tri ⟨t, r, v, g, l⟩ ⟨t', r', v', g', l'⟩
            rw [hab, hba] at htri
            have heq : ∀ W : World, (Op.equalIn 10000 28 (.agg #[.int .i64 t, .int .i64 r, .string v, .bool g, .int .i64 l]) (.agg #[.int .i64 t', .int .i64 r', .string v', .bool g', .int .i64 l'])).run Try.prog W = .ok (eqC ⟨t, r, v, g, l⟩ ⟨t', r', v', g', l'⟩) W := run_eqC ⟨t, r, v, g, l⟩ ⟨t', r', v', g', l'⟩
            generalize eqC ⟨t, r, v, g, l⟩ ⟨t', r', v', g', l'⟩ = eqv at heq htri
            have hfin : (eqv == (!(ab == ba))) = false := by
              rcases htri with ⟨h1, h2, h3⟩ | ⟨h1, h2⟩
              · subst h1 h2 h3; rfl
              · subst h1 h2; cases ba <;> rfl
            clear hab hba htri
            go_wp2_with fail
            refine wp_region_mono nobody (by kernel_rfl) ?_
            -- 0 Op.load 28 (Operand.tmp 4)
            refine wpMono_take' 0 (v := ?_) rfl (by kernel_rfl) (by kernel_rfl) (by kernel_rfl) (fun _ _ _ h => h) (by rfl) ?_ ?_
            rotate_left
            · (intro W hSw; have hcW := hSw.cells; try simp only [World.size_drew, World.cell?_drew] at hcW
               go_simp; first | done | rfl)
            try simp only [Act.put, List.setIfInBounds_toArray, List.set_cons_zero, List.set_cons_succ]
            -- 1 Op.load 28 (Operand.tmp 6)
            refine wpMono_take' 1 (v := ?_) rfl (by kernel_rfl) (by kernel_rfl) (by kernel_rfl) (fun _ _ _ h => h) (by rfl) ?_ ?_
            rotate_left
            · (intro W hSw; have hcW := hSw.cells; try simp only [World.size_drew, World.cell?_drew] at hcW
               go_simp; first | done | rfl)
            try simp only [Act.put, List.setIfInBounds_toArray, List.set_cons_zero, List.set_cons_succ]
            -- 3 Op.load 28 (Operand.tmp 4)
            refine wpMono_take' 3 (v := ?_) rfl (by kernel_rfl) (by kernel_rfl) (by kernel_rfl) (fun _ _ _ h => h) (by rfl) ?_ ?_
            rotate_left
            · (intro W hSw; have hcW := hSw.cells; try simp only [World.size_drew, World.cell?_drew] at hcW
               go_simp; first | done | rfl)
            try simp only [Act.put, List.setIfInBounds_toArray, List.set_cons_zero, List.set_cons_succ]
            -- 4 Op.load 28 (Operand.tmp 6)
            refine wpMono_take' 4 (v := ?_) rfl (by kernel_rfl) (by kernel_rfl) (by kernel_rfl) (fun _ _ _ h => h) (by rfl) ?_ ?_
            rotate_left
            · (intro W hSw; have hcW := hSw.cells; try simp only [World.size_drew, World.cell?_drew] at hcW
               go_simp; first | done | rfl)
            try simp only [Act.put, List.setIfInBounds_toArray, List.set_cons_zero, List.set_cons_succ]
            -- EFFECT 2 Op.call { callee := Callee.value (Operand.func 11), args := #[Operand.tmp 28, Operand.tmp 29], argTypes := #[28, 28] }
            refine wpMono_one' 2 (by kernel_rfl) rfl (by rfl) (fun K hK => ?_)
            go_simp
            refine (above_any t r v g l t' r' v' g' l' _).mono ?_
            rintro e w4 ⟨rfl, hb4⟩
            rw [Hab.out]
            have e4 := fun o => hb4.cell (p := ⟨ga, o, none⟩) (by simp <;> omega)
            have e4' := fun o => hb4.cell (p := ⟨wr.heap.size, o, none⟩) (by simp <;> omega)
            have hz4 := hb4.size; simp at hz4
            have y4 : ga < w4.heap.size := by omega
            have y4' : wr.heap.size < w4.heap.size := by omega
            refine hK.out _ _ ?_ ?_
            · exact Keeps.of_below hb4
            clear hK K
            try simp only [Act.put, List.setIfInBounds_toArray, List.set_cons_zero, List.set_cons_succ]
            -- EFFECT 5 Op.call { callee := Callee.value (Operand.func 12), args := #[Operand.tmp 31, Operand.tmp 32], argTypes := #[31, 31] }
            refine wpMono_one' 5 (by kernel_rfl) rfl (by rfl) (fun K hK => ?_)
            go_simp
            refine (above_ref t r v g l t' r' v' g' l' _).mono ?_
            rintro e w5 ⟨rfl, hb5⟩
            rw [Hab.out]
            have e5 := fun o => hb5.cell (p := ⟨ga, o, none⟩) (by omega)
            have e5' := fun o => hb5.cell (p := ⟨wr.heap.size, o, none⟩) (by omega)
            have hz5 := hb5.size
            have y5 : ga < w5.heap.size := by omega
            have y5' : wr.heap.size < w5.heap.size := by omega
            refine hK.out _ _ ?_ ?_
            · exact Keeps.of_below hb5
            clear hK K
            try simp only [Act.put, List.setIfInBounds_toArray, List.set_cons_zero, List.set_cons_succ]
            -- 6 Op.binOp BinOp.neq 4 (Operand.tmp 30) (Operand.tmp 33) 4
            refine wpMono_take' 6 (v := ?_) rfl (by kernel_rfl) (by kernel_rfl) (by kernel_rfl) (fun _ _ _ h => h) (by rfl) ?_ ?_
            rotate_left
            · (intro W hSw; have hcW := hSw.cells; try simp only [World.size_drew, World.cell?_drew] at hcW
               go_simp; first | done | rfl)
            try simp only [Act.put, List.setIfInBounds_toArray, List.set_cons_zero, List.set_cons_succ]
            -- 7 Op.move (Operand.tmp 34)
            refine wpMono_take' 7 (v := ?_) rfl (by kernel_rfl) (by kernel_rfl) (by kernel_rfl) (fun _ _ _ h => h) (by rfl) ?_ ?_
            rotate_left
            · (intro W hSw; have hcW := hSw.cells; try simp only [World.size_drew, World.cell?_drew] at hcW
               go_simp; first | done | rfl)
            try simp only [Act.put, List.setIfInBounds_toArray, List.set_cons_zero, List.set_cons_succ]
            -- 8 Op.load 28 (Operand.tmp 4)
            refine wpMono_take' 8 (v := ?_) rfl (by kernel_rfl) (by kernel_rfl) (by kernel_rfl) (fun _ _ _ h => h) (by rfl) ?_ ?_
            rotate_left
            · (intro W hSw; have hcW := hSw.cells; try simp only [World.size_drew, World.cell?_drew] at hcW
               go_simp; first | done | rfl)
            try simp only [Act.put, List.setIfInBounds_toArray, List.set_cons_zero, List.set_cons_succ]
            -- 9 Op.load 28 (Operand.tmp 6)
            refine wpMono_take' 9 (v := ?_) rfl (by kernel_rfl) (by kernel_rfl) (by kernel_rfl) (fun _ _ _ h => h) (by rfl) ?_ ?_
            rotate_left
            · (intro W hSw; have hcW := hSw.cells; try simp only [World.size_drew, World.cell?_drew] at hcW
               go_simp; first | done | rfl)
            try simp only [Act.put, List.setIfInBounds_toArray, List.set_cons_zero, List.set_cons_succ]
            -- 10 Op.binOp BinOp.eql 28 (Operand.tmp 36) (Operand.tmp 37) 28
            refine wpMono_take' 10 (v := ?_) rfl (by kernel_rfl) (by kernel_rfl) (by kernel_rfl) (fun _ _ _ h => h) (by rfl) ?_ ?_
            rotate_left
            · (intro W hSw; have hcW := hSw.cells; try simp only [World.size_drew, World.cell?_drew] at hcW
               go_simp; first | done | rfl)
            try simp only [Act.put, List.setIfInBounds_toArray, List.set_cons_zero, List.set_cons_succ]
            -- 11 Op.load 28 (Operand.tmp 4)
            refine wpMono_take' 11 (v := ?_) rfl (by kernel_rfl) (by kernel_rfl) (by kernel_rfl) (fun _ _ _ h => h) (by rfl) ?_ ?_
            rotate_left
            · (intro W hSw; have hcW := hSw.cells; try simp only [World.size_drew, World.cell?_drew] at hcW
               go_simp; first | done | rfl)
            try simp only [Act.put, List.setIfInBounds_toArray, List.set_cons_zero, List.set_cons_succ]
            -- 12 Op.load 28 (Operand.tmp 6)
            refine wpMono_take' 12 (v := ?_) rfl (by kernel_rfl) (by kernel_rfl) (by kernel_rfl) (fun _ _ _ h => h) (by rfl) ?_ ?_
            rotate_left
            · (intro W hSw; have hcW := hSw.cells; try simp only [World.size_drew, World.cell?_drew] at hcW
               go_simp; first | done | rfl)
            try simp only [Act.put, List.setIfInBounds_toArray, List.set_cons_zero, List.set_cons_succ]
            -- 14 Op.load 28 (Operand.tmp 6)
            refine wpMono_take' 14 (v := ?_) rfl (by kernel_rfl) (by kernel_rfl) (by kernel_rfl) (fun _ _ _ h => h) (by rfl) ?_ ?_
            rotate_left
            · (intro W hSw; have hcW := hSw.cells; try simp only [World.size_drew, World.cell?_drew] at hcW
               go_simp; first | done | rfl)
            try simp only [Act.put, List.setIfInBounds_toArray, List.set_cons_zero, List.set_cons_succ]
            -- 15 Op.load 28 (Operand.tmp 4)
            refine wpMono_take' 15 (v := ?_) rfl (by kernel_rfl) (by kernel_rfl) (by kernel_rfl) (fun _ _ _ h => h) (by rfl) ?_ ?_
            rotate_left
            · (intro W hSw; have hcW := hSw.cells; try simp only [World.size_drew, World.cell?_drew] at hcW
               go_simp; first | done | rfl)
            try simp only [Act.put, List.setIfInBounds_toArray, List.set_cons_zero, List.set_cons_succ]
            -- EFFECT 13 Op.call { callee := Callee.value (Operand.func 11), args := #[Operand.tmp 39, Operand.tmp 40], argTypes := #[28, 28] }
            refine wpMono_one' 13 (by kernel_rfl) rfl (by rfl) (fun K hK => ?_)
            go_simp
            refine (above_any t r v g l t' r' v' g' l' _).mono ?_
            rintro e w6 ⟨rfl, hb6⟩
            rw [Hab.out]
            have hz6 := hb6.size
            refine hK.out _ _ ?_ ?_
            · exact Keeps.of_below hb6
            clear hK K
            try simp only [Act.put, List.setIfInBounds_toArray, List.set_cons_zero, List.set_cons_succ]
            -- EFFECT 16 Op.call { callee := Callee.value (Operand.func 11), args := #[Operand.tmp 42, Operand.tmp 43], argTypes := #[28, 28] }
            refine wpMono_one' 16 (by kernel_rfl) rfl (by rfl) (fun K hK => ?_)
            go_simp
            refine (above_any t' r' v' g' l' t r v g l _).mono ?_
            rintro e w7 ⟨rfl, hb7⟩
            rw [Hba.out]
            refine hK.out _ _ ?_ ?_
            · exact Keeps.of_below hb7
            clear hK K
            try simp only [Act.put, List.setIfInBounds_toArray, List.set_cons_zero, List.set_cons_succ]
            -- 17 Op.binOp BinOp.neq 4 (Operand.tmp 41) (Operand.tmp 44) 4
            refine wpMono_take' 17 (v := ?_) rfl (by kernel_rfl) (by kernel_rfl) (by kernel_rfl) (fun _ _ _ h => h) (by rfl) ?_ ?_
            rotate_left
            · (intro W hSw; have hcW := hSw.cells; try simp only [World.size_drew, World.cell?_drew] at hcW
               go_simp; first | done | rfl)
            try simp only [Act.put, List.setIfInBounds_toArray, List.set_cons_zero, List.set_cons_succ]
            -- 18 Op.binOp BinOp.eql 4 (Operand.tmp 38) (Operand.tmp 45) 4
            refine wpMono_take' 18 (v := ?_) rfl (by kernel_rfl) (by kernel_rfl) (by kernel_rfl) (fun _ _ _ h => h) (by rfl) ?_ ?_
            rotate_left
            · (intro W hSw; have hcW := hSw.cells; try simp only [World.size_drew, World.cell?_drew] at hcW
               go_simp; first | done | rfl)
            try simp only [Act.put, List.setIfInBounds_toArray, List.set_cons_zero, List.set_cons_succ]
            -- 19 Op.pick (Operand.tmp 35) (Operand.const (Value.bool true)) (Operand.tmp 46)
            refine wpMono_take' 19 (v := ?_) rfl (by kernel_rfl) (by kernel_rfl) (by kernel_rfl) (fun _ _ _ h => h) (by rfl) ?_ ?_
            rotate_left
            · (intro W hSw; have hcW := hSw.cells; try simp only [World.size_drew, World.cell?_drew] at hcW
               go_simp; first | done | rfl)
            try simp only [Act.put, List.setIfInBounds_toArray, List.set_cons_zero, List.set_cons_succ]
            refine wpMono_done (by kernel_rfl) ?_ _
            have Hb7 := Lib.hid ((((((Hb.out.alloc hbs (.cells #[.int .i64 t', .int .i64 r', .string v', .bool g', .int .i64 l'] 28)).drew).trans (hb4.mono (by simp <;> omega))).trans (hb5.mono (by omega))).trans (hb6.mono (by omega))).trans (hb7.mono (by omega)))
            have Hga7 := Lib.hid ((((((Hga.out.alloc (.cells #[.int .i64 t', .int .i64 r', .string v', .bool g', .int .i64 l'] 28)).drew).below hb4 (by simp <;> omega)).below hb5 (by omega)).below hb6 (by omega)).below hb7 (by omega))
            clear hb4 hb5 hb6 hb7 e4 e4' e5 e5' heq k0 k1 k2 k3 k4
            go_wp2
            go_roundw
            case rel => exact ⟨m + 1, by omega, by go_num, Hga7.out, Hb7.out⟩
            case measure => simp [intOf]; omega
          · have Hga := Lib.hid hga; clear hga
            have Hb := Lib.hid hb; clear hb
            go_wp2
            go_roundw
            case rel => exact ⟨n + 1, by omega, by go_num, Hb.out⟩
            case measure => simp [intOf]; omega
      · have Hb := Lib.hid hb; clear hb
        go_wp2
        go_ret
        exact ⟨rfl, Hb.out⟩
end Go.Proofs.Ytbknkajlajbifaa.wRegAboves
