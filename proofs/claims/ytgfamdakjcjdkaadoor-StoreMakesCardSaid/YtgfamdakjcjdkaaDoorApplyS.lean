/- Store.Apply: what it answers, and the rows that stand then. -/
import Derived.Test.YtgfamdakjcjdkaaDoorGetS
import Derived.Laws.StructEq
namespace Go.Proofs.YtgfamdakjcjdkaaDoor.store
open Go Go.RowKit Go.Proofs.YtgfamdakjcjdkaaDoor.base Go.Proofs.YtgfamdakjcjdkaaDoor.map_ Go.Proofs.YtgfamdakjcjdkaaDoor.err Go.Proofs.YtgfamdakjcjdkaaDoor.cmp Go.Proofs.YtgfamdakjcjdkaaDoor.above Go.Proofs.YtgfamdakjcjdkaaDoor.law Go.Proofs.YtgfamdakjcjdkaaDoor.merge Go.Proofs.YtgfamdakjcjdkaaDoor.rows Go.Proofs.YtgfamdakjcjdkaaDoor.rowe Go.Maps Go.Proofs.YtgfamdakjcjdkaaDoor.monoj

def cellEq (a b : C) : Bool := (a.t == b.t && a.r == b.r) && (a.v.toList == b.v.toList && (a.g == b.g && a.l == b.l))
set_option maxHeartbeats 1000000 in
theorem eql_cell (a b : C) (w : World) : (binOp .eql 58 (cval a) (cval b)).run Tryd.prog w = .ok (.bool (cellEq a b)) w := by
  have u1 := Tryd.underlying58
  have u2 := Tryd.underlying24
  obtain ⟨t, r, v, g, l⟩ := a
  obtain ⟨t', r', v', g', l'⟩ := b
  unfold cval cellEq
  dsimp only
  cases h1 : (t == t') <;> cases h2 : (r == r') <;> cases h3 : (v.toList == v'.toList) <;> cases h4 : (g == g') <;> cases h5 : (l == l') <;> go_simp
theorem cellEq_iff (a b : C) : cellEq a b = true ↔ a = b := by
  unfold cellEq
  simp only [Bool.and_eq_true, beq_iff_eq]
  constructor
  · rintro ⟨⟨h1, h2⟩, h3, h4, h5⟩; exact C.ext' h1 h2 h3 h4 h5
  · rintro rfl; exact ⟨⟨rfl, rfl⟩, rfl, rfl, rfl⟩
instance : DecidableEq C := fun a b => if h : cellEq a b = true then isTrue ((cellEq_iff a b).1 h) else isFalse (fun e => h ((cellEq_iff a b).2 e))
theorem cellEq_self (a : C) : cellEq a a = true := (cellEq_iff a a).2 rfl
theorem cellEq_above {a b : C} (h : above a b = true) : cellEq a b = false := by
  rw [Bool.eq_false_iff, ne_eq, cellEq_iff]
  rintro rfl
  rw [above_irrefl] at h; cases h
theorem exec_eql {P : Program} {o : Oper} {ev : Operand → Value} {w : World} (t u : TypeId) (x y : Operand) (ho : o.op = .binOp .eql t x y u) (xs ys : Array Value) (hx : ev x = .agg xs) (hy : ev y = .agg ys)
    (hm : P.eqGuardType P.depth t = false) (b : Bool) (h : (binOp .eql t (.agg xs) (.agg ys)).run P w = .ok (.bool b) w) : (execOp ev o).run P w = .ok (.value (.bool b)) w := by
  have hg := run_eqGuard_agg (P := P) w .eql t x y xs ys hm
  unfold execOp
  simp only [ho, hx, hy, Sem.run_bind, hg, Result.andThen_ok, h, Sem.run_pure]
theorem wpList_val {P : Program} {ops : Array Oper} {rest : List Oper} {o : Oper} {a : Act} {Q : Exit → Act → World → Prop} {w : World} (hgd : Region.wanted o (yielded ops a.tmps) = true) (v : Value)
    (h : (execOp a.eval o).run P w = .ok (.value v) w) (hn : wpList P ops Q rest (a.put o.dst v) w) : wpList P ops Q (o :: rest) a w :=
  wpList_step fun _ hK => by
    rw [if_pos hgd]
    unfold Oper.wp
    rw [h]
    exact hK _ _ hn
/-- what Apply leaves -/
def ApplyR (g bm : Nat) (L : List R) (x : Nm) (c : C) (w : World) (e : Ending) (w' : World) : Prop :=
  e = .returned (.bool (newC (getL L x) c)) ∧ StI w' g bm (takeL L x c) ∧ Keeps (· = bm) w w'
theorem apply_nil (W : Array Value) (w : World) : Calls Tryd.prog 12 #[.pointer none, .agg W] w fun e w' => e = .returned (.bool false) ∧ Below w.heap.size w w' := by
  have hb := below_new w (.cells W 28)
  have Hb := Lib.hid hb
  clear hb
  go_enter Tryd.func12, Tryd.ntmps12
  go_wp2
  go_ret
  exact ⟨rfl, Hb.out⟩
theorem cells10 {w : World} {g : Nat} {T : TypeId} {a0 a1 a2 a3 a4 a5 a6 a7 a8 a9 : Value} (h : Blk w g T #[a0, a1, a2, a3, a4, a5, a6, a7, a8, a9]) :
    w.cell? ⟨g, 0, none⟩ = some a0 ∧ w.cell? ⟨g, 1, none⟩ = some a1 ∧ w.cell? ⟨g, 2, none⟩ = some a2 ∧ w.cell? ⟨g, 3, none⟩ = some a3 ∧ w.cell? ⟨g, 4, none⟩ = some a4 ∧ w.cell? ⟨g, 5, none⟩ = some a5 ∧ w.cell? ⟨g, 6, none⟩ = some a6 ∧
      w.cell? ⟨g, 7, none⟩ = some a7 ∧ w.cell? ⟨g, 8, none⟩ = some a8 ∧ w.cell? ⟨g, 9, none⟩ = some a9 :=
  ⟨h.cell 0, h.cell 1, h.cell 2, h.cell 3, h.cell 4, h.cell 5, h.cell 6, h.cell 7, h.cell 8, h.cell 9⟩
set_option maxRecDepth 100000 in
set_option maxHeartbeats 4000000 in
theorem apply_any (g bm : Nat) (L : List R) (rg nm t r : Int) (A : Option Addr) (n c : Nat) (ss ky v : ByteArray) (gn : Bool) (l : Int) (w : World) (h : StI w g bm L) (hs : ss.size ≤ maxLen) (hk : ky.size ≤ maxLen) :
    Calls Tryd.prog 12 #[.pointer (some ⟨g, 0, none⟩), .agg (wcells rg nm t r A n c ss ky v gn l)] w (ApplyR g bm L (ss, ky) ⟨t, r, v, gn, l⟩ w) := by
  have hok : okName (ss, ky) := ⟨hs, hk⟩
  have hb2 := below_alloc (below_new w (.cells (wcells rg nm t r A n c ss ky v gn l) 28)) (.cells #[.string ss, .string ky] 67)
  have h2 := (h.below hb2).below (Below.refl _ _).drew
  have hN2 := (Blk.newAt (w.alloc (.cells (wcells rg nm t r A n c ss ky v gn l) 28)) 67 #[.string ss, .string ky] (g := w.heap.size + 1) (by simp)).drew
  have hW2 := ((Blk.new w 28 (wcells rg nm t r A n c ss ky v gn l)).alloc (.cells #[.string ss, .string ky] 67)).drew
  have hX1 : ¬ g = w.heap.size + 1 + 1 := by have := h.lt; omega
  have hX2 : ¬ bm = w.heap.size + 1 + 1 := by have := h.ltm; omega
  have hlt1 := h.lt
  have hlt2 := h.ltm
  have Hb2 := Lib.hid hb2
  have H2 := Lib.hid h2
  have HN2 := Lib.hid hN2
  have HW2 := Lib.hid hW2
  have HX1 := Lib.hid hX1
  have HX2 := Lib.hid hX2
  have Hok := Lib.hid hok
  clear h hb2 h2 hN2 hW2 hX1 hX2 hok
  cases hgo : getL L (ss, ky) with
  | none =>
    have hat : atL L (ss, ky) = zeroC := by unfold atL; rw [hgo]; rfl
    have hat : atL L (ss, ky) = ⟨0, 0, ⟨#[]⟩, false, 0⟩ := hat
    have Hgo := Lib.hid hgo
    have Hat := Lib.hid hat
    clear hgo hat
    go_enter Tryd.func12, Tryd.ntmps12
    go_wp2_with fail
    refine wp_region_mono (fun i => i = w.heap.size + 1 + 1) (by kernel_rfl) ?_
    -- 0 Op.move (Operand.tmp 0)
    refine wpMono_take' 0 (v := ?_) rfl (by kernel_rfl) (by kernel_rfl) (by kernel_rfl) (fun _ _ _ h => h) (by rfl) ?_ ?_
    rotate_left
    · (intro W hSw; (try have hgW := H2.out.keeps hSw HX1.out HX2.out; try have y0 : W.cell? ⟨g, 0, none⟩ = some (.map (some bm)) := hgW.blk.cell 0; try have gl := hgW.lt; try have hlk := hgW.look_ok (x := (ss, ky)) Hok.out; try (rw [Hgo.out, Hat.out] at hlk; unfold cval nameV at hlk; dsimp only at hlk); try have hn := HN2.out.keeps hSw (by omega); try have n0 : W.cell? ⟨w.heap.size + 1, 0, none⟩ = some (.string ss) := hn.cell 0; try have n1 : W.cell? ⟨w.heap.size + 1, 1, none⟩ = some (.string ky) := hn.cell 1; try have nl := hn.lt)
       go_simp; first | done | rfl)
    try simp only [Act.put, List.setIfInBounds_toArray, List.set_cons_zero, List.set_cons_succ]
    -- 1 Op.nilCheck (Operand.tmp 17)
    refine wpMono_take' 1 (v := ?_) rfl (by kernel_rfl) (by kernel_rfl) (by kernel_rfl) (fun _ _ _ h => h) (by rfl) ?_ ?_
    rotate_left
    · (intro W hSw; (try have hgW := H2.out.keeps hSw HX1.out HX2.out; try have y0 : W.cell? ⟨g, 0, none⟩ = some (.map (some bm)) := hgW.blk.cell 0; try have gl := hgW.lt; try have hlk := hgW.look_ok (x := (ss, ky)) Hok.out; try (rw [Hgo.out, Hat.out] at hlk; unfold cval nameV at hlk; dsimp only at hlk); try have hn := HN2.out.keeps hSw (by omega); try have n0 : W.cell? ⟨w.heap.size + 1, 0, none⟩ = some (.string ss) := hn.cell 0; try have n1 : W.cell? ⟨w.heap.size + 1, 1, none⟩ = some (.string ky) := hn.cell 1; try have nl := hn.lt)
       go_simp; first | done | rfl)
    try simp only [Act.put, List.setIfInBounds_toArray, List.set_cons_zero, List.set_cons_succ]
    -- 2 Op.fieldAddr 65 (Operand.tmp 18) 0
    refine wpMono_take' 2 (v := ?_) rfl (by kernel_rfl) (by kernel_rfl) (by kernel_rfl) (fun _ _ _ h => h) (by rfl) ?_ ?_
    rotate_left
    · (intro W hSw; (try have hgW := H2.out.keeps hSw HX1.out HX2.out; try have y0 : W.cell? ⟨g, 0, none⟩ = some (.map (some bm)) := hgW.blk.cell 0; try have gl := hgW.lt; try have hlk := hgW.look_ok (x := (ss, ky)) Hok.out; try (rw [Hgo.out, Hat.out] at hlk; unfold cval nameV at hlk; dsimp only at hlk); try have hn := HN2.out.keeps hSw (by omega); try have n0 : W.cell? ⟨w.heap.size + 1, 0, none⟩ = some (.string ss) := hn.cell 0; try have n1 : W.cell? ⟨w.heap.size + 1, 1, none⟩ = some (.string ky) := hn.cell 1; try have nl := hn.lt)
       go_simp; first | done | rfl)
    try simp only [Act.put, List.setIfInBounds_toArray, List.set_cons_zero, List.set_cons_succ]
    -- 3 Op.load 63 (Operand.tmp 19)
    refine wpMono_take' 3 (v := ?_) rfl (by kernel_rfl) (by kernel_rfl) (by kernel_rfl) (fun _ _ _ h => h) (by rfl) ?_ ?_
    rotate_left
    · (intro W hSw; (try have hgW := H2.out.keeps hSw HX1.out HX2.out; try have y0 : W.cell? ⟨g, 0, none⟩ = some (.map (some bm)) := hgW.blk.cell 0; try have gl := hgW.lt; try have hlk := hgW.look_ok (x := (ss, ky)) Hok.out; try (rw [Hgo.out, Hat.out] at hlk; unfold cval nameV at hlk; dsimp only at hlk); try have hn := HN2.out.keeps hSw (by omega); try have n0 : W.cell? ⟨w.heap.size + 1, 0, none⟩ = some (.string ss) := hn.cell 0; try have n1 : W.cell? ⟨w.heap.size + 1, 1, none⟩ = some (.string ky) := hn.cell 1; try have nl := hn.lt)
       go_simp; first | done | rfl)
    try simp only [Act.put, List.setIfInBounds_toArray, List.set_cons_zero, List.set_cons_succ]
    -- 4 Op.load 67 (Operand.tmp 5)
    refine wpMono_take' 4 (v := ?_) rfl (by kernel_rfl) (by kernel_rfl) (by kernel_rfl) (fun _ _ _ h => h) (by rfl) ?_ ?_
    rotate_left
    · (intro W hSw; (try have hgW := H2.out.keeps hSw HX1.out HX2.out; try have y0 : W.cell? ⟨g, 0, none⟩ = some (.map (some bm)) := hgW.blk.cell 0; try have gl := hgW.lt; try have hlk := hgW.look_ok (x := (ss, ky)) Hok.out; try (rw [Hgo.out, Hat.out] at hlk; unfold cval nameV at hlk; dsimp only at hlk); try have hn := HN2.out.keeps hSw (by omega); try have n0 : W.cell? ⟨w.heap.size + 1, 0, none⟩ = some (.string ss) := hn.cell 0; try have n1 : W.cell? ⟨w.heap.size + 1, 1, none⟩ = some (.string ky) := hn.cell 1; try have nl := hn.lt)
       go_simp; first | done | rfl)
    try simp only [Act.put, List.setIfInBounds_toArray, List.set_cons_zero, List.set_cons_succ]
    -- 5 Op.lookup 63 (Operand.tmp 20) (Operand.tmp 21) true
    refine wpMono_take' 5 (v := ?_) rfl (by kernel_rfl) (by kernel_rfl) (by kernel_rfl) (fun _ _ _ h => h) (by rfl) ?_ ?_
    rotate_left
    · (intro W hSw; (try have hgW := H2.out.keeps hSw HX1.out HX2.out; try have y0 : W.cell? ⟨g, 0, none⟩ = some (.map (some bm)) := hgW.blk.cell 0; try have gl := hgW.lt; try have hlk := hgW.look_ok (x := (ss, ky)) Hok.out; try (rw [Hgo.out, Hat.out] at hlk; unfold cval nameV at hlk; dsimp only at hlk); try have hn := HN2.out.keeps hSw (by omega); try have n0 : W.cell? ⟨w.heap.size + 1, 0, none⟩ = some (.string ss) := hn.cell 0; try have n1 : W.cell? ⟨w.heap.size + 1, 1, none⟩ = some (.string ky) := hn.cell 1; try have nl := hn.lt)
       go_simp; first | done | rfl)
    try simp only [Act.put, List.setIfInBounds_toArray, List.set_cons_zero, List.set_cons_succ]
    -- 6 Op.move (Operand.tmp 22)
    refine wpMono_take' 6 (v := ?_) rfl (by kernel_rfl) (by kernel_rfl) (by kernel_rfl) (fun _ _ _ h => h) (by rfl) ?_ ?_
    rotate_left
    · (intro W hSw; (try have hgW := H2.out.keeps hSw HX1.out HX2.out; try have y0 : W.cell? ⟨g, 0, none⟩ = some (.map (some bm)) := hgW.blk.cell 0; try have gl := hgW.lt; try have hlk := hgW.look_ok (x := (ss, ky)) Hok.out; try (rw [Hgo.out, Hat.out] at hlk; unfold cval nameV at hlk; dsimp only at hlk); try have hn := HN2.out.keeps hSw (by omega); try have n0 : W.cell? ⟨w.heap.size + 1, 0, none⟩ = some (.string ss) := hn.cell 0; try have n1 : W.cell? ⟨w.heap.size + 1, 1, none⟩ = some (.string ky) := hn.cell 1; try have nl := hn.lt)
       go_simp; first | done | rfl)
    try simp only [Act.put, List.setIfInBounds_toArray, List.set_cons_zero, List.set_cons_succ]
    -- 7 Op.extract (Operand.tmp 16) 0
    refine wpMono_take' 7 (v := ?_) rfl (by kernel_rfl) (by kernel_rfl) (by kernel_rfl) (fun _ _ _ h => h) (by rfl) ?_ ?_
    rotate_left
    · (intro W hSw; (try have hgW := H2.out.keeps hSw HX1.out HX2.out; try have y0 : W.cell? ⟨g, 0, none⟩ = some (.map (some bm)) := hgW.blk.cell 0; try have gl := hgW.lt; try have hlk := hgW.look_ok (x := (ss, ky)) Hok.out; try (rw [Hgo.out, Hat.out] at hlk; unfold cval nameV at hlk; dsimp only at hlk); try have hn := HN2.out.keeps hSw (by omega); try have n0 : W.cell? ⟨w.heap.size + 1, 0, none⟩ = some (.string ss) := hn.cell 0; try have n1 : W.cell? ⟨w.heap.size + 1, 1, none⟩ = some (.string ky) := hn.cell 1; try have nl := hn.lt)
       go_simp; first | done | rfl)
    try simp only [Act.put, List.setIfInBounds_toArray, List.set_cons_zero, List.set_cons_succ]
    -- 8 Op.extract (Operand.tmp 16) 1
    refine wpMono_take' 8 (v := ?_) rfl (by kernel_rfl) (by kernel_rfl) (by kernel_rfl) (fun _ _ _ h => h) (by rfl) ?_ ?_
    rotate_left
    · (intro W hSw; (try have hgW := H2.out.keeps hSw HX1.out HX2.out; try have y0 : W.cell? ⟨g, 0, none⟩ = some (.map (some bm)) := hgW.blk.cell 0; try have gl := hgW.lt; try have hlk := hgW.look_ok (x := (ss, ky)) Hok.out; try (rw [Hgo.out, Hat.out] at hlk; unfold cval nameV at hlk; dsimp only at hlk); try have hn := HN2.out.keeps hSw (by omega); try have n0 : W.cell? ⟨w.heap.size + 1, 0, none⟩ = some (.string ss) := hn.cell 0; try have n1 : W.cell? ⟨w.heap.size + 1, 1, none⟩ = some (.string ky) := hn.cell 1; try have nl := hn.lt)
       go_simp; first | done | rfl)
    try simp only [Act.put, List.setIfInBounds_toArray, List.set_cons_zero, List.set_cons_succ]
    -- EFFECT 9 Op.alloc 58
    refine wpMono_one' 9 (by kernel_rfl) rfl (by rfl) (fun K hK => ?_)
    go_simp
    have HC0 := Lib.hid (Blk.newAt ((w.alloc (.cells (wcells rg nm t r A n c ss ky v gn l) 28)).alloc (.cells #[.string ss, .string ky] 67)).drew 58 #[.int .i64 0, .int .i64 0, .string ⟨#[]⟩, .bool false, .int .i64 0] (g := w.heap.size + 1 + 1) (by simp))
    refine hK.out _ _ ?_ ?_
    · exact .alloc _
    clear hK K
    try simp only [Act.put, List.setIfInBounds_toArray, List.set_cons_zero, List.set_cons_succ]
    -- EFFECT 10 Op.store 58 (Operand.tmp 6) (Operand.tmp 23)
    refine wpMono_one' 10 (by kernel_rfl) rfl (by rfl) (fun K hK => ?_)
    refine wp_store_at 58 (.tmp 6) (.tmp 23) rfl (w.heap.size + 1 + 1) 0 [.int .i64 0, .int .i64 0, .string ⟨#[]⟩, .bool false, .int .i64 0] rfl rfl HC0.out rfl (by simp) rfl (fun w3 hq1 hq2 hq3 => ?_)
    have hbc := below_new ((w.alloc (.cells (wcells rg nm t r A n c ss ky v gn l) 28)).alloc (.cells #[.string ss, .string ky] 67)).drew (.cells #[.int .i64 0, .int .i64 0, .string ⟨#[]⟩, .bool false, .int .i64 0] 58)
    have HB3 := Lib.hid (((Hb2.out.drew).trans (hbc.mono (by simp; omega))).trans (hq2.below (B := w.heap.size) (fun i hi e => by omega) (by simp; omega)))
    have HC3 := Lib.hid (show Blk w3 (w.heap.size + 1 + 1) 58 #[.int .i64 0, .int .i64 0, .string ⟨#[]⟩, .bool false, .int .i64 0] from hq1)
    have HN3 := Lib.hid ((HN2.out.below hbc (by simp)).keeps hq2 (by omega))
    have HW3 := Lib.hid ((HW2.out.below hbc (by simp; omega)).keeps hq2 (by omega))
    have H3 := Lib.hid ((H2.out.below hbc).keeps hq2 HX1.out HX2.out)
    have hz3 : w.heap.size + 1 + 1 < w3.heap.size := HC3.out.lt
    clear hbc hq1 hq3 HC0
    refine hK.out _ _ ?_ ?_
    · exact hq2
    clear hK K
    try simp only [Act.put]
    -- 11 Op.assign (Operand.tmp 24)
    refine wpMono_take' 11 (v := ?_) rfl (by kernel_rfl) (by kernel_rfl) (by kernel_rfl) (fun _ _ _ h => h) (by rfl) ?_ ?_
    rotate_left
    · (intro W hSw; (try have hgW := H2.out.keeps hSw HX1.out HX2.out; try have y0 : W.cell? ⟨g, 0, none⟩ = some (.map (some bm)) := hgW.blk.cell 0; try have gl := hgW.lt; try have hlk := hgW.look_ok (x := (ss, ky)) Hok.out; try (rw [Hgo.out, Hat.out] at hlk; unfold cval nameV at hlk; dsimp only at hlk); try have hn := HN2.out.keeps hSw (by omega); try have n0 : W.cell? ⟨w.heap.size + 1, 0, none⟩ = some (.string ss) := hn.cell 0; try have n1 : W.cell? ⟨w.heap.size + 1, 1, none⟩ = some (.string ky) := hn.cell 1; try have nl := hn.lt)
       go_simp; first | done | rfl)
    try simp only [Act.put, List.setIfInBounds_toArray, List.set_cons_zero, List.set_cons_succ]
    refine wpMono_done (by kernel_rfl) ?_ _
    clear hq2 H2 HN2 HW2 Hb2
    obtain ⟨k0, k1, k2, k3, k4, k5, k6, k7, k8, k9⟩ := cells10 HW3.out
    go_wp2_with fail
    refine (of_any rg nm t r A n c ss ky v gn l w3).mono ?_
    rintro e w4 ⟨rfl, hb4⟩
    clear k0 k1 k2 k3 k4 k5 k6 k7 k8 k9
    have hb5 := below_alloc hb4 (.cells #[.int .i64 t, .int .i64 r, .string v, .bool gn, .int .i64 l] 58)
    have HB5 := Lib.hid (HB3.out.trans (hb5.mono (by omega)))
    have HC5 := Lib.hid (HC3.out.below hb5 hz3)
    have HN5 := Lib.hid (HN3.out.below hb5 (by omega))
    have H5 := Lib.hid (H3.out.below hb5)
    have HD5 := Lib.hid (Blk.new w4 58 #[.int .i64 t, .int .i64 r, .string v, .bool gn, .int .i64 l])
    have hz5 : w3.heap.size ≤ w4.heap.size := hb4.size
    have Hh5 := Lib.hid hb4
    clear hb4 hb5 H3 HN3 HW3 HC3 HB3
    have hzz : bm < w4.heap.size := by omega
    have HX3 := Lib.hid (H5.out.ne)
    have HX4 := Lib.hid (show ¬ w.heap.size + 1 = bm by omega)
    have HX5 := Lib.hid (show ¬ w4.heap.size = bm by omega)
    go_wp2_with fail
    have hnew : newC (getL L (ss, ky)) ⟨t, r, v, gn, l⟩ = true := by rw [Hgo.out]; rfl
    have htak : takeC (getL L (ss, ky)) ⟨t, r, v, gn, l⟩ = ⟨t, r, v, gn, l⟩ := by rw [Hgo.out]; rfl
    have Hnew := Lib.hid hnew
    have Htak := Lib.hid htak
    clear hnew htak
    obtain ⟨w7, hu, hS7, hK7⟩ := (H5.out.below (Below.refl _ _).drew).put Hok.out ⟨t, r, v, gn, l⟩
    have HS7 := Lib.hid hS7
    have HK7 := Lib.hid hK7
    clear hS7 hK7
    unfold cval nameV at hu
    dsimp only at hu
    have HU := Lib.hid hu
    clear hu
    have HR := Lib.hid (show ApplyR g bm L (ss, ky) ⟨t, r, v, gn, l⟩ w (.returned (.bool true)) w7 from ⟨by rw [Hnew.out], by unfold takeL; rw [Htak.out]; exact HS7.out, (Keeps.of_below HB5.out).trans ((Keeps.drew).trans HK7.out)⟩)
    refine wp_region_mono (fun i => i = bm) (by kernel_rfl) ?_
    -- 0 Op.move (Operand.tmp 0)
    refine wpMono_take' 0 (v := ?_) rfl (by kernel_rfl) (by kernel_rfl) (by kernel_rfl) (fun _ _ _ h => h) (by rfl) ?_ ?_
    rotate_left
    · (intro W hSw; (try have hgW := (H5.out.below (Below.refl _ _).drew).blk.keeps hSw HX3.out; try have y0 : W.cell? ⟨g, 0, none⟩ = some (.map (some bm)) := hgW.cell 0; try have gl := hgW.lt; try have hn := HN5.out.drew.keeps hSw HX4.out; try have n0 : W.cell? ⟨w.heap.size + 1, 0, none⟩ = some (.string ss) := hn.cell 0; try have n1 : W.cell? ⟨w.heap.size + 1, 1, none⟩ = some (.string ky) := hn.cell 1; try have nl := hn.lt; try have hd := HD5.out.drew.keeps hSw HX5.out; try (obtain ⟨d0, d1, d2, d3, d4⟩ := Blk.cells5 hd); try have dl := hd.lt)
       go_simp; first | done | rfl)
    try simp only [Act.put, List.setIfInBounds_toArray, List.set_cons_zero, List.set_cons_succ]
    -- 1 Op.nilCheck (Operand.tmp 38)
    refine wpMono_take' 1 (v := ?_) rfl (by kernel_rfl) (by kernel_rfl) (by kernel_rfl) (fun _ _ _ h => h) (by rfl) ?_ ?_
    rotate_left
    · (intro W hSw; (try have hgW := (H5.out.below (Below.refl _ _).drew).blk.keeps hSw HX3.out; try have y0 : W.cell? ⟨g, 0, none⟩ = some (.map (some bm)) := hgW.cell 0; try have gl := hgW.lt; try have hn := HN5.out.drew.keeps hSw HX4.out; try have n0 : W.cell? ⟨w.heap.size + 1, 0, none⟩ = some (.string ss) := hn.cell 0; try have n1 : W.cell? ⟨w.heap.size + 1, 1, none⟩ = some (.string ky) := hn.cell 1; try have nl := hn.lt; try have hd := HD5.out.drew.keeps hSw HX5.out; try (obtain ⟨d0, d1, d2, d3, d4⟩ := Blk.cells5 hd); try have dl := hd.lt)
       go_simp; first | done | rfl)
    try simp only [Act.put, List.setIfInBounds_toArray, List.set_cons_zero, List.set_cons_succ]
    -- 2 Op.fieldAddr 65 (Operand.tmp 39) 0
    refine wpMono_take' 2 (v := ?_) rfl (by kernel_rfl) (by kernel_rfl) (by kernel_rfl) (fun _ _ _ h => h) (by rfl) ?_ ?_
    rotate_left
    · (intro W hSw; (try have hgW := (H5.out.below (Below.refl _ _).drew).blk.keeps hSw HX3.out; try have y0 : W.cell? ⟨g, 0, none⟩ = some (.map (some bm)) := hgW.cell 0; try have gl := hgW.lt; try have hn := HN5.out.drew.keeps hSw HX4.out; try have n0 : W.cell? ⟨w.heap.size + 1, 0, none⟩ = some (.string ss) := hn.cell 0; try have n1 : W.cell? ⟨w.heap.size + 1, 1, none⟩ = some (.string ky) := hn.cell 1; try have nl := hn.lt; try have hd := HD5.out.drew.keeps hSw HX5.out; try (obtain ⟨d0, d1, d2, d3, d4⟩ := Blk.cells5 hd); try have dl := hd.lt)
       go_simp; first | done | rfl)
    try simp only [Act.put, List.setIfInBounds_toArray, List.set_cons_zero, List.set_cons_succ]
    -- 3 Op.load 63 (Operand.tmp 40)
    refine wpMono_take' 3 (v := ?_) rfl (by kernel_rfl) (by kernel_rfl) (by kernel_rfl) (fun _ _ _ h => h) (by rfl) ?_ ?_
    rotate_left
    · (intro W hSw; (try have hgW := (H5.out.below (Below.refl _ _).drew).blk.keeps hSw HX3.out; try have y0 : W.cell? ⟨g, 0, none⟩ = some (.map (some bm)) := hgW.cell 0; try have gl := hgW.lt; try have hn := HN5.out.drew.keeps hSw HX4.out; try have n0 : W.cell? ⟨w.heap.size + 1, 0, none⟩ = some (.string ss) := hn.cell 0; try have n1 : W.cell? ⟨w.heap.size + 1, 1, none⟩ = some (.string ky) := hn.cell 1; try have nl := hn.lt; try have hd := HD5.out.drew.keeps hSw HX5.out; try (obtain ⟨d0, d1, d2, d3, d4⟩ := Blk.cells5 hd); try have dl := hd.lt)
       go_simp; first | done | rfl)
    try simp only [Act.put, List.setIfInBounds_toArray, List.set_cons_zero, List.set_cons_succ]
    -- 4 Op.load 67 (Operand.tmp 5)
    refine wpMono_take' 4 (v := ?_) rfl (by kernel_rfl) (by kernel_rfl) (by kernel_rfl) (fun _ _ _ h => h) (by rfl) ?_ ?_
    rotate_left
    · (intro W hSw; (try have hgW := (H5.out.below (Below.refl _ _).drew).blk.keeps hSw HX3.out; try have y0 : W.cell? ⟨g, 0, none⟩ = some (.map (some bm)) := hgW.cell 0; try have gl := hgW.lt; try have hn := HN5.out.drew.keeps hSw HX4.out; try have n0 : W.cell? ⟨w.heap.size + 1, 0, none⟩ = some (.string ss) := hn.cell 0; try have n1 : W.cell? ⟨w.heap.size + 1, 1, none⟩ = some (.string ky) := hn.cell 1; try have nl := hn.lt; try have hd := HD5.out.drew.keeps hSw HX5.out; try (obtain ⟨d0, d1, d2, d3, d4⟩ := Blk.cells5 hd); try have dl := hd.lt)
       go_simp; first | done | rfl)
    try simp only [Act.put, List.setIfInBounds_toArray, List.set_cons_zero, List.set_cons_succ]
    -- 5 Op.load 58 (Operand.tmp 8)
    refine wpMono_take' 5 (v := ?_) rfl (by kernel_rfl) (by kernel_rfl) (by kernel_rfl) (fun _ _ _ h => h) (by rfl) ?_ ?_
    rotate_left
    · (intro W hSw; (try have hgW := (H5.out.below (Below.refl _ _).drew).blk.keeps hSw HX3.out; try have y0 : W.cell? ⟨g, 0, none⟩ = some (.map (some bm)) := hgW.cell 0; try have gl := hgW.lt; try have hn := HN5.out.drew.keeps hSw HX4.out; try have n0 : W.cell? ⟨w.heap.size + 1, 0, none⟩ = some (.string ss) := hn.cell 0; try have n1 : W.cell? ⟨w.heap.size + 1, 1, none⟩ = some (.string ky) := hn.cell 1; try have nl := hn.lt; try have hd := HD5.out.drew.keeps hSw HX5.out; try (obtain ⟨d0, d1, d2, d3, d4⟩ := Blk.cells5 hd); try have dl := hd.lt)
       go_simp; first | done | rfl)
    try simp only [Act.put, List.setIfInBounds_toArray, List.set_cons_zero, List.set_cons_succ]
    -- EFFECT 6 Op.mapUpdate 63 (Operand.tmp 41) (Operand.tmp 42) (Operand.tmp 43)
    refine wpMono_one' 6 (by kernel_rfl) rfl (by rfl) (fun K hK => ?_)
    have hu : (Instr.mapUpdate _ (.map (some bm)) (.agg #[.string ss, .string ky]) _).run _ _ = _ := HU.out
    go_simp
    refine hK.out _ _ ?_ ?_
    · exact HK7.out
    clear hK K
    try simp only [Act.put]
    refine wpMono_done (by kernel_rfl) ?_ _
    go_wp2
    go_ret
    exact HR.out
  | some d =>
    obtain ⟨dt, dr, dv, dg, dl⟩ := d
    have hat : atL L (ss, ky) = ⟨dt, dr, dv, dg, dl⟩ := by unfold atL; rw [hgo]; rfl
    have Hgo := Lib.hid hgo
    have Hat := Lib.hid hat
    clear hgo hat
    go_enter Tryd.func12, Tryd.ntmps12
    go_wp2_with fail
    refine wp_region_mono (fun i => i = w.heap.size + 1 + 1) (by kernel_rfl) ?_
    -- 0 Op.move (Operand.tmp 0)
    refine wpMono_take' 0 (v := ?_) rfl (by kernel_rfl) (by kernel_rfl) (by kernel_rfl) (fun _ _ _ h => h) (by rfl) ?_ ?_
    rotate_left
    · (intro W hSw; (try have hgW := H2.out.keeps hSw HX1.out HX2.out; try have y0 : W.cell? ⟨g, 0, none⟩ = some (.map (some bm)) := hgW.blk.cell 0; try have gl := hgW.lt; try have hlk := hgW.look_ok (x := (ss, ky)) Hok.out; try (rw [Hgo.out, Hat.out] at hlk; unfold cval nameV at hlk; dsimp only at hlk); try have hn := HN2.out.keeps hSw (by omega); try have n0 : W.cell? ⟨w.heap.size + 1, 0, none⟩ = some (.string ss) := hn.cell 0; try have n1 : W.cell? ⟨w.heap.size + 1, 1, none⟩ = some (.string ky) := hn.cell 1; try have nl := hn.lt)
       go_simp; first | done | rfl)
    try simp only [Act.put, List.setIfInBounds_toArray, List.set_cons_zero, List.set_cons_succ]
    -- 1 Op.nilCheck (Operand.tmp 17)
    refine wpMono_take' 1 (v := ?_) rfl (by kernel_rfl) (by kernel_rfl) (by kernel_rfl) (fun _ _ _ h => h) (by rfl) ?_ ?_
    rotate_left
    · (intro W hSw; (try have hgW := H2.out.keeps hSw HX1.out HX2.out; try have y0 : W.cell? ⟨g, 0, none⟩ = some (.map (some bm)) := hgW.blk.cell 0; try have gl := hgW.lt; try have hlk := hgW.look_ok (x := (ss, ky)) Hok.out; try (rw [Hgo.out, Hat.out] at hlk; unfold cval nameV at hlk; dsimp only at hlk); try have hn := HN2.out.keeps hSw (by omega); try have n0 : W.cell? ⟨w.heap.size + 1, 0, none⟩ = some (.string ss) := hn.cell 0; try have n1 : W.cell? ⟨w.heap.size + 1, 1, none⟩ = some (.string ky) := hn.cell 1; try have nl := hn.lt)
       go_simp; first | done | rfl)
    try simp only [Act.put, List.setIfInBounds_toArray, List.set_cons_zero, List.set_cons_succ]
    -- 2 Op.fieldAddr 65 (Operand.tmp 18) 0
    refine wpMono_take' 2 (v := ?_) rfl (by kernel_rfl) (by kernel_rfl) (by kernel_rfl) (fun _ _ _ h => h) (by rfl) ?_ ?_
    rotate_left
    · (intro W hSw; (try have hgW := H2.out.keeps hSw HX1.out HX2.out; try have y0 : W.cell? ⟨g, 0, none⟩ = some (.map (some bm)) := hgW.blk.cell 0; try have gl := hgW.lt; try have hlk := hgW.look_ok (x := (ss, ky)) Hok.out; try (rw [Hgo.out, Hat.out] at hlk; unfold cval nameV at hlk; dsimp only at hlk); try have hn := HN2.out.keeps hSw (by omega); try have n0 : W.cell? ⟨w.heap.size + 1, 0, none⟩ = some (.string ss) := hn.cell 0; try have n1 : W.cell? ⟨w.heap.size + 1, 1, none⟩ = some (.string ky) := hn.cell 1; try have nl := hn.lt)
       go_simp; first | done | rfl)
    try simp only [Act.put, List.setIfInBounds_toArray, List.set_cons_zero, List.set_cons_succ]
    -- 3 Op.load 63 (Operand.tmp 19)
    refine wpMono_take' 3 (v := ?_) rfl (by kernel_rfl) (by kernel_rfl) (by kernel_rfl) (fun _ _ _ h => h) (by rfl) ?_ ?_
    rotate_left
    · (intro W hSw; (try have hgW := H2.out.keeps hSw HX1.out HX2.out; try have y0 : W.cell? ⟨g, 0, none⟩ = some (.map (some bm)) := hgW.blk.cell 0; try have gl := hgW.lt; try have hlk := hgW.look_ok (x := (ss, ky)) Hok.out; try (rw [Hgo.out, Hat.out] at hlk; unfold cval nameV at hlk; dsimp only at hlk); try have hn := HN2.out.keeps hSw (by omega); try have n0 : W.cell? ⟨w.heap.size + 1, 0, none⟩ = some (.string ss) := hn.cell 0; try have n1 : W.cell? ⟨w.heap.size + 1, 1, none⟩ = some (.string ky) := hn.cell 1; try have nl := hn.lt)
       go_simp; first | done | rfl)
    try simp only [Act.put, List.setIfInBounds_toArray, List.set_cons_zero, List.set_cons_succ]
    -- 4 Op.load 67 (Operand.tmp 5)
    refine wpMono_take' 4 (v := ?_) rfl (by kernel_rfl) (by kernel_rfl) (by kernel_rfl) (fun _ _ _ h => h) (by rfl) ?_ ?_
    rotate_left
    · (intro W hSw; (try have hgW := H2.out.keeps hSw HX1.out HX2.out; try have y0 : W.cell? ⟨g, 0, none⟩ = some (.map (some bm)) := hgW.blk.cell 0; try have gl := hgW.lt; try have hlk := hgW.look_ok (x := (ss, ky)) Hok.out; try (rw [Hgo.out, Hat.out] at hlk; unfold cval nameV at hlk; dsimp only at hlk); try have hn := HN2.out.keeps hSw (by omega); try have n0 : W.cell? ⟨w.heap.size + 1, 0, none⟩ = some (.string ss) := hn.cell 0; try have n1 : W.cell? ⟨w.heap.size + 1, 1, none⟩ = some (.string ky) := hn.cell 1; try have nl := hn.lt)
       go_simp; first | done | rfl)
    try simp only [Act.put, List.setIfInBounds_toArray, List.set_cons_zero, List.set_cons_succ]
    -- 5 Op.lookup 63 (Operand.tmp 20) (Operand.tmp 21) true
    refine wpMono_take' 5 (v := ?_) rfl (by kernel_rfl) (by kernel_rfl) (by kernel_rfl) (fun _ _ _ h => h) (by rfl) ?_ ?_
    rotate_left
    · (intro W hSw; (try have hgW := H2.out.keeps hSw HX1.out HX2.out; try have y0 : W.cell? ⟨g, 0, none⟩ = some (.map (some bm)) := hgW.blk.cell 0; try have gl := hgW.lt; try have hlk := hgW.look_ok (x := (ss, ky)) Hok.out; try (rw [Hgo.out, Hat.out] at hlk; unfold cval nameV at hlk; dsimp only at hlk); try have hn := HN2.out.keeps hSw (by omega); try have n0 : W.cell? ⟨w.heap.size + 1, 0, none⟩ = some (.string ss) := hn.cell 0; try have n1 : W.cell? ⟨w.heap.size + 1, 1, none⟩ = some (.string ky) := hn.cell 1; try have nl := hn.lt)
       go_simp; first | done | rfl)
    try simp only [Act.put, List.setIfInBounds_toArray, List.set_cons_zero, List.set_cons_succ]
    -- 6 Op.move (Operand.tmp 22)
    refine wpMono_take' 6 (v := ?_) rfl (by kernel_rfl) (by kernel_rfl) (by kernel_rfl) (fun _ _ _ h => h) (by rfl) ?_ ?_
    rotate_left
    · (intro W hSw; (try have hgW := H2.out.keeps hSw HX1.out HX2.out; try have y0 : W.cell? ⟨g, 0, none⟩ = some (.map (some bm)) := hgW.blk.cell 0; try have gl := hgW.lt; try have hlk := hgW.look_ok (x := (ss, ky)) Hok.out; try (rw [Hgo.out, Hat.out] at hlk; unfold cval nameV at hlk; dsimp only at hlk); try have hn := HN2.out.keeps hSw (by omega); try have n0 : W.cell? ⟨w.heap.size + 1, 0, none⟩ = some (.string ss) := hn.cell 0; try have n1 : W.cell? ⟨w.heap.size + 1, 1, none⟩ = some (.string ky) := hn.cell 1; try have nl := hn.lt)
       go_simp; first | done | rfl)
    try simp only [Act.put, List.setIfInBounds_toArray, List.set_cons_zero, List.set_cons_succ]
    -- 7 Op.extract (Operand.tmp 16) 0
    refine wpMono_take' 7 (v := ?_) rfl (by kernel_rfl) (by kernel_rfl) (by kernel_rfl) (fun _ _ _ h => h) (by rfl) ?_ ?_
    rotate_left
    · (intro W hSw; (try have hgW := H2.out.keeps hSw HX1.out HX2.out; try have y0 : W.cell? ⟨g, 0, none⟩ = some (.map (some bm)) := hgW.blk.cell 0; try have gl := hgW.lt; try have hlk := hgW.look_ok (x := (ss, ky)) Hok.out; try (rw [Hgo.out, Hat.out] at hlk; unfold cval nameV at hlk; dsimp only at hlk); try have hn := HN2.out.keeps hSw (by omega); try have n0 : W.cell? ⟨w.heap.size + 1, 0, none⟩ = some (.string ss) := hn.cell 0; try have n1 : W.cell? ⟨w.heap.size + 1, 1, none⟩ = some (.string ky) := hn.cell 1; try have nl := hn.lt)
       go_simp; first | done | rfl)
    try simp only [Act.put, List.setIfInBounds_toArray, List.set_cons_zero, List.set_cons_succ]
    -- 8 Op.extract (Operand.tmp 16) 1
    refine wpMono_take' 8 (v := ?_) rfl (by kernel_rfl) (by kernel_rfl) (by kernel_rfl) (fun _ _ _ h => h) (by rfl) ?_ ?_
    rotate_left
    · (intro W hSw; (try have hgW := H2.out.keeps hSw HX1.out HX2.out; try have y0 : W.cell? ⟨g, 0, none⟩ = some (.map (some bm)) := hgW.blk.cell 0; try have gl := hgW.lt; try have hlk := hgW.look_ok (x := (ss, ky)) Hok.out; try (rw [Hgo.out, Hat.out] at hlk; unfold cval nameV at hlk; dsimp only at hlk); try have hn := HN2.out.keeps hSw (by omega); try have n0 : W.cell? ⟨w.heap.size + 1, 0, none⟩ = some (.string ss) := hn.cell 0; try have n1 : W.cell? ⟨w.heap.size + 1, 1, none⟩ = some (.string ky) := hn.cell 1; try have nl := hn.lt)
       go_simp; first | done | rfl)
    try simp only [Act.put, List.setIfInBounds_toArray, List.set_cons_zero, List.set_cons_succ]
    -- EFFECT 9 Op.alloc 58
    refine wpMono_one' 9 (by kernel_rfl) rfl (by rfl) (fun K hK => ?_)
    go_simp
    have HC0 := Lib.hid (Blk.newAt ((w.alloc (.cells (wcells rg nm t r A n c ss ky v gn l) 28)).alloc (.cells #[.string ss, .string ky] 67)).drew 58 #[.int .i64 0, .int .i64 0, .string ⟨#[]⟩, .bool false, .int .i64 0] (g := w.heap.size + 1 + 1) (by simp))
    refine hK.out _ _ ?_ ?_
    · exact .alloc _
    clear hK K
    try simp only [Act.put, List.setIfInBounds_toArray, List.set_cons_zero, List.set_cons_succ]
    -- EFFECT 10 Op.store 58 (Operand.tmp 6) (Operand.tmp 23)
    refine wpMono_one' 10 (by kernel_rfl) rfl (by rfl) (fun K hK => ?_)
    refine wp_store_at 58 (.tmp 6) (.tmp 23) rfl (w.heap.size + 1 + 1) 0 [.int .i64 dt, .int .i64 dr, .string dv, .bool dg, .int .i64 dl] rfl rfl HC0.out rfl (by simp) rfl (fun w3 hq1 hq2 hq3 => ?_)
    have hbc := below_new ((w.alloc (.cells (wcells rg nm t r A n c ss ky v gn l) 28)).alloc (.cells #[.string ss, .string ky] 67)).drew (.cells #[.int .i64 0, .int .i64 0, .string ⟨#[]⟩, .bool false, .int .i64 0] 58)
    have HB3 := Lib.hid (((Hb2.out.drew).trans (hbc.mono (by simp; omega))).trans (hq2.below (B := w.heap.size) (fun i hi e => by omega) (by simp; omega)))
    have HC3 := Lib.hid (show Blk w3 (w.heap.size + 1 + 1) 58 #[.int .i64 dt, .int .i64 dr, .string dv, .bool dg, .int .i64 dl] from hq1)
    have HN3 := Lib.hid ((HN2.out.below hbc (by simp)).keeps hq2 (by omega))
    have HW3 := Lib.hid ((HW2.out.below hbc (by simp; omega)).keeps hq2 (by omega))
    have H3 := Lib.hid ((H2.out.below hbc).keeps hq2 HX1.out HX2.out)
    have hz3 : w.heap.size + 1 + 1 < w3.heap.size := HC3.out.lt
    clear hbc hq1 hq3 HC0
    refine hK.out _ _ ?_ ?_
    · exact hq2
    clear hK K
    try simp only [Act.put]
    -- 11 Op.assign (Operand.tmp 24)
    refine wpMono_take' 11 (v := ?_) rfl (by kernel_rfl) (by kernel_rfl) (by kernel_rfl) (fun _ _ _ h => h) (by rfl) ?_ ?_
    rotate_left
    · (intro W hSw; (try have hgW := H2.out.keeps hSw HX1.out HX2.out; try have y0 : W.cell? ⟨g, 0, none⟩ = some (.map (some bm)) := hgW.blk.cell 0; try have gl := hgW.lt; try have hlk := hgW.look_ok (x := (ss, ky)) Hok.out; try (rw [Hgo.out, Hat.out] at hlk; unfold cval nameV at hlk; dsimp only at hlk); try have hn := HN2.out.keeps hSw (by omega); try have n0 : W.cell? ⟨w.heap.size + 1, 0, none⟩ = some (.string ss) := hn.cell 0; try have n1 : W.cell? ⟨w.heap.size + 1, 1, none⟩ = some (.string ky) := hn.cell 1; try have nl := hn.lt)
       go_simp; first | done | rfl)
    try simp only [Act.put, List.setIfInBounds_toArray, List.set_cons_zero, List.set_cons_succ]
    refine wpMono_done (by kernel_rfl) ?_ _
    clear hq2 H2 HN2 HW2 Hb2
    obtain ⟨k0, k1, k2, k3, k4, k5, k6, k7, k8, k9⟩ := cells10 HW3.out
    go_wp2_with fail
    refine (of_any rg nm t r A n c ss ky v gn l w3).mono ?_
    rintro e w4 ⟨rfl, hb4⟩
    clear k0 k1 k2 k3 k4 k5 k6 k7 k8 k9
    have hb5 := below_alloc hb4 (.cells #[.int .i64 t, .int .i64 r, .string v, .bool gn, .int .i64 l] 58)
    have HB5 := Lib.hid (HB3.out.trans (hb5.mono (by omega)))
    have HC5 := Lib.hid (HC3.out.below hb5 hz3)
    have HN5 := Lib.hid (HN3.out.below hb5 (by omega))
    have H5 := Lib.hid (H3.out.below hb5)
    have HD5 := Lib.hid (Blk.new w4 58 #[.int .i64 t, .int .i64 r, .string v, .bool gn, .int .i64 l])
    have hz5 : w3.heap.size ≤ w4.heap.size := hb4.size
    have Hh5 := Lib.hid hb4
    clear hb4 hb5 H3 HN3 HW3 HC3 HB3
    have hzz : bm < w4.heap.size := by omega
    have HX3 := Lib.hid (H5.out.ne)
    have HX4 := Lib.hid (show ¬ w.heap.size + 1 = bm by omega)
    have HX5 := Lib.hid (show ¬ w4.heap.size = bm by omega)
    obtain ⟨p0, p1, p2, p3, p4⟩ := Blk.cells5 HC5.out
    obtain ⟨q0, q1, q2, q3, q4⟩ := Blk.cells5 HD5.out
    have pl := HC5.out.lt
    go_wp2_with fail
    refine (merge_any _ 2 2 [⟨dt, dr, dv, dg, dl⟩, ⟨t, r, v, gn, l⟩] _ rfl (by decide) (by exact Reads.newAt _ _ _ _ (by simp) rfl)).mono ?_
    rintro e w6 ⟨rfl, hb6⟩
    rw [mg_two]
    have hba := below_new (w4.alloc (.cells #[.int .i64 t, .int .i64 r, .string v, .bool gn, .int .i64 l] 58)) (.cells #[.int .i64 dt, .int .i64 dr, .string dv, .bool dg, .int .i64 dl, .int .i64 t, .int .i64 r, .string v, .bool gn, .int .i64 l] 58)
    have hb6' := below_step hba hb6
    clear p0 p1 p2 p3 p4 q0 q1 q2 q3 q4
    have HB6 := Lib.hid (HB5.out.trans (hb6'.mono (by simp; omega)))
    have HC6 := Lib.hid (HC5.out.below hb6' pl)
    have HN6 := Lib.hid (HN5.out.below hb6' (by simp; omega))
    have H6 := Lib.hid (H5.out.below hb6')
    have HD6 := Lib.hid (HD5.out.below hb6' (by simp))
    have hz6 : w4.heap.size < w6.heap.size := HD6.out.lt
    clear hba hb6 hb6' HB5 HC5 HN5 H5 HD5 pl
    cases hab : above ⟨t, r, v, gn, l⟩ ⟨dt, dr, dv, dg, dl⟩ with
    | true =>
      rw [if_pos rfl]
      have hce := cellEq_above hab
      have hnew : newC (getL L (ss, ky)) ⟨t, r, v, gn, l⟩ = true := by rw [Hgo.out]; exact hab
      have htak : takeC (getL L (ss, ky)) ⟨t, r, v, gn, l⟩ = ⟨t, r, v, gn, l⟩ := by rw [Hgo.out]; exact if_pos hab
      unfold cval
      dsimp only
      have Hnew := Lib.hid hnew
      have Htak := Lib.hid htak
      have Hce := Lib.hid hce
      clear hnew htak hce
      clear hab
      go_wp2_with (first | (refine wpList_store_blk rfl 58 (.tmp 8) (.tmp 31) rfl w4.heap.size [.int .i64 t, .int .i64 r, .string v, .bool gn, .int .i64 l] rfl rfl HD6.out rfl rfl rfl ?_; intro w8 hd8 hk8 hs8; have heq := eql_cell ⟨t, r, v, gn, l⟩ ⟨dt, dr, dv, dg, dl⟩ w8; rw [Hce.out] at heq; unfold cval at heq; dsimp only at heq; have hc8 := HC6.out.keeps hk8 (by omega); obtain ⟨p0, p1, p2, p3, p4⟩ := Blk.cells5 hc8; obtain ⟨q0, q1, q2, q3, q4⟩ := Blk.cells5 hd8; have HC8 := Lib.hid hc8; have HD8 := Lib.hid hd8; have HK8 := Lib.hid hk8; clear hc8 hd8 hk8 hs8; have HEQ := Lib.hid heq; clear heq) | (refine wpList_val (o := ⟨some 36, _, _, _, _, _⟩) rfl (.bool false) (exec_eql 58 58 (.tmp 34) (.tmp 35) rfl _ _ rfl rfl (by kernel_rfl) false HEQ.out) ?_))
      clear p0 p1 p2 p3 p4 q0 q1 q2 q3 q4
      have HB8 := Lib.hid (HB6.out.trans (HK8.out.below (B := w.heap.size) (fun i hi e => by omega) (by omega)))
      have H8 := Lib.hid (H6.out.keeps HK8.out (by omega) (by omega))
      have HN8 := Lib.hid (HN6.out.keeps HK8.out (by omega))
      obtain ⟨w7, hu, hS7, hK7⟩ := (H8.out.below (Below.refl _ _).drew).put Hok.out ⟨t, r, v, gn, l⟩
      have HS7 := Lib.hid hS7
      have HK7 := Lib.hid hK7
      clear hS7 hK7
      unfold cval nameV at hu
      dsimp only at hu
      have HU := Lib.hid hu
      clear hu
      have HR := Lib.hid (show ApplyR g bm L (ss, ky) ⟨t, r, v, gn, l⟩ w (.returned (.bool true)) w7 from ⟨by rw [Hnew.out], by unfold takeL; rw [Htak.out]; exact HS7.out, (Keeps.of_below HB8.out).trans ((Keeps.drew).trans HK7.out)⟩)
      refine wp_region_mono (fun i => i = bm) (by kernel_rfl) ?_
      -- 0 Op.move (Operand.tmp 0)
      refine wpMono_take' 0 (v := ?_) rfl (by kernel_rfl) (by kernel_rfl) (by kernel_rfl) (fun _ _ _ h => h) (by rfl) ?_ ?_
      rotate_left
      · (intro W hSw; (try have hgW := (H8.out.below (Below.refl _ _).drew).blk.keeps hSw HX3.out; try have y0 : W.cell? ⟨g, 0, none⟩ = some (.map (some bm)) := hgW.cell 0; try have gl := hgW.lt; try have hn := HN8.out.drew.keeps hSw HX4.out; try have n0 : W.cell? ⟨w.heap.size + 1, 0, none⟩ = some (.string ss) := hn.cell 0; try have n1 : W.cell? ⟨w.heap.size + 1, 1, none⟩ = some (.string ky) := hn.cell 1; try have nl := hn.lt; try have hd := HD8.out.drew.keeps hSw HX5.out; try (obtain ⟨d0, d1, d2, d3, d4⟩ := Blk.cells5 hd); try have dl := hd.lt)
         go_simp; first | done | rfl)
      try simp only [Act.put, List.setIfInBounds_toArray, List.set_cons_zero, List.set_cons_succ]
      -- 1 Op.nilCheck (Operand.tmp 38)
      refine wpMono_take' 1 (v := ?_) rfl (by kernel_rfl) (by kernel_rfl) (by kernel_rfl) (fun _ _ _ h => h) (by rfl) ?_ ?_
      rotate_left
      · (intro W hSw; (try have hgW := (H8.out.below (Below.refl _ _).drew).blk.keeps hSw HX3.out; try have y0 : W.cell? ⟨g, 0, none⟩ = some (.map (some bm)) := hgW.cell 0; try have gl := hgW.lt; try have hn := HN8.out.drew.keeps hSw HX4.out; try have n0 : W.cell? ⟨w.heap.size + 1, 0, none⟩ = some (.string ss) := hn.cell 0; try have n1 : W.cell? ⟨w.heap.size + 1, 1, none⟩ = some (.string ky) := hn.cell 1; try have nl := hn.lt; try have hd := HD8.out.drew.keeps hSw HX5.out; try (obtain ⟨d0, d1, d2, d3, d4⟩ := Blk.cells5 hd); try have dl := hd.lt)
         go_simp; first | done | rfl)
      try simp only [Act.put, List.setIfInBounds_toArray, List.set_cons_zero, List.set_cons_succ]
      -- 2 Op.fieldAddr 65 (Operand.tmp 39) 0
      refine wpMono_take' 2 (v := ?_) rfl (by kernel_rfl) (by kernel_rfl) (by kernel_rfl) (fun _ _ _ h => h) (by rfl) ?_ ?_
      rotate_left
      · (intro W hSw; (try have hgW := (H8.out.below (Below.refl _ _).drew).blk.keeps hSw HX3.out; try have y0 : W.cell? ⟨g, 0, none⟩ = some (.map (some bm)) := hgW.cell 0; try have gl := hgW.lt; try have hn := HN8.out.drew.keeps hSw HX4.out; try have n0 : W.cell? ⟨w.heap.size + 1, 0, none⟩ = some (.string ss) := hn.cell 0; try have n1 : W.cell? ⟨w.heap.size + 1, 1, none⟩ = some (.string ky) := hn.cell 1; try have nl := hn.lt; try have hd := HD8.out.drew.keeps hSw HX5.out; try (obtain ⟨d0, d1, d2, d3, d4⟩ := Blk.cells5 hd); try have dl := hd.lt)
         go_simp; first | done | rfl)
      try simp only [Act.put, List.setIfInBounds_toArray, List.set_cons_zero, List.set_cons_succ]
      -- 3 Op.load 63 (Operand.tmp 40)
      refine wpMono_take' 3 (v := ?_) rfl (by kernel_rfl) (by kernel_rfl) (by kernel_rfl) (fun _ _ _ h => h) (by rfl) ?_ ?_
      rotate_left
      · (intro W hSw; (try have hgW := (H8.out.below (Below.refl _ _).drew).blk.keeps hSw HX3.out; try have y0 : W.cell? ⟨g, 0, none⟩ = some (.map (some bm)) := hgW.cell 0; try have gl := hgW.lt; try have hn := HN8.out.drew.keeps hSw HX4.out; try have n0 : W.cell? ⟨w.heap.size + 1, 0, none⟩ = some (.string ss) := hn.cell 0; try have n1 : W.cell? ⟨w.heap.size + 1, 1, none⟩ = some (.string ky) := hn.cell 1; try have nl := hn.lt; try have hd := HD8.out.drew.keeps hSw HX5.out; try (obtain ⟨d0, d1, d2, d3, d4⟩ := Blk.cells5 hd); try have dl := hd.lt)
         go_simp; first | done | rfl)
      try simp only [Act.put, List.setIfInBounds_toArray, List.set_cons_zero, List.set_cons_succ]
      -- 4 Op.load 67 (Operand.tmp 5)
      refine wpMono_take' 4 (v := ?_) rfl (by kernel_rfl) (by kernel_rfl) (by kernel_rfl) (fun _ _ _ h => h) (by rfl) ?_ ?_
      rotate_left
      · (intro W hSw; (try have hgW := (H8.out.below (Below.refl _ _).drew).blk.keeps hSw HX3.out; try have y0 : W.cell? ⟨g, 0, none⟩ = some (.map (some bm)) := hgW.cell 0; try have gl := hgW.lt; try have hn := HN8.out.drew.keeps hSw HX4.out; try have n0 : W.cell? ⟨w.heap.size + 1, 0, none⟩ = some (.string ss) := hn.cell 0; try have n1 : W.cell? ⟨w.heap.size + 1, 1, none⟩ = some (.string ky) := hn.cell 1; try have nl := hn.lt; try have hd := HD8.out.drew.keeps hSw HX5.out; try (obtain ⟨d0, d1, d2, d3, d4⟩ := Blk.cells5 hd); try have dl := hd.lt)
         go_simp; first | done | rfl)
      try simp only [Act.put, List.setIfInBounds_toArray, List.set_cons_zero, List.set_cons_succ]
      -- 5 Op.load 58 (Operand.tmp 8)
      refine wpMono_take' 5 (v := ?_) rfl (by kernel_rfl) (by kernel_rfl) (by kernel_rfl) (fun _ _ _ h => h) (by rfl) ?_ ?_
      rotate_left
      · (intro W hSw; (try have hgW := (H8.out.below (Below.refl _ _).drew).blk.keeps hSw HX3.out; try have y0 : W.cell? ⟨g, 0, none⟩ = some (.map (some bm)) := hgW.cell 0; try have gl := hgW.lt; try have hn := HN8.out.drew.keeps hSw HX4.out; try have n0 : W.cell? ⟨w.heap.size + 1, 0, none⟩ = some (.string ss) := hn.cell 0; try have n1 : W.cell? ⟨w.heap.size + 1, 1, none⟩ = some (.string ky) := hn.cell 1; try have nl := hn.lt; try have hd := HD8.out.drew.keeps hSw HX5.out; try (obtain ⟨d0, d1, d2, d3, d4⟩ := Blk.cells5 hd); try have dl := hd.lt)
         go_simp; first | done | rfl)
      try simp only [Act.put, List.setIfInBounds_toArray, List.set_cons_zero, List.set_cons_succ]
      -- EFFECT 6 Op.mapUpdate 63 (Operand.tmp 41) (Operand.tmp 42) (Operand.tmp 43)
      refine wpMono_one' 6 (by kernel_rfl) rfl (by rfl) (fun K hK => ?_)
      have hu : (Instr.mapUpdate _ (.map (some bm)) (.agg #[.string ss, .string ky]) _).run _ _ = _ := HU.out
      go_simp
      refine hK.out _ _ ?_ ?_
      · exact HK7.out
      clear hK K
      try simp only [Act.put]
      refine wpMono_done (by kernel_rfl) ?_ _
      go_wp2
      go_ret
      exact HR.out
    | false =>
      rw [if_neg (by decide)]
      have hnew : newC (getL L (ss, ky)) ⟨t, r, v, gn, l⟩ = false := by rw [Hgo.out]; exact hab
      have hta : takeL L (ss, ky) ⟨t, r, v, gn, l⟩ = L := takeL_old H6.out.up hnew
      unfold cval
      dsimp only
      have Hnew := Lib.hid hnew
      have Hta := Lib.hid hta
      clear hnew hta
      clear hab
      go_wp2_with (first | (refine wpList_store_blk rfl 58 (.tmp 8) (.tmp 31) rfl w4.heap.size [.int .i64 dt, .int .i64 dr, .string dv, .bool dg, .int .i64 dl] rfl rfl HD6.out rfl rfl rfl ?_; intro w8 hd8 hk8 hs8; have heq := eql_cell ⟨dt, dr, dv, dg, dl⟩ ⟨dt, dr, dv, dg, dl⟩ w8; rw [cellEq_self] at heq; unfold cval at heq; dsimp only at heq; have hc8 := HC6.out.keeps hk8 (by omega); obtain ⟨p0, p1, p2, p3, p4⟩ := Blk.cells5 hc8; obtain ⟨q0, q1, q2, q3, q4⟩ := Blk.cells5 hd8; have HC8 := Lib.hid hc8; have HD8 := Lib.hid hd8; have HK8 := Lib.hid hk8; have HR := Lib.hid (show ApplyR g bm L (ss, ky) ⟨t, r, v, gn, l⟩ w (.returned (.bool false)) w8 from ⟨by rw [Hnew.out], by rw [Hta.out]; exact H6.out.keeps HK8.out (by omega) (by omega), Keeps.of_below (HB6.out.trans (HK8.out.below (B := w.heap.size) (fun i hi e => by omega) (by omega)))⟩); clear hc8 hd8 hk8 hs8))
      go_ret
      exact HR.out
end Go.Proofs.YtgfamdakjcjdkaaDoor.store
