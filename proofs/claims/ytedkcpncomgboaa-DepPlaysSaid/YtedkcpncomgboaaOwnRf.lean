/- The document's Own. -/
import Derived.Test.YtedkcpncomgboaaDrainR
import Derived.Test.YtedkcpncomgboaaOwnI
namespace Go.Proofs.Ytedkcpncomgboaa.dep
open Go Go.RowKit Go.Proofs.Ytedkcpncomgboaa.base Go.Proofs.Ytedkcpncomgboaa.rowe Go.Proofs.Ytedkcpncomgboaa.wire Go.Proofs.Ytedkcpncomgboaa.vec Go.Proofs.Ytedkcpncomgboaa.cmp Go.Proofs.Ytedkcpncomgboaa.with_ Go.Proofs.Ytedkcpncomgboaa.ref Go.Proofs.Ytedkcpncomgboaa.monoj

theorem DrainQ.from {w w10 wr : World} {R R' R'' : Nat → Prop} {g : Nat} {rg : Int} {ap a : List Int} {ws l out : List Wr} {vo : Value} (h : DrainQ w10 R' g rg ap ws vo wr a l out R'') (hK : Keeps R w w10) (hS : ∀ i, R' i → R i ∨ w.heap.size ≤ i) : DrainQ w R g rg ap ws vo wr a l out R'' := by
  obtain ⟨h1, h2, h4, h5, h6, h7, h8⟩ := h
  have hsz := hK.size
  have k1 : Keeps (fun i => R i ∨ w.heap.size ≤ i) w w10 := hK.more fun i _ h => .inl h
  have k2 : Keeps (fun i => R i ∨ w.heap.size ≤ i) w10 wr := h7.more fun i _ h => hS i h
  refine ⟨h1, h2, h4, h5, h6, (k1.trans k2).more fun i hi h => h.elim id fun h => by omega, fun i hi => ?_⟩
  rcases h8 i hi with h | h
  · exact hS i h
  · exact .inr (by omega)
def OwnQ (R : Nat → Prop) (g : Nat) (rg : Int) (ap : List Int) (L : List Wr) (dz : List Int) (w : World) (e : Ending) (w' : World) : Prop :=
  (coversB ap dz = false ∧ e = .returned (.tuple #[.slice none 0 0, .int .i64 15]) ∧ Below w.heap.size w w') ∨ (coversB ap dz = true ∧ 1099511627776 ≤ atV ap rg ∧ e = .returned (.tuple #[.slice none 0 0, .int .i64 3]) ∧ Below w.heap.size w w') ∨
    (coversB ap dz = true ∧ atV ap rg < 1099511627776 ∧ ∃ vo a l out R', e = .returned (.tuple #[vo, .int .i64 0]) ∧ DrainQ w R g rg (withL ap rg (atV ap rg + 1)) L vo w' a l out R' ∧ ∀ j, j < l.length → readyB a (l.getD j wrZ) = false)
set_option maxRecDepth 100000 in
set_option maxHeartbeats 4000000 in
theorem own_ref (g : Nat) (rg : Int) (R : Nat → Prop) (ap : List Int) (L : List Wr) (va vl : Value) (A2 : Option Addr) (n2 c2 : Nat) (dz : List Int) (w : World) (h : RIn w R g rg ap L va vl) (hx : Vec w w.heap.size A2 n2 c2 dz) (h2 : n2 ≤ 1000000) (hrg : 1 ≤ rg ∧ rg ≤ 16) :
    Calls Try.prog 23 #[.pointer (some ⟨g, 0, none⟩), .slice A2 n2 c2] w (OwnQ R g rg ap L dz w) := by
  obtain ⟨A1, c1, rfl, hva⟩ := h.vec
  have ha16 := h.afew
  have HVA := Lib.hid hva
  have HF := Lib.hid h
  have HV := Lib.hid hx
  have gl := h.blk.lt
  have hap0 := h.apb rg
  have y1 : w.cell? ⟨g, 1, none⟩ = some (.slice A1 ap.length c1) := h.blk.cell 1
  clear h hx hva
  go_enter Try.func23, Try.ntmps23
  go_wp2_with fail
  refine (covers_ref A1 ap.length c1 ap A2 n2 c2 dz w _ HVA.out HV.out (by omega) h2).mono ?_
  rintro e w2 ⟨rfl, rfl⟩
  cases hcv : coversB ap dz with
  | false =>
    have HRR := Lib.hid (show OwnQ R g rg ap L dz w (.returned (.tuple #[.slice none 0 0, .int .i64 15])) w from .inl ⟨hcv, rfl, Below.refl _ _⟩)
    go_wp2
    go_ret2
    exact HRR.out
  | true =>
  go_wp2_with fail
  refine wp_region_mono nobody (by kernel_rfl) ?_
  -- 0 Op.move (Operand.tmp 0)
  refine wpMono_take' 0 (v := ?_) rfl (by kernel_rfl) (by kernel_rfl) (by kernel_rfl) (fun _ _ _ h => h) (by rfl) ?_ ?_
  rotate_left
  · (intro W hSw; (first | (have hg := HF.out.blk.drew.keeps hSw (fun h => h); have y0 : W.cell? ⟨g, 0, none⟩ = some (.int .i64 rg) := hg.cell 0; have y1 : W.cell? ⟨g, 1, none⟩ = some (.slice A1 ap.length c1) := hg.cell 1; have hl := hg.lt) | skip)
     go_simp; first | done | rfl)
  try simp only [Act.put, List.setIfInBounds_toArray, List.set_cons_zero, List.set_cons_succ]
  -- 1 Op.nilCheck (Operand.tmp 14)
  refine wpMono_take' 1 (v := ?_) rfl (by kernel_rfl) (by kernel_rfl) (by kernel_rfl) (fun _ _ _ h => h) (by rfl) ?_ ?_
  rotate_left
  · (intro W hSw; (first | (have hg := HF.out.blk.drew.keeps hSw (fun h => h); have y0 : W.cell? ⟨g, 0, none⟩ = some (.int .i64 rg) := hg.cell 0; have y1 : W.cell? ⟨g, 1, none⟩ = some (.slice A1 ap.length c1) := hg.cell 1; have hl := hg.lt) | skip)
     go_simp; first | done | rfl)
  try simp only [Act.put, List.setIfInBounds_toArray, List.set_cons_zero, List.set_cons_succ]
  -- 2 Op.fieldAddr 68 (Operand.tmp 15) 1
  refine wpMono_take' 2 (v := ?_) rfl (by kernel_rfl) (by kernel_rfl) (by kernel_rfl) (fun _ _ _ h => h) (by rfl) ?_ ?_
  rotate_left
  · (intro W hSw; (first | (have hg := HF.out.blk.drew.keeps hSw (fun h => h); have y0 : W.cell? ⟨g, 0, none⟩ = some (.int .i64 rg) := hg.cell 0; have y1 : W.cell? ⟨g, 1, none⟩ = some (.slice A1 ap.length c1) := hg.cell 1; have hl := hg.lt) | skip)
     go_simp; first | done | rfl)
  try simp only [Act.put, List.setIfInBounds_toArray, List.set_cons_zero, List.set_cons_succ]
  -- 3 Op.load 26 (Operand.tmp 16)
  refine wpMono_take' 3 (v := ?_) rfl (by kernel_rfl) (by kernel_rfl) (by kernel_rfl) (fun _ _ _ h => h) (by rfl) ?_ ?_
  rotate_left
  · (intro W hSw; (first | (have hg := HF.out.blk.drew.keeps hSw (fun h => h); have y0 : W.cell? ⟨g, 0, none⟩ = some (.int .i64 rg) := hg.cell 0; have y1 : W.cell? ⟨g, 1, none⟩ = some (.slice A1 ap.length c1) := hg.cell 1; have hl := hg.lt) | skip)
     go_simp; first | done | rfl)
  try simp only [Act.put, List.setIfInBounds_toArray, List.set_cons_zero, List.set_cons_succ]
  -- 4 Op.move (Operand.tmp 0)
  refine wpMono_take' 4 (v := ?_) rfl (by kernel_rfl) (by kernel_rfl) (by kernel_rfl) (fun _ _ _ h => h) (by rfl) ?_ ?_
  rotate_left
  · (intro W hSw; (first | (have hg := HF.out.blk.drew.keeps hSw (fun h => h); have y0 : W.cell? ⟨g, 0, none⟩ = some (.int .i64 rg) := hg.cell 0; have y1 : W.cell? ⟨g, 1, none⟩ = some (.slice A1 ap.length c1) := hg.cell 1; have hl := hg.lt) | skip)
     go_simp; first | done | rfl)
  try simp only [Act.put, List.setIfInBounds_toArray, List.set_cons_zero, List.set_cons_succ]
  -- 5 Op.nilCheck (Operand.tmp 18)
  refine wpMono_take' 5 (v := ?_) rfl (by kernel_rfl) (by kernel_rfl) (by kernel_rfl) (fun _ _ _ h => h) (by rfl) ?_ ?_
  rotate_left
  · (intro W hSw; (first | (have hg := HF.out.blk.drew.keeps hSw (fun h => h); have y0 : W.cell? ⟨g, 0, none⟩ = some (.int .i64 rg) := hg.cell 0; have y1 : W.cell? ⟨g, 1, none⟩ = some (.slice A1 ap.length c1) := hg.cell 1; have hl := hg.lt) | skip)
     go_simp; first | done | rfl)
  try simp only [Act.put, List.setIfInBounds_toArray, List.set_cons_zero, List.set_cons_succ]
  -- 6 Op.fieldAddr 68 (Operand.tmp 19) 0
  refine wpMono_take' 6 (v := ?_) rfl (by kernel_rfl) (by kernel_rfl) (by kernel_rfl) (fun _ _ _ h => h) (by rfl) ?_ ?_
  rotate_left
  · (intro W hSw; (first | (have hg := HF.out.blk.drew.keeps hSw (fun h => h); have y0 : W.cell? ⟨g, 0, none⟩ = some (.int .i64 rg) := hg.cell 0; have y1 : W.cell? ⟨g, 1, none⟩ = some (.slice A1 ap.length c1) := hg.cell 1; have hl := hg.lt) | skip)
     go_simp; first | done | rfl)
  try simp only [Act.put, List.setIfInBounds_toArray, List.set_cons_zero, List.set_cons_succ]
  -- 7 Op.load 3 (Operand.tmp 20)
  refine wpMono_take' 7 (v := ?_) rfl (by kernel_rfl) (by kernel_rfl) (by kernel_rfl) (fun _ _ _ h => h) (by rfl) ?_ ?_
  rotate_left
  · (intro W hSw; (first | (have hg := HF.out.blk.drew.keeps hSw (fun h => h); have y0 : W.cell? ⟨g, 0, none⟩ = some (.int .i64 rg) := hg.cell 0; have y1 : W.cell? ⟨g, 1, none⟩ = some (.slice A1 ap.length c1) := hg.cell 1; have hl := hg.lt) | skip)
     go_simp; first | done | rfl)
  try simp only [Act.put, List.setIfInBounds_toArray, List.set_cons_zero, List.set_cons_succ]
  -- EFFECT 8 Op.call { callee := Callee.value (Operand.func 8), args := #[Operand.tmp 17, Operand.tmp 21], argTypes := #[26, 3] }
  refine wpMono_one' 8 (by kernel_rfl) rfl (by rfl) (fun K hK => ?_)
  go_simp
  refine (at_ref A1 ap.length c1 ap rg w.drew _ (show Vec w.drew w.drew.heap.size A1 ap.length c1 ap from HVA.out.below (Below.refl _ _).drew)).mono ?_
  rintro e w4 ⟨rfl, rfl⟩
  refine hK.out _ _ ?_ ?_
  · exact Keeps.refl _ _
  clear hK K
  try simp only [Act.put, List.setIfInBounds_toArray, List.set_cons_zero, List.set_cons_succ]
  -- 9 Op.assign (Operand.tmp 22)
  refine wpMono_take' 9 (v := ?_) rfl (by kernel_rfl) (by kernel_rfl) (by kernel_rfl) (fun _ _ _ h => h) (by rfl) ?_ ?_
  rotate_left
  · (intro W hSw; (first | (have hg := HF.out.blk.drew.keeps hSw (fun h => h); have y0 : W.cell? ⟨g, 0, none⟩ = some (.int .i64 rg) := hg.cell 0; have y1 : W.cell? ⟨g, 1, none⟩ = some (.slice A1 ap.length c1) := hg.cell 1; have hl := hg.lt) | skip)
     go_simp; first | done | rfl)
  try simp only [Act.put, List.setIfInBounds_toArray, List.set_cons_zero, List.set_cons_succ]
  refine wpMono_done (by kernel_rfl) ?_ _
  have HB1 := Lib.hid (show Below w.heap.size w w.drew from (Below.refl _ _).drew)
  have HF1 := Lib.hid (HF.out.below HB1.out)
  have HA1 := Lib.hid (show Vec w.drew w.drew.heap.size A1 ap.length c1 ap from HVA.out.below HB1.out)
  clear y1 HF HV HVA gl
  by_cases hmx : 1099511627776 ≤ atV ap rg
  · have dm : decide (1099511627776 ≤ atV ap rg) = true := by simpa using hmx
    have HRR := Lib.hid (show OwnQ R g rg ap L dz w (.returned (.tuple #[.slice none 0 0, .int .i64 3])) w.drew from .inr (.inl ⟨hcv, hmx, rfl, HB1.out⟩))
    go_wp2
    go_ret2
    exact HRR.out
  have dm : decide (1099511627776 ≤ atV ap rg) = false := by simpa using hmx
  have hw1 : IntKind.i64.wrap (atV ap rg + 1) = atV ap rg + 1 := by rw [IntKind.wrap_i64]; omega
  generalize w.drew = w1 at *
  go_wp2_with fail
  clear dm
  refine wp_region_monoJ (fun b => b = g) [14] (by kernel_rfl) ?_
  -- 0 Op.move (Operand.tmp 0)
  refine wpMonoJ_take' 0 (v := ?_) rfl (by kernel_rfl) (by kernel_rfl) (by kernel_rfl) (by rfl) (fun _ _ _ h => h) (by rfl) ?_ ?_
  rotate_left
  · (intro W hSw; (first | (have hgW := HF1.out.blk.drew.keeps (X := nobody) hSw (fun h => h); have a0 : W.cell? ⟨g, 0, none⟩ = some (.int .i64 rg) := hgW.cell 0; have a1 : W.cell? ⟨g, 1, none⟩ = some (.slice A1 ap.length c1) := hgW.cell 1; have al := hgW.lt) | skip)
     go_simp; first | done | rfl)
  try simp only [Act.put, List.setIfInBounds_toArray, List.set_cons_zero, List.set_cons_succ]
  (try rw [hw1])
  -- 1 Op.move (Operand.tmp 0)
  refine wpMonoJ_take' 1 (v := ?_) rfl (by kernel_rfl) (by kernel_rfl) (by kernel_rfl) (by rfl) (fun _ _ _ h => h) (by rfl) ?_ ?_
  rotate_left
  · (intro W hSw; (first | (have hgW := HF1.out.blk.drew.keeps (X := nobody) hSw (fun h => h); have a0 : W.cell? ⟨g, 0, none⟩ = some (.int .i64 rg) := hgW.cell 0; have a1 : W.cell? ⟨g, 1, none⟩ = some (.slice A1 ap.length c1) := hgW.cell 1; have al := hgW.lt) | skip)
     go_simp; first | done | rfl)
  try simp only [Act.put, List.setIfInBounds_toArray, List.set_cons_zero, List.set_cons_succ]
  (try rw [hw1])
  -- 2 Op.nilCheck (Operand.tmp 26)
  refine wpMonoJ_take' 2 (v := ?_) rfl (by kernel_rfl) (by kernel_rfl) (by kernel_rfl) (by rfl) (fun _ _ _ h => h) (by rfl) ?_ ?_
  rotate_left
  · (intro W hSw; (first | (have hgW := HF1.out.blk.drew.keeps (X := nobody) hSw (fun h => h); have a0 : W.cell? ⟨g, 0, none⟩ = some (.int .i64 rg) := hgW.cell 0; have a1 : W.cell? ⟨g, 1, none⟩ = some (.slice A1 ap.length c1) := hgW.cell 1; have al := hgW.lt) | skip)
     go_simp; first | done | rfl)
  try simp only [Act.put, List.setIfInBounds_toArray, List.set_cons_zero, List.set_cons_succ]
  (try rw [hw1])
  -- 3 Op.fieldAddr 68 (Operand.tmp 27) 1
  refine wpMonoJ_take' 3 (v := ?_) rfl (by kernel_rfl) (by kernel_rfl) (by kernel_rfl) (by rfl) (fun _ _ _ h => h) (by rfl) ?_ ?_
  rotate_left
  · (intro W hSw; (first | (have hgW := HF1.out.blk.drew.keeps (X := nobody) hSw (fun h => h); have a0 : W.cell? ⟨g, 0, none⟩ = some (.int .i64 rg) := hgW.cell 0; have a1 : W.cell? ⟨g, 1, none⟩ = some (.slice A1 ap.length c1) := hgW.cell 1; have al := hgW.lt) | skip)
     go_simp; first | done | rfl)
  try simp only [Act.put, List.setIfInBounds_toArray, List.set_cons_zero, List.set_cons_succ]
  (try rw [hw1])
  -- 4 Op.load 26 (Operand.tmp 28)
  refine wpMonoJ_read' 4 [11, 12, 13, 14] (v := ?_) rfl (by kernel_rfl) (by kernel_rfl) (by kernel_rfl) (by rfl) (by kernel_rfl) (by rfl) (fun _ _ _ h => h) (by rfl) ?_ ?_
  rotate_left
  · (intro W hSw; (first | (have hgW := HF1.out.blk.drew.keeps (X := nobody) hSw (fun h => h); have a0 : W.cell? ⟨g, 0, none⟩ = some (.int .i64 rg) := hgW.cell 0; have a1 : W.cell? ⟨g, 1, none⟩ = some (.slice A1 ap.length c1) := hgW.cell 1; have al := hgW.lt) | skip)
     go_simp; first | done | rfl)
  try simp only [Act.put, List.setIfInBounds_toArray, List.set_cons_zero, List.set_cons_succ]
  (try rw [hw1])
  -- 5 Op.move (Operand.tmp 0)
  refine wpMonoJ_take' 5 (v := ?_) rfl (by kernel_rfl) (by kernel_rfl) (by kernel_rfl) (by rfl) (fun _ _ _ h => h) (by rfl) ?_ ?_
  rotate_left
  · (intro W hSw; (first | (have hgW := HF1.out.blk.drew.keeps (X := nobody) hSw (fun h => h); have a0 : W.cell? ⟨g, 0, none⟩ = some (.int .i64 rg) := hgW.cell 0; have a1 : W.cell? ⟨g, 1, none⟩ = some (.slice A1 ap.length c1) := hgW.cell 1; have al := hgW.lt) | skip)
     go_simp; first | done | rfl)
  try simp only [Act.put, List.setIfInBounds_toArray, List.set_cons_zero, List.set_cons_succ]
  (try rw [hw1])
  -- 6 Op.nilCheck (Operand.tmp 30)
  refine wpMonoJ_take' 6 (v := ?_) rfl (by kernel_rfl) (by kernel_rfl) (by kernel_rfl) (by rfl) (fun _ _ _ h => h) (by rfl) ?_ ?_
  rotate_left
  · (intro W hSw; (first | (have hgW := HF1.out.blk.drew.keeps (X := nobody) hSw (fun h => h); have a0 : W.cell? ⟨g, 0, none⟩ = some (.int .i64 rg) := hgW.cell 0; have a1 : W.cell? ⟨g, 1, none⟩ = some (.slice A1 ap.length c1) := hgW.cell 1; have al := hgW.lt) | skip)
     go_simp; first | done | rfl)
  try simp only [Act.put, List.setIfInBounds_toArray, List.set_cons_zero, List.set_cons_succ]
  (try rw [hw1])
  -- 7 Op.fieldAddr 68 (Operand.tmp 31) 0
  refine wpMonoJ_take' 7 (v := ?_) rfl (by kernel_rfl) (by kernel_rfl) (by kernel_rfl) (by rfl) (fun _ _ _ h => h) (by rfl) ?_ ?_
  rotate_left
  · (intro W hSw; (first | (have hgW := HF1.out.blk.drew.keeps (X := nobody) hSw (fun h => h); have a0 : W.cell? ⟨g, 0, none⟩ = some (.int .i64 rg) := hgW.cell 0; have a1 : W.cell? ⟨g, 1, none⟩ = some (.slice A1 ap.length c1) := hgW.cell 1; have al := hgW.lt) | skip)
     go_simp; first | done | rfl)
  try simp only [Act.put, List.setIfInBounds_toArray, List.set_cons_zero, List.set_cons_succ]
  (try rw [hw1])
  -- 8 Op.load 3 (Operand.tmp 32)
  refine wpMonoJ_read' 8 [11, 12, 13, 14] (v := ?_) rfl (by kernel_rfl) (by kernel_rfl) (by kernel_rfl) (by rfl) (by kernel_rfl) (by rfl) (fun _ _ _ h => h) (by rfl) ?_ ?_
  rotate_left
  · (intro W hSw; (first | (have hgW := HF1.out.blk.drew.keeps (X := nobody) hSw (fun h => h); have a0 : W.cell? ⟨g, 0, none⟩ = some (.int .i64 rg) := hgW.cell 0; have a1 : W.cell? ⟨g, 1, none⟩ = some (.slice A1 ap.length c1) := hgW.cell 1; have al := hgW.lt) | skip)
     go_simp; first | done | rfl)
  try simp only [Act.put, List.setIfInBounds_toArray, List.set_cons_zero, List.set_cons_succ]
  (try rw [hw1])
  -- 9 Op.move (Operand.tmp 6)
  refine wpMonoJ_take' 9 (v := ?_) rfl (by kernel_rfl) (by kernel_rfl) (by kernel_rfl) (by rfl) (fun _ _ _ h => h) (by rfl) ?_ ?_
  rotate_left
  · (intro W hSw; (first | (have hgW := HF1.out.blk.drew.keeps (X := nobody) hSw (fun h => h); have a0 : W.cell? ⟨g, 0, none⟩ = some (.int .i64 rg) := hgW.cell 0; have a1 : W.cell? ⟨g, 1, none⟩ = some (.slice A1 ap.length c1) := hgW.cell 1; have al := hgW.lt) | skip)
     go_simp; first | done | rfl)
  try simp only [Act.put, List.setIfInBounds_toArray, List.set_cons_zero, List.set_cons_succ]
  (try rw [hw1])
  -- 10 Op.binOp BinOp.add 3 (Operand.tmp 34) (Operand.const (Value.int IntKind.i64 1)) 3
  refine wpMonoJ_take' 10 (v := ?_) rfl (by kernel_rfl) (by kernel_rfl) (by kernel_rfl) (by rfl) (fun _ _ _ h => h) (by rfl) ?_ ?_
  rotate_left
  · (intro W hSw; (first | (have hgW := HF1.out.blk.drew.keeps (X := nobody) hSw (fun h => h); have a0 : W.cell? ⟨g, 0, none⟩ = some (.int .i64 rg) := hgW.cell 0; have a1 : W.cell? ⟨g, 1, none⟩ = some (.slice A1 ap.length c1) := hgW.cell 1; have al := hgW.lt) | skip)
     go_simp; first | done | rfl)
  try simp only [Act.put, List.setIfInBounds_toArray, List.set_cons_zero, List.set_cons_succ]
  (try rw [hw1])
  -- EFFECT 11 Op.call { callee := Callee.value (Operand.func 11), args := #[Operand.tmp 29, Operand.tmp 33, Operand.tmp 35], argTypes := #[26, 3, 3] }
  refine wpMonoJ_one' 11 (by kernel_rfl) rfl (by rfl) (fun K hK => ?_)
  go_simp
  refine (with_ref A1 ap.length c1 ap rg (atV ap rg + 1) w1.drew (show Vec w1.drew w1.drew.heap.size A1 ap.length c1 ap from HA1.out.below ((Below.refl _ w1).drew)) (by omega)).mono ?_
  rintro e w12 ⟨va', rfl, hown, hb12⟩
  obtain ⟨A5, c5, rfl⟩ := ownsRow_slice hown
  have hbw12 := below_ofDrew hb12
  have hg12 := HF1.out.blk.below hbw12 HF1.out.blk.lt
  have e1 : w12.cell? ⟨g, 1, none⟩ = some (.slice A1 ap.length c1) := hg12.cell 1
  have ef := hg12.frozen 1
  have el := hg12.lt
  have HOWN := Lib.hid hown
  have HBW12 := Lib.hid hbw12
  clear hown hbw12 hg12
  refine hK.out _ _ ?_ ?_
  · exact .of_below hb12
  clear hK K
  try simp only [Act.put, List.setIfInBounds_toArray, List.set_cons_zero, List.set_cons_succ]
  (try rw [hw1])
  -- 12 Op.nilCheck (Operand.tmp 25)
  refine wpMonoJ_take' 12 (v := ?_) rfl (by kernel_rfl) (by kernel_rfl) (by kernel_rfl) (by rfl) (fun _ _ _ h => h) (by rfl) ?_ ?_
  rotate_left
  · (intro W hSw; (first | (have hgW := HF1.out.blk.drew.keeps (X := nobody) hSw (fun h => h); have a0 : W.cell? ⟨g, 0, none⟩ = some (.int .i64 rg) := hgW.cell 0; have a1 : W.cell? ⟨g, 1, none⟩ = some (.slice A1 ap.length c1) := hgW.cell 1; have al := hgW.lt) | skip)
     go_simp; first | done | rfl)
  try simp only [Act.put, List.setIfInBounds_toArray, List.set_cons_zero, List.set_cons_succ]
  (try rw [hw1])
  -- 13 Op.fieldAddr 68 (Operand.tmp 37) 1
  refine wpMonoJ_take' 13 (v := ?_) rfl (by kernel_rfl) (by kernel_rfl) (by kernel_rfl) (by rfl) (fun _ _ _ h => h) (by rfl) ?_ ?_
  rotate_left
  · (intro W hSw; (first | (have hgW := HF1.out.blk.drew.keeps (X := nobody) hSw (fun h => h); have a0 : W.cell? ⟨g, 0, none⟩ = some (.int .i64 rg) := hgW.cell 0; have a1 : W.cell? ⟨g, 1, none⟩ = some (.slice A1 ap.length c1) := hgW.cell 1; have al := hgW.lt) | skip)
     go_simp; first | done | rfl)
  try simp only [Act.put, List.setIfInBounds_toArray, List.set_cons_zero, List.set_cons_succ]
  (try rw [hw1])
  -- EFFECT 14 Op.store 26 (Operand.tmp 38) (Operand.tmp 36)
  refine wpMonoJ_one' 14 (by kernel_rfl) rfl (by rfl) (fun K hK => ?_)
  go_simp
  refine hK.out _ _ ?_ ?_
  · exact moved (Keeps.set1 w12 g 1 _) (by decide)
  clear hK K
  try simp only [Act.put]
  refine wpMonoJ_done (by kernel_rfl) ?_ _
  have hwl : (withL ap rg (atV ap rg + 1)).length ≤ 16 := with_len ha16
  have hs1 := HB1.out.size
  have HF12 := Lib.hid (HF1.out.putA (R' := fun i => (R i ∨ w1.heap.size ≤ i) ∧ i < w12.heap.size) (ap' := withL ap rg (atV ap rg + 1)) (va' := .slice A5 (withL ap rg (atV ap rg + 1)).length c5) HBW12.out HOWN.out hwl
    (fun r => by rw [atV_with _ _ _ _ hrg]; split; omega; exact HF1.out.apb r)
    (fun i hi => ⟨.inl hi, Nat.lt_of_lt_of_le (HF1.out.small i hi) HBW12.out.size⟩) (fun i h1 h2 => ⟨.inr h1, h2⟩) (fun i hi => hi.2))
  have HKW := Lib.hid (show Keeps R w (w12.setCell ⟨g, 1, none⟩ (.slice A5 (withL ap rg (atV ap rg + 1)).length c5)) from (Keeps.of_below (below_step HB1.out HBW12.out)).trans ((Keeps.set1 w12 g 1 _).more fun i _ e => by rw [show i = g from e]; exact HF1.out.inG))
  generalize w12.setCell ⟨g, 1, none⟩ (.slice A5 (withL ap rg (atV ap rg + 1)).length c5) = w13 at *
  clear e1 ef el
  go_wp2_with fail
  refine (drain_ref g rg _ _ L _ _ w13 HF12.out).mono ?_
  rintro e w14 ⟨vo, a, l, out, S3, rfl, hdr, hno⟩
  have HRR := Lib.hid (show OwnQ R g rg ap L dz w (.returned (.tuple #[vo, .int .i64 0])) w14 from .inr (.inr ⟨hcv, by omega, vo, a, l, out, S3, rfl, hdr.from HKW.out (fun i hi => hi.1.imp id fun h => by omega), hno⟩))
  obtain ⟨A14, c14, rfl⟩ := ownsRow_slice hdr.2.2.1
  clear hdr hno
  go_wp2
  go_ret2
  exact HRR.out
end Go.Proofs.Ytedkcpncomgboaa.dep
