/- The walk of the law DepAll: it returns true; nothing that was there is written. -/
import Derived.Test.YtedkcpncomgboaaClosA
namespace Go.Proofs.Ytedkcpncomgboaa.wDepAll
open Go Go.RowKit Go.Proofs.Ytedkcpncomgboaa.base Go.Proofs.Ytedkcpncomgboaa.rowe Go.Proofs.Ytedkcpncomgboaa.err Go.Proofs.Ytedkcpncomgboaa.wire Go.Proofs.Ytedkcpncomgboaa.vec Go.Proofs.Ytedkcpncomgboaa.cmp Go.Proofs.Ytedkcpncomgboaa.with_ Go.Proofs.Ytedkcpncomgboaa.dep Go.Proofs.Ytedkcpncomgboaa.ref Go.Proofs.Ytedkcpncomgboaa.joinr Go.Proofs.Ytedkcpncomgboaa.monoj

theorem upd_self (at_ : Nat → List Int) (r : Nat) (v : List Int) : upd at_ r v r = v := by unfold upd; rw [if_pos rfl]
theorem upd_upd (at_ : Nat → List Int) (r : Nat) (u v : List Int) : upd (upd at_ r u) r v = upd at_ r v := by
  funext i
  unfold upd
  split <;> rfl
theorem MidI.sh_le {all : List Wr} (hg : GenI all) {a : List Int} {l : List Wr} {sh : Int} (h : MidI all a l sh) : 0 ≤ sh ∧ sh ≤ 1000000 := by
  have h2 := h.le 2
  have h3 := h.le 3
  have h4 := h.le 4
  have g2 := hg.few 2
  have g3 := hg.few 3
  have g4 := hg.few 4
  have := h.sum
  omega
theorem offI_mid {W0 wr : World} {pi ps g : Nat} {all : List Wr} {S : Nat → Prop} {ap : List Int} {ws : List Wr} {sh : Int} (h : OffI W0 pi ps g all wr S ap ws sh) : MidI all ap ws sh ∧ ∀ x ∈ ws, readyB ap x = false := by
  obtain ⟨_, _, _, _, _, _, _, _, _, _, h1, h2⟩ := h
  exact ⟨h1, h2⟩
theorem GenI.z_le {all : List Wr} (hg : GenI all) {i : Nat} (hi : i < all.length) : (all.getD i wrZ).z.length ≤ 16 := by
  have h := (right_parts (hg.right i hi)).z
  unfold trB at h
  simp only [Bool.and_eq_true, decide_eq_true_eq] at h
  exact h.1
theorem all_at {w : World} {B n : Nat} {A : Option Addr} {all : List Wr} (h : Reads w B 10 A n (all.flatMap Wr.cells)) (hl : all.length = n) {j : Nat} (hj : j < n) : ∃ b off, A = some ⟨b, off, none⟩ ∧ ∀ q v, (all.getD j wrZ).cells[q]? = some v → w.cell? ⟨b, off + j * 10 + q, none⟩ = some v := by
  obtain ⟨b, off, rfl, hb⟩ := h.at_some (by omega)
  refine ⟨b, off, rfl, fun q v hq => ?_⟩
  have hq2 : q < 10 := by
    have := (List.getElem?_eq_some_iff.1 hq).1
    rwa [Wr.len] at this
  have h5 := Reads.thing Wr.cells Wr.len h (k := j) (x := all.getD j wrZ) (by omega) (by rw [List.getD_eq_getElem?_getD, List.getElem?_eq_getElem (by omega)]; rfl) q hq2
  rw [h5, hq]
theorem clones_empty (A : Option Addr) (c : Nat) (w : World) : Calls Try.prog 41 #[.slice A 0 c] w fun e w' => e = .returned (.slice none 0 0) ∧ w' = w := by
  go_enter Try.func41, Try.ntmps41
  go_wp2_with fail
  go_loopw [3, 5, 8] (fun o _ i wr => o = .slice none 0 0 ∧ i = .int .i64 0 ∧ wr = w) (fun _ _ _ _ => 0)
  case atStart => exact ⟨rfl, rfl, rfl⟩
  case round =>
    obtain ⟨rfl, rfl, rfl⟩ := hrel
    go_wp2_with fail
    go_ret
    exact ⟨rfl, rfl⟩
theorem waits_empty (g : Nat) (rg : Int) (S : Nat → Prop) (ap : List Int) (va vw : Value) (w : World) (h : InF w S g rg ap [] va vw) :
    Calls Try.prog 15 #[.pointer (some ⟨g, 0, none⟩)] w fun e w' => e = .returned (.slice none 0 0) ∧ Below w.heap.size w w' := by
  obtain ⟨A, c, rfl⟩ := ownsRow_slice h.row
  have y2 : w.cell? ⟨g, 2, none⟩ = some (.slice A [].length c) := h.blk.cell 2
  have gl := h.blk.lt
  clear h
  go_enter Try.func15, Try.ntmps15
  go_wp2_with fail
  refine (clones_empty A c w).mono ?_
  rintro e w1 ⟨rfl, rfl⟩
  go_wp2_with fail
  go_ret
  exact ⟨rfl, Below.refl _ _⟩
/-- what each region has seen -/
def AtI (B : Nat) (w : World) (ab : Nat) (at_ : Nat → List Int) : Prop :=
  ∃ vs : List Value, vs.length = 5 ∧ Blk w ab 27 vs.toArray ∧ ∀ i, i < 5 → ∃ A c, vs[i]? = some (.slice A (at_ i).length c) ∧ w.ownsRow B 3 1 (.slice A (at_ i).length c) (at_ i).length (enc (at_ i))
/-- the writes that were made -/
def AllI (B : Nat) (w : World) (v : Value) (all : List Wr) : Prop :=
  w.ownsRow B 35 10 v all.length (all.flatMap Wr.cells) ∧ ∀ x ∈ all, w.ownsRow B 3 1 x.d x.z.length (enc x.z)
section
variable {B ab : Nat} {w w' : World} {at_ : Nat → List Int} {v : Value} {all : List Wr}
theorem AtI.below (h : AtI B w ab at_) (hb : Below w.heap.size w w') : AtI B w' ab at_ := by
  obtain ⟨vs, h1, h2, h3⟩ := h
  refine ⟨vs, h1, h2.below hb h2.lt, fun i hi => ?_⟩
  obtain ⟨A, c, h4, h5⟩ := h3 i hi
  exact ⟨A, c, h4, dep.own_keeps h5 (X := nobody) (.of_below hb) (fun _ _ h => h)⟩
theorem AllI.below (h : AllI B w v all) (hb : Below w.heap.size w w') : AllI B w' v all :=
  ⟨dep.own_keeps h.1 (X := nobody) (.of_below hb) (fun _ _ h => h), fun x hx => dep.own_keeps (h.2 x hx) (X := nobody) (.of_below hb) (fun _ _ h => h)⟩
theorem AtI.get (h : AtI B w ab at_) {r : Nat} (hr : r < 5) : ∃ A c, w.cell? ⟨ab, r, none⟩ = some (.slice A (at_ r).length c) ∧ Vec w w.heap.size A (at_ r).length c (at_ r) ∧ w.frozen? ⟨ab, r, none⟩ = false ∧ ab < w.heap.size := by
  obtain ⟨vs, h1, h2, h3⟩ := h
  obtain ⟨A, c, h4, h5⟩ := h3 r hr
  refine ⟨A, c, ?_, ?_, h2.frozen r, h2.lt⟩
  · rw [h2.cell r]
    simpa using h4
  · obtain ⟨A', c', e, hv⟩ := Vec.of_own (n := (at_ r).length) (zs := at_ r) (own_low h5 (Nat.zero_le _))
    cases e
    exact hv
theorem AtI.own (h : AtI B w ab at_) {r n c : Nat} {A : Option Addr} (hr : r < 5) (hc : w.cell? ⟨ab, r, none⟩ = some (.slice A n c)) : w.ownsRow B 3 1 (.slice A n c) (at_ r).length (enc (at_ r)) := by
  obtain ⟨vs, h1, h2, h3⟩ := h
  obtain ⟨A', c', h4, h5⟩ := h3 r hr
  have h6 := h2.cell r
  rw [hc] at h6
  have h7 : vs[r]? = some (.slice A n c) := by simpa using h6.symm
  rw [h4] at h7
  cases h7
  exact h5
theorem AtI.store (h : AtI B w ab at_) {r : Nat} (hr : r < 5) {A : Option Addr} {c : Nat} {z : List Int} (hv : w.ownsRow B 3 1 (.slice A z.length c) z.length (enc z)) : AtI B (w.setCell ⟨ab, r, none⟩ (.slice A z.length c)) ab (upd at_ r z) := by
  obtain ⟨vs, h1, h2, h3⟩ := h
  have hk := Keeps.set1 w ab r (.slice A z.length c)
  refine ⟨vs.set r (.slice A z.length c), by simpa using h1, by simpa using h2.set_ r (.slice A z.length c), fun i hi => ?_⟩
  unfold upd
  by_cases hir : i = r
  · subst hir
    rw [if_pos rfl]
    exact ⟨A, c, by rw [List.getElem?_set_self (by omega)], dep.own_keeps hv hk fun j hj e => own_blk_ne hv h2 (by decide) (by rw [← show j = ab from e]; exact hj)⟩
  · rw [if_neg hir]
    obtain ⟨A', c', h4, h5⟩ := h3 i hi
    exact ⟨A', c', by rw [List.getElem?_set_ne (fun e => hir e.symm)]; exact h4, dep.own_keeps h5 hk fun j hj e => own_blk_ne h5 h2 (by decide) (by rw [← show j = ab from e]; exact hj)⟩
theorem AllI.store (h : AllI B w v all) (ha : AtI B w ab at_) (r : Nat) (u : Value) : AllI B (w.setCell ⟨ab, r, none⟩ u) v all := by
  obtain ⟨vs, h1, h2, h3⟩ := ha
  have hk := Keeps.set1 w ab r u
  exact ⟨dep.own_keeps h.1 hk fun j hj e => own_blk_ne h.1 h2 (by decide) (by rw [← show j = ab from e]; exact hj), fun x hx => dep.own_keeps (h.2 x hx) hk fun j hj e => own_blk_ne (h.2 x hx) h2 (by decide) (by rw [← show j = ab from e]; exact hj)⟩
theorem AtI.append (ha : AtI B w ab at_) (h : AllI B w v all) (hg : w.grownBy w' v.ownBlock) : AtI B w' ab at_ := by
  obtain ⟨vs, h1, h2, h3⟩ := ha
  have hk : Keeps (fun i => v.ownBlock = some i) w w' := .grown hg fun g hg => .inl hg
  refine ⟨vs, h1, h2.keeps hk fun e => own_blk_ne h.1 h2 (by decide) e, fun i hi => ?_⟩
  obtain ⟨A, c, h4, h5⟩ := h3 i hi
  exact ⟨A, c, h4, dep.own_keeps h5 hk fun j hj e => own_apart h5 h.1 (by decide) j hj e⟩
theorem AllI.append {v' : Value} {x : Wr} (h : AllI B w v all) (hg : w.grownBy w' v.ownBlock) (hr : w'.ownsRow B 35 10 v' (all.length + 1) (all.flatMap Wr.cells ++ x.cells)) (hx : w.ownsRow B 3 1 x.d x.z.length (enc x.z)) : AllI B w' v' (all ++ [x]) := by
  have hk : Keeps (fun i => v.ownBlock = some i) w w' := .grown hg fun g hg => .inl hg
  refine ⟨by rw [List.length_append, List.flatMap_append]; simpa using hr, fun y hy => ?_⟩
  rcases List.mem_append.1 hy with hy | hy
  · exact dep.own_keeps (h.2 y hy) hk fun j hj e => own_apart (h.2 y hy) h.1 (by decide) j hj e
  · obtain rfl := List.mem_singleton.1 hy
    exact dep.own_keeps hx hk fun j hj e => own_apart hx h.1 (by decide) j hj e
end
set_option maxRecDepth 100000 in
set_option maxHeartbeats 6000000 in
theorem walk (v0 v1 : Value) (w : World) (a0 : Arg Try.prog w 22 v0) (a1 : Arg Try.prog w 23 v1) :
    Calls Try.prog 3 #[v0, v1] w fun e w' => e = .returned (.bool true) ∧ Below w.heap.size w w' := by
  obtain ⟨A0, n0, c0, zs, rfl, hl0, hm0, hlen0, hwf0, hr0, _⟩ := a0.ints Try.underlying22 Try.underlying5 (by kernel_rfl)
  obtain ⟨A1, n1, c1, ys, rfl, hl1, hm1, hlen1, hwf1, hr1, _⟩ := a1.ints Try.underlying23 Try.underlying46 (by kernel_rfl)
  have HR0 := Lib.hid hr0
  have HR1 := Lib.hid hr1
  have HW0 := Lib.hid hwf0
  have HW1 := Lib.hid hwf1
  have HL0 := Lib.hid hlen0
  have HL1 := Lib.hid hlen1
  unfold maxLen at hm0 hm1
  clear hr0 hr1 hwf0 hwf1 hlen0 hlen1 a0 a1
  go_enter Try.func3, Try.ntmps3
  go_wp2_with fail
  refine (awake_any _).mono ?_
  rintro e w1 ⟨rfl, hb1⟩
  have HB1 := Lib.hid hb1
  clear hb1
  by_cases hg0 : 36 < n0
  · go_wp2_with fail
    go_ret
    exact ⟨rfl, HB1.out⟩
  by_cases hg1 : 200 < n1
  · go_wp2_with fail
    go_ret
    exact ⟨rfl, HB1.out⟩
  go_wp2_with fail
  have HBA := Lib.hid (show Below w.heap.size w (w1.alloc (.cells #[.slice none 0 0, .slice none 0 0, .slice none 0 0, .slice none 0 0, .slice none 0 0] 27)) from below_alloc HB1.out _)
  have HAT := Lib.hid (show AtI w.heap.size (w1.alloc (.cells #[.slice none 0 0, .slice none 0 0, .slice none 0 0, .slice none 0 0, .slice none 0 0] 27)) w1.heap.size (fun _ => []) from ⟨[.slice none 0 0, .slice none 0 0, .slice none 0 0, .slice none 0 0, .slice none 0 0], rfl, Blk.new w1 27 #[.slice none 0 0, .slice none 0 0, .slice none 0 0, .slice none 0 0, .slice none 0 0], fun i hi => ⟨none, 0, by
    rcases (by omega : i = 0 ∨ i = 1 ∨ i = 2 ∨ i = 3 ∨ i = 4) with rfl | rfl | rfl | rfl | rfl <;> rfl, ⟨rfl, .inl ⟨rfl, rfl⟩⟩⟩⟩)
  have HSZ := Lib.hid (show w.heap.size ≤ w1.heap.size from HB1.out.size)
  generalize w1.alloc (.cells #[.slice none 0 0, .slice none 0 0, .slice none 0 0, .slice none 0 0, .slice none 0 0] 27) = w2 at *
  go_loopw [5, 33] (fun v i wr => ∃ k : Nat, ∃ all : List Wr, ∃ at_ : Nat → List Int, k ≤ n0 ∧ i = .int .i64 k ∧ AllI w.heap.size wr v all ∧ AtI w.heap.size wr w1.heap.size at_ ∧ GenI all ∧ AtP all at_ ∧ all.length ≤ k ∧ Below w.heap.size w wr) (fun _ i _ => n0 - (intOf i).toNat)
  case atStart => exact ⟨0, [], _, by omega, rfl, ⟨⟨rfl, .inl ⟨rfl, rfl⟩⟩, fun x hx => by cases hx⟩, HAT.out, GenI.nil, AtP.nil, by simp, HBA.out⟩
  case round =>
    clear HAT HBA
    obtain ⟨k, all, at_, hkn, rfl, hall, hat, hgen, hatp, halk, hbr⟩ := hrel
    have HALL := Lib.hid hall
    have HAT := Lib.hid hat
    have HGEN := Lib.hid hgen
    have HATP := Lib.hid hatp
    have HBr := Lib.hid hbr
    clear hall hat hgen hatp hbr
    by_cases hlt : k < n0
    · obtain ⟨b, off, rfl, hbl⟩ := HR0.out.at_some (by omega)
      have q1 : wr.cell? ⟨b, off + k, none⟩ = some (.int .u8 (zs.getD k 0)) := by
        have h1 := Reads.get (HR0.out.below HBr.out) (by omega) (j := k) (v := .int .u8 (zs.getD k 0)) (by
          rw [List.getElem?_map, List.getD_eq_getElem?_getD, List.getElem?_eq_getElem (by rw [HL0.out]; exact hlt)]
          rfl)
        simpa using h1
      have hz : 0 ≤ zs.getD k 0 ∧ zs.getD k 0 < 256 := by
        have h1 := HW0.out (zs.getD k 0) (by rw [List.getD_eq_getElem?_getD, List.getElem?_eq_getElem (by rw [HL0.out]; exact hlt)]; exact List.getElem_mem _)
        have e1 : IntKind.u8.min = 0 := rfl
        have e2 : IntKind.u8.max = 255 := rfl
        simp only [Lit.wf, e1, e2, Bool.and_eq_true, decide_eq_true_eq] at h1
        omega
      have hbw : b < wr.heap.size := by have := HBr.out.size; omega
      generalize zs.getD k 0 = z at *
      obtain ⟨zn, rfl⟩ : ∃ zn : Nat, z = zn := ⟨z.toNat, by omega⟩
      obtain ⟨Ar, cr, ar, avr, afr, abl⟩ := HAT.out.get (r := 2 + zn % 3) (by omega)
      have hr24 : 2 ≤ 2 + zn % 3 ∧ 2 + zn % 3 ≤ 4 := by omega
      have HVR := Lib.hid avr
      clear avr afr
      go_wp2_with fail
      have hri : (2 + (zn : Int) % 3) = ((2 + zn % 3 : Nat) : Int) := by omega
      rw [hri]
      obtain ⟨r, hr⟩ : ∃ r, r = 2 + zn % 3 := ⟨_, rfl⟩
      rw [← hr] at ar hr24 HVR ⊢
      clear hri hr
      refine (at_ref Ar _ cr (at_ r) (r : Int) _ _ HVR.out).mono ?_
      rintro e w3 ⟨rfl, rfl⟩
      by_cases h12 : 12 ≤ atV (at_ r) r
      · go_wp2_with fail
        go_roundw
        case rel => exact ⟨k + 1, all, at_, by omega, by go_num, HALL.out, HAT.out, HGEN.out, HATP.out, by omega, HBr.out⟩
        case measure => (simp [intOf]; try omega)
      go_wp2_with fail
      have hfi : (2 + (zn : Int) / 3 % 3) = ((2 + zn / 3 % 3 : Nat) : Int) := by omega
      rw [hfi]
      obtain ⟨f, hf⟩ : ∃ f, f = 2 + zn / 3 % 3 := ⟨_, rfl⟩
      have hf24 : 2 ≤ f ∧ f ≤ 4 := by omega
      rw [← hf]
      clear hfi hf
      obtain ⟨Af, cf, af, avf, _, _⟩ := HAT.out.get (r := f) (by omega)
      have HVF := Lib.hid avf
      have hlr := (HATP.out r).1
      have hlf := (HATP.out f).1
      have HGM := Lib.hid (HGEN.out.more HATP.out hr24 (f := f) (by omega))
      have c5r : (r : Int) < 5 := by omega
      have c5f : (f : Int) < 5 := by omega
      clear avf q1
      refine wp_region_monoJ (fun i => i = w1.heap.size) [10] (by kernel_rfl) ?_
      -- 0 Op.move (Operand.tmp 9)
      refine wpMonoJ_take' 0 (v := ?_) rfl (by kernel_rfl) (by kernel_rfl) (by kernel_rfl) (by rfl) (fun _ _ _ h => h) (by rfl) ?_ ?_
      rotate_left
      · (intro W hSw; (first | (have ar2 : W.cell? ⟨w1.heap.size, r, none⟩ = some (.slice Ar (at_ r).length cr) := (hSw.cell r (show w1.heap.size < wr.drew.heap.size from abl) (fun h => h)).trans ar; have af2 : W.cell? ⟨w1.heap.size, f, none⟩ = some (.slice Af (at_ f).length cf) := (hSw.cell f (show w1.heap.size < wr.drew.heap.size from abl) (fun h => h)).trans af; have al : w1.heap.size < W.heap.size := Nat.lt_of_lt_of_le abl hSw.size) | skip)
         go_simp; first | done | rfl | (rw [if_pos c5r]; rfl) | (rw [if_pos c5f]; rfl))
      try simp only [Act.put, List.setIfInBounds_toArray, List.set_cons_zero, List.set_cons_succ]
      -- 1 Op.move (Operand.tmp 9)
      refine wpMonoJ_take' 1 (v := ?_) rfl (by kernel_rfl) (by kernel_rfl) (by kernel_rfl) (by rfl) (fun _ _ _ h => h) (by rfl) ?_ ?_
      rotate_left
      · (intro W hSw; (first | (have ar2 : W.cell? ⟨w1.heap.size, r, none⟩ = some (.slice Ar (at_ r).length cr) := (hSw.cell r (show w1.heap.size < wr.drew.heap.size from abl) (fun h => h)).trans ar; have af2 : W.cell? ⟨w1.heap.size, f, none⟩ = some (.slice Af (at_ f).length cf) := (hSw.cell f (show w1.heap.size < wr.drew.heap.size from abl) (fun h => h)).trans af; have al : w1.heap.size < W.heap.size := Nat.lt_of_lt_of_le abl hSw.size) | skip)
         go_simp; first | done | rfl | (rw [if_pos c5r]; rfl) | (rw [if_pos c5f]; rfl))
      try simp only [Act.put, List.setIfInBounds_toArray, List.set_cons_zero, List.set_cons_succ]
      -- 2 Op.indexAddr 27 (Operand.tmp 6) (Operand.tmp 53)
      refine wpMonoJ_take' 2 (v := ?_) rfl (by kernel_rfl) (by kernel_rfl) (by kernel_rfl) (by rfl) (fun _ _ _ h => h) (by rfl) ?_ ?_
      rotate_left
      · (intro W hSw; (first | (have ar2 : W.cell? ⟨w1.heap.size, r, none⟩ = some (.slice Ar (at_ r).length cr) := (hSw.cell r (show w1.heap.size < wr.drew.heap.size from abl) (fun h => h)).trans ar; have af2 : W.cell? ⟨w1.heap.size, f, none⟩ = some (.slice Af (at_ f).length cf) := (hSw.cell f (show w1.heap.size < wr.drew.heap.size from abl) (fun h => h)).trans af; have al : w1.heap.size < W.heap.size := Nat.lt_of_lt_of_le abl hSw.size) | skip)
         go_simp; first | done | rfl | (rw [if_pos c5r]; rfl) | (rw [if_pos c5f]; rfl))
      try simp only [Act.put, List.setIfInBounds_toArray, List.set_cons_zero, List.set_cons_succ]
      -- 3 Op.load 26 (Operand.tmp 54)
      refine wpMonoJ_read' 3 [7, 8, 9, 10] (v := ?_) rfl (by kernel_rfl) (by kernel_rfl) (by kernel_rfl) (by rfl) (by kernel_rfl) (by rfl) (fun _ _ _ h => h) (by rfl) ?_ ?_
      rotate_left
      · (intro W hSw; (first | (have ar2 : W.cell? ⟨w1.heap.size, r, none⟩ = some (.slice Ar (at_ r).length cr) := (hSw.cell r (show w1.heap.size < wr.drew.heap.size from abl) (fun h => h)).trans ar; have af2 : W.cell? ⟨w1.heap.size, f, none⟩ = some (.slice Af (at_ f).length cf) := (hSw.cell f (show w1.heap.size < wr.drew.heap.size from abl) (fun h => h)).trans af; have al : w1.heap.size < W.heap.size := Nat.lt_of_lt_of_le abl hSw.size) | skip)
         go_simp; first | done | rfl | (rw [if_pos c5r]; rfl) | (rw [if_pos c5f]; rfl))
      try simp only [Act.put, List.setIfInBounds_toArray, List.set_cons_zero, List.set_cons_succ]
      -- 4 Op.move (Operand.tmp 10)
      refine wpMonoJ_take' 4 (v := ?_) rfl (by kernel_rfl) (by kernel_rfl) (by kernel_rfl) (by rfl) (fun _ _ _ h => h) (by rfl) ?_ ?_
      rotate_left
      · (intro W hSw; (first | (have ar2 : W.cell? ⟨w1.heap.size, r, none⟩ = some (.slice Ar (at_ r).length cr) := (hSw.cell r (show w1.heap.size < wr.drew.heap.size from abl) (fun h => h)).trans ar; have af2 : W.cell? ⟨w1.heap.size, f, none⟩ = some (.slice Af (at_ f).length cf) := (hSw.cell f (show w1.heap.size < wr.drew.heap.size from abl) (fun h => h)).trans af; have al : w1.heap.size < W.heap.size := Nat.lt_of_lt_of_le abl hSw.size) | skip)
         go_simp; first | done | rfl | (rw [if_pos c5r]; rfl) | (rw [if_pos c5f]; rfl))
      try simp only [Act.put, List.setIfInBounds_toArray, List.set_cons_zero, List.set_cons_succ]
      -- 5 Op.indexAddr 27 (Operand.tmp 6) (Operand.tmp 56)
      refine wpMonoJ_take' 5 (v := ?_) rfl (by kernel_rfl) (by kernel_rfl) (by kernel_rfl) (by rfl) (fun _ _ _ h => h) (by rfl) ?_ ?_
      rotate_left
      · (intro W hSw; (first | (have ar2 : W.cell? ⟨w1.heap.size, r, none⟩ = some (.slice Ar (at_ r).length cr) := (hSw.cell r (show w1.heap.size < wr.drew.heap.size from abl) (fun h => h)).trans ar; have af2 : W.cell? ⟨w1.heap.size, f, none⟩ = some (.slice Af (at_ f).length cf) := (hSw.cell f (show w1.heap.size < wr.drew.heap.size from abl) (fun h => h)).trans af; have al : w1.heap.size < W.heap.size := Nat.lt_of_lt_of_le abl hSw.size) | skip)
         go_simp; first | done | rfl | (rw [if_pos c5r]; rfl) | (rw [if_pos c5f]; rfl))
      try simp only [Act.put, List.setIfInBounds_toArray, List.set_cons_zero, List.set_cons_succ]
      -- 6 Op.load 26 (Operand.tmp 57)
      refine wpMonoJ_read' 6 [7, 8, 9, 10] (v := ?_) rfl (by kernel_rfl) (by kernel_rfl) (by kernel_rfl) (by rfl) (by kernel_rfl) (by rfl) (fun _ _ _ h => h) (by rfl) ?_ ?_
      rotate_left
      · (intro W hSw; (first | (have ar2 : W.cell? ⟨w1.heap.size, r, none⟩ = some (.slice Ar (at_ r).length cr) := (hSw.cell r (show w1.heap.size < wr.drew.heap.size from abl) (fun h => h)).trans ar; have af2 : W.cell? ⟨w1.heap.size, f, none⟩ = some (.slice Af (at_ f).length cf) := (hSw.cell f (show w1.heap.size < wr.drew.heap.size from abl) (fun h => h)).trans af; have al : w1.heap.size < W.heap.size := Nat.lt_of_lt_of_le abl hSw.size) | skip)
         go_simp; first | done | rfl | (rw [if_pos c5r]; rfl) | (rw [if_pos c5f]; rfl))
      try simp only [Act.put, List.setIfInBounds_toArray, List.set_cons_zero, List.set_cons_succ]
      -- EFFECT 7 Op.buildSlice 30 2 #[(0, Operand.tmp 55), (1, Operand.tmp 58)]
      refine wpMonoJ_one' 7 (by kernel_rfl) rfl (by rfl) (fun K hK => ?_)
      go_simp
      refine hK.out _ _ ?_ ?_
      · exact (show Keeps _ wr.drew (wr.drew.alloc (.cells #[.slice Ar (at_ r).length cr, .slice Af (at_ f).length cf] 26)) from .alloc _)
      clear hK K
      try simp only [Act.put, List.setIfInBounds_toArray, List.set_cons_zero, List.set_cons_succ]
      -- EFFECT 8 Op.call { callee := Callee.value (Operand.func 9), args := #[Operand.tmp 59], argTypes := #[30] }
      refine wpMonoJ_one' 8 (by kernel_rfl) rfl (by rfl) (fun K hK => ?_)
      go_simp
      have hb4 : Below wr.heap.size wr (wr.alloc (.cells #[.slice Ar (at_ r).length cr, .slice Af (at_ f).length cf] 26)).drew := (below_new wr _).drew
      have hvs : Vecs (wr.alloc (.cells #[.slice Ar (at_ r).length cr, .slice Af (at_ f).length cf] 26)).drew (wr.alloc (.cells #[.slice Ar (at_ r).length cr, .slice Af (at_ f).length cf] 26)).drew.heap.size (some ⟨wr.heap.size, 0, none⟩) 2 2 [⟨Ar, (at_ r).length, cr, at_ r⟩, ⟨Af, (at_ f).length, cf, at_ f⟩] :=
        ⟨rfl, by omega, by unfold maxLen; omega, (reads_blk (size := 1) (n := 2) (Blk.new wr 26 #[.slice Ar (at_ r).length cr, .slice Af (at_ f).length cf]) rfl).below (Below.refl _ _).drew, fun v hv => by
          rcases List.mem_cons.1 hv with rfl | hv
          · exact ⟨(HVR.out.below hb4).more hb4.size, by show (at_ r).length ≤ 1000000; omega⟩
          · rw [List.mem_singleton.1 hv]
            exact ⟨(HVF.out.below hb4).more hb4.size, by show (at_ f).length ≤ 1000000; omega⟩, fun e => by cases e⟩
      refine (join_ref _ 2 2 _ _ hvs (by omega)).mono ?_
      rintro e w5 ⟨v5, rfl, hown5, hb5⟩
      rw [join2_eq _ _ rfl rfl] at hown5
      obtain ⟨A5, c5, rfl⟩ := ownsRow_slice hown5
      have hb45 : Below wr.heap.size wr w5 := below_step hb4 hb5
      have ar5 : w5.cell? ⟨w1.heap.size, r, none⟩ = some (.slice Ar (at_ r).length cr) := (hb45.cell (p := ⟨w1.heap.size, r, none⟩) abl).trans ar
      have hat5 := HAT.out.below hb45
      obtain ⟨_, _, _, _, af5, al5⟩ := hat5.get (r := r) (by omega)
      have HB5 := Lib.hid (below_step HBr.out hb45)
      have HAT5 := Lib.hid hat5
      have HALL5 := Lib.hid (HALL.out.below hb45)
      have HOW5 := Lib.hid (own_low hown5 (show w.heap.size ≤ _ from Nat.le_trans HBr.out.size hb4.size))
      clear hvs hown5 hat5 hb45
      refine hK.out _ _ ?_ ?_
      · exact .of_below hb5
      clear hK K
      -- 9 Op.indexAddr 27 (Operand.tmp 6) (Operand.tmp 52)
      refine wpMonoJ_take' 9 (v := ?_) rfl (by kernel_rfl) (by kernel_rfl) (by kernel_rfl) (by rfl) (fun _ _ _ h => h) (by rfl) ?_ ?_
      rotate_left
      · (intro W hSw; (first | (have ar2 : W.cell? ⟨w1.heap.size, r, none⟩ = some (.slice Ar (at_ r).length cr) := (hSw.cell r (show w1.heap.size < wr.drew.heap.size from abl) (fun h => h)).trans ar; have af2 : W.cell? ⟨w1.heap.size, f, none⟩ = some (.slice Af (at_ f).length cf) := (hSw.cell f (show w1.heap.size < wr.drew.heap.size from abl) (fun h => h)).trans af; have al : w1.heap.size < W.heap.size := Nat.lt_of_lt_of_le abl hSw.size) | skip)
         go_simp; first | done | rfl | (rw [if_pos c5r]; rfl) | (rw [if_pos c5f]; rfl))
      try simp only [Act.put, List.setIfInBounds_toArray, List.set_cons_zero, List.set_cons_succ]
      -- EFFECT 10 Op.store 26 (Operand.tmp 61) (Operand.tmp 60)
      refine wpMonoJ_one' 10 (by kernel_rfl) rfl (by rfl) (fun K hK => ?_)
      go_simp
      refine hK.out _ _ ?_ ?_
      · exact moved (Keeps.set1 w5 w1.heap.size r _) (by decide)
      clear hK K
      try simp only [Act.put]
      refine wpMonoJ_done (by kernel_rfl) ?_ _
      have HAT6 := Lib.hid (HAT5.out.store (r := r) (by omega) HOW5.out)
      have HALL6 := Lib.hid (HALL5.out.store HAT5.out r (.slice A5 (join2 (at_ r) (at_ f)).length c5))
      have HB6 := Lib.hid (HB5.out.trans ((Keeps.set1 w5 w1.heap.size r (.slice A5 (join2 (at_ r) (at_ f)).length c5)).below (fun i hi e => by have : i = w1.heap.size := e; have := HSZ.out; omega) HB5.out.size))
      generalize w5.setCell ⟨w1.heap.size, r, none⟩ (.slice A5 (join2 (at_ r) (at_ f)).length c5) = w6 at *
      obtain ⟨hg1', hp1', hj1, hj2, hj3⟩ := HGM.out .nilIface
      obtain ⟨A7, c7, ar7, av7, _, al7⟩ := HAT6.out.get (r := r) (by omega)
      rw [upd_self] at ar7 av7
      have HV7 := Lib.hid av7
      have HDO7 := Lib.hid (HAT6.out.own (r := r) (by omega) ar7)
      rw [upd_self] at HDO7
      clear hg1' hp1' ar5 af5 al5 ar af av7 HVR HVF HALL HAT HBr HALL5 HAT5 HOW5 HB5 abl c5f hb4 hb5
      go_wp2_with fail
      refine (at_ref A7 _ c7 (join2 (at_ r) (at_ f)) (r : Int) _ _ HV7.out).mono ?_
      rintro e w7 ⟨rfl, rfl⟩
      rw [hj1]
      have hw1 : IntKind.i64.wrap ((cnt (r : Int) all : Int) + 1) = (cnt (r : Int) all : Int) + 1 := by rw [IntKind.wrap_i64]; omega
      have HGN := HGM.out
      rw [hj1] at HGN
      have HGN := Lib.hid HGN
      clear HGM hj1
      generalize join2 (at_ r) (at_ f) = jv at *
      generalize hcn : cnt (r : Int) all = cn at *
      have HCN := Lib.hid hcn
      clear hcn
      go_wp2_with fail
      refine (write_any (r : Int) ((cn : Int) + 1) A7 jv.length c7 jv w6).mono ?_
      rintro e w8 ⟨rfl, hb8⟩
      have HAT8 := Lib.hid (HAT6.out.below hb8)
      have HALL8 := Lib.hid (HALL6.out.below hb8)
      have HB8 := Lib.hid (below_step HB6.out hb8)
      have HV8 := Lib.hid ((HV7.out.below hb8).more hb8.size)
      have HDO8 := Lib.hid (dep.own_keeps HDO7.out (X := nobody) (.of_below hb8) (fun _ _ h => h))
      clear hb8 HAT6 HALL6 HB6 HV7 ar7 al7
      obtain ⟨Aa, ca, rfl⟩ := ownsRow_slice HALL8.out.1
      have HB9 := Lib.hid (below_new w8 (.cells (wrD (r : Int) ((cn : Int) + 1) (.slice A7 jv.length c7) jv).cells.toArray 35))
      have HAT9 := Lib.hid (HAT8.out.below HB9.out)
      have HALL9 := Lib.hid (HALL8.out.below HB9.out)
      have HR9 := Lib.hid (show Reads (w8.alloc (.cells (wrD (r : Int) ((cn : Int) + 1) (.slice A7 jv.length c7) jv).cells.toArray 35)) (w8.heap.size + 1) 10 (some ⟨w8.heap.size, 0, none⟩) 1 (wrD (r : Int) ((cn : Int) + 1) (.slice A7 jv.length c7) jv).cells by
        have h9 := reads_blk (size := 10) (n := 1) (Blk.new w8 35 (wrD (r : Int) ((cn : Int) + 1) (.slice A7 jv.length c7) jv).cells.toArray) (by simp [Wr.len])
        simpa using h9)
      have HDO9 := Lib.hid (show (w8.alloc (.cells (wrD (r : Int) ((cn : Int) + 1) (.slice A7 jv.length c7) jv).cells.toArray 35)).ownsRow w.heap.size 3 1 (.slice A7 jv.length c7) jv.length (enc jv) from dep.own_keeps HDO8.out (X := nobody) (.of_below HB9.out) (fun _ _ h => h))
      have hbase : w.heap.size ≤ (w8.alloc (.cells (wrD (r : Int) ((cn : Int) + 1) (.slice A7 jv.length c7) jv).cells.toArray 35)).heap.size := Nat.le_trans HB8.out.size HB9.out.size
      obtain ⟨i0, hi0, hz⟩ := Option.map_eq_some_iff.1 write_info
      simp only [Prod.mk.injEq] at hz
      obtain ⟨hz0, hz1, hz2⟩ := hz
      go_wp2_with (first | ((with_reducible refine wpList_one ?_ (.tmp 74) ?_ (wrD (r : Int) ((cn : Int) + 1) (.slice A7 jv.length c7) jv) ?_ ?_); rfl; rfl; rfl) | (at_builtin; refine wpList_append_any _ rfl (.tmp 68) (.tmp 75) _ rfl w.heap.size 35 i0 _ 10 120 Try.underlying25 hi0 hz0 hz1 hz2 rfl (by decide) (.slice Aa all.length ca) all.length _ rfl HALL9.out.1 (w8.heap.size + 1) (some ⟨w8.heap.size, 0, none⟩) 1 1 (wrD (r : Int) ((cn : Int) + 1) (.slice A7 jv.length c7) jv).cells rfl HR9.out (oneW _ rfl) (by unfold maxLen; omega) (by omega) hbase ?_; intro v10 w10 ho10 hg10 hv10; obtain ⟨A10, c10, rfl⟩ := ownsRow_slice ho10; have Ho10 := Lib.hid ho10; have Hg10 := Lib.hid hg10; have HAT10 := Lib.hid (HAT9.out.append HALL9.out hg10); obtain ⟨A11, c11, ar11, av11, af11, al11⟩ := HAT10.out.get (r := r) (by omega); rw [upd_self] at ar11 av11; have HV11 := Lib.hid av11; clear av11 ho10 hg10 hv10))
      refine (with_ref A11 jv.length c11 jv (r : Int) ((cn : Int) + 1) w10 HV11.out (by omega)).mono ?_
      rintro e w12 ⟨v12, rfl, hown12, hb12⟩
      obtain ⟨A12, c12, rfl⟩ := ownsRow_slice hown12
      have hall11 : AllI w.heap.size w10 (.slice A10 (all.length + 1) c10) (all ++ [wrD (r : Int) ((cn : Int) + 1) (.slice A7 jv.length c7) jv]) := HALL9.out.append Hg10.out Ho10.out (HDO9.out)
      have hbw10 : Below w.heap.size w w10 := (below_step HB8.out HB9.out).grown Hg10.out hbase fun q hq => by
        have := (HALL9.out.1.lt q hq).1
        omega
      have HALL12 := Lib.hid (hall11.below hb12)
      have HAT12 := Lib.hid (HAT10.out.below hb12)
      have HB12 := Lib.hid (below_step hbw10 hb12)
      have HOW12 := Lib.hid (own_low hown12 hbw10.size)
      obtain ⟨_, _, ar12, _, af12, al12⟩ := HAT12.out.get (r := r) (by omega)
      clear hown12 hb12 hall11 hbw10 HAT8 HALL8 HB8 HV8 HB9 HAT9 HALL9 HR9 hbase Ho10 Hg10 HAT10 HV11 ar11 af11 al11
      go_wp2_with fail
      go_roundw
      case rel => exact ⟨k + 1, _, upd at_ r (withL jv (r : Int) ((cn : Int) + 1)), by omega, by go_num, by have h9 := HALL12.out.store HAT12.out r (.slice A12 (withL jv (r : Int) ((cn : Int) + 1)).length c12); simpa using h9, by have h9 := HAT12.out.store (r := r) (by omega) HOW12.out; rwa [upd_upd] at h9, (HGN.out _).1, (HGN.out _).2.1, by simp; omega, HB12.out.trans ((Keeps.set1 w12 w1.heap.size r _).below (fun i hi e => by have h8 : i = w1.heap.size := e; have h9 := HSZ.out; omega) HB12.out.size)⟩
      case measure => (simp [intOf]; try omega)
    · obtain rfl : k = n0 := by omega
      obtain ⟨Aa, ca, rfl⟩ := ownsRow_slice HALL.out.1
      have HRA := Lib.hid (show Reads wr wr.heap.size 10 Aa all.length (all.flatMap Wr.cells) from Reads.of_own HALL.out.1)
      have HVA := Lib.hid (show ∀ x ∈ all, VecOk wr x.d x.z from fun x hx => by
        obtain ⟨A, c, e, hv⟩ := Vec.of_own (n := x.z.length) (zs := x.z) (own_low (HALL.out.2 x hx) (Nat.zero_le _))
        exact ⟨A, _, c, e, hv⟩)
      clear HALL HAT HATP
      go_wp2_with fail
      refine (new_any 1 none 0 0 [] wr (vec_nil _ _) (by omega)).mono ?_
      rintro e w3 h3
      rcases h3 with ⟨_, g, S, va, rfl, hf3, hS, hb3⟩ | ⟨h, _⟩
      rotate_left
      · exact absurd h (by decide)
      have HF3 := Lib.hid hf3
      have HS3 := Lib.hid hS
      have HB3 := Lib.hid hb3
      clear hf3 hS hb3
      go_wp2_with fail
      have hba := below_new w3 (.cells #[.pointer (some ⟨g, 0, none⟩)] 38)
      have hbb := below_alloc hba (.cells #[.int .i64 0] 3)
      have HOF := Lib.hid (show OffI wr w3.heap.size (w3.heap.size + 1) g all ((w3.alloc (.cells #[.pointer (some ⟨g, 0, none⟩)] 38)).alloc (.cells #[.int .i64 0] 3)) S [] [] 0 from
        ⟨⟨_, _, HF3.out.below hbb⟩, HS3.out, below_step HB3.out hbb, (Blk.new w3 38 #[.pointer (some ⟨g, 0, none⟩)]).below (below_new _ _) (Blk.new w3 38 #[.pointer (some ⟨g, 0, none⟩)]).lt, by
          have h9 := Blk.new (w3.alloc (.cells #[.pointer (some ⟨g, 0, none⟩)] 38)) 3 #[.int .i64 0]
          simpa using h9, fun h => by have := HF3.out.small _ h; omega, fun h => by have := HF3.out.small _ h; omega, HB3.out.size, by have := HB3.out.size; omega, by omega,
          ⟨List.Pairwise.nil, (fun x h => by cases h), fun q => by rw [atV_nil]; omega, by rw [atV_nil, atV_nil, atV_nil]; rfl⟩, fun x h => by cases h⟩)
      obtain ⟨pi, hpi⟩ : ∃ pi, w3.heap.size = pi := ⟨_, rfl⟩
      obtain ⟨ps, hps⟩ : ∃ ps, w3.heap.size + 1 = ps := ⟨_, rfl⟩
      rw [hps, hpi] at HOF ⊢
      generalize (w3.alloc (.cells #[.pointer (some ⟨g, 0, none⟩)] 38)).alloc (.cells #[.int .i64 0] 3) = V at *
      clear hba hbb hpi hps HF3 HS3 HB3
      obtain ⟨N, hN⟩ : ∃ N, all.length = N := ⟨_, rfl⟩
      rw [hN] at HRA ⊢
      have HN := Lib.hid hN
      have hN36 : N ≤ 36 := by omega
      clear hN
      obtain ⟨W0, rfl⟩ : ∃ W0, W0 = wr := ⟨_, rfl⟩
      go_loopw [17, 95] (fun _ i wr => ∃ j : Nat, ∃ S ap ws sh, j ≤ n1 ∧ i = .int .i64 j ∧ OffI W0 pi ps g all wr S ap ws sh ∧ ws.length ≤ j) (fun _ i _ => n1 - (intOf i).toNat)
      case atStart => exact ⟨0, S, [], [], 0, by omega, rfl, HOF.out, by simp⟩
      case round =>
        clear HOF
        obtain ⟨j, S4, ap, ws, sh, hjn, rfl, hof, hwl⟩ := hrel
        have HOF := Lib.hid hof
        clear hof
        by_cases hj : j < n1
        · obtain ⟨b, off, rfl, hbl⟩ := HR1.out.at_some (by omega)
          have hbq : Below w.heap.size w wr := HBr.out.trans (HOF.out.2.2.1.mono HBr.out.size)
          have q1 : wr.cell? ⟨b, off + j, none⟩ = some (.int .u16 (ys.getD j 0)) := by
            have h1 := Reads.get (HR1.out.below hbq) (by omega) (j := j) (v := .int .u16 (ys.getD j 0)) (by
              rw [List.getElem?_map, List.getD_eq_getElem?_getD, List.getElem?_eq_getElem (by rw [HL1.out]; exact hj)]
              rfl)
            simpa using h1
          have hz : 0 ≤ ys.getD j 0 ∧ ys.getD j 0 < 65536 := by
            have h1 := HW1.out (ys.getD j 0) (by rw [List.getD_eq_getElem?_getD, List.getElem?_eq_getElem (by rw [HL1.out]; exact hj)]; exact List.getElem_mem _)
            have e1 : IntKind.u16.min = 0 := rfl
            have e2 : IntKind.u16.max = 65535 := rfl
            simp only [Lit.wf, e1, e2, Bool.and_eq_true, decide_eq_true_eq] at h1
            omega
          have hbw : b < wr.heap.size := by have := hbq.size; omega
          generalize ys.getD j 0 = z at *
          obtain ⟨yn, rfl⟩ : ∃ yn : Nat, z = yn := ⟨z.toNat, by omega⟩
          clear hbq
          by_cases hN0 : 0 < N
          · have hjm : yn % N < N := Nat.mod_lt _ hN0
            obtain ⟨ba, oa, rfl, he⟩ := all_at (HRA.out.below HOF.out.2.2.1) HN.out hjm
            have HE := Lib.hid he
            have hmm : yn % N < all.length := by rw [HN.out]; exact hjm
            have HXV := Lib.hid ((HVA.out _ (getD_mem hmm)).below HOF.out.2.2.1)
            have HXR := Lib.hid (HGEN.out.right _ hmm)
            have hxz := GenI.z_le HGEN.out hmm
            have HIS := Lib.hid (show Is all (all.getD (yn % N) wrZ) (yn % N) from ⟨hmm, rfl, rfl, rfl⟩)
            generalize all.getD (yn % N) wrZ = x at *
            clear he hmm
            go_wp2_with ((with_reducible refine wpList_load_at ?_ 35 (.tmp 109) ?_ ba (oa + yn % N * 10) x.cells ?_ Try.underlying35 ?_ ?_ HE.out ?_); rfl; rfl; rfl; rfl; (rw [Wr.len]; kernel_rfl))
            refine (clos_any W0 pi ps g all HGEN.out S4 ap ws sh x (yn % N) wr HOF.out HXV.out HIS.out HXR.out (by omega) hxz (MidI.sh_le HGEN.out (offI_mid HOF.out).1)).mono ?_
            rintro e w9 ⟨rfl, S5, ap5, ws5, sh5, hof5, hp5, hpk5, hl5⟩
            have HOF5 := Lib.hid hof5
            clear hof5 hp5 hpk5
            go_wp2_with fail
            go_roundw
            case rel => exact ⟨j + 1, S5, ap5, ws5, sh5, by omega, by go_num, HOF5.out, by omega⟩
            case measure => (simp [intOf]; try omega)
          · obtain rfl : N = 0 := by omega
            go_wp2_with fail
            go_roundw
            case rel => exact ⟨j + 1, S4, ap, ws, sh, by omega, by go_num, HOF.out, by omega⟩
            case measure => (simp [intOf]; try omega)
        · obtain rfl : j = n1 := by omega
          have hj200 : j ≤ 200 := by omega
          go_wp2_with fail
          go_loopw [18, 115] (fun _ i wr => ∃ q : Nat, ∃ S ap ws sh, q ≤ N ∧ i = .int .i64 q ∧ OffI W0 pi ps g all wr S ap ws sh ∧ ws.length ≤ 200 + q ∧ ∀ m, N - q ≤ m → m < N → Pres all ap ws m) (fun _ i _ => N - (intOf i).toNat)
          case atStart => exact ⟨0, S4, ap, ws, sh, by omega, rfl, HOF.out, by omega, fun m h1 h2 => by omega⟩
          case round =>
            clear HOF
            obtain ⟨q, S6, ap6, ws6, sh6, hqN, rfl, hof, hwl6, hpr6⟩ := hrel
            have HOF := Lib.hid hof
            have HPR := Lib.hid hpr6
            clear hof hpr6
            by_cases hq : q < N
            · have hjm : N - 1 - q < N := by omega
              obtain ⟨ba, oa, rfl, he⟩ := all_at (HRA.out.below HOF.out.2.2.1) HN.out hjm
              have HE := Lib.hid he
              have hmm : N - 1 - q < all.length := by rw [HN.out]; exact hjm
              have HXV := Lib.hid ((HVA.out _ (getD_mem hmm)).below HOF.out.2.2.1)
              have HXR := Lib.hid (HGEN.out.right _ hmm)
              have hxz := GenI.z_le HGEN.out hmm
              have HIS := Lib.hid (show Is all (all.getD (N - 1 - q) wrZ) (N - 1 - q) from ⟨hmm, rfl, rfl, rfl⟩)
              generalize all.getD (N - 1 - q) wrZ = x at *
              clear he hmm
              go_wp2_with ((with_reducible refine wpList_load_at ?_ 35 (.tmp 125) ?_ ba (oa + (N - 1 - q) * 10) x.cells ?_ Try.underlying35 ?_ ?_ HE.out ?_); rfl; rfl; rfl; rfl; (rw [Wr.len]; kernel_rfl))
              refine (clos_any W0 pi ps g all HGEN.out S6 ap6 ws6 sh6 x (N - 1 - q) wr HOF.out HXV.out HIS.out HXR.out (by omega) hxz (MidI.sh_le HGEN.out (offI_mid HOF.out).1)).mono ?_
              rintro e w9 ⟨rfl, S7, ap7, ws7, sh7, hof7, hp7, hpk7, hl7⟩
              have HOF7 := Lib.hid hof7
              have HPR7 := Lib.hid (show ∀ m, N - (q + 1) ≤ m → m < N → Pres all ap7 ws7 m from fun m h1 h2 => by
                by_cases hm : m = N - 1 - q
                · rw [hm]; exact hp7
                · exact hpk7 m (HPR.out m (by omega) h2))
              clear hof7 hp7 hpk7
              go_wp2_with fail
              go_roundw
              case rel => exact ⟨q + 1, S7, ap7, ws7, sh7, by omega, by go_num, HOF7.out, by omega, HPR7.out⟩
              case measure => (simp [intOf]; try omega)
            · obtain rfl : q = N := by omega
              have HP0 := Lib.hid (show ∀ m, m < q → Pres all ap6 ws6 m from fun m hm => HPR.out m (by omega) hm)
              clear HPR
              go_wp2_with fail
              go_loopw [20, 131] (fun _ i wr => ∃ t : Nat, ∃ S ap ws sh, t ≤ q ∧ i = .int .i64 t ∧ OffI W0 pi ps g all wr S ap ws sh ∧ ws.length ≤ 300 + t ∧ ∀ m, m < q → Pres all ap ws m) (fun _ i _ => q - (intOf i).toNat)
              case atStart => exact ⟨0, S6, ap6, ws6, sh6, by omega, rfl, HOF.out, by omega, HP0.out⟩
              case round =>
                clear HOF HP0
                obtain ⟨t, S8, ap8, ws8, sh8, htN, rfl, hof, hwl8, hpr8⟩ := hrel
                have HOF := Lib.hid hof
                have HPR := Lib.hid hpr8
                clear hof hpr8
                by_cases ht : t < q
                · obtain ⟨ba, oa, rfl, he⟩ := all_at (HRA.out.below HOF.out.2.2.1) HN.out ht
                  have HE := Lib.hid he
                  have hmm : t < all.length := by rw [HN.out]; exact ht
                  have hxv := (HVA.out _ (getD_mem hmm)).below HOF.out.2.2.1
                  have hone : (all.getD t wrZ).d.oneCell' = true := hxv.one
                  have HXV := Lib.hid hxv
                  have HXR := Lib.hid (HGEN.out.right _ hmm)
                  have hxz := GenI.z_le HGEN.out hmm
                  have HIS := Lib.hid (show Is all (all.getD t wrZ) t from ⟨hmm, rfl, rfl, rfl⟩)
                  generalize all.getD t wrZ = x at *
                  clear he hmm hxv
                  have HQ : Hid (∀ w9 : World, Blk w9 wr.heap.size 35 x.cells.toArray → ∀ q v, x.cells[q]? = some v → w9.cell? ⟨wr.heap.size, 0 + q, none⟩ = some v) := Lib.hid (fun w9 h q v hq => by rw [Nat.zero_add, h.cell q]; simpa using hq)
                  go_wp2_with (first | ((with_reducible refine wpList_load_at ?_ 35 (.tmp 133) ?_ ba (oa + t * 10) x.cells ?_ Try.underlying35 ?_ ?_ HE.out ?_); rfl; rfl; rfl; rfl; (rw [Wr.len]; kernel_rfl)) | ((with_reducible refine wpList_load_at ?_ 35 (.tmp 20) ?_ wr.heap.size 0 x.cells ?_ Try.underlying35 ?_ ?_ HE9.out ?_); rfl; rfl; rfl; rfl; (rw [Wr.len]; kernel_rfl)) | (refine wpList_store_blk rfl 35 (.tmp 20) (.tmp 134) rfl wr.heap.size x.cells rfl rfl (Blk.new wr 35 #[.int .i64 0, .int .i64 0, .int .i64 0, .int .i64 0, .slice none 0 0, .string ⟨#[]⟩, .string ⟨#[]⟩, .string ⟨#[]⟩, .bool false, .int .i64 0]) (by rw [Wr.len]; kernel_rfl) rfl (oneAll x hone) ?_; intro w9 ho9 hk9 hs9; clear hs9; have HB9 := Lib.hid ((below_new wr _).trans (hk9.below (B := wr.heap.size) (fun i hi e => by omega) (by simp))); have HE9 := Lib.hid (HQ.out w9 ho9); clear hk9 ho9))
                  refine (clos_any W0 pi ps g all HGEN.out S8 ap8 ws8 sh8 x t w9 (HOF.out.below HB9.out) (HXV.out.below HB9.out) HIS.out HXR.out (by omega) hxz (MidI.sh_le HGEN.out (offI_mid HOF.out).1)).mono ?_
                  rintro e w10 ⟨rfl, S7, ap7, ws7, sh7, hof7, _, hpk7, hl7⟩
                  have HOF7 := Lib.hid hof7
                  have HPR7 := Lib.hid (show ∀ m, m < q → Pres all ap7 ws7 m from fun m hm => hpk7 m (HPR.out m hm))
                  clear hof7 hpk7
                  go_wp2_with fail
                  go_roundw
                  case rel => exact ⟨t + 1, S7, ap7, ws7, sh7, by omega, by go_num, HOF7.out, by omega, HPR7.out⟩
                  case measure => (simp [intOf]; try omega)
                · obtain ⟨hsh, hws⟩ := (offI_mid HOF.out).1.all_shown HGEN.out (offI_mid HOF.out).2 (fun m hm => HPR.out m (by rw [← HN.out]; exact hm))
                  rw [HN.out] at hsh
                  subst hsh hws
                  have hof := HOF.out
                  obtain ⟨⟨va9, vw9, hf9⟩, _, hb9, hpi9, hps9, _⟩ := hof
                  have HF9 := Lib.hid hf9
                  have HB9 := Lib.hid (HBr.out.trans (hb9.mono HBr.out.size))
                  have p0 : wr.cell? ⟨pi, 0, none⟩ = some (.pointer (some ⟨g, 0, none⟩)) := hpi9.cell 0
                  have s0 : wr.cell? ⟨ps, 0, none⟩ = some (.int .i64 (q : Int)) := hps9.cell 0
                  have pl := hpi9.lt
                  have sl := hps9.lt
                  clear hf9 hb9 hpi9 hps9 HOF
                  go_wp2_with fail
                  refine (waits_empty g 1 S8 ap8 va9 vw9 wr HF9.out).mono ?_
                  rintro e w11 ⟨rfl, hb11⟩
                  have HB11 := Lib.hid (below_step HB9.out hb11)
                  clear hb11
                  go_wp2_with fail
                  go_ret
                  exact ⟨rfl, HB11.out⟩
end Go.Proofs.Ytedkcpncomgboaa.wDepAll
