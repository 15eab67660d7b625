/- The document's Apply. -/
import Derived.Test.YtgfamdakjcjdkaaDoorRefKS
import Derived.Deep.Cut
import Derived.Deep.DeepCutAuto
import Derived.Deep.CutBlock
namespace Go.Proofs.YtgfamdakjcjdkaaDoor.store
open Go Go.RowKit Go.Proofs.YtgfamdakjcjdkaaDoor.base Go.Proofs.YtgfamdakjcjdkaaDoor.err Go.Proofs.YtgfamdakjcjdkaaDoor.cmp Go.Proofs.YtgfamdakjcjdkaaDoor.above Go.Proofs.YtgfamdakjcjdkaaDoor.law Go.Proofs.YtgfamdakjcjdkaaDoor.merge Go.Proofs.YtgfamdakjcjdkaaDoor.refmerge Go.Proofs.YtgfamdakjcjdkaaDoor.rows Go.Proofs.YtgfamdakjcjdkaaDoor.rowe Go.Proofs.YtgfamdakjcjdkaaDoor.monoj

def doneB (T : List R) (x : Nm) : Bool := !(T.all fun p => ltN p.1 x)
def outL (T : List R) (x : Nm) (c : C) : List R := if doneB T x = true then putL T x c else T
theorem done_no {T : List R} {x : Nm} (h : doneB T x = false) : ∀ p ∈ T, ltN p.1 x = true := by
  unfold doneB at h
  simpa using h
theorem done_snoc (T : List R) (y : R) (x : Nm) : doneB (T ++ [y]) x = (doneB T x || !ltN y.1 x) := by
  unfold doneB
  rw [List.all_append]
  simp
theorem put_done {T : List R} {x : Nm} {c : C} (y : R) (h : doneB T x = true) : putL (T ++ [y]) x c = putL T x c ++ [y] := by
  induction T with
  | nil => simp [doneB] at h
  | cons p T ih =>
    show putL (p :: (T ++ [y])) x c = putL (p :: T) x c ++ [y]
    unfold putL
    by_cases h1 : p.1 = x
    · rw [if_pos h1, if_pos h1]; rfl
    · rw [if_neg h1, if_neg h1]
      by_cases h2 : ltN x p.1 = true
      · rw [if_pos h2, if_pos h2]; rfl
      · rw [if_neg h2, if_neg h2]
        have h3 : ltN p.1 x = true := by
          rcases ltN_tri p.1 x with e | e | e
          · exact absurd e h1
          · exact e
          · exact absurd e h2
        rw [ih (by unfold doneB at h ⊢; simpa [h3] using h)]
        rfl
theorem put_after {T : List R} {x : Nm} {c : C} (y : R) (h : ∀ p ∈ T, ltN p.1 x = true) : putL (T ++ [y]) x c = T ++ putL [y] x c := by
  induction T with
  | nil => rfl
  | cons p T ih =>
    have h1 := h p (by simp)
    show putL (p :: (T ++ [y])) x c = _
    unfold putL
    rw [if_neg (ltN_ne h1), if_neg (by rw [ltN_asymm h1]; decide), ih (fun q hq => h q (by simp [hq]))]
    rfl
theorem out_done {T : List R} {x : Nm} {c : C} (y : R) (h : doneB T x = true) : outL (T ++ [y]) x c = outL T x c ++ [y] ∧ doneB (T ++ [y]) x = true := by
  have h2 : doneB (T ++ [y]) x = true := by rw [done_snoc, h]; rfl
  unfold outL
  rw [if_pos h2, if_pos h, put_done y h]
  exact ⟨rfl, h2⟩
theorem out_eq {T : List R} {x : Nm} {c : C} (y : R) (h : doneB T x = false) (hy : y.1 = x) : outL (T ++ [y]) x c = outL T x c ++ [(x, c)] ∧ doneB (T ++ [y]) x = true := by
  have h2 : doneB (T ++ [y]) x = true := by rw [done_snoc, h, hy, ltN_irrefl]; rfl
  unfold outL
  rw [if_pos h2, if_neg (by rw [h]; decide), put_after y (done_no h)]
  unfold putL
  rw [if_pos hy]
  exact ⟨rfl, h2⟩
theorem out_gt {T : List R} {x : Nm} {c : C} (y : R) (h : doneB T x = false) (hy : ltN x y.1 = true) : outL (T ++ [y]) x c = outL T x c ++ [(x, c)] ++ [y] ∧ doneB (T ++ [y]) x = true := by
  have h2 : doneB (T ++ [y]) x = true := by rw [done_snoc, h, ltN_asymm hy]; rfl
  unfold outL
  rw [if_pos h2, if_neg (by rw [h]; decide), put_after y (done_no h)]
  unfold putL
  rw [if_neg (fun e => ltN_ne hy e.symm), if_pos hy]
  exact ⟨by simp, h2⟩
theorem out_lt {T : List R} {x : Nm} {c : C} (y : R) (h : doneB T x = false) (hy : ltN y.1 x = true) : outL (T ++ [y]) x c = outL T x c ++ [y] ∧ doneB (T ++ [y]) x = false := by
  have h2 : doneB (T ++ [y]) x = false := by rw [done_snoc, h, hy]; rfl
  unfold outL
  rw [if_neg (by rw [h2]; decide), if_neg (by rw [h]; decide)]
  exact ⟨rfl, h2⟩
theorem out_end {L : List R} {x : Nm} {c : C} : (doneB L x = true → outL L x c = putL L x c) ∧ (doneB L x = false → outL L x c ++ [(x, c)] = putL L x c) := by
  unfold outL
  refine ⟨fun h => by rw [if_pos h], fun h => ?_⟩
  rw [if_neg (by rw [h]; decide), put_end (done_no h)]
theorem out_len (T : List R) (x : Nm) (c : C) : (outL T x c).length ≤ T.length + 1 := by
  unfold outL
  split
  · exact length_put _ _ _
  · omega
/-- at is x's number in L, or -1 -/
def AtOk (L : List R) (x : Nm) (at_ : Int) : Prop := (∃ k : Nat, k < L.length ∧ (L.getD k rZ).1 = x ∧ at_ = k) ∨ ((∀ p ∈ L, p.1 ≠ x) ∧ at_ = -1)
theorem AtOk.yes {L : List R} {x : Nm} {at_ : Int} (h : AtOk L x at_) (hr : Rising L) {k : Nat} (hk : k < L.length) (he : (k : Int) = at_) : (L.getD k rZ).1 = x ∧ doneB (L.take k) x = false := by
  rcases h with ⟨j, hj, hx, e⟩ | ⟨_, e⟩
  · obtain rfl : k = j := by omega
    refine ⟨hx, ?_⟩
    unfold doneB
    rw [Bool.not_eq_false', List.all_eq_true]
    intro p hp
    obtain ⟨i, hi, rfl⟩ := List.getElem_of_mem hp
    rw [List.length_take] at hi
    have := List.pairwise_iff_getElem.1 hr i k (by omega) hk (by omega)
    rw [List.getElem_take, ← hx, List.getD_eq_getElem?_getD, List.getElem?_eq_getElem hk]
    exact this
  · omega
theorem AtOk.no {L : List R} {x : Nm} {at_ : Int} (h : AtOk L x at_) (hr : Rising L) {k : Nat} (hk : k < L.length) (he : (k : Int) ≠ at_) : (L.getD k rZ).1 ≠ x := by
  rcases h with ⟨j, hj, hx, e⟩ | ⟨hn, _⟩
  · intro hy
    have h1 := at_getD hr hk hy
    have hjk : j ≠ k := by omega
    rw [← hy] at hx
    rw [List.getD_eq_getElem?_getD, List.getD_eq_getElem?_getD, List.getElem?_eq_getElem hj, List.getElem?_eq_getElem hk] at hx
    simp only [Option.getD_some] at hx
    rcases (by omega : j < k ∨ k < j) with hl | hl
    · exact ltN_ne (List.pairwise_iff_getElem.1 hr j k hj hk hl) hx
    · exact ltN_ne (List.pairwise_iff_getElem.1 hr k j hk hj hl) hx.symm
  · exact hn _ (getD_mem hk)
theorem rm_two (d c : C) : rmFrom [d, c] [d, c] = if above c d = true then c else d := by
  rw [ref_eq]; exact mg_two d c
def cell74 (c : C) : Value := .agg #[.int .i64 c.t, .int .i64 c.r, .string c.v, .bool c.g, .int .i64 c.l]
set_option maxHeartbeats 1000000 in
theorem eql_rcell (a b : C) (w : World) : (binOp .eql 33 (cval a) (cval b)).run Tryd.prog w = .ok (.bool (cellEq a b)) w := by
  have u1 := Tryd.underlying33
  have u2 := Tryd.underlying24
  obtain ⟨t, r, v, g, l⟩ := a
  obtain ⟨t', r', v', g', l'⟩ := b
  unfold cval cellEq
  dsimp only
  cases h3 : (t == t')
  · go_simp
  cases h4 : (r == r')
  · go_simp
  cases h5 : (v.toList == v'.toList)
  · go_simp
  cases h6 : (g == g')
  · go_simp
  cases h7 : (l == l') <;> go_simp
def ApplyF (g : Nat) (L : List R) (x : Nm) (c : C) (w : World) (e : Ending) (w' : World) : Prop :=
  e = .returned (.bool (newC (getL L x) c)) ∧ Ref w' g (takeL L x c) ∧ Keeps (· = g) w w'
theorem RefI.keepsX {X : Nat → Prop} {w w' : World} {g b off c : Nat} {L : List R} (h : RefI w g (some ⟨b, off, none⟩) c L) (hk : Keeps X w w') (hg : ¬ X g) (hb : ¬ X b) : RefI w' g (some ⟨b, off, none⟩) c L := by
  refine ⟨h.blk.keeps hk hg, h.rd.1, fun hn => ?_⟩
  obtain ⟨b', off', e, hlt, hc⟩ := h.rd.2 hn
  injection e with e; injection e with e1 e2 _
  subst e1 e2
  exact ⟨b, off, rfl, Nat.lt_of_lt_of_le hlt hk.size, fun j hj => (hk.cell _ hlt hb).trans (hc j hj)⟩
theorem apply_end {w V0 w6 : World} {g c6 : Nat} {A0 A6 : Option Addr} {c0 : Nat} {L : List R} {x : Nm} {c : C} (hF : RefI w6 g A0 c0 L) (hg : g < V0.heap.size) (ho : w6.ownsRow V0.heap.size refT 7 (.slice A6 ((outL L x c).length + 1) c6) ((outL L x c).length + 1) ((outL L x c).flatMap rcells ++ rcells (x, c)))
    (hd : doneB L x = false) (hn : newC (getL L x) c = true) (ht : takeC (getL L x) c = c) (hb : Below w.heap.size w V0) (hb6 : Below V0.heap.size V0 w6) :
    ApplyF g L x c w (.returned (.bool true)) (w6.setCell ⟨g, 0, none⟩ (.slice A6 ((outL L x c).length + 1) c6)) := by
  have ho2 : w6.ownsRow V0.heap.size refT 7 (.slice A6 ((outL L x c).length + 1) c6) ((outL L x c).length + 1) ((outL L x c ++ [(x, c)]).flatMap rcells) := by
    simpa [List.flatMap_append] using ho
  have hre := hF.renew hg ho2 (by simp)
  rw [out_end.2 hd] at hre
  refine ⟨by rw [hn], ⟨A6, c6, ?_⟩, ((Keeps.of_below hb).trans ((Keeps.of_below hb6).more fun i _ h => absurd h (fun h => h))).trans (set_at_ _ _ _ _)⟩
  unfold takeL
  rw [ht]
  exact hre
set_option maxRecDepth 100000 in
set_option maxHeartbeats 8000000 in
theorem apply_ref (g : Nat) (A0 : Option Addr) (c0 : Nat) (L : List R) (rg nm t r : Int) (A : Option Addr) (n c : Nat) (ss ky v : ByteArray) (gn : Bool) (l : Int) (w : World) (h : RefI w g A0 c0 L) (hr : Rising L) (hl : L.length ≤ 100000) :
    Calls Tryd.prog 13 #[.pointer (some ⟨g, 0, none⟩), .agg (wcells rg nm t r A n c ss ky v gn l)] w (ApplyF g L (ss, ky) ⟨t, r, v, gn, l⟩ w) := by
  have hbx := below_alloc (below_new w (.cells (wcells rg nm t r A n c ss ky v gn l) 28)) (.cells #[.int .i64 t, .int .i64 r, .string v, .bool gn, .int .i64 l] 33)
  have HF := Lib.hid (h.below hbx)
  have HWB := Lib.hid ((Blk.new w 28 (wcells rg nm t r A n c ss ky v gn l)).alloc (.cells #[.int .i64 t, .int .i64 r, .string v, .bool gn, .int .i64 l] 33))
  have HCB := Lib.hid (Blk.newAt (w.alloc (.cells (wcells rg nm t r A n c ss ky v gn l) 28)) 33 #[.int .i64 t, .int .i64 r, .string v, .bool gn, .int .i64 l] (g := w.heap.size + 1) (by simp))
  have HBX := Lib.hid hbx
  have HRI := Lib.hid hr
  have hgl := h.blk.lt
  have HR0 := Lib.hid h.rd
  clear h hbx hr
  go_enter Tryd.func13, Tryd.ntmps13
  go_wp2_with fail
  refine (cell_ref g A0 c0 L ss ky _ HF.out (by omega)).mono ?_
  rintro e w1 ⟨hcr, rfl⟩
  rcases hcr with ⟨k9, hk, hkx, rfl⟩ | ⟨hno, rfl⟩
  · have hgo := at_getD HRI.out hk hkx
    have HAT := Lib.hid (show AtOk L (ss, ky) k9 from .inl ⟨k9, hk, hkx, rfl⟩)
    obtain ⟨b, off, hAA, hb0⟩ := HR0.out.at_some (by omega)
    subst hAA
    clear HR0
    have hcy := row_at' HF.out.rd rfl hk
    generalize L.getD k9 rZ = y at hcy hgo
    obtain ⟨e0, e1, e2, e3, e4, e5, e6⟩ := seven_of hcy
    obtain ⟨⟨y1, y2⟩, ⟨t2, r2, v2, gn2, l2⟩⟩ := y
    dsimp only at e0 e1 e2 e3 e4 e5 e6 hgo
    have hkn : decide ((0 : Int) ≤ (k9 : Int)) = true := by simp
    have q0 := HF.out.blk.cell 0
    have ql := HF.out.blk.lt
    simp at q0
    obtain ⟨n0, n1, n2, n3, n4⟩ := Blk.cells5 HCB.out
    have nl := HCB.out.lt
    have hwl := HWB.out.lt
    have HGO := Lib.hid hgo
    clear hcy e0 e1 hkx hgo
    generalize (w.alloc (.cells (wcells rg nm t r A n c ss ky v gn l) 28)).alloc (.cells #[.int .i64 t, .int .i64 r, .string v, .bool gn, .int .i64 l] 33) = U at *
    have hgx : ¬ g = w.heap.size + 1 := by omega
    have hbx : ¬ b = w.heap.size + 1 := by omega
    have hbb : b < U.heap.size := by omega
    cases hab : above ⟨t, r, v, gn, l⟩ ⟨t2, r2, v2, gn2, l2⟩ with
    | true =>
      have HRM := Lib.hid (show rmFrom [(⟨t2, r2, v2, gn2, l2⟩ : C), ⟨t, r, v, gn, l⟩] [⟨t2, r2, v2, gn2, l2⟩, ⟨t, r, v, gn, l⟩] = ⟨t, r, v, gn, l⟩ by rw [rm_two, if_pos hab])
      have HNEW := Lib.hid (show newC (getL L (ss, ky)) ⟨t, r, v, gn, l⟩ = true by rw [HGO.out]; exact hab)
      have HTAK := Lib.hid (show takeC (getL L (ss, ky)) ⟨t, r, v, gn, l⟩ = ⟨t, r, v, gn, l⟩ by rw [HGO.out]; exact if_pos hab)
      have HCE := Lib.hid (cellEq_above hab)
      clear hab
      go_wp2_with fail
      refine wp_region_monoJ (fun i => i = w.heap.size + 1) [11] (by kernel_rfl) ?_
      -- 0 Op.move (Operand.tmp 0)
      refine wpMonoJ_take' 0 (v := ?_) rfl (by kernel_rfl) (by kernel_rfl) (by kernel_rfl) (by rfl) (fun _ _ _ h => h) (by rfl) ?_ ?_
      rotate_left
      · (intro W hSw; (try have r0 := (hSw.cell 0 ql hgx).trans q0); (try have r2' := (hSw.cell _ hbb hbx).trans e2); (try have r3 := (hSw.cell _ hbb hbx).trans e3); (try have r4 := (hSw.cell _ hbb hbx).trans e4); (try have r5 := (hSw.cell _ hbb hbx).trans e5); (try have r6 := (hSw.cell _ hbb hbx).trans e6); (try have s0 := (hSw.cell 0 nl (fun h => h)).trans n0); (try have s1 := (hSw.cell 1 nl (fun h => h)).trans n1); (try have s2 := (hSw.cell 2 nl (fun h => h)).trans n2); (try have s3 := (hSw.cell 3 nl (fun h => h)).trans n3); (try have s4 := (hSw.cell 4 nl (fun h => h)).trans n4)
         go_simp; first | done | rfl)
      try simp only [Act.put, List.setIfInBounds_toArray, List.set_cons_zero, List.set_cons_succ]
      -- 1 Op.nilCheck (Operand.tmp 28)
      refine wpMonoJ_take' 1 (v := ?_) rfl (by kernel_rfl) (by kernel_rfl) (by kernel_rfl) (by rfl) (fun _ _ _ h => h) (by rfl) ?_ ?_
      rotate_left
      · (intro W hSw; (try have r0 := (hSw.cell 0 ql hgx).trans q0); (try have r2' := (hSw.cell _ hbb hbx).trans e2); (try have r3 := (hSw.cell _ hbb hbx).trans e3); (try have r4 := (hSw.cell _ hbb hbx).trans e4); (try have r5 := (hSw.cell _ hbb hbx).trans e5); (try have r6 := (hSw.cell _ hbb hbx).trans e6); (try have s0 := (hSw.cell 0 nl (fun h => h)).trans n0); (try have s1 := (hSw.cell 1 nl (fun h => h)).trans n1); (try have s2 := (hSw.cell 2 nl (fun h => h)).trans n2); (try have s3 := (hSw.cell 3 nl (fun h => h)).trans n3); (try have s4 := (hSw.cell 4 nl (fun h => h)).trans n4)
         go_simp; first | done | rfl)
      try simp only [Act.put, List.setIfInBounds_toArray, List.set_cons_zero, List.set_cons_succ]
      -- 2 Op.fieldAddr 50 (Operand.tmp 29) 0
      refine wpMonoJ_take' 2 (v := ?_) rfl (by kernel_rfl) (by kernel_rfl) (by kernel_rfl) (by rfl) (fun _ _ _ h => h) (by rfl) ?_ ?_
      rotate_left
      · (intro W hSw; (try have r0 := (hSw.cell 0 ql hgx).trans q0); (try have r2' := (hSw.cell _ hbb hbx).trans e2); (try have r3 := (hSw.cell _ hbb hbx).trans e3); (try have r4 := (hSw.cell _ hbb hbx).trans e4); (try have r5 := (hSw.cell _ hbb hbx).trans e5); (try have r6 := (hSw.cell _ hbb hbx).trans e6); (try have s0 := (hSw.cell 0 nl (fun h => h)).trans n0); (try have s1 := (hSw.cell 1 nl (fun h => h)).trans n1); (try have s2 := (hSw.cell 2 nl (fun h => h)).trans n2); (try have s3 := (hSw.cell 3 nl (fun h => h)).trans n3); (try have s4 := (hSw.cell 4 nl (fun h => h)).trans n4)
         go_simp; first | done | rfl)
      try simp only [Act.put, List.setIfInBounds_toArray, List.set_cons_zero, List.set_cons_succ]
      -- 3 Op.load 22 (Operand.tmp 30)
      refine wpMonoJ_take' 3 (v := ?_) rfl (by kernel_rfl) (by kernel_rfl) (by kernel_rfl) (by rfl) (fun _ _ _ h => h) (by rfl) ?_ ?_
      rotate_left
      · (intro W hSw; (try have r0 := (hSw.cell 0 ql hgx).trans q0); (try have r2' := (hSw.cell _ hbb hbx).trans e2); (try have r3 := (hSw.cell _ hbb hbx).trans e3); (try have r4 := (hSw.cell _ hbb hbx).trans e4); (try have r5 := (hSw.cell _ hbb hbx).trans e5); (try have r6 := (hSw.cell _ hbb hbx).trans e6); (try have s0 := (hSw.cell 0 nl (fun h => h)).trans n0); (try have s1 := (hSw.cell 1 nl (fun h => h)).trans n1); (try have s2 := (hSw.cell 2 nl (fun h => h)).trans n2); (try have s3 := (hSw.cell 3 nl (fun h => h)).trans n3); (try have s4 := (hSw.cell 4 nl (fun h => h)).trans n4)
         go_simp; first | done | rfl)
      try simp only [Act.put, List.setIfInBounds_toArray, List.set_cons_zero, List.set_cons_succ]
      -- 4 Op.move (Operand.tmp 6)
      refine wpMonoJ_take' 4 (v := ?_) rfl (by kernel_rfl) (by kernel_rfl) (by kernel_rfl) (by rfl) (fun _ _ _ h => h) (by rfl) ?_ ?_
      rotate_left
      · (intro W hSw; (try have r0 := (hSw.cell 0 ql hgx).trans q0); (try have r2' := (hSw.cell _ hbb hbx).trans e2); (try have r3 := (hSw.cell _ hbb hbx).trans e3); (try have r4 := (hSw.cell _ hbb hbx).trans e4); (try have r5 := (hSw.cell _ hbb hbx).trans e5); (try have r6 := (hSw.cell _ hbb hbx).trans e6); (try have s0 := (hSw.cell 0 nl (fun h => h)).trans n0); (try have s1 := (hSw.cell 1 nl (fun h => h)).trans n1); (try have s2 := (hSw.cell 2 nl (fun h => h)).trans n2); (try have s3 := (hSw.cell 3 nl (fun h => h)).trans n3); (try have s4 := (hSw.cell 4 nl (fun h => h)).trans n4)
         go_simp; first | done | rfl)
      try simp only [Act.put, List.setIfInBounds_toArray, List.set_cons_zero, List.set_cons_succ]
      -- 5 Op.indexAddr 22 (Operand.tmp 31) (Operand.tmp 32)
      refine wpMonoJ_take' 5 (v := ?_) rfl (by kernel_rfl) (by kernel_rfl) (by kernel_rfl) (by rfl) (fun _ _ _ h => h) (by rfl) ?_ ?_
      rotate_left
      · (intro W hSw; (try have r0 := (hSw.cell 0 ql hgx).trans q0); (try have r2' := (hSw.cell _ hbb hbx).trans e2); (try have r3 := (hSw.cell _ hbb hbx).trans e3); (try have r4 := (hSw.cell _ hbb hbx).trans e4); (try have r5 := (hSw.cell _ hbb hbx).trans e5); (try have r6 := (hSw.cell _ hbb hbx).trans e6); (try have s0 := (hSw.cell 0 nl (fun h => h)).trans n0); (try have s1 := (hSw.cell 1 nl (fun h => h)).trans n1); (try have s2 := (hSw.cell 2 nl (fun h => h)).trans n2); (try have s3 := (hSw.cell 3 nl (fun h => h)).trans n3); (try have s4 := (hSw.cell 4 nl (fun h => h)).trans n4)
         go_simp; first | done | rfl)
      try simp only [Act.put, List.setIfInBounds_toArray, List.set_cons_zero, List.set_cons_succ]
      -- 6 Op.fieldAddr 35 (Operand.tmp 33) 2
      refine wpMonoJ_take' 6 (v := ?_) rfl (by kernel_rfl) (by kernel_rfl) (by kernel_rfl) (by rfl) (fun _ _ _ h => h) (by rfl) ?_ ?_
      rotate_left
      · (intro W hSw; (try have r0 := (hSw.cell 0 ql hgx).trans q0); (try have r2' := (hSw.cell _ hbb hbx).trans e2); (try have r3 := (hSw.cell _ hbb hbx).trans e3); (try have r4 := (hSw.cell _ hbb hbx).trans e4); (try have r5 := (hSw.cell _ hbb hbx).trans e5); (try have r6 := (hSw.cell _ hbb hbx).trans e6); (try have s0 := (hSw.cell 0 nl (fun h => h)).trans n0); (try have s1 := (hSw.cell 1 nl (fun h => h)).trans n1); (try have s2 := (hSw.cell 2 nl (fun h => h)).trans n2); (try have s3 := (hSw.cell 3 nl (fun h => h)).trans n3); (try have s4 := (hSw.cell 4 nl (fun h => h)).trans n4)
         go_simp; first | done | rfl)
      try simp only [Act.put, List.setIfInBounds_toArray, List.set_cons_zero, List.set_cons_succ]
      -- 7 Op.load 33 (Operand.tmp 34)
      refine wpMonoJ_take' 7 (v := ?_) rfl (by kernel_rfl) (by kernel_rfl) (by kernel_rfl) (by rfl) (fun _ _ _ h => h) (by rfl) ?_ ?_
      rotate_left
      · (intro W hSw; (try have r0 := (hSw.cell 0 ql hgx).trans q0); (try have r2' := (hSw.cell _ hbb hbx).trans e2); (try have r3 := (hSw.cell _ hbb hbx).trans e3); (try have r4 := (hSw.cell _ hbb hbx).trans e4); (try have r5 := (hSw.cell _ hbb hbx).trans e5); (try have r6 := (hSw.cell _ hbb hbx).trans e6); (try have s0 := (hSw.cell 0 nl (fun h => h)).trans n0); (try have s1 := (hSw.cell 1 nl (fun h => h)).trans n1); (try have s2 := (hSw.cell 2 nl (fun h => h)).trans n2); (try have s3 := (hSw.cell 3 nl (fun h => h)).trans n3); (try have s4 := (hSw.cell 4 nl (fun h => h)).trans n4)
         go_simp; first | done | rfl)
      try simp only [Act.put, List.setIfInBounds_toArray, List.set_cons_zero, List.set_cons_succ]
      -- 8 Op.load 33 (Operand.tmp 5)
      refine wpMonoJ_read' 8 [9, 10, 11] (v := ?_) rfl (by kernel_rfl) (by kernel_rfl) (by kernel_rfl) (by rfl) (by kernel_rfl) (by rfl) (fun _ _ _ h => h) (by rfl) ?_ ?_
      rotate_left
      · (intro W hSw; (try have r0 := (hSw.cell 0 ql hgx).trans q0); (try have r2' := (hSw.cell _ hbb hbx).trans e2); (try have r3 := (hSw.cell _ hbb hbx).trans e3); (try have r4 := (hSw.cell _ hbb hbx).trans e4); (try have r5 := (hSw.cell _ hbb hbx).trans e5); (try have r6 := (hSw.cell _ hbb hbx).trans e6); (try have s0 := (hSw.cell 0 nl (fun h => h)).trans n0); (try have s1 := (hSw.cell 1 nl (fun h => h)).trans n1); (try have s2 := (hSw.cell 2 nl (fun h => h)).trans n2); (try have s3 := (hSw.cell 3 nl (fun h => h)).trans n3); (try have s4 := (hSw.cell 4 nl (fun h => h)).trans n4)
         go_simp; first | done | rfl)
      try simp only [Act.put, List.setIfInBounds_toArray, List.set_cons_zero, List.set_cons_succ]
      -- EFFECT 9 Op.buildSlice 95 2 #[(0, Operand.tmp 35), (1, Operand.tmp 36)]
      refine wpMonoJ_one' 9 (by kernel_rfl) rfl (by rfl) (fun K hK => ?_)
      go_simp
      refine hK.out _ _ ?_ ?_
      · exact .alloc _
      clear hK K
      try simp only [Act.put, List.setIfInBounds_toArray, List.set_cons_zero, List.set_cons_succ]
      -- EFFECT 10 Op.call { callee := Callee.value (Operand.func 39), args := #[Operand.tmp 37], argTypes := #[95] }
      refine wpMonoJ_one' 10 (by kernel_rfl) rfl (by rfl) (fun K hK => ?_)
      go_simp
      refine (merge_ref _ 2 2 [⟨t2, r2, v2, gn2, l2⟩, ⟨t, r, v, gn, l⟩] _ rfl (by decide) (by exact Reads.newAtD _ _ _ _ (by simp) rfl)).mono ?_
      rintro e w6 ⟨rfl, hb6⟩
      rw [HRM.out]
      have hb06 : Below U.heap.size U w6 := below_step (below_new U (.cells #[.int .i64 t2, .int .i64 r2, .string v2, .bool gn2, .int .i64 l2, .int .i64 t, .int .i64 r, .string v, .bool gn, .int .i64 l] 33)).drew hb6
      have HB06 := Lib.hid hb06
      have HCB6 := Lib.hid (HCB.out.below hb06 nl)
      have HB6 := Lib.hid hb6
      clear hb6 hb06
      refine hK.out _ _ ?_ ?_
      · exact .of_below HB6.out
      clear hK K
      try simp only [Act.put, List.setIfInBounds_toArray, List.set_cons_zero, List.set_cons_succ]
      -- EFFECT 11 Op.store 33 (Operand.tmp 5) (Operand.tmp 38)
      refine wpMonoJ_one' 11 (by kernel_rfl) rfl (by rfl) (fun K hK => ?_)
      refine wp_store_at 33 (.tmp 5) (.tmp 38) rfl (w.heap.size + 1) 0 [.int .i64 t, .int .i64 r, .string v, .bool gn, .int .i64 l] rfl rfl HCB6.out rfl (by simp) rfl (fun w7 hq1 hq2 hq3 => ?_)
      refine hK.out _ _ ?_ ?_
      · exact moved hq2 (by decide)
      clear hK K
      try simp only [Act.put]
      refine wpMonoJ_done (by kernel_rfl) ?_ _
      have HCB7 := Lib.hid (show Blk w7 (w.heap.size + 1) 33 #[.int .i64 t, .int .i64 r, .string v, .bool gn, .int .i64 l] from hq1)
      have HF7 := Lib.hid ((HF.out.below HB06.out).keepsX hq2 hgx hbx)
      have HWB7 := Lib.hid ((HWB.out.below HB06.out hwl).keeps hq2 (by omega))
      have HBX7 := Lib.hid (below_keeps (HBX.out.trans (HB06.out.mono (by omega))) (Nat.le_refl _) hq2 (fun i hi e => by omega))
      have f0 := HF7.out.blk.cell 0
      have fl := HF7.out.blk.lt
      simp at f0
      have hb7 : b < w7.heap.size := by have := HBX7.out.size; omega
      have g2 := (hq2.cell _ (Nat.lt_of_lt_of_le hbb HB06.out.size) hbx).trans ((HB06.out.cell (p := ⟨b, off + k9 * 7 + 2, none⟩) hbb).trans e2)
      have g3 := (hq2.cell _ (Nat.lt_of_lt_of_le hbb HB06.out.size) hbx).trans ((HB06.out.cell (p := ⟨b, off + k9 * 7 + 3, none⟩) hbb).trans e3)
      have g4 := (hq2.cell _ (Nat.lt_of_lt_of_le hbb HB06.out.size) hbx).trans ((HB06.out.cell (p := ⟨b, off + k9 * 7 + 4, none⟩) hbb).trans e4)
      have g5 := (hq2.cell _ (Nat.lt_of_lt_of_le hbb HB06.out.size) hbx).trans ((HB06.out.cell (p := ⟨b, off + k9 * 7 + 5, none⟩) hbb).trans e5)
      have g6 := (hq2.cell _ (Nat.lt_of_lt_of_le hbb HB06.out.size) hbx).trans ((HB06.out.cell (p := ⟨b, off + k9 * 7 + 6, none⟩) hbb).trans e6)
      obtain ⟨v0, v1, v2c, v3, v4⟩ := Blk.cells5 HCB7.out
      have ll := HCB7.out.lt
      clear hq1 hq2 hq3 HB06 HB6 HCB6 HF HWB HCB HBX q0 ql e2 e3 e4 e5 e6 n0 n1 n2 n3 n4 nl
      have heq : ∀ W : World, _ := fun W => eql_rcell ⟨t, r, v, gn, l⟩ ⟨t2, r2, v2, gn2, l2⟩ W
      rw [HCE.out] at heq
      have HEQ := Lib.hid heq
      clear heq
      go_wp2_with fail
      refine wp_region_mono nobody (by kernel_rfl) ?_
      -- 0 Op.load 33 (Operand.tmp 5)
      refine wpMono_take' 0 (v := ?_) rfl (by kernel_rfl) (by kernel_rfl) (by kernel_rfl) (fun _ _ _ h => h) (by rfl) ?_ ?_
      rotate_left
      · (intro W hSw; have hcW := hSw.cells; try simp only [World.size_drew, World.cell?_drew] at hcW
         go_simp; first | done | rfl)
      try simp only [Act.put, List.setIfInBounds_toArray, List.set_cons_zero, List.set_cons_succ]
      -- 1 Op.move (Operand.tmp 0)
      refine wpMono_take' 1 (v := ?_) rfl (by kernel_rfl) (by kernel_rfl) (by kernel_rfl) (fun _ _ _ h => h) (by rfl) ?_ ?_
      rotate_left
      · (intro W hSw; have hcW := hSw.cells; try simp only [World.size_drew, World.cell?_drew] at hcW
         go_simp; first | done | rfl)
      try simp only [Act.put, List.setIfInBounds_toArray, List.set_cons_zero, List.set_cons_succ]
      -- 2 Op.nilCheck (Operand.tmp 40)
      refine wpMono_take' 2 (v := ?_) rfl (by kernel_rfl) (by kernel_rfl) (by kernel_rfl) (fun _ _ _ h => h) (by rfl) ?_ ?_
      rotate_left
      · (intro W hSw; have hcW := hSw.cells; try simp only [World.size_drew, World.cell?_drew] at hcW
         go_simp; first | done | rfl)
      try simp only [Act.put, List.setIfInBounds_toArray, List.set_cons_zero, List.set_cons_succ]
      -- 3 Op.fieldAddr 50 (Operand.tmp 41) 0
      refine wpMono_take' 3 (v := ?_) rfl (by kernel_rfl) (by kernel_rfl) (by kernel_rfl) (fun _ _ _ h => h) (by rfl) ?_ ?_
      rotate_left
      · (intro W hSw; have hcW := hSw.cells; try simp only [World.size_drew, World.cell?_drew] at hcW
         go_simp; first | done | rfl)
      try simp only [Act.put, List.setIfInBounds_toArray, List.set_cons_zero, List.set_cons_succ]
      -- 4 Op.load 22 (Operand.tmp 42)
      refine wpMono_take' 4 (v := ?_) rfl (by kernel_rfl) (by kernel_rfl) (by kernel_rfl) (fun _ _ _ h => h) (by rfl) ?_ ?_
      rotate_left
      · (intro W hSw; have hcW := hSw.cells; try simp only [World.size_drew, World.cell?_drew] at hcW
         go_simp; first | done | rfl)
      try simp only [Act.put, List.setIfInBounds_toArray, List.set_cons_zero, List.set_cons_succ]
      -- 5 Op.move (Operand.tmp 6)
      refine wpMono_take' 5 (v := ?_) rfl (by kernel_rfl) (by kernel_rfl) (by kernel_rfl) (fun _ _ _ h => h) (by rfl) ?_ ?_
      rotate_left
      · (intro W hSw; have hcW := hSw.cells; try simp only [World.size_drew, World.cell?_drew] at hcW
         go_simp; first | done | rfl)
      try simp only [Act.put, List.setIfInBounds_toArray, List.set_cons_zero, List.set_cons_succ]
      -- 6 Op.indexAddr 22 (Operand.tmp 43) (Operand.tmp 44)
      refine wpMono_take' 6 (v := ?_) rfl (by kernel_rfl) (by kernel_rfl) (by kernel_rfl) (fun _ _ _ h => h) (by rfl) ?_ ?_
      rotate_left
      · (intro W hSw; have hcW := hSw.cells; try simp only [World.size_drew, World.cell?_drew] at hcW
         go_simp; first | done | rfl)
      try simp only [Act.put, List.setIfInBounds_toArray, List.set_cons_zero, List.set_cons_succ]
      -- 7 Op.fieldAddr 35 (Operand.tmp 45) 2
      refine wpMono_take' 7 (v := ?_) rfl (by kernel_rfl) (by kernel_rfl) (by kernel_rfl) (fun _ _ _ h => h) (by rfl) ?_ ?_
      rotate_left
      · (intro W hSw; have hcW := hSw.cells; try simp only [World.size_drew, World.cell?_drew] at hcW
         go_simp; first | done | rfl)
      try simp only [Act.put, List.setIfInBounds_toArray, List.set_cons_zero, List.set_cons_succ]
      -- 8 Op.load 33 (Operand.tmp 46)
      refine wpMono_take' 8 (v := ?_) rfl (by kernel_rfl) (by kernel_rfl) (by kernel_rfl) (fun _ _ _ h => h) (by rfl) ?_ ?_
      rotate_left
      · (intro W hSw; have hcW := hSw.cells; try simp only [World.size_drew, World.cell?_drew] at hcW
         go_simp; first | done | rfl)
      try simp only [Act.put, List.setIfInBounds_toArray, List.set_cons_zero, List.set_cons_succ]
      -- 9 Op.binOp BinOp.eql 33 (Operand.tmp 39) (Operand.tmp 47) 33
      refine wpMono_take' 9 (v := ?_) rfl (by kernel_rfl) (by kernel_rfl) (by kernel_rfl) (fun _ _ _ h => h) (by rfl) ?_ ?_
      rotate_left
      · (intro W hSw; first | ((refine exec_eql 33 33 (.tmp 39) (.tmp 47) ?_ _ _ ?_ ?_ ?_ _ (HEQ.out W); rfl; rfl; rfl; kernel_rfl)) | (have hcW := hSw.cells; try simp only [World.size_drew, World.cell?_drew] at hcW; go_simp; done) | (have hcW := hSw.cells; try simp only [World.size_drew, World.cell?_drew] at hcW; go_simp; rfl))
      try simp only [Act.put, List.setIfInBounds_toArray, List.set_cons_zero, List.set_cons_succ]
      refine wpMono_done (by kernel_rfl) ?_ _
      have hdr := (Below.refl w7.heap.size w7).drew
      have HF := Lib.hid (HF7.out.below hdr)
      have HWB := Lib.hid HWB7.out.drew
      have HCB := Lib.hid HCB7.out.drew
      have HBX := Lib.hid HBX7.out.drew
      clear hdr HF7 HWB7 HCB7 HBX7 HEQ HCE HGO HRM f0 fl g2 g3 g4 g5 g6 v0 v1 v2c v3 v4 ll
      generalize w7.drew = V0 at *
      -- what is known: V0, the write's block, the cell's block, g's rows
      obtain ⟨i0, hi0, hz0, hz1, hz2⟩ := info_parts ref_info
      have Hi0 := Lib.hid hi0
      have Hz0 := Lib.hid hz0
      have Hz1 := Lib.hid hz1
      have Hz2 := Lib.hid hz2
      have hwl1 := HWB.out.lt
      have hwl2 := HCB.out.lt
      have hgl2 := HF.out.blk.lt
      clear hi0 hz0 hz1 hz2
      have hO7 := ownsRow_new0 V0 refT 7 #[] (n := 0)
      have hb7 := below_new V0 (.cells #[] refT)
      have hxb := Blk.newAt (V0.alloc (.cells #[] refT)) refT #[.string ss, .string ky, .int .i64 t, .int .i64 r, .string v, .bool gn, .int .i64 l] (g := V0.heap.size + 1) (by simp)
      have hb9 := below_alloc hb7 (.cells #[.string ss, .string ky, .int .i64 t, .int .i64 r, .string v, .bool gn, .int .i64 l] refT)
      have hO9 := hO7.alloc (.cells #[.string ss, .string ky, .int .i64 t, .int .i64 r, .string v, .bool gn, .int .i64 l] refT)
      have k5 := (HWB.out.below hb7 hwl1).cell 5
      have k6 := (HWB.out.below hb7 hwl1).cell 6
      have kl := (HWB.out.below hb7 hwl1).lt
      obtain ⟨n0, n1, n2, n3, n4⟩ := Blk.cells5 (HCB.out.below hb7 hwl2)
      have nl := (HCB.out.below hb7 hwl2).lt
      simp at k5 k6
      have q0 := (HF.out.below hb7).blk.cell 0
      have ql := (HF.out.below hb7).blk.lt
      simp at q0
      have HO9 := Lib.hid hO9
      have HX9 := Lib.hid hxb
      have HB9 := Lib.hid hb9
      clear hO7 hb7 hxb hb9 hO9
      go_wp2
      clear q0 ql k5 k6 kl n0 n1 n2 n3 n4 nl
      go_loopw [7, 8, 10] (fun so sd si wr => ∃ k : Nat, k ≤ L.length ∧ si = .int .i64 k ∧ sd = .bool (doneB (L.take k) (ss, ky)) ∧ wr.ownsRow V0.heap.size refT 7 so (outL (L.take k) (ss, ky) ⟨t, r, v, gn, l⟩).length ((outL (L.take k) (ss, ky) ⟨t, r, v, gn, l⟩).flatMap rcells) ∧ so.ownBlock ≠ some (V0.heap.size + 1) ∧ Blk wr (V0.heap.size + 1) refT #[.string ss, .string ky, .int .i64 t, .int .i64 r, .string v, .bool gn, .int .i64 l] ∧ Below V0.heap.size V0 wr) (fun _ _ si _ => L.length - (intOf si).toNat)
      case atStart => exact ⟨0, by omega, rfl, rfl, by exact HO9.out, by simp [Value.ownBlock], HX9.out, HB9.out⟩
      case round =>
        clear HO9 HX9 HB9
        obtain ⟨k, hk, rfl, rfl, j1, j2, j3, j4⟩ := hrel
        have hol := out_len (L.take k) (ss, ky) ⟨t, r, v, gn, l⟩
        have htl := List.length_take_le k L
        obtain ⟨Ao, co, rfl⟩ := ownsRow_slice j1
        have J1 := Lib.hid j1
        have J2 := Lib.hid j2
        have J3 := Lib.hid j3
        have J4 := Lib.hid j4
        have hwb := j3.lt
        clear j1 j2 j3 j4
        by_cases hlt : k < L.length
        · obtain ⟨b, off, hAA, hbb⟩ := HF.out.rd.at_some (by omega)
          first | subst hAA | (injection hAA with hAA; injection hAA with hA1 hA2 hA3; subst hA1 hA2)
          have HTK := Lib.hid (take_snocR hlt)
          obtain ⟨y, hy⟩ : ∃ y, L.getD k rZ = y := ⟨_, rfl⟩
          have HY := Lib.hid hy
          obtain ⟨⟨y1, y2⟩, ⟨t2, r2, v2, gn2, l2⟩⟩ := y
          clear hy
          have hF := HF.out.below J4.out
          have q0 := hF.blk.cell 0
          have ql := hF.blk.lt
          simp at q0
          have hcy := row_at' hF.rd rfl hlt
          have hszb := Below.size J4.out
          have hbl : b < wr.heap.size := by omega
          rw [HY.out] at hcy
          obtain ⟨e0, e1, e2, e3, e4, e5, e6⟩ := seven_of hcy
          dsimp only at e0 e1 e2 e3 e4 e5 e6
          clear hcy hF hszb
          obtain ⟨d0, d1, d2, d3, d4, d5, d6⟩ := cells7 J3.out
          by_cases heq : (k : Int) = (k9 : Int)
          · obtain ⟨hyx, hnd⟩ := HAT.out.yes HRI.out hlt heq
            rw [hnd]
            have HE := Lib.hid (out_eq (T := L.take k) (c := ⟨t, r, v, gn, l⟩) (L.getD k rZ) hnd hyx)
            have hbe : ((k : Int) == (k9 : Int)) = true := by rw [beq_iff_eq]; exact heq
            clear heq hyx hnd e0 e1 e2 e3 e4 e5 e6
            go_wp2_with (at_builtin; refine wpList_append_new rfl (.tmp 68) (.tmp 70) _ rfl V0.heap.size refT i0 _ 7 80 Tryd.underlying22 Hi0.out Hz0.out Hz1.out Hz2.out rfl (by decide) _ _ _ rfl J1.out 1 1 [.string ss, .string ky, .int .i64 t, .int .i64 r, .string v, .bool gn, .int .i64 l] rfl rfl (by simp [Value.oneCell']) (by unfold maxLen; omega) (by omega) (by omega) ?_; intro v1 w5 hown1 hbw1 hgr1 hwh1; obtain ⟨A5, c5, rfl⟩ := ownsRow_slice hown1; have HA5 := Lib.hid hown1; have HG5 := Lib.hid hgr1; have HH5 := Lib.hid hwh1; have HW5 := Lib.hid hbw1; clear hown1 hbw1 hgr1 hwh1)
            have HNE5 := Lib.hid (show (Value.slice A5 _ c5).ownBlock ≠ some (V0.heap.size + 1) from by
              rcases HH5.out with e | ⟨gq, e, hq⟩
              · rw [e]; exact J2.out
              · rw [e]; intro e2; injection e2 with e2; omega)
            have HX5 := Lib.hid (J3.out.grown HG5.out (Ne.symm J2.out))
            have HB5 := Lib.hid (J4.out.trans HW5.out)
            have hz5 := HW5.out.size
            clear hbe
            go_roundw
            case rel => exact ⟨k + 1, by omega, by go_num, by rw [HTK.out, HE.out.2], by rw [HTK.out, HE.out.1]; simpa [rcells, List.flatMap_append] using HA5.out, HNE5.out, HX5.out, HB5.out⟩
            case measure => simp [intOf]; omega
          · have hyx := HAT.out.no HRI.out hlt heq
            rw [HY.out] at hyx
            dsimp only at hyx
            have hbe : ((k : Int) == (k9 : Int)) = false := by rw [beq_eq_false_iff_ne]; exact heq
            have hHF := HF.out.below J4.out
            have hcy := row_at' hHF.rd rfl hlt
            rw [HY.out] at hcy
            have HCY := Lib.hid hcy
            clear heq hcy hHF
            cases hdn : doneB (L.take k) (ss, ky) with
            | true =>
              have HE := Lib.hid (out_done (c := ⟨t, r, v, gn, l⟩) (L.getD k rZ) hdn)
              have HB4d := Lib.hid J4.out.drew
              have HO4d := Lib.hid J1.out.drew
              have HX4d := Lib.hid J3.out.drew
              clear hyx hdn
              go_wp2_with fail
              refine wp_region_mono nobody (by kernel_rfl) ?_
              -- 0 Op.move (Operand.tmp 8)
              refine wpMono_take' 0 (v := ?_) rfl (by kernel_rfl) (by kernel_rfl) (by kernel_rfl) (fun _ _ _ h => h) (by rfl) ?_ ?_
              rotate_left
              · (intro W hSw; skip
                 go_simp; first | done | rfl)
              try simp only [Act.put, List.setIfInBounds_toArray, List.set_cons_zero, List.set_cons_succ]
              -- 1 Op.unOp UnOp.not 4 (Operand.tmp 72)
              refine wpMono_take' 1 (v := ?_) rfl (by kernel_rfl) (by kernel_rfl) (by kernel_rfl) (fun _ _ _ h => h) (by rfl) ?_ ?_
              rotate_left
              · (intro W hSw; skip
                 go_simp; first | done | rfl)
              try simp only [Act.put, List.setIfInBounds_toArray, List.set_cons_zero, List.set_cons_succ]
              -- 2 Op.move (Operand.tmp 73)
              refine wpMono_take' 2 (v := ?_) rfl (by kernel_rfl) (by kernel_rfl) (by kernel_rfl) (fun _ _ _ h => h) (by rfl) ?_ ?_
              rotate_left
              · (intro W hSw; skip
                 go_simp; first | done | rfl)
              try simp only [Act.put, List.setIfInBounds_toArray, List.set_cons_zero, List.set_cons_succ]
              -- 3 Op.load 35 (Operand.tmp 9)
              refine wpMono_skip' 3 rfl (by kernel_rfl) (by kernel_rfl) (by kernel_rfl) (fun _ _ _ h => h) (by rfl) ?_
              try simp only [Act.put, List.setIfInBounds_toArray, List.set_cons_zero, List.set_cons_succ]
              -- 4 Op.move (Operand.tmp 0)
              refine wpMono_skip' 4 rfl (by kernel_rfl) (by kernel_rfl) (by kernel_rfl) (fun _ _ _ h => h) (by rfl) ?_
              try simp only [Act.put, List.setIfInBounds_toArray, List.set_cons_zero, List.set_cons_succ]
              -- 5 Op.nilCheck (Operand.tmp 76)
              refine wpMono_skip' 5 rfl (by kernel_rfl) (by kernel_rfl) (by kernel_rfl) (fun _ _ _ h => h) (by rfl) ?_
              try simp only [Act.put, List.setIfInBounds_toArray, List.set_cons_zero, List.set_cons_succ]
              -- 6 Op.fieldAddr 50 (Operand.tmp 77) 0
              refine wpMono_skip' 6 rfl (by kernel_rfl) (by kernel_rfl) (by kernel_rfl) (fun _ _ _ h => h) (by rfl) ?_
              try simp only [Act.put, List.setIfInBounds_toArray, List.set_cons_zero, List.set_cons_succ]
              -- 7 Op.load 22 (Operand.tmp 78)
              refine wpMono_skip' 7 rfl (by kernel_rfl) (by kernel_rfl) (by kernel_rfl) (fun _ _ _ h => h) (by rfl) ?_
              try simp only [Act.put, List.setIfInBounds_toArray, List.set_cons_zero, List.set_cons_succ]
              -- 8 Op.move (Operand.tmp 10)
              refine wpMono_skip' 8 rfl (by kernel_rfl) (by kernel_rfl) (by kernel_rfl) (fun _ _ _ h => h) (by rfl) ?_
              try simp only [Act.put, List.setIfInBounds_toArray, List.set_cons_zero, List.set_cons_succ]
              -- 9 Op.indexAddr 22 (Operand.tmp 79) (Operand.tmp 80)
              refine wpMono_skip' 9 rfl (by kernel_rfl) (by kernel_rfl) (by kernel_rfl) (fun _ _ _ h => h) (by rfl) ?_
              try simp only [Act.put, List.setIfInBounds_toArray, List.set_cons_zero, List.set_cons_succ]
              -- 10 Op.load 35 (Operand.tmp 81)
              refine wpMono_skip' 10 rfl (by kernel_rfl) (by kernel_rfl) (by kernel_rfl) (fun _ _ _ h => h) (by rfl) ?_
              try simp only [Act.put, List.setIfInBounds_toArray, List.set_cons_zero, List.set_cons_succ]
              -- 11 Op.call { callee := Callee.value (Operand.func 19), args := #[Operand.tmp 75, Operand.tmp 
              refine wpMono_skip' 11 rfl (by kernel_rfl) (by kernel_rfl) (by kernel_rfl) (fun _ _ _ h => h) (by rfl) ?_
              try simp only [Act.put, List.setIfInBounds_toArray, List.set_cons_zero, List.set_cons_succ]
              -- 12 Op.pick (Operand.tmp 74) (Operand.tmp 83) (Operand.const (Value.bool false))
              refine wpMono_take' 12 (v := ?_) rfl (by kernel_rfl) (by kernel_rfl) (by kernel_rfl) (fun _ _ _ h => h) (by rfl) ?_ ?_
              rotate_left
              · (intro W hSw; skip
                 go_simp; first | done | rfl)
              try simp only [Act.put, List.setIfInBounds_toArray, List.set_cons_zero, List.set_cons_succ]
              refine wpMono_done (by kernel_rfl) ?_ _
              clear hbe q0 ql hbl e0 e1 e2 e3 e4 e5 e6 d0 d1 d2 d3 d4 d5 d6
              have hwd : V0.heap.size + 1 < wr.drew.heap.size := hwb
              generalize wr.drew = w4 at *
              have hF := HF.out.below HB4d.out
              have q0 := hF.blk.cell 0
              have ql := hF.blk.lt
              simp at q0
              have hcy := row_at' hF.rd rfl hlt
              have hszb := Below.size HB4d.out
              have hbl : b < w4.heap.size := by omega
              rw [HY.out] at hcy
              obtain ⟨e0, e1, e2, e3, e4, e5, e6⟩ := seven_of hcy
              dsimp only at e0 e1 e2 e3 e4 e5 e6
              clear hcy hF hszb
              go_wp2_with (at_builtin; refine wpList_append_new rfl (.tmp 89) (.tmp 97) _ rfl V0.heap.size refT i0 _ 7 80 Tryd.underlying22 Hi0.out Hz0.out Hz1.out Hz2.out rfl (by decide) _ _ _ rfl HO4d.out 1 1 [.string y1, .string y2, .int .i64 t2, .int .i64 r2, .string v2, .bool gn2, .int .i64 l2] rfl rfl (by simp [Value.oneCell']) (by unfold maxLen; omega) (by omega) (by omega) ?_; intro v1 w5 hown1 hbw1 hgr1 hwh1; obtain ⟨A5, c5, rfl⟩ := ownsRow_slice hown1; have HA5 := Lib.hid hown1; have HG5 := Lib.hid hgr1; have HH5 := Lib.hid hwh1; have HW5 := Lib.hid hbw1; clear hown1 hbw1 hgr1 hwh1)
              have HNE5 := Lib.hid (show (Value.slice A5 _ c5).ownBlock ≠ some (V0.heap.size + 1) from by
                rcases HH5.out with e | ⟨gq, e, hq⟩
                · rw [e]; exact J2.out
                · rw [e]; intro e2; injection e2 with e2; omega)
              have HX5 := Lib.hid (HX4d.out.grown HG5.out (Ne.symm J2.out))
              have HB5 := Lib.hid (HB4d.out.trans HW5.out)
              have hz5 := HW5.out.size
              go_roundw
              case rel => exact ⟨k + 1, by omega, by go_num, by rw [HTK.out, HE.out.2], by rw [HTK.out, HE.out.1, HY.out]; simpa [rcells, List.flatMap_append] using HA5.out, HNE5.out, HX5.out, HB5.out⟩
              case measure => simp [intOf]; omega
            | false =>
              have hwk : IntKind.i64.wrap (k : Int) = (k : Int) := IntWalk.i64_in _ (by omega)
              have hk0 : (k : Int) < (L.length : Int) := by omega
              have HDN := Lib.hid hdn
              have HYX := Lib.hid hyx
              clear hdn hyx
              go_wp2_with fail
              refine wp_region_mono nobody (by kernel_rfl) ?_
              -- 0 Op.move (Operand.tmp 8)
              refine wpMono_take' 0 (v := ?_) rfl (by kernel_rfl) (by kernel_rfl) (by kernel_rfl) (fun _ _ _ h => h) (by rfl) ?_ ?_
              rotate_left
              · (intro W hSw; (try have q0W := (hSw.cells g 0 (by simpa using ql)).trans q0); (try have glW : g < V0.heap.size := hgl2)
                 go_simp; first | done | rfl)
              try simp only [Act.put, List.setIfInBounds_toArray, List.set_cons_zero, List.set_cons_succ]
              -- 1 Op.unOp UnOp.not 4 (Operand.tmp 72)
              refine wpMono_take' 1 (v := ?_) rfl (by kernel_rfl) (by kernel_rfl) (by kernel_rfl) (fun _ _ _ h => h) (by rfl) ?_ ?_
              rotate_left
              · (intro W hSw; (try have q0W := (hSw.cells g 0 (by simpa using ql)).trans q0); (try have glW : g < V0.heap.size := hgl2)
                 go_simp; first | done | rfl)
              try simp only [Act.put, List.setIfInBounds_toArray, List.set_cons_zero, List.set_cons_succ]
              -- 2 Op.move (Operand.tmp 73)
              refine wpMono_take' 2 (v := ?_) rfl (by kernel_rfl) (by kernel_rfl) (by kernel_rfl) (fun _ _ _ h => h) (by rfl) ?_ ?_
              rotate_left
              · (intro W hSw; (try have q0W := (hSw.cells g 0 (by simpa using ql)).trans q0); (try have glW : g < V0.heap.size := hgl2)
                 go_simp; first | done | rfl)
              try simp only [Act.put, List.setIfInBounds_toArray, List.set_cons_zero, List.set_cons_succ]
              -- 3 Op.load 35 (Operand.tmp 9)
              refine wpMono_take' 3 (v := ?_) rfl (by kernel_rfl) (by kernel_rfl) (by kernel_rfl) (fun _ _ _ h => h) (by rfl) ?_ ?_
              rotate_left
              · (intro W hSw; first | (((first | (refine exec_load refT (.tmp 9) ?_ (V0.heap.size + 1) 0 (rcells ((ss, ky), ⟨t, r, v, gn, l⟩)) ?_ Tryd.underlying35 rfl (by rw [rlen]; kernel_rfl) (fun q u hq => by rw [Nat.zero_add, (J3.out.drew.keeps hSw (fun h => h)).cell q]; simpa [rcells] using hq) <;> rfl) | (refine exec_load refT (.tmp 81) ?_ b (off + k * 7) (rcells ((y1, y2), ⟨t2, r2, v2, gn2, l2⟩)) ?_ Tryd.underlying35 rfl (by rw [rlen]; kernel_rfl) (fun q u hq => (hSw.cells b _ (by simpa using hbl)).trans (HCY.out q u hq)) <;> rfl)))) | ((try have q0W := (hSw.cells g 0 (by simpa using ql)).trans q0); (try have glW : g < V0.heap.size := hgl2); go_simp; done) | ((try have q0W := (hSw.cells g 0 (by simpa using ql)).trans q0); (try have glW : g < V0.heap.size := hgl2); go_simp; rfl))
              try simp only [Act.put, List.setIfInBounds_toArray, List.set_cons_zero, List.set_cons_succ]
              -- 4 Op.move (Operand.tmp 0)
              refine wpMono_take' 4 (v := ?_) rfl (by kernel_rfl) (by kernel_rfl) (by kernel_rfl) (fun _ _ _ h => h) (by rfl) ?_ ?_
              rotate_left
              · (intro W hSw; (try have q0W := (hSw.cells g 0 (by simpa using ql)).trans q0); (try have glW : g < V0.heap.size := hgl2)
                 go_simp; first | done | rfl)
              try simp only [Act.put, List.setIfInBounds_toArray, List.set_cons_zero, List.set_cons_succ]
              -- 5 Op.nilCheck (Operand.tmp 76)
              refine wpMono_take' 5 (v := ?_) rfl (by kernel_rfl) (by kernel_rfl) (by kernel_rfl) (fun _ _ _ h => h) (by rfl) ?_ ?_
              rotate_left
              · (intro W hSw; (try have q0W := (hSw.cells g 0 (by simpa using ql)).trans q0); (try have glW : g < V0.heap.size := hgl2)
                 go_simp; first | done | rfl)
              try simp only [Act.put, List.setIfInBounds_toArray, List.set_cons_zero, List.set_cons_succ]
              -- 6 Op.fieldAddr 50 (Operand.tmp 77) 0
              refine wpMono_take' 6 (v := ?_) rfl (by kernel_rfl) (by kernel_rfl) (by kernel_rfl) (fun _ _ _ h => h) (by rfl) ?_ ?_
              rotate_left
              · (intro W hSw; (try have q0W := (hSw.cells g 0 (by simpa using ql)).trans q0); (try have glW : g < V0.heap.size := hgl2)
                 go_simp; first | done | rfl)
              try simp only [Act.put, List.setIfInBounds_toArray, List.set_cons_zero, List.set_cons_succ]
              -- 7 Op.load 22 (Operand.tmp 78)
              refine wpMono_take' 7 (v := ?_) rfl (by kernel_rfl) (by kernel_rfl) (by kernel_rfl) (fun _ _ _ h => h) (by rfl) ?_ ?_
              rotate_left
              · (intro W hSw; first | (((first | (refine exec_load refT (.tmp 9) ?_ (V0.heap.size + 1) 0 (rcells ((ss, ky), ⟨t, r, v, gn, l⟩)) ?_ Tryd.underlying35 rfl (by rw [rlen]; kernel_rfl) (fun q u hq => by rw [Nat.zero_add, (J3.out.drew.keeps hSw (fun h => h)).cell q]; simpa [rcells] using hq) <;> rfl) | (refine exec_load refT (.tmp 81) ?_ b (off + k * 7) (rcells ((y1, y2), ⟨t2, r2, v2, gn2, l2⟩)) ?_ Tryd.underlying35 rfl (by rw [rlen]; kernel_rfl) (fun q u hq => (hSw.cells b _ (by simpa using hbl)).trans (HCY.out q u hq)) <;> rfl)))) | ((try have q0W := (hSw.cells g 0 (by simpa using ql)).trans q0); (try have glW : g < V0.heap.size := hgl2); go_simp; done) | ((try have q0W := (hSw.cells g 0 (by simpa using ql)).trans q0); (try have glW : g < V0.heap.size := hgl2); go_simp; rfl))
              try simp only [Act.put, List.setIfInBounds_toArray, List.set_cons_zero, List.set_cons_succ]
              -- 8 Op.move (Operand.tmp 10)
              refine wpMono_take' 8 (v := ?_) rfl (by kernel_rfl) (by kernel_rfl) (by kernel_rfl) (fun _ _ _ h => h) (by rfl) ?_ ?_
              rotate_left
              · (intro W hSw; (try have q0W := (hSw.cells g 0 (by simpa using ql)).trans q0); (try have glW : g < V0.heap.size := hgl2)
                 go_simp; first | done | rfl)
              try simp only [Act.put, List.setIfInBounds_toArray, List.set_cons_zero, List.set_cons_succ]
              -- 9 Op.indexAddr 22 (Operand.tmp 79) (Operand.tmp 80)
              refine wpMono_take' 9 (v := ?_) rfl (by kernel_rfl) (by kernel_rfl) (by kernel_rfl) (fun _ _ _ h => h) (by rfl) ?_ ?_
              rotate_left
              · (intro W hSw; (try have q0W := (hSw.cells g 0 (by simpa using ql)).trans q0); (try have glW : g < V0.heap.size := hgl2)
                 go_simp; first | done | rfl)
              try simp only [Act.put, List.setIfInBounds_toArray, List.set_cons_zero, List.set_cons_succ]
              -- 10 Op.load 35 (Operand.tmp 81)
              refine wpMono_take' 10 (v := ?_) rfl (by kernel_rfl) (by kernel_rfl) (by kernel_rfl) (fun _ _ _ h => h) (by rfl) ?_ ?_
              rotate_left
              · (intro W hSw; first | (((first | (refine exec_load refT (.tmp 9) ?_ (V0.heap.size + 1) 0 (rcells ((ss, ky), ⟨t, r, v, gn, l⟩)) ?_ Tryd.underlying35 rfl (by rw [rlen]; kernel_rfl) (fun q u hq => by rw [Nat.zero_add, (J3.out.drew.keeps hSw (fun h => h)).cell q]; simpa [rcells] using hq) <;> rfl) | (refine exec_load refT (.tmp 81) ?_ b (off + k * 7) (rcells ((y1, y2), ⟨t2, r2, v2, gn2, l2⟩)) ?_ Tryd.underlying35 rfl (by rw [rlen]; kernel_rfl) (fun q u hq => (hSw.cells b _ (by simpa using hbl)).trans (HCY.out q u hq)) <;> rfl)))) | ((try have q0W := (hSw.cells g 0 (by simpa using ql)).trans q0); (try have glW : g < V0.heap.size := hgl2); go_simp; done) | ((try have q0W := (hSw.cells g 0 (by simpa using ql)).trans q0); (try have glW : g < V0.heap.size := hgl2); go_simp; rfl))
              try simp only [Act.put, List.setIfInBounds_toArray, List.set_cons_zero, List.set_cons_succ]
              -- EFFECT 11 Op.call { callee := Callee.value (Operand.func 19), args := #[Operand.tmp 75, Operand.tmp 82], argTypes := #[35, 35] }
              refine wpMono_one' 11 (by kernel_rfl) rfl (by rfl) (fun K hK => ?_)
              go_simp
              refine (below_ref ((ss, ky), ⟨t, r, v, gn, l⟩) ((y1, y2), ⟨t2, r2, v2, gn2, l2⟩) _).mono ?_
              rintro e w5 ⟨rfl, hb5⟩
              have HB5 := Lib.hid hb5
              clear hb5
              refine hK.out _ _ ?_ ?_
              · exact .of_below HB5.out
              clear hK K
              -- 12 Op.pick (Operand.tmp 74) (Operand.tmp 83) (Operand.const (Value.bool false))
              refine wpMono_take' 12 (v := ?_) rfl (by kernel_rfl) (by kernel_rfl) (by kernel_rfl) (fun _ _ _ h => h) (by rfl) ?_ ?_
              rotate_left
              · (intro W hSw; (try have q0W := (hSw.cells g 0 (by simpa using ql)).trans q0); (try have glW : g < V0.heap.size := hgl2)
                 go_simp; first | done | rfl)
              try simp only [Act.put, List.setIfInBounds_toArray, List.set_cons_zero, List.set_cons_succ]
              refine wpMono_done (by kernel_rfl) ?_ _
              have hwb5 : V0.heap.size + 1 < w5.heap.size := Nat.lt_of_lt_of_le hwb (by have := HB5.out.size; simpa using this)
              have hb5w := below_ofDrew HB5.out
              have HB6 := Lib.hid (J4.out.trans (hb5w.mono (by omega)))
              have HO6 := Lib.hid (own_below J1.out hb5w)
              have HX6 := Lib.hid (J3.out.below hb5w hwb)
              clear hwk hk0 hbe q0 ql hbl e0 e1 e2 e3 e4 e5 e6 d0 d1 d2 d3 d4 d5 d6 hb5w
              have hF := HF.out.below HB6.out
              have q0 := hF.blk.cell 0
              have ql := hF.blk.lt
              simp at q0
              have hcy := row_at' hF.rd rfl hlt
              have hszb := Below.size HB6.out
              have hbl : b < w5.heap.size := by omega
              rw [HY.out] at hcy
              obtain ⟨e0, e1, e2, e3, e4, e5, e6⟩ := seven_of hcy
              dsimp only at e0 e1 e2 e3 e4 e5 e6
              clear hcy hF hszb
              obtain ⟨d0, d1, d2, d3, d4, d5, d6⟩ := cells7 HX6.out
              cases hlt2 : ltN (ss, ky) (y1, y2) with
              | true =>
                have HE := Lib.hid (out_gt (c := ⟨t, r, v, gn, l⟩) (L.getD k rZ) HDN.out (by rw [HY.out]; exact hlt2))
                clear hlt2
                go_upto_region 19 with (at_builtin; refine wpList_append_new rfl (.tmp 85) (.tmp 87) _ rfl V0.heap.size refT i0 _ 7 80 Tryd.underlying22 Hi0.out Hz0.out Hz1.out Hz2.out rfl (by decide) _ _ _ rfl HO6.out 1 1 [.string ss, .string ky, .int .i64 t, .int .i64 r, .string v, .bool gn, .int .i64 l] rfl rfl (by simp [Value.oneCell']) (by unfold maxLen; omega) (by omega) (by omega) ?_; intro v1 w6 hown1 hbw1 hgr1 hwh1; obtain ⟨A6, c6, rfl⟩ := ownsRow_slice hown1; have HA6 := Lib.hid hown1; have HG6 := Lib.hid hgr1; have HH6 := Lib.hid hwh1; have HW6 := Lib.hid hbw1; clear hown1 hbw1 hgr1 hwh1)
                have HNE6 := Lib.hid (show (Value.slice A6 _ c6).ownBlock ≠ some (V0.heap.size + 1) from by
                  rcases HH6.out with e | ⟨gq, e, hq⟩
                  · rw [e]; exact J2.out
                  · rw [e]; intro e2; injection e2 with e2; omega)
                have HX6 := Lib.hid (HX6.out.grown HG6.out (Ne.symm J2.out))
                have HB6 := Lib.hid (HB6.out.trans HW6.out)
                have hz6 := HW6.out.size
                clear q0 ql hbl e0 e1 e2 e3 e4 e5 e6 d0 d1 d2 d3 d4 d5 d6
                have hF := HF.out.below HB6.out
                have q0 := hF.blk.cell 0
                have ql := hF.blk.lt
                simp at q0
                have hcy := row_at' hF.rd rfl hlt
                have hszb := Below.size HB6.out
                have hbl : b < w6.heap.size := by omega
                rw [HY.out] at hcy
                obtain ⟨e0, e1, e2, e3, e4, e5, e6⟩ := seven_of hcy
                dsimp only at e0 e1 e2 e3 e4 e5 e6
                clear hcy hF hszb
                go_wp2_with (at_builtin; refine wpList_append_new rfl (.tmp 89) (.tmp 97) _ rfl V0.heap.size refT i0 _ 7 80 Tryd.underlying22 Hi0.out Hz0.out Hz1.out Hz2.out rfl (by decide) _ _ _ rfl HA6.out 1 1 [.string y1, .string y2, .int .i64 t2, .int .i64 r2, .string v2, .bool gn2, .int .i64 l2] rfl rfl (by simp [Value.oneCell']) (by unfold maxLen; omega) (by omega) (by omega) ?_; intro v1 w7 hown1 hbw1 hgr1 hwh1; obtain ⟨A7, c7, rfl⟩ := ownsRow_slice hown1; have HA7 := Lib.hid hown1; have HG7 := Lib.hid hgr1; have HH7 := Lib.hid hwh1; have HW7 := Lib.hid hbw1; clear hown1 hbw1 hgr1 hwh1)
                have HNE7 := Lib.hid (show (Value.slice A7 _ c7).ownBlock ≠ some (V0.heap.size + 1) from by
                  rcases HH7.out with e | ⟨gq, e, hq⟩
                  · rw [e]; exact HNE6.out
                  · rw [e]; intro e2; injection e2 with e2; omega)
                have HX7 := Lib.hid (HX6.out.grown HG7.out (Ne.symm HNE6.out))
                have HB7 := Lib.hid (HB6.out.trans HW7.out)
                have hz7 := HW7.out.size
                go_roundw
                case rel => exact ⟨k + 1, by omega, by go_num, by rw [HTK.out, HE.out.2], by rw [HTK.out, HE.out.1, HY.out]; simpa [rcells, List.flatMap_append] using HA7.out, HNE7.out, HX7.out, HB7.out⟩
                case measure => simp [intOf]; omega
              | false =>
                have HE := Lib.hid (out_lt (c := ⟨t, r, v, gn, l⟩) (L.getD k rZ) HDN.out (by
                  rw [HY.out]
                  rcases ltN_tri (y1, y2) (ss, ky) with e | e | e
                  · exact absurd e HYX.out
                  · exact e
                  · rw [hlt2] at e; cases e))
                clear hlt2 d0 d1 d2 d3 d4 d5 d6
                go_wp2_with (at_builtin; refine wpList_append_new rfl (.tmp 89) (.tmp 97) _ rfl V0.heap.size refT i0 _ 7 80 Tryd.underlying22 Hi0.out Hz0.out Hz1.out Hz2.out rfl (by decide) _ _ _ rfl HO6.out 1 1 [.string y1, .string y2, .int .i64 t2, .int .i64 r2, .string v2, .bool gn2, .int .i64 l2] rfl rfl (by simp [Value.oneCell']) (by unfold maxLen; omega) (by omega) (by omega) ?_; intro v1 w6 hown1 hbw1 hgr1 hwh1; obtain ⟨A6, c6, rfl⟩ := ownsRow_slice hown1; have HA6 := Lib.hid hown1; have HG6 := Lib.hid hgr1; have HH6 := Lib.hid hwh1; have HW6 := Lib.hid hbw1; clear hown1 hbw1 hgr1 hwh1)
                have HNE6 := Lib.hid (show (Value.slice A6 _ c6).ownBlock ≠ some (V0.heap.size + 1) from by
                  rcases HH6.out with e | ⟨gq, e, hq⟩
                  · rw [e]; exact J2.out
                  · rw [e]; intro e2; injection e2 with e2; omega)
                have HX6 := Lib.hid (HX6.out.grown HG6.out (Ne.symm J2.out))
                have HB6 := Lib.hid (HB6.out.trans HW6.out)
                have hz6 := HW6.out.size
                go_roundw
                case rel => exact ⟨k + 1, by omega, by go_num, by rw [HTK.out, HE.out.2], by rw [HTK.out, HE.out.1, HY.out]; simpa [rcells, List.flatMap_append] using HA6.out, HNE6.out, HX6.out, HB6.out⟩
                case measure => simp [intOf]; omega
        · obtain rfl : L.length = k := by omega
          rw [List.take_length] at J1 J2 hol ⊢
          cases hdn : doneB L (ss, ky) with
          | true =>
            have hF9 := HF.out.below J4.out
            have q0 := hF9.blk.cell 0
            have ql := hF9.blk.lt
            have qf := hF9.blk.frozen 0
            simp at q0
            have hre := hF9.renew hgl2 J1.out rfl
            have HR := Lib.hid (show ApplyF g L (ss, ky) ⟨t, r, v, gn, l⟩ w (.returned (.bool true)) (wr.setCell ⟨g, 0, none⟩ (.slice Ao (outL L (ss, ky) ⟨t, r, v, gn, l⟩).length co)) from ⟨by rw [HNEW.out], ⟨_, _, by
              have := hre
              rw [out_end.1 hdn] at this ⊢
              unfold takeL
              rw [HTAK.out]
              exact this⟩, ((Keeps.of_below HBX.out).trans ((Keeps.of_below J4.out).more fun i _ h => absurd h (fun h => h))).trans (set_at_ _ _ _ _)⟩)
            clear hF9 hre hdn
            go_wp2
            go_ret
            exact HR.out
          | false =>
            obtain ⟨d0, d1, d2, d3, d4, d5, d6⟩ := cells7 J3.out
            have HDN := Lib.hid hdn
            have hF8 := HF.out.below J4.out
            have q08 := hF8.blk.cell 0
            have ql8 := hF8.blk.lt
            simp at q08
            clear hdn hF8
            go_wp2_with (at_builtin; refine wpList_append_new rfl (.tmp 101) (.tmp 103) _ rfl V0.heap.size refT i0 _ 7 80 Tryd.underlying22 Hi0.out Hz0.out Hz1.out Hz2.out rfl (by decide) _ _ _ rfl J1.out 1 1 [.string ss, .string ky, .int .i64 t, .int .i64 r, .string v, .bool gn, .int .i64 l] rfl rfl (by simp [Value.oneCell']) (by unfold maxLen; omega) (by omega) (by omega) ?_; intro v1 w6 hown1 hbw1 hgr1 hwh1; obtain ⟨A6, c6, rfl⟩ := ownsRow_slice hown1; have HB6 := Lib.hid (J4.out.trans hbw1); have hF9 := HF.out.below HB6.out; have q0 := hF9.blk.cell 0; have ql := hF9.blk.lt; have qf := hF9.blk.frozen 0; simp at q0; have HR := Lib.hid (apply_end hF9 hgl2 hown1 HDN.out HNEW.out HTAK.out HBX.out HB6.out); clear hown1 hbw1 hgr1 hwh1 hF9)
            go_ret
            exact HR.out
    | false =>
      have HRM := Lib.hid (show rmFrom [(⟨t2, r2, v2, gn2, l2⟩ : C), ⟨t, r, v, gn, l⟩] [⟨t2, r2, v2, gn2, l2⟩, ⟨t, r, v, gn, l⟩] = ⟨t2, r2, v2, gn2, l2⟩ by rw [rm_two, if_neg (by rw [hab]; decide)])
      have hnew : newC (getL L (ss, ky)) ⟨t, r, v, gn, l⟩ = false := by rw [HGO.out]; exact hab
      have HTAK := Lib.hid (takeL_old HRI.out hnew)
      have HNEW := Lib.hid hnew
      clear hab hnew
      go_wp2_with fail
      refine wp_region_monoJ (fun i => i = w.heap.size + 1) [11] (by kernel_rfl) ?_
      -- 0 Op.move (Operand.tmp 0)
      refine wpMonoJ_take' 0 (v := ?_) rfl (by kernel_rfl) (by kernel_rfl) (by kernel_rfl) (by rfl) (fun _ _ _ h => h) (by rfl) ?_ ?_
      rotate_left
      · (intro W hSw; (try have r0 := (hSw.cell 0 ql hgx).trans q0); (try have r2' := (hSw.cell _ hbb hbx).trans e2); (try have r3 := (hSw.cell _ hbb hbx).trans e3); (try have r4 := (hSw.cell _ hbb hbx).trans e4); (try have r5 := (hSw.cell _ hbb hbx).trans e5); (try have r6 := (hSw.cell _ hbb hbx).trans e6); (try have s0 := (hSw.cell 0 nl (fun h => h)).trans n0); (try have s1 := (hSw.cell 1 nl (fun h => h)).trans n1); (try have s2 := (hSw.cell 2 nl (fun h => h)).trans n2); (try have s3 := (hSw.cell 3 nl (fun h => h)).trans n3); (try have s4 := (hSw.cell 4 nl (fun h => h)).trans n4)
         go_simp; first | done | rfl)
      try simp only [Act.put, List.setIfInBounds_toArray, List.set_cons_zero, List.set_cons_succ]
      -- 1 Op.nilCheck (Operand.tmp 28)
      refine wpMonoJ_take' 1 (v := ?_) rfl (by kernel_rfl) (by kernel_rfl) (by kernel_rfl) (by rfl) (fun _ _ _ h => h) (by rfl) ?_ ?_
      rotate_left
      · (intro W hSw; (try have r0 := (hSw.cell 0 ql hgx).trans q0); (try have r2' := (hSw.cell _ hbb hbx).trans e2); (try have r3 := (hSw.cell _ hbb hbx).trans e3); (try have r4 := (hSw.cell _ hbb hbx).trans e4); (try have r5 := (hSw.cell _ hbb hbx).trans e5); (try have r6 := (hSw.cell _ hbb hbx).trans e6); (try have s0 := (hSw.cell 0 nl (fun h => h)).trans n0); (try have s1 := (hSw.cell 1 nl (fun h => h)).trans n1); (try have s2 := (hSw.cell 2 nl (fun h => h)).trans n2); (try have s3 := (hSw.cell 3 nl (fun h => h)).trans n3); (try have s4 := (hSw.cell 4 nl (fun h => h)).trans n4)
         go_simp; first | done | rfl)
      try simp only [Act.put, List.setIfInBounds_toArray, List.set_cons_zero, List.set_cons_succ]
      -- 2 Op.fieldAddr 50 (Operand.tmp 29) 0
      refine wpMonoJ_take' 2 (v := ?_) rfl (by kernel_rfl) (by kernel_rfl) (by kernel_rfl) (by rfl) (fun _ _ _ h => h) (by rfl) ?_ ?_
      rotate_left
      · (intro W hSw; (try have r0 := (hSw.cell 0 ql hgx).trans q0); (try have r2' := (hSw.cell _ hbb hbx).trans e2); (try have r3 := (hSw.cell _ hbb hbx).trans e3); (try have r4 := (hSw.cell _ hbb hbx).trans e4); (try have r5 := (hSw.cell _ hbb hbx).trans e5); (try have r6 := (hSw.cell _ hbb hbx).trans e6); (try have s0 := (hSw.cell 0 nl (fun h => h)).trans n0); (try have s1 := (hSw.cell 1 nl (fun h => h)).trans n1); (try have s2 := (hSw.cell 2 nl (fun h => h)).trans n2); (try have s3 := (hSw.cell 3 nl (fun h => h)).trans n3); (try have s4 := (hSw.cell 4 nl (fun h => h)).trans n4)
         go_simp; first | done | rfl)
      try simp only [Act.put, List.setIfInBounds_toArray, List.set_cons_zero, List.set_cons_succ]
      -- 3 Op.load 22 (Operand.tmp 30)
      refine wpMonoJ_take' 3 (v := ?_) rfl (by kernel_rfl) (by kernel_rfl) (by kernel_rfl) (by rfl) (fun _ _ _ h => h) (by rfl) ?_ ?_
      rotate_left
      · (intro W hSw; (try have r0 := (hSw.cell 0 ql hgx).trans q0); (try have r2' := (hSw.cell _ hbb hbx).trans e2); (try have r3 := (hSw.cell _ hbb hbx).trans e3); (try have r4 := (hSw.cell _ hbb hbx).trans e4); (try have r5 := (hSw.cell _ hbb hbx).trans e5); (try have r6 := (hSw.cell _ hbb hbx).trans e6); (try have s0 := (hSw.cell 0 nl (fun h => h)).trans n0); (try have s1 := (hSw.cell 1 nl (fun h => h)).trans n1); (try have s2 := (hSw.cell 2 nl (fun h => h)).trans n2); (try have s3 := (hSw.cell 3 nl (fun h => h)).trans n3); (try have s4 := (hSw.cell 4 nl (fun h => h)).trans n4)
         go_simp; first | done | rfl)
      try simp only [Act.put, List.setIfInBounds_toArray, List.set_cons_zero, List.set_cons_succ]
      -- 4 Op.move (Operand.tmp 6)
      refine wpMonoJ_take' 4 (v := ?_) rfl (by kernel_rfl) (by kernel_rfl) (by kernel_rfl) (by rfl) (fun _ _ _ h => h) (by rfl) ?_ ?_
      rotate_left
      · (intro W hSw; (try have r0 := (hSw.cell 0 ql hgx).trans q0); (try have r2' := (hSw.cell _ hbb hbx).trans e2); (try have r3 := (hSw.cell _ hbb hbx).trans e3); (try have r4 := (hSw.cell _ hbb hbx).trans e4); (try have r5 := (hSw.cell _ hbb hbx).trans e5); (try have r6 := (hSw.cell _ hbb hbx).trans e6); (try have s0 := (hSw.cell 0 nl (fun h => h)).trans n0); (try have s1 := (hSw.cell 1 nl (fun h => h)).trans n1); (try have s2 := (hSw.cell 2 nl (fun h => h)).trans n2); (try have s3 := (hSw.cell 3 nl (fun h => h)).trans n3); (try have s4 := (hSw.cell 4 nl (fun h => h)).trans n4)
         go_simp; first | done | rfl)
      try simp only [Act.put, List.setIfInBounds_toArray, List.set_cons_zero, List.set_cons_succ]
      -- 5 Op.indexAddr 22 (Operand.tmp 31) (Operand.tmp 32)
      refine wpMonoJ_take' 5 (v := ?_) rfl (by kernel_rfl) (by kernel_rfl) (by kernel_rfl) (by rfl) (fun _ _ _ h => h) (by rfl) ?_ ?_
      rotate_left
      · (intro W hSw; (try have r0 := (hSw.cell 0 ql hgx).trans q0); (try have r2' := (hSw.cell _ hbb hbx).trans e2); (try have r3 := (hSw.cell _ hbb hbx).trans e3); (try have r4 := (hSw.cell _ hbb hbx).trans e4); (try have r5 := (hSw.cell _ hbb hbx).trans e5); (try have r6 := (hSw.cell _ hbb hbx).trans e6); (try have s0 := (hSw.cell 0 nl (fun h => h)).trans n0); (try have s1 := (hSw.cell 1 nl (fun h => h)).trans n1); (try have s2 := (hSw.cell 2 nl (fun h => h)).trans n2); (try have s3 := (hSw.cell 3 nl (fun h => h)).trans n3); (try have s4 := (hSw.cell 4 nl (fun h => h)).trans n4)
         go_simp; first | done | rfl)
      try simp only [Act.put, List.setIfInBounds_toArray, List.set_cons_zero, List.set_cons_succ]
      -- 6 Op.fieldAddr 35 (Operand.tmp 33) 2
      refine wpMonoJ_take' 6 (v := ?_) rfl (by kernel_rfl) (by kernel_rfl) (by kernel_rfl) (by rfl) (fun _ _ _ h => h) (by rfl) ?_ ?_
      rotate_left
      · (intro W hSw; (try have r0 := (hSw.cell 0 ql hgx).trans q0); (try have r2' := (hSw.cell _ hbb hbx).trans e2); (try have r3 := (hSw.cell _ hbb hbx).trans e3); (try have r4 := (hSw.cell _ hbb hbx).trans e4); (try have r5 := (hSw.cell _ hbb hbx).trans e5); (try have r6 := (hSw.cell _ hbb hbx).trans e6); (try have s0 := (hSw.cell 0 nl (fun h => h)).trans n0); (try have s1 := (hSw.cell 1 nl (fun h => h)).trans n1); (try have s2 := (hSw.cell 2 nl (fun h => h)).trans n2); (try have s3 := (hSw.cell 3 nl (fun h => h)).trans n3); (try have s4 := (hSw.cell 4 nl (fun h => h)).trans n4)
         go_simp; first | done | rfl)
      try simp only [Act.put, List.setIfInBounds_toArray, List.set_cons_zero, List.set_cons_succ]
      -- 7 Op.load 33 (Operand.tmp 34)
      refine wpMonoJ_take' 7 (v := ?_) rfl (by kernel_rfl) (by kernel_rfl) (by kernel_rfl) (by rfl) (fun _ _ _ h => h) (by rfl) ?_ ?_
      rotate_left
      · (intro W hSw; (try have r0 := (hSw.cell 0 ql hgx).trans q0); (try have r2' := (hSw.cell _ hbb hbx).trans e2); (try have r3 := (hSw.cell _ hbb hbx).trans e3); (try have r4 := (hSw.cell _ hbb hbx).trans e4); (try have r5 := (hSw.cell _ hbb hbx).trans e5); (try have r6 := (hSw.cell _ hbb hbx).trans e6); (try have s0 := (hSw.cell 0 nl (fun h => h)).trans n0); (try have s1 := (hSw.cell 1 nl (fun h => h)).trans n1); (try have s2 := (hSw.cell 2 nl (fun h => h)).trans n2); (try have s3 := (hSw.cell 3 nl (fun h => h)).trans n3); (try have s4 := (hSw.cell 4 nl (fun h => h)).trans n4)
         go_simp; first | done | rfl)
      try simp only [Act.put, List.setIfInBounds_toArray, List.set_cons_zero, List.set_cons_succ]
      -- 8 Op.load 33 (Operand.tmp 5)
      refine wpMonoJ_read' 8 [9, 10, 11] (v := ?_) rfl (by kernel_rfl) (by kernel_rfl) (by kernel_rfl) (by rfl) (by kernel_rfl) (by rfl) (fun _ _ _ h => h) (by rfl) ?_ ?_
      rotate_left
      · (intro W hSw; (try have r0 := (hSw.cell 0 ql hgx).trans q0); (try have r2' := (hSw.cell _ hbb hbx).trans e2); (try have r3 := (hSw.cell _ hbb hbx).trans e3); (try have r4 := (hSw.cell _ hbb hbx).trans e4); (try have r5 := (hSw.cell _ hbb hbx).trans e5); (try have r6 := (hSw.cell _ hbb hbx).trans e6); (try have s0 := (hSw.cell 0 nl (fun h => h)).trans n0); (try have s1 := (hSw.cell 1 nl (fun h => h)).trans n1); (try have s2 := (hSw.cell 2 nl (fun h => h)).trans n2); (try have s3 := (hSw.cell 3 nl (fun h => h)).trans n3); (try have s4 := (hSw.cell 4 nl (fun h => h)).trans n4)
         go_simp; first | done | rfl)
      try simp only [Act.put, List.setIfInBounds_toArray, List.set_cons_zero, List.set_cons_succ]
      -- EFFECT 9 Op.buildSlice 95 2 #[(0, Operand.tmp 35), (1, Operand.tmp 36)]
      refine wpMonoJ_one' 9 (by kernel_rfl) rfl (by rfl) (fun K hK => ?_)
      go_simp
      refine hK.out _ _ ?_ ?_
      · exact .alloc _
      clear hK K
      try simp only [Act.put, List.setIfInBounds_toArray, List.set_cons_zero, List.set_cons_succ]
      -- EFFECT 10 Op.call { callee := Callee.value (Operand.func 39), args := #[Operand.tmp 37], argTypes := #[95] }
      refine wpMonoJ_one' 10 (by kernel_rfl) rfl (by rfl) (fun K hK => ?_)
      go_simp
      refine (merge_ref _ 2 2 [⟨t2, r2, v2, gn2, l2⟩, ⟨t, r, v, gn, l⟩] _ rfl (by decide) (by exact Reads.newAtD _ _ _ _ (by simp) rfl)).mono ?_
      rintro e w6 ⟨rfl, hb6⟩
      rw [HRM.out]
      have hb06 : Below U.heap.size U w6 := below_step (below_new U (.cells #[.int .i64 t2, .int .i64 r2, .string v2, .bool gn2, .int .i64 l2, .int .i64 t, .int .i64 r, .string v, .bool gn, .int .i64 l] 33)).drew hb6
      have HB06 := Lib.hid hb06
      have HCB6 := Lib.hid (HCB.out.below hb06 nl)
      have HB6 := Lib.hid hb6
      clear hb6 hb06
      refine hK.out _ _ ?_ ?_
      · exact .of_below HB6.out
      clear hK K
      try simp only [Act.put, List.setIfInBounds_toArray, List.set_cons_zero, List.set_cons_succ]
      -- EFFECT 11 Op.store 33 (Operand.tmp 5) (Operand.tmp 38)
      refine wpMonoJ_one' 11 (by kernel_rfl) rfl (by rfl) (fun K hK => ?_)
      refine wp_store_at 33 (.tmp 5) (.tmp 38) rfl (w.heap.size + 1) 0 [.int .i64 t2, .int .i64 r2, .string v2, .bool gn2, .int .i64 l2] rfl rfl HCB6.out rfl (by simp) rfl (fun w7 hq1 hq2 hq3 => ?_)
      refine hK.out _ _ ?_ ?_
      · exact moved hq2 (by decide)
      clear hK K
      try simp only [Act.put]
      refine wpMonoJ_done (by kernel_rfl) ?_ _
      have HCB7 := Lib.hid (show Blk w7 (w.heap.size + 1) 33 #[.int .i64 t2, .int .i64 r2, .string v2, .bool gn2, .int .i64 l2] from hq1)
      have HF7 := Lib.hid ((HF.out.below HB06.out).keepsX hq2 hgx hbx)
      have HWB7 := Lib.hid ((HWB.out.below HB06.out hwl).keeps hq2 (by omega))
      have HBX7 := Lib.hid (below_keeps (HBX.out.trans (HB06.out.mono (by omega))) (Nat.le_refl _) hq2 (fun i hi e => by omega))
      have f0 := HF7.out.blk.cell 0
      have fl := HF7.out.blk.lt
      simp at f0
      have hb7 : b < w7.heap.size := by have := HBX7.out.size; omega
      have g2 := (hq2.cell _ (Nat.lt_of_lt_of_le hbb HB06.out.size) hbx).trans ((HB06.out.cell (p := ⟨b, off + k9 * 7 + 2, none⟩) hbb).trans e2)
      have g3 := (hq2.cell _ (Nat.lt_of_lt_of_le hbb HB06.out.size) hbx).trans ((HB06.out.cell (p := ⟨b, off + k9 * 7 + 3, none⟩) hbb).trans e3)
      have g4 := (hq2.cell _ (Nat.lt_of_lt_of_le hbb HB06.out.size) hbx).trans ((HB06.out.cell (p := ⟨b, off + k9 * 7 + 4, none⟩) hbb).trans e4)
      have g5 := (hq2.cell _ (Nat.lt_of_lt_of_le hbb HB06.out.size) hbx).trans ((HB06.out.cell (p := ⟨b, off + k9 * 7 + 5, none⟩) hbb).trans e5)
      have g6 := (hq2.cell _ (Nat.lt_of_lt_of_le hbb HB06.out.size) hbx).trans ((HB06.out.cell (p := ⟨b, off + k9 * 7 + 6, none⟩) hbb).trans e6)
      obtain ⟨v0, v1, v2c, v3, v4⟩ := Blk.cells5 HCB7.out
      have ll := HCB7.out.lt
      clear hq1 hq2 hq3 HB06 HB6 HCB6 HF HWB HCB HBX q0 ql e2 e3 e4 e5 e6 n0 n1 n2 n3 n4 nl
      have heq := eql_rcell ⟨t2, r2, v2, gn2, l2⟩ ⟨t2, r2, v2, gn2, l2⟩
      rw [cellEq_self] at heq
      have HEQ := Lib.hid heq
      clear heq
      go_wp2_with fail
      refine wp_region_mono nobody (by kernel_rfl) ?_
      -- 0 Op.load 33 (Operand.tmp 5)
      refine wpMono_take' 0 (v := ?_) rfl (by kernel_rfl) (by kernel_rfl) (by kernel_rfl) (fun _ _ _ h => h) (by rfl) ?_ ?_
      rotate_left
      · (intro W hSw; have hcW := hSw.cells; try simp only [World.size_drew, World.cell?_drew] at hcW
         go_simp; first | done | rfl)
      try simp only [Act.put, List.setIfInBounds_toArray, List.set_cons_zero, List.set_cons_succ]
      -- 1 Op.move (Operand.tmp 0)
      refine wpMono_take' 1 (v := ?_) rfl (by kernel_rfl) (by kernel_rfl) (by kernel_rfl) (fun _ _ _ h => h) (by rfl) ?_ ?_
      rotate_left
      · (intro W hSw; have hcW := hSw.cells; try simp only [World.size_drew, World.cell?_drew] at hcW
         go_simp; first | done | rfl)
      try simp only [Act.put, List.setIfInBounds_toArray, List.set_cons_zero, List.set_cons_succ]
      -- 2 Op.nilCheck (Operand.tmp 40)
      refine wpMono_take' 2 (v := ?_) rfl (by kernel_rfl) (by kernel_rfl) (by kernel_rfl) (fun _ _ _ h => h) (by rfl) ?_ ?_
      rotate_left
      · (intro W hSw; have hcW := hSw.cells; try simp only [World.size_drew, World.cell?_drew] at hcW
         go_simp; first | done | rfl)
      try simp only [Act.put, List.setIfInBounds_toArray, List.set_cons_zero, List.set_cons_succ]
      -- 3 Op.fieldAddr 50 (Operand.tmp 41) 0
      refine wpMono_take' 3 (v := ?_) rfl (by kernel_rfl) (by kernel_rfl) (by kernel_rfl) (fun _ _ _ h => h) (by rfl) ?_ ?_
      rotate_left
      · (intro W hSw; have hcW := hSw.cells; try simp only [World.size_drew, World.cell?_drew] at hcW
         go_simp; first | done | rfl)
      try simp only [Act.put, List.setIfInBounds_toArray, List.set_cons_zero, List.set_cons_succ]
      -- 4 Op.load 22 (Operand.tmp 42)
      refine wpMono_take' 4 (v := ?_) rfl (by kernel_rfl) (by kernel_rfl) (by kernel_rfl) (fun _ _ _ h => h) (by rfl) ?_ ?_
      rotate_left
      · (intro W hSw; have hcW := hSw.cells; try simp only [World.size_drew, World.cell?_drew] at hcW
         go_simp; first | done | rfl)
      try simp only [Act.put, List.setIfInBounds_toArray, List.set_cons_zero, List.set_cons_succ]
      -- 5 Op.move (Operand.tmp 6)
      refine wpMono_take' 5 (v := ?_) rfl (by kernel_rfl) (by kernel_rfl) (by kernel_rfl) (fun _ _ _ h => h) (by rfl) ?_ ?_
      rotate_left
      · (intro W hSw; have hcW := hSw.cells; try simp only [World.size_drew, World.cell?_drew] at hcW
         go_simp; first | done | rfl)
      try simp only [Act.put, List.setIfInBounds_toArray, List.set_cons_zero, List.set_cons_succ]
      -- 6 Op.indexAddr 22 (Operand.tmp 43) (Operand.tmp 44)
      refine wpMono_take' 6 (v := ?_) rfl (by kernel_rfl) (by kernel_rfl) (by kernel_rfl) (fun _ _ _ h => h) (by rfl) ?_ ?_
      rotate_left
      · (intro W hSw; have hcW := hSw.cells; try simp only [World.size_drew, World.cell?_drew] at hcW
         go_simp; first | done | rfl)
      try simp only [Act.put, List.setIfInBounds_toArray, List.set_cons_zero, List.set_cons_succ]
      -- 7 Op.fieldAddr 35 (Operand.tmp 45) 2
      refine wpMono_take' 7 (v := ?_) rfl (by kernel_rfl) (by kernel_rfl) (by kernel_rfl) (fun _ _ _ h => h) (by rfl) ?_ ?_
      rotate_left
      · (intro W hSw; have hcW := hSw.cells; try simp only [World.size_drew, World.cell?_drew] at hcW
         go_simp; first | done | rfl)
      try simp only [Act.put, List.setIfInBounds_toArray, List.set_cons_zero, List.set_cons_succ]
      -- 8 Op.load 33 (Operand.tmp 46)
      refine wpMono_take' 8 (v := ?_) rfl (by kernel_rfl) (by kernel_rfl) (by kernel_rfl) (fun _ _ _ h => h) (by rfl) ?_ ?_
      rotate_left
      · (intro W hSw; have hcW := hSw.cells; try simp only [World.size_drew, World.cell?_drew] at hcW
         go_simp; first | done | rfl)
      try simp only [Act.put, List.setIfInBounds_toArray, List.set_cons_zero, List.set_cons_succ]
      -- 9 Op.binOp BinOp.eql 33 (Operand.tmp 39) (Operand.tmp 47) 33
      refine wpMono_take' 9 (v := ?_) rfl (by kernel_rfl) (by kernel_rfl) (by kernel_rfl) (fun _ _ _ h => h) (by rfl) ?_ ?_
      rotate_left
      · (intro W hSw; first | ((refine exec_eql 33 33 (.tmp 39) (.tmp 47) ?_ _ _ ?_ ?_ ?_ _ (HEQ.out W); rfl; rfl; rfl; kernel_rfl)) | (have hcW := hSw.cells; try simp only [World.size_drew, World.cell?_drew] at hcW; go_simp; done) | (have hcW := hSw.cells; try simp only [World.size_drew, World.cell?_drew] at hcW; go_simp; rfl))
      try simp only [Act.put, List.setIfInBounds_toArray, List.set_cons_zero, List.set_cons_succ]
      refine wpMono_done (by kernel_rfl) ?_ _
      have HR := Lib.hid (show ApplyF g L (ss, ky) ⟨t, r, v, gn, l⟩ w (.returned (.bool false)) w7.drew from ⟨by rw [HNEW.out], ⟨_, _, by rw [HTAK.out]; exact HF7.out.below (Below.refl _ _).drew⟩, (Keeps.of_below HBX7.out).trans .drew⟩)
      go_wp2
      go_ret
      exact HR.out
  · have hgo := at_no hno
    have HAT := Lib.hid (show AtOk L (ss, ky) (-1) from .inr ⟨hno, rfl⟩)
    clear hno
    have HNEW := Lib.hid (show newC (getL L (ss, ky)) ⟨t, r, v, gn, l⟩ = true by rw [hgo]; rfl)
    have HTAK := Lib.hid (show takeC (getL L (ss, ky)) ⟨t, r, v, gn, l⟩ = ⟨t, r, v, gn, l⟩ by rw [hgo]; rfl)
    clear hgo
    generalize (w.alloc (.cells (wcells rg nm t r A n c ss ky v gn l) 28)).alloc (.cells #[.int .i64 t, .int .i64 r, .string v, .bool gn, .int .i64 l] 33) = V0 at *
    -- what is known: V0, the write's block, the cell's block, g's rows
    obtain ⟨i0, hi0, hz0, hz1, hz2⟩ := info_parts ref_info
    have Hi0 := Lib.hid hi0
    have Hz0 := Lib.hid hz0
    have Hz1 := Lib.hid hz1
    have Hz2 := Lib.hid hz2
    have hwl1 := HWB.out.lt
    have hwl2 := HCB.out.lt
    have hgl2 := HF.out.blk.lt
    clear hi0 hz0 hz1 hz2
    have hO7 := ownsRow_new0 V0 refT 7 #[] (n := 0)
    have hb7 := below_new V0 (.cells #[] refT)
    have hxb := Blk.newAt (V0.alloc (.cells #[] refT)) refT #[.string ss, .string ky, .int .i64 t, .int .i64 r, .string v, .bool gn, .int .i64 l] (g := V0.heap.size + 1) (by simp)
    have hb9 := below_alloc hb7 (.cells #[.string ss, .string ky, .int .i64 t, .int .i64 r, .string v, .bool gn, .int .i64 l] refT)
    have hO9 := hO7.alloc (.cells #[.string ss, .string ky, .int .i64 t, .int .i64 r, .string v, .bool gn, .int .i64 l] refT)
    have k5 := (HWB.out.below hb7 hwl1).cell 5
    have k6 := (HWB.out.below hb7 hwl1).cell 6
    have kl := (HWB.out.below hb7 hwl1).lt
    obtain ⟨n0, n1, n2, n3, n4⟩ := Blk.cells5 (HCB.out.below hb7 hwl2)
    have nl := (HCB.out.below hb7 hwl2).lt
    simp at k5 k6
    have q0 := (HF.out.below hb7).blk.cell 0
    have ql := (HF.out.below hb7).blk.lt
    simp at q0
    have HO9 := Lib.hid hO9
    have HX9 := Lib.hid hxb
    have HB9 := Lib.hid hb9
    clear hO7 hb7 hxb hb9 hO9
    go_wp2
    clear q0 ql k5 k6 kl n0 n1 n2 n3 n4 nl
    go_loopw [7, 8, 10] (fun so sd si wr => ∃ k : Nat, k ≤ L.length ∧ si = .int .i64 k ∧ sd = .bool (doneB (L.take k) (ss, ky)) ∧ wr.ownsRow V0.heap.size refT 7 so (outL (L.take k) (ss, ky) ⟨t, r, v, gn, l⟩).length ((outL (L.take k) (ss, ky) ⟨t, r, v, gn, l⟩).flatMap rcells) ∧ so.ownBlock ≠ some (V0.heap.size + 1) ∧ Blk wr (V0.heap.size + 1) refT #[.string ss, .string ky, .int .i64 t, .int .i64 r, .string v, .bool gn, .int .i64 l] ∧ Below V0.heap.size V0 wr) (fun _ _ si _ => L.length - (intOf si).toNat)
    case atStart => exact ⟨0, by omega, rfl, rfl, by exact HO9.out, by simp [Value.ownBlock], HX9.out, HB9.out⟩
    case round =>
      clear HO9 HX9 HB9
      obtain ⟨k, hk, rfl, rfl, j1, j2, j3, j4⟩ := hrel
      have hol := out_len (L.take k) (ss, ky) ⟨t, r, v, gn, l⟩
      have htl := List.length_take_le k L
      obtain ⟨Ao, co, rfl⟩ := ownsRow_slice j1
      have J1 := Lib.hid j1
      have J2 := Lib.hid j2
      have J3 := Lib.hid j3
      have J4 := Lib.hid j4
      have hwb := j3.lt
      clear j1 j2 j3 j4
      by_cases hlt : k < L.length
      · obtain ⟨b, off, hAA, hbb⟩ := HF.out.rd.at_some (by omega)
        first | subst hAA | (injection hAA with hAA; injection hAA with hA1 hA2 hA3; subst hA1 hA2)
        have HTK := Lib.hid (take_snocR hlt)
        obtain ⟨y, hy⟩ : ∃ y, L.getD k rZ = y := ⟨_, rfl⟩
        have HY := Lib.hid hy
        obtain ⟨⟨y1, y2⟩, ⟨t2, r2, v2, gn2, l2⟩⟩ := y
        clear hy
        have hF := HF.out.below J4.out
        have q0 := hF.blk.cell 0
        have ql := hF.blk.lt
        simp at q0
        have hcy := row_at' hF.rd rfl hlt
        have hszb := Below.size J4.out
        have hbl : b < wr.heap.size := by omega
        rw [HY.out] at hcy
        obtain ⟨e0, e1, e2, e3, e4, e5, e6⟩ := seven_of hcy
        dsimp only at e0 e1 e2 e3 e4 e5 e6
        clear hcy hF hszb
        obtain ⟨d0, d1, d2, d3, d4, d5, d6⟩ := cells7 J3.out
        by_cases heq : (k : Int) = (-1)
        · obtain ⟨hyx, hnd⟩ := HAT.out.yes HRI.out hlt heq
          rw [hnd]
          have HE := Lib.hid (out_eq (T := L.take k) (c := ⟨t, r, v, gn, l⟩) (L.getD k rZ) hnd hyx)
          have hbe : ((k : Int) == (-1)) = true := by rw [beq_iff_eq]; exact heq
          clear heq hyx hnd e0 e1 e2 e3 e4 e5 e6
          go_wp2_with (at_builtin; refine wpList_append_new rfl (.tmp 68) (.tmp 70) _ rfl V0.heap.size refT i0 _ 7 80 Tryd.underlying22 Hi0.out Hz0.out Hz1.out Hz2.out rfl (by decide) _ _ _ rfl J1.out 1 1 [.string ss, .string ky, .int .i64 t, .int .i64 r, .string v, .bool gn, .int .i64 l] rfl rfl (by simp [Value.oneCell']) (by unfold maxLen; omega) (by omega) (by omega) ?_; intro v1 w5 hown1 hbw1 hgr1 hwh1; obtain ⟨A5, c5, rfl⟩ := ownsRow_slice hown1; have HA5 := Lib.hid hown1; have HG5 := Lib.hid hgr1; have HH5 := Lib.hid hwh1; have HW5 := Lib.hid hbw1; clear hown1 hbw1 hgr1 hwh1)
          have HNE5 := Lib.hid (show (Value.slice A5 _ c5).ownBlock ≠ some (V0.heap.size + 1) from by
            rcases HH5.out with e | ⟨gq, e, hq⟩
            · rw [e]; exact J2.out
            · rw [e]; intro e2; injection e2 with e2; omega)
          have HX5 := Lib.hid (J3.out.grown HG5.out (Ne.symm J2.out))
          have HB5 := Lib.hid (J4.out.trans HW5.out)
          have hz5 := HW5.out.size
          clear hbe
          go_roundw
          case rel => exact ⟨k + 1, by omega, by go_num, by rw [HTK.out, HE.out.2], by rw [HTK.out, HE.out.1]; simpa [rcells, List.flatMap_append] using HA5.out, HNE5.out, HX5.out, HB5.out⟩
          case measure => simp [intOf]; omega
        · have hyx := HAT.out.no HRI.out hlt heq
          rw [HY.out] at hyx
          dsimp only at hyx
          have hbe : ((k : Int) == (-1)) = false := by rw [beq_eq_false_iff_ne]; exact heq
          have hHF := HF.out.below J4.out
          have hcy := row_at' hHF.rd rfl hlt
          rw [HY.out] at hcy
          have HCY := Lib.hid hcy
          clear heq hcy hHF
          cases hdn : doneB (L.take k) (ss, ky) with
          | true =>
            have HE := Lib.hid (out_done (c := ⟨t, r, v, gn, l⟩) (L.getD k rZ) hdn)
            have HB4d := Lib.hid J4.out.drew
            have HO4d := Lib.hid J1.out.drew
            have HX4d := Lib.hid J3.out.drew
            clear hyx hdn
            go_wp2_with fail
            refine wp_region_mono nobody (by kernel_rfl) ?_
            -- 0 Op.move (Operand.tmp 8)
            refine wpMono_take' 0 (v := ?_) rfl (by kernel_rfl) (by kernel_rfl) (by kernel_rfl) (fun _ _ _ h => h) (by rfl) ?_ ?_
            rotate_left
            · (intro W hSw; skip
               go_simp; first | done | rfl)
            try simp only [Act.put, List.setIfInBounds_toArray, List.set_cons_zero, List.set_cons_succ]
            -- 1 Op.unOp UnOp.not 4 (Operand.tmp 72)
            refine wpMono_take' 1 (v := ?_) rfl (by kernel_rfl) (by kernel_rfl) (by kernel_rfl) (fun _ _ _ h => h) (by rfl) ?_ ?_
            rotate_left
            · (intro W hSw; skip
               go_simp; first | done | rfl)
            try simp only [Act.put, List.setIfInBounds_toArray, List.set_cons_zero, List.set_cons_succ]
            -- 2 Op.move (Operand.tmp 73)
            refine wpMono_take' 2 (v := ?_) rfl (by kernel_rfl) (by kernel_rfl) (by kernel_rfl) (fun _ _ _ h => h) (by rfl) ?_ ?_
            rotate_left
            · (intro W hSw; skip
               go_simp; first | done | rfl)
            try simp only [Act.put, List.setIfInBounds_toArray, List.set_cons_zero, List.set_cons_succ]
            -- 3 Op.load 35 (Operand.tmp 9)
            refine wpMono_skip' 3 rfl (by kernel_rfl) (by kernel_rfl) (by kernel_rfl) (fun _ _ _ h => h) (by rfl) ?_
            try simp only [Act.put, List.setIfInBounds_toArray, List.set_cons_zero, List.set_cons_succ]
            -- 4 Op.move (Operand.tmp 0)
            refine wpMono_skip' 4 rfl (by kernel_rfl) (by kernel_rfl) (by kernel_rfl) (fun _ _ _ h => h) (by rfl) ?_
            try simp only [Act.put, List.setIfInBounds_toArray, List.set_cons_zero, List.set_cons_succ]
            -- 5 Op.nilCheck (Operand.tmp 76)
            refine wpMono_skip' 5 rfl (by kernel_rfl) (by kernel_rfl) (by kernel_rfl) (fun _ _ _ h => h) (by rfl) ?_
            try simp only [Act.put, List.setIfInBounds_toArray, List.set_cons_zero, List.set_cons_succ]
            -- 6 Op.fieldAddr 50 (Operand.tmp 77) 0
            refine wpMono_skip' 6 rfl (by kernel_rfl) (by kernel_rfl) (by kernel_rfl) (fun _ _ _ h => h) (by rfl) ?_
            try simp only [Act.put, List.setIfInBounds_toArray, List.set_cons_zero, List.set_cons_succ]
            -- 7 Op.load 22 (Operand.tmp 78)
            refine wpMono_skip' 7 rfl (by kernel_rfl) (by kernel_rfl) (by kernel_rfl) (fun _ _ _ h => h) (by rfl) ?_
            try simp only [Act.put, List.setIfInBounds_toArray, List.set_cons_zero, List.set_cons_succ]
            -- 8 Op.move (Operand.tmp 10)
            refine wpMono_skip' 8 rfl (by kernel_rfl) (by kernel_rfl) (by kernel_rfl) (fun _ _ _ h => h) (by rfl) ?_
            try simp only [Act.put, List.setIfInBounds_toArray, List.set_cons_zero, List.set_cons_succ]
            -- 9 Op.indexAddr 22 (Operand.tmp 79) (Operand.tmp 80)
            refine wpMono_skip' 9 rfl (by kernel_rfl) (by kernel_rfl) (by kernel_rfl) (fun _ _ _ h => h) (by rfl) ?_
            try simp only [Act.put, List.setIfInBounds_toArray, List.set_cons_zero, List.set_cons_succ]
            -- 10 Op.load 35 (Operand.tmp 81)
            refine wpMono_skip' 10 rfl (by kernel_rfl) (by kernel_rfl) (by kernel_rfl) (fun _ _ _ h => h) (by rfl) ?_
            try simp only [Act.put, List.setIfInBounds_toArray, List.set_cons_zero, List.set_cons_succ]
            -- 11 Op.call { callee := Callee.value (Operand.func 19), args := #[Operand.tmp 75, Operand.tmp 
            refine wpMono_skip' 11 rfl (by kernel_rfl) (by kernel_rfl) (by kernel_rfl) (fun _ _ _ h => h) (by rfl) ?_
            try simp only [Act.put, List.setIfInBounds_toArray, List.set_cons_zero, List.set_cons_succ]
            -- 12 Op.pick (Operand.tmp 74) (Operand.tmp 83) (Operand.const (Value.bool false))
            refine wpMono_take' 12 (v := ?_) rfl (by kernel_rfl) (by kernel_rfl) (by kernel_rfl) (fun _ _ _ h => h) (by rfl) ?_ ?_
            rotate_left
            · (intro W hSw; skip
               go_simp; first | done | rfl)
            try simp only [Act.put, List.setIfInBounds_toArray, List.set_cons_zero, List.set_cons_succ]
            refine wpMono_done (by kernel_rfl) ?_ _
            clear hbe q0 ql hbl e0 e1 e2 e3 e4 e5 e6 d0 d1 d2 d3 d4 d5 d6
            have hwd : V0.heap.size + 1 < wr.drew.heap.size := hwb
            generalize wr.drew = w4 at *
            have hF := HF.out.below HB4d.out
            have q0 := hF.blk.cell 0
            have ql := hF.blk.lt
            simp at q0
            have hcy := row_at' hF.rd rfl hlt
            have hszb := Below.size HB4d.out
            have hbl : b < w4.heap.size := by omega
            rw [HY.out] at hcy
            obtain ⟨e0, e1, e2, e3, e4, e5, e6⟩ := seven_of hcy
            dsimp only at e0 e1 e2 e3 e4 e5 e6
            clear hcy hF hszb
            go_wp2_with (at_builtin; refine wpList_append_new rfl (.tmp 89) (.tmp 97) _ rfl V0.heap.size refT i0 _ 7 80 Tryd.underlying22 Hi0.out Hz0.out Hz1.out Hz2.out rfl (by decide) _ _ _ rfl HO4d.out 1 1 [.string y1, .string y2, .int .i64 t2, .int .i64 r2, .string v2, .bool gn2, .int .i64 l2] rfl rfl (by simp [Value.oneCell']) (by unfold maxLen; omega) (by omega) (by omega) ?_; intro v1 w5 hown1 hbw1 hgr1 hwh1; obtain ⟨A5, c5, rfl⟩ := ownsRow_slice hown1; have HA5 := Lib.hid hown1; have HG5 := Lib.hid hgr1; have HH5 := Lib.hid hwh1; have HW5 := Lib.hid hbw1; clear hown1 hbw1 hgr1 hwh1)
            have HNE5 := Lib.hid (show (Value.slice A5 _ c5).ownBlock ≠ some (V0.heap.size + 1) from by
              rcases HH5.out with e | ⟨gq, e, hq⟩
              · rw [e]; exact J2.out
              · rw [e]; intro e2; injection e2 with e2; omega)
            have HX5 := Lib.hid (HX4d.out.grown HG5.out (Ne.symm J2.out))
            have HB5 := Lib.hid (HB4d.out.trans HW5.out)
            have hz5 := HW5.out.size
            go_roundw
            case rel => exact ⟨k + 1, by omega, by go_num, by rw [HTK.out, HE.out.2], by rw [HTK.out, HE.out.1, HY.out]; simpa [rcells, List.flatMap_append] using HA5.out, HNE5.out, HX5.out, HB5.out⟩
            case measure => simp [intOf]; omega
          | false =>
            have hwk : IntKind.i64.wrap (k : Int) = (k : Int) := IntWalk.i64_in _ (by omega)
            have hk0 : (k : Int) < (L.length : Int) := by omega
            have HDN := Lib.hid hdn
            have HYX := Lib.hid hyx
            clear hdn hyx
            go_wp2_with fail
            refine wp_region_mono nobody (by kernel_rfl) ?_
            -- 0 Op.move (Operand.tmp 8)
            refine wpMono_take' 0 (v := ?_) rfl (by kernel_rfl) (by kernel_rfl) (by kernel_rfl) (fun _ _ _ h => h) (by rfl) ?_ ?_
            rotate_left
            · (intro W hSw; (try have q0W := (hSw.cells g 0 (by simpa using ql)).trans q0); (try have glW : g < V0.heap.size := hgl2)
               go_simp; first | done | rfl)
            try simp only [Act.put, List.setIfInBounds_toArray, List.set_cons_zero, List.set_cons_succ]
            -- 1 Op.unOp UnOp.not 4 (Operand.tmp 72)
            refine wpMono_take' 1 (v := ?_) rfl (by kernel_rfl) (by kernel_rfl) (by kernel_rfl) (fun _ _ _ h => h) (by rfl) ?_ ?_
            rotate_left
            · (intro W hSw; (try have q0W := (hSw.cells g 0 (by simpa using ql)).trans q0); (try have glW : g < V0.heap.size := hgl2)
               go_simp; first | done | rfl)
            try simp only [Act.put, List.setIfInBounds_toArray, List.set_cons_zero, List.set_cons_succ]
            -- 2 Op.move (Operand.tmp 73)
            refine wpMono_take' 2 (v := ?_) rfl (by kernel_rfl) (by kernel_rfl) (by kernel_rfl) (fun _ _ _ h => h) (by rfl) ?_ ?_
            rotate_left
            · (intro W hSw; (try have q0W := (hSw.cells g 0 (by simpa using ql)).trans q0); (try have glW : g < V0.heap.size := hgl2)
               go_simp; first | done | rfl)
            try simp only [Act.put, List.setIfInBounds_toArray, List.set_cons_zero, List.set_cons_succ]
            -- 3 Op.load 35 (Operand.tmp 9)
            refine wpMono_take' 3 (v := ?_) rfl (by kernel_rfl) (by kernel_rfl) (by kernel_rfl) (fun _ _ _ h => h) (by rfl) ?_ ?_
            rotate_left
            · (intro W hSw; first | (((first | (refine exec_load refT (.tmp 9) ?_ (V0.heap.size + 1) 0 (rcells ((ss, ky), ⟨t, r, v, gn, l⟩)) ?_ Tryd.underlying35 rfl (by rw [rlen]; kernel_rfl) (fun q u hq => by rw [Nat.zero_add, (J3.out.drew.keeps hSw (fun h => h)).cell q]; simpa [rcells] using hq) <;> rfl) | (refine exec_load refT (.tmp 81) ?_ b (off + k * 7) (rcells ((y1, y2), ⟨t2, r2, v2, gn2, l2⟩)) ?_ Tryd.underlying35 rfl (by rw [rlen]; kernel_rfl) (fun q u hq => (hSw.cells b _ (by simpa using hbl)).trans (HCY.out q u hq)) <;> rfl)))) | ((try have q0W := (hSw.cells g 0 (by simpa using ql)).trans q0); (try have glW : g < V0.heap.size := hgl2); go_simp; done) | ((try have q0W := (hSw.cells g 0 (by simpa using ql)).trans q0); (try have glW : g < V0.heap.size := hgl2); go_simp; rfl))
            try simp only [Act.put, List.setIfInBounds_toArray, List.set_cons_zero, List.set_cons_succ]
            -- 4 Op.move (Operand.tmp 0)
            refine wpMono_take' 4 (v := ?_) rfl (by kernel_rfl) (by kernel_rfl) (by kernel_rfl) (fun _ _ _ h => h) (by rfl) ?_ ?_
            rotate_left
            · (intro W hSw; (try have q0W := (hSw.cells g 0 (by simpa using ql)).trans q0); (try have glW : g < V0.heap.size := hgl2)
               go_simp; first | done | rfl)
            try simp only [Act.put, List.setIfInBounds_toArray, List.set_cons_zero, List.set_cons_succ]
            -- 5 Op.nilCheck (Operand.tmp 76)
            refine wpMono_take' 5 (v := ?_) rfl (by kernel_rfl) (by kernel_rfl) (by kernel_rfl) (fun _ _ _ h => h) (by rfl) ?_ ?_
            rotate_left
            · (intro W hSw; (try have q0W := (hSw.cells g 0 (by simpa using ql)).trans q0); (try have glW : g < V0.heap.size := hgl2)
               go_simp; first | done | rfl)
            try simp only [Act.put, List.setIfInBounds_toArray, List.set_cons_zero, List.set_cons_succ]
            -- 6 Op.fieldAddr 50 (Operand.tmp 77) 0
            refine wpMono_take' 6 (v := ?_) rfl (by kernel_rfl) (by kernel_rfl) (by kernel_rfl) (fun _ _ _ h => h) (by rfl) ?_ ?_
            rotate_left
            · (intro W hSw; (try have q0W := (hSw.cells g 0 (by simpa using ql)).trans q0); (try have glW : g < V0.heap.size := hgl2)
               go_simp; first | done | rfl)
            try simp only [Act.put, List.setIfInBounds_toArray, List.set_cons_zero, List.set_cons_succ]
            -- 7 Op.load 22 (Operand.tmp 78)
            refine wpMono_take' 7 (v := ?_) rfl (by kernel_rfl) (by kernel_rfl) (by kernel_rfl) (fun _ _ _ h => h) (by rfl) ?_ ?_
            rotate_left
            · (intro W hSw; first | (((first | (refine exec_load refT (.tmp 9) ?_ (V0.heap.size + 1) 0 (rcells ((ss, ky), ⟨t, r, v, gn, l⟩)) ?_ Tryd.underlying35 rfl (by rw [rlen]; kernel_rfl) (fun q u hq => by rw [Nat.zero_add, (J3.out.drew.keeps hSw (fun h => h)).cell q]; simpa [rcells] using hq) <;> rfl) | (refine exec_load refT (.tmp 81) ?_ b (off + k * 7) (rcells ((y1, y2), ⟨t2, r2, v2, gn2, l2⟩)) ?_ Tryd.underlying35 rfl (by rw [rlen]; kernel_rfl) (fun q u hq => (hSw.cells b _ (by simpa using hbl)).trans (HCY.out q u hq)) <;> rfl)))) | ((try have q0W := (hSw.cells g 0 (by simpa using ql)).trans q0); (try have glW : g < V0.heap.size := hgl2); go_simp; done) | ((try have q0W := (hSw.cells g 0 (by simpa using ql)).trans q0); (try have glW : g < V0.heap.size := hgl2); go_simp; rfl))
            try simp only [Act.put, List.setIfInBounds_toArray, List.set_cons_zero, List.set_cons_succ]
            -- 8 Op.move (Operand.tmp 10)
            refine wpMono_take' 8 (v := ?_) rfl (by kernel_rfl) (by kernel_rfl) (by kernel_rfl) (fun _ _ _ h => h) (by rfl) ?_ ?_
            rotate_left
            · (intro W hSw; (try have q0W := (hSw.cells g 0 (by simpa using ql)).trans q0); (try have glW : g < V0.heap.size := hgl2)
               go_simp; first | done | rfl)
            try simp only [Act.put, List.setIfInBounds_toArray, List.set_cons_zero, List.set_cons_succ]
            -- 9 Op.indexAddr 22 (Operand.tmp 79) (Operand.tmp 80)
            refine wpMono_take' 9 (v := ?_) rfl (by kernel_rfl) (by kernel_rfl) (by kernel_rfl) (fun _ _ _ h => h) (by rfl) ?_ ?_
            rotate_left
            · (intro W hSw; (try have q0W := (hSw.cells g 0 (by simpa using ql)).trans q0); (try have glW : g < V0.heap.size := hgl2)
               go_simp; first | done | rfl)
            try simp only [Act.put, List.setIfInBounds_toArray, List.set_cons_zero, List.set_cons_succ]
            -- 10 Op.load 35 (Operand.tmp 81)
            refine wpMono_take' 10 (v := ?_) rfl (by kernel_rfl) (by kernel_rfl) (by kernel_rfl) (fun _ _ _ h => h) (by rfl) ?_ ?_
            rotate_left
            · (intro W hSw; first | (((first | (refine exec_load refT (.tmp 9) ?_ (V0.heap.size + 1) 0 (rcells ((ss, ky), ⟨t, r, v, gn, l⟩)) ?_ Tryd.underlying35 rfl (by rw [rlen]; kernel_rfl) (fun q u hq => by rw [Nat.zero_add, (J3.out.drew.keeps hSw (fun h => h)).cell q]; simpa [rcells] using hq) <;> rfl) | (refine exec_load refT (.tmp 81) ?_ b (off + k * 7) (rcells ((y1, y2), ⟨t2, r2, v2, gn2, l2⟩)) ?_ Tryd.underlying35 rfl (by rw [rlen]; kernel_rfl) (fun q u hq => (hSw.cells b _ (by simpa using hbl)).trans (HCY.out q u hq)) <;> rfl)))) | ((try have q0W := (hSw.cells g 0 (by simpa using ql)).trans q0); (try have glW : g < V0.heap.size := hgl2); go_simp; done) | ((try have q0W := (hSw.cells g 0 (by simpa using ql)).trans q0); (try have glW : g < V0.heap.size := hgl2); go_simp; rfl))
            try simp only [Act.put, List.setIfInBounds_toArray, List.set_cons_zero, List.set_cons_succ]
            -- EFFECT 11 Op.call { callee := Callee.value (Operand.func 19), args := #[Operand.tmp 75, Operand.tmp 82], argTypes := #[35, 35] }
            refine wpMono_one' 11 (by kernel_rfl) rfl (by rfl) (fun K hK => ?_)
            go_simp
            refine (below_ref ((ss, ky), ⟨t, r, v, gn, l⟩) ((y1, y2), ⟨t2, r2, v2, gn2, l2⟩) _).mono ?_
            rintro e w5 ⟨rfl, hb5⟩
            have HB5 := Lib.hid hb5
            clear hb5
            refine hK.out _ _ ?_ ?_
            · exact .of_below HB5.out
            clear hK K
            -- 12 Op.pick (Operand.tmp 74) (Operand.tmp 83) (Operand.const (Value.bool false))
            refine wpMono_take' 12 (v := ?_) rfl (by kernel_rfl) (by kernel_rfl) (by kernel_rfl) (fun _ _ _ h => h) (by rfl) ?_ ?_
            rotate_left
            · (intro W hSw; (try have q0W := (hSw.cells g 0 (by simpa using ql)).trans q0); (try have glW : g < V0.heap.size := hgl2)
               go_simp; first | done | rfl)
            try simp only [Act.put, List.setIfInBounds_toArray, List.set_cons_zero, List.set_cons_succ]
            refine wpMono_done (by kernel_rfl) ?_ _
            have hwb5 : V0.heap.size + 1 < w5.heap.size := Nat.lt_of_lt_of_le hwb (by have := HB5.out.size; simpa using this)
            have hb5w := below_ofDrew HB5.out
            have HB6 := Lib.hid (J4.out.trans (hb5w.mono (by omega)))
            have HO6 := Lib.hid (own_below J1.out hb5w)
            have HX6 := Lib.hid (J3.out.below hb5w hwb)
            clear hwk hk0 hbe q0 ql hbl e0 e1 e2 e3 e4 e5 e6 d0 d1 d2 d3 d4 d5 d6 hb5w
            have hF := HF.out.below HB6.out
            have q0 := hF.blk.cell 0
            have ql := hF.blk.lt
            simp at q0
            have hcy := row_at' hF.rd rfl hlt
            have hszb := Below.size HB6.out
            have hbl : b < w5.heap.size := by omega
            rw [HY.out] at hcy
            obtain ⟨e0, e1, e2, e3, e4, e5, e6⟩ := seven_of hcy
            dsimp only at e0 e1 e2 e3 e4 e5 e6
            clear hcy hF hszb
            obtain ⟨d0, d1, d2, d3, d4, d5, d6⟩ := cells7 HX6.out
            cases hlt2 : ltN (ss, ky) (y1, y2) with
            | true =>
              have HE := Lib.hid (out_gt (c := ⟨t, r, v, gn, l⟩) (L.getD k rZ) HDN.out (by rw [HY.out]; exact hlt2))
              clear hlt2
              go_upto_region 19 with (at_builtin; refine wpList_append_new rfl (.tmp 85) (.tmp 87) _ rfl V0.heap.size refT i0 _ 7 80 Tryd.underlying22 Hi0.out Hz0.out Hz1.out Hz2.out rfl (by decide) _ _ _ rfl HO6.out 1 1 [.string ss, .string ky, .int .i64 t, .int .i64 r, .string v, .bool gn, .int .i64 l] rfl rfl (by simp [Value.oneCell']) (by unfold maxLen; omega) (by omega) (by omega) ?_; intro v1 w6 hown1 hbw1 hgr1 hwh1; obtain ⟨A6, c6, rfl⟩ := ownsRow_slice hown1; have HA6 := Lib.hid hown1; have HG6 := Lib.hid hgr1; have HH6 := Lib.hid hwh1; have HW6 := Lib.hid hbw1; clear hown1 hbw1 hgr1 hwh1)
              have HNE6 := Lib.hid (show (Value.slice A6 _ c6).ownBlock ≠ some (V0.heap.size + 1) from by
                rcases HH6.out with e | ⟨gq, e, hq⟩
                · rw [e]; exact J2.out
                · rw [e]; intro e2; injection e2 with e2; omega)
              have HX6 := Lib.hid (HX6.out.grown HG6.out (Ne.symm J2.out))
              have HB6 := Lib.hid (HB6.out.trans HW6.out)
              have hz6 := HW6.out.size
              clear q0 ql hbl e0 e1 e2 e3 e4 e5 e6 d0 d1 d2 d3 d4 d5 d6
              have hF := HF.out.below HB6.out
              have q0 := hF.blk.cell 0
              have ql := hF.blk.lt
              simp at q0
              have hcy := row_at' hF.rd rfl hlt
              have hszb := Below.size HB6.out
              have hbl : b < w6.heap.size := by omega
              rw [HY.out] at hcy
              obtain ⟨e0, e1, e2, e3, e4, e5, e6⟩ := seven_of hcy
              dsimp only at e0 e1 e2 e3 e4 e5 e6
              clear hcy hF hszb
              go_wp2_with (at_builtin; refine wpList_append_new rfl (.tmp 89) (.tmp 97) _ rfl V0.heap.size refT i0 _ 7 80 Tryd.underlying22 Hi0.out Hz0.out Hz1.out Hz2.out rfl (by decide) _ _ _ rfl HA6.out 1 1 [.string y1, .string y2, .int .i64 t2, .int .i64 r2, .string v2, .bool gn2, .int .i64 l2] rfl rfl (by simp [Value.oneCell']) (by unfold maxLen; omega) (by omega) (by omega) ?_; intro v1 w7 hown1 hbw1 hgr1 hwh1; obtain ⟨A7, c7, rfl⟩ := ownsRow_slice hown1; have HA7 := Lib.hid hown1; have HG7 := Lib.hid hgr1; have HH7 := Lib.hid hwh1; have HW7 := Lib.hid hbw1; clear hown1 hbw1 hgr1 hwh1)
              have HNE7 := Lib.hid (show (Value.slice A7 _ c7).ownBlock ≠ some (V0.heap.size + 1) from by
                rcases HH7.out with e | ⟨gq, e, hq⟩
                · rw [e]; exact HNE6.out
                · rw [e]; intro e2; injection e2 with e2; omega)
              have HX7 := Lib.hid (HX6.out.grown HG7.out (Ne.symm HNE6.out))
              have HB7 := Lib.hid (HB6.out.trans HW7.out)
              have hz7 := HW7.out.size
              go_roundw
              case rel => exact ⟨k + 1, by omega, by go_num, by rw [HTK.out, HE.out.2], by rw [HTK.out, HE.out.1, HY.out]; simpa [rcells, List.flatMap_append] using HA7.out, HNE7.out, HX7.out, HB7.out⟩
              case measure => simp [intOf]; omega
            | false =>
              have HE := Lib.hid (out_lt (c := ⟨t, r, v, gn, l⟩) (L.getD k rZ) HDN.out (by
                rw [HY.out]
                rcases ltN_tri (y1, y2) (ss, ky) with e | e | e
                · exact absurd e HYX.out
                · exact e
                · rw [hlt2] at e; cases e))
              clear hlt2 d0 d1 d2 d3 d4 d5 d6
              go_wp2_with (at_builtin; refine wpList_append_new rfl (.tmp 89) (.tmp 97) _ rfl V0.heap.size refT i0 _ 7 80 Tryd.underlying22 Hi0.out Hz0.out Hz1.out Hz2.out rfl (by decide) _ _ _ rfl HO6.out 1 1 [.string y1, .string y2, .int .i64 t2, .int .i64 r2, .string v2, .bool gn2, .int .i64 l2] rfl rfl (by simp [Value.oneCell']) (by unfold maxLen; omega) (by omega) (by omega) ?_; intro v1 w6 hown1 hbw1 hgr1 hwh1; obtain ⟨A6, c6, rfl⟩ := ownsRow_slice hown1; have HA6 := Lib.hid hown1; have HG6 := Lib.hid hgr1; have HH6 := Lib.hid hwh1; have HW6 := Lib.hid hbw1; clear hown1 hbw1 hgr1 hwh1)
              have HNE6 := Lib.hid (show (Value.slice A6 _ c6).ownBlock ≠ some (V0.heap.size + 1) from by
                rcases HH6.out with e | ⟨gq, e, hq⟩
                · rw [e]; exact J2.out
                · rw [e]; intro e2; injection e2 with e2; omega)
              have HX6 := Lib.hid (HX6.out.grown HG6.out (Ne.symm J2.out))
              have HB6 := Lib.hid (HB6.out.trans HW6.out)
              have hz6 := HW6.out.size
              go_roundw
              case rel => exact ⟨k + 1, by omega, by go_num, by rw [HTK.out, HE.out.2], by rw [HTK.out, HE.out.1, HY.out]; simpa [rcells, List.flatMap_append] using HA6.out, HNE6.out, HX6.out, HB6.out⟩
              case measure => simp [intOf]; omega
      · obtain rfl : L.length = k := by omega
        rw [List.take_length] at J1 J2 hol ⊢
        cases hdn : doneB L (ss, ky) with
        | true =>
          have hF9 := HF.out.below J4.out
          have q0 := hF9.blk.cell 0
          have ql := hF9.blk.lt
          have qf := hF9.blk.frozen 0
          simp at q0
          have hre := hF9.renew hgl2 J1.out rfl
          have HR := Lib.hid (show ApplyF g L (ss, ky) ⟨t, r, v, gn, l⟩ w (.returned (.bool true)) (wr.setCell ⟨g, 0, none⟩ (.slice Ao (outL L (ss, ky) ⟨t, r, v, gn, l⟩).length co)) from ⟨by rw [HNEW.out], ⟨_, _, by
            have := hre
            rw [out_end.1 hdn] at this ⊢
            unfold takeL
            rw [HTAK.out]
            exact this⟩, ((Keeps.of_below HBX.out).trans ((Keeps.of_below J4.out).more fun i _ h => absurd h (fun h => h))).trans (set_at_ _ _ _ _)⟩)
          clear hF9 hre hdn
          go_wp2
          go_ret
          exact HR.out
        | false =>
          obtain ⟨d0, d1, d2, d3, d4, d5, d6⟩ := cells7 J3.out
          have HDN := Lib.hid hdn
          have hF8 := HF.out.below J4.out
          have q08 := hF8.blk.cell 0
          have ql8 := hF8.blk.lt
          simp at q08
          clear hdn hF8
          go_wp2_with (at_builtin; refine wpList_append_new rfl (.tmp 101) (.tmp 103) _ rfl V0.heap.size refT i0 _ 7 80 Tryd.underlying22 Hi0.out Hz0.out Hz1.out Hz2.out rfl (by decide) _ _ _ rfl J1.out 1 1 [.string ss, .string ky, .int .i64 t, .int .i64 r, .string v, .bool gn, .int .i64 l] rfl rfl (by simp [Value.oneCell']) (by unfold maxLen; omega) (by omega) (by omega) ?_; intro v1 w6 hown1 hbw1 hgr1 hwh1; obtain ⟨A6, c6, rfl⟩ := ownsRow_slice hown1; have HB6 := Lib.hid (J4.out.trans hbw1); have hF9 := HF.out.below HB6.out; have q0 := hF9.blk.cell 0; have ql := hF9.blk.lt; have qf := hF9.blk.frozen 0; simp at q0; have HR := Lib.hid (apply_end hF9 hgl2 hown1 HDN.out HNEW.out HTAK.out HBX.out HB6.out); clear hown1 hbw1 hgr1 hwh1 hF9)
          go_ret
          exact HR.out
end Go.Proofs.YtgfamdakjcjdkaaDoor.store
