/- The walk of the law StoreMakes: it returns true; nothing that was there is written. -/
import Derived.Test.YtgfamdakjcjdkaaDoorMakeS
namespace Go.Proofs.YtgfamdakjcjdkaaDoor.wStoreMakes
open Go Go.RowKit Go.Proofs.YtgfamdakjcjdkaaDoor.base Go.Proofs.YtgfamdakjcjdkaaDoor.err Go.Proofs.YtgfamdakjcjdkaaDoor.above Go.Proofs.YtgfamdakjcjdkaaDoor.law Go.Proofs.YtgfamdakjcjdkaaDoor.merge Go.Proofs.YtgfamdakjcjdkaaDoor.rows Go.Proofs.YtgfamdakjcjdkaaDoor.rowe Go.Proofs.YtgfamdakjcjdkaaDoor.monoj Go.Proofs.YtgfamdakjcjdkaaDoor.store

abbrev writeT : TypeId := 28
theorem rrow_cells : Tryd.prog.cellsOf 35 = 7 := by kernel_rfl
set_option maxRecDepth 100000 in
theorem rrow_sees {w : World} (cs : List Value) (hl : cs.length = Tryd.prog.cellsOf 35) (h : Sees Tryd.prog w 35 cs) : ∃ x : R, cs = rcells x ∧ okName x.1 := by
  rw [rrow_cells] at hl
  obtain ⟨_, hf⟩ := h.struct Tryd.underlying35
  have e3 : Tryd.prog.cellsOf 3 = 1 := by kernel_rfl
  have e4 : Tryd.prog.cellsOf 4 = 1 := by kernel_rfl
  have e9 : Tryd.prog.cellsOf 9 = 1 := by kernel_rfl
  have e33 : Tryd.prog.cellsOf 33 = 5 := by kernel_rfl
  have e24 : Tryd.prog.cellsOf 24 = 2 := by kernel_rfl
  match cs, hl with
  | [x0, x1, x2, x3, x4, x5, x6], _ =>
    simp [e9, e33] at hf
    obtain ⟨h0, h1, h2⟩ := hf
    obtain ⟨_, hg⟩ := h2.struct Tryd.underlying33
    simp [e3, e4, e9, e24] at hg
    obtain ⟨g0, g1, g2, g3⟩ := hg
    obtain ⟨_, hk⟩ := g0.struct Tryd.underlying24
    simp [e3] at hk
    obtain ⟨s0, q0, z0⟩ := h0.string Tryd.underlying9
    obtain ⟨s1, q1, z1⟩ := h1.string Tryd.underlying9
    obtain ⟨n2, q2, _⟩ := hk.1.int Tryd.underlying3
    obtain ⟨n3, q3, _⟩ := hk.2.int Tryd.underlying3
    obtain ⟨s4, q4, _⟩ := g1.string Tryd.underlying9
    obtain ⟨b5, q5⟩ := g2.bool Tryd.underlying4
    obtain ⟨n6, q6, _⟩ := g3.int Tryd.underlying3
    simp at q0 q1 q2 q3 q4 q5 q6
    subst q0 q1 q2 q3 q4 q5 q6
    exact ⟨((s0, s1), ⟨n2, n3, s4, b5, n6⟩), rfl, z0, z1⟩
theorem rrows_of {w : World} {v : Value} (h : Arg Tryd.prog w 22 v) : ∃ A m c, ∃ L : List R, v = .slice A m c ∧ L.length = m ∧ m ≤ maxLen ∧ Reads w w.heap.size 7 A m (L.flatMap rcells) ∧ ∀ p ∈ L, okName p.1 := by
  obtain ⟨A, len, cap, l, rfl, h1, h2, h3, h4, _, h5⟩ := h.things (fun x : {x : R // okName x.1} => rcells x.1) Tryd.underlying22 (by rw [rrow_cells]; omega) (fun cs hl hs => by
    obtain ⟨x, e, hx⟩ := rrow_sees cs hl hs
    exact ⟨⟨x, hx⟩, e⟩)
  rw [rrow_cells] at h4
  refine ⟨A, len, cap, l.map (·.1), rfl, by simpa using h3, by omega, ?_, fun x hx => ?_⟩
  · rw [List.flatMap_map]; exact h4
  · obtain ⟨y, _, rfl⟩ := List.mem_map.1 hx
    exact y.2
theorem not_wrong {L : List R} (h : Rising L) {i : Nat} (hw : wrongAt L i) : False := by
  obtain ⟨h0, hl, hf⟩ := hw
  rw [List.getD_eq_getElem?_getD, List.getElem?_eq_getElem (show i - 1 < L.length by omega), List.getD_eq_getElem?_getD, List.getElem?_eq_getElem hl] at hf
  have := List.pairwise_iff_getElem.1 h (i - 1) i (by omega) hl (by omega)
  rw [show ltN L[i - 1].1 L[i].1 = false from hf] at this
  cases this
theorem not_below {L : List R} {i j : Nat} (h : Rising (L.take j)) (hw : wrongAt L i) (hij : i < j) : False := by
  refine not_wrong h (i := i) ⟨hw.1, by rw [List.length_take]; have := hw.2.1; omega, ?_⟩
  rw [List.getD_eq_getElem?_getD, List.getElem?_take, if_pos (by omega), List.getD_eq_getElem?_getD, List.getElem?_take, if_pos (by omega), ← List.getD_eq_getElem?_getD, ← List.getD_eq_getElem?_getD]
  exact hw.2.2
theorem same_wrong {L : List R} {i j : Nat} (hi : wrongAt L i) (hj : wrongAt L j) (ri : Rising (L.take i)) (rj : Rising (L.take j)) : i = j := by
  rcases Nat.lt_trichotomy i j with h | h | h
  · exact (not_below rj hi h).elim
  · exact h
  · exact (not_below ri hj h).elim
theorem one_rcells (L : List R) : ∀ u ∈ L.flatMap rcells, u.oneCell' = true := by
  intro u hu
  obtain ⟨x, _, hu⟩ := List.mem_flatMap.1 hu
  simp [rcells] at hu
  rcases hu with rfl | rfl | rfl | rfl | rfl | rfl | rfl <;> rfl
/-- a store and the document's, side by side; w0 is as it was -/
structure Pl (w0 : World) (g bm gr : Nat) (L : List R) (w : World) : Prop where
  st : StI w g bm L
  rf : Ref w gr L
  bel : Below w0.heap.size w0 w
  lo1 : w0.heap.size ≤ bm
  lo2 : w0.heap.size ≤ gr
theorem Pl.below {w0 w w' : World} {g bm gr : Nat} {L : List R} (h : Pl w0 g bm gr L w) (hb : Below w.heap.size w w') : Pl w0 g bm gr L w' := ⟨h.st.below hb, h.rf.below hb, below_step h.bel hb, h.lo1, h.lo2⟩
theorem Pl.step {w0 w w1 w2 : World} {g bm gr : Nat} {L M : List R} (h : Pl w0 g bm gr L w) (hs : StI w1 g bm M) (hk : Keeps (· = bm) w w1) (hs2 : Ref w2 gr M) (hk2 : Keeps (· = gr) w1 w2) (hr1 : Ref w1 gr L) : Pl w0 g bm gr M w2 := by
  have hb1 : Below w0.heap.size w0 w1 := below_keeps h.bel (Nat.le_refl _) hk (fun i hi e => by have := h.lo1; omega)
  refine ⟨?_, hs2, below_keeps hb1 (Nat.le_refl _) hk2 (fun i hi e => by have := h.lo2; omega), h.lo1, h.lo2⟩
  obtain ⟨A, c, hr⟩ := hr1
  exact hs.keepsRef hr.blk hk2
set_option maxRecDepth 100000 in
set_option maxHeartbeats 8000000 in
theorem walk (v0 v1 : Value) (w : World) (a0 : Arg Tryd.prog w 22 v0) (a1 : Arg Tryd.prog w 28 v1) (ht : HandleIs w) :
    Calls Tryd.prog 3 #[v0, v1] w fun e w' => e = .returned (.bool true) ∧ Below w.heap.size w w' := by
  obtain ⟨A, m, c, L, rfl, hl, hm, hr, hok⟩ := rrows_of a0
  obtain ⟨cs, rfl, hcl, hcs⟩ := a1.agg (.inl ⟨_, Tryd.underlying28⟩)
  obtain ⟨x, rfl, hx⟩ := write_sees cs hcl hcs
  clear a0 a1 hcl hcs
  have hgx : ∃ bg, greatW [x] = bg := ⟨_, rfl⟩
  obtain ⟨bg, hgx⟩ := hgx
  have HGX := Lib.hid hgx
  have hwl : ∀ W : World, WtsR (W.alloc (.cells x.cells.toArray writeT)) (.slice (some ⟨W.heap.size, 0, none⟩) 1 1) [x] := fun W =>
    ⟨some ⟨W.heap.size, 0, none⟩, 1, rfl, by unfold maxLen; simp, by
      have := Reads.new W x.cells.toArray writeT (0, 0) (n := 1) (size := 10) rfl
      simpa using this, fun y hy => by rw [List.mem_singleton.1 hy]; exact hx⟩
  have hap := fun g bm (L : List R) (w : World) (h : StI w g bm L) => wt_apply g bm L x w h hx
  obtain ⟨rg, nm, t, r, dA, dn, dc, se, kk, v, gn, lf⟩ := x
  unfold Wt.cells at *
  dsimp only at *
  have HWL := Lib.hid hwl
  have HAP := Lib.hid hap
  have HX := Lib.hid hx
  have HL := Lib.hid hl
  have HR := Lib.hid hr
  have HOK := Lib.hid hok
  have HT := Lib.hid ht
  clear hgx hwl hap hx hl hr hok ht
  unfold maxLen at hm
  have hb0 := below_new w (.cells #[.int .i64 rg, .int .i64 nm, .int .i64 t, .int .i64 r, .slice dA dn dc, .string se, .string kk, .string v, .bool gn, .int .i64 lf] writeT)
  have hB0 := Blk.new w writeT #[.int .i64 rg, .int .i64 nm, .int .i64 t, .int .i64 r, .slice dA dn dc, .string se, .string kk, .string v, .bool gn, .int .i64 lf]
  have HB0 := Lib.hid hb0
  have HBX := Lib.hid hB0
  clear hb0 hB0
  by_cases h60 : 60 < m
  · have d60 : decide ((60 : Int) < (m : Int)) = true := by simp; omega
    go_enter Tryd.func3, Tryd.ntmps3
    go_wp2_with fail
    refine (awake_any _).mono ?_
    rintro e w1 ⟨rfl, hb1⟩
    have HB1 := Lib.hid (below_step HB0.out hb1)
    clear hb1
    go_wp2
    go_ret
    exact ⟨rfl, HB1.out⟩
  have d60 : decide ((60 : Int) < (m : Int)) = false := by simp; omega
  go_enter Tryd.func3, Tryd.ntmps3
  go_wp2_with fail
  refine (awake_any _).mono ?_
  rintro e w1 ⟨rfl, hb1⟩
  have HB1 := Lib.hid (below_step HB0.out hb1)
  have HBX1 := Lib.hid (HBX.out.below hb1 HBX.out.lt)
  obtain ⟨k0, k1, k2, k3, k4, k5, k6, k7, k8, k9⟩ := cells10 HBX1.out
  have kl := HBX1.out.lt
  clear hb1
  go_wp2_with fail
  refine (great_any _ _ _ (HWL.out w1)).mono ?_
  rw [HGX.out]
  rintro e w2 ⟨rfl, hb2⟩
  have hbn := below_new w1 (.cells #[.int .i64 rg, .int .i64 nm, .int .i64 t, .int .i64 r, .slice dA dn dc, .string se, .string kk, .string v, .bool gn, .int .i64 lf] writeT)
  have HB2 := Lib.hid (below_step HB1.out (below_step hbn hb2))
  have HBX2 := Lib.hid (HBX1.out.below (below_step hbn hb2) HBX1.out.lt)
  clear hbn hb2 k0 k1 k2 k3 k4 k5 k6 k7 k8 k9 kl HBX1 HB1 HBX HB0
  cases bg with
  | true =>
    go_wp2
    go_ret
    exact ⟨rfl, HB2.out⟩
  | false =>
  clear HGX HWL
  go_wp2_with fail
  go_loopw [26] (fun i wr => ∃ k : Nat, k ≤ m ∧ i = .int .i64 k ∧ Below w.heap.size w wr ∧ Blk wr w.heap.size writeT #[.int .i64 rg, .int .i64 nm, .int .i64 t, .int .i64 r, .slice dA dn dc, .string se, .string kk, .string v, .bool gn, .int .i64 lf]) (fun i _ => m - (intOf i).toNat)
  case atStart => exact ⟨0, by omega, rfl, HB2.out, HBX2.out⟩
  case round =>
    clear HB2 HBX2
    obtain ⟨k, hk, rfl, i1, i2⟩ := hrel
    by_cases hlt : k < m
    · obtain ⟨b, off, rfl, hbb, hc⟩ := row_at (HR.out.below i1) HL.out hlt
      have hce := seven_of hc
      generalize L.getD k rZ = y at hce hc
      obtain ⟨⟨y1, y2⟩, ⟨yt, yr, yv, yg, yl⟩⟩ := y
      obtain ⟨e0, e1, e2, e3, e4, e5, e6⟩ := hce
      dsimp only at e0 e1 e2 e3 e4 e5 e6
      have hsz := i1.size
      have hbl : b < wr.heap.size := by omega
      have hbx := below_new wr (.cells #[.string y1, .string y2, .int .i64 yt, .int .i64 yr, .string yv, .bool yg, .int .i64 yl] refT)
      have I1 := Lib.hid (below_step i1 hbx)
      have I2 := Lib.hid (i2.below hbx i2.lt)
      clear i1 i2 hc hbx
      by_cases g1 : 1000 < y1.size
      · go_wp2
        go_ret
        exact ⟨rfl, I1.out⟩
      by_cases g2 : 1000 < y2.size
      · go_wp2
        go_ret
        exact ⟨rfl, I1.out⟩
      by_cases g3 : 1000 < yv.size
      · go_wp2
        go_ret
        exact ⟨rfl, I1.out⟩
      go_wp2
      go_roundw
      case rel => exact ⟨k + 1, by omega, by go_num, I1.out, I2.out⟩
      case measure => simp [intOf]; omega
    · obtain rfl : m = k := by omega
      have I1 := Lib.hid i1
      have I2 := Lib.hid i2
      clear i1 i2
      go_wp2_with fail
      refine (make_any A m c L wr HL.out (by omega) ((HR.out.below I1.out).more I1.out.size)).mono ?_
      rintro e w3 ⟨v3, rfl, ho3, hb3⟩
      obtain ⟨A2, c2, rfl, hr3⟩ := own_reads ho3
      rw [HL.out] at hr3 ⊢
      have HR3 := Lib.hid hr3
      have I3 := Lib.hid (below_step I1.out hb3)
      have J3 := Lib.hid (I2.out.below hb3 I2.out.lt)
      clear ho3 hb3 hr3 I1 I2
      go_wp2_with fail
      refine (of_rows A2 m c2 L w3 HL.out (by omega) HOK.out HR3.out).mono ?_
      rintro e w4 hof
      have hwl := I3.out.size
      rcases hof with ⟨hup, g, bm, rfl, hst, hg0, hbm0, hb4⟩ | ⟨i, ve, hwa, hti, rfl, hE, hb4⟩
      · have HST := Lib.hid hst
        have HUP := Lib.hid hup
        have HBM := Lib.hid (show w.heap.size < bm from by have := J3.out.lt; omega)
        have I4 := Lib.hid (below_step I3.out hb4)
        have J4 := Lib.hid (J3.out.below hb4 J3.out.lt)
        clear hst hup hb4 I3 J3 HR3
        go_wp2_with fail
        refine (wrong_any A m c L w4 HL.out (by omega) ((HR.out.below I4.out).more I4.out.size)).mono ?_
        rintro e w5 ⟨hwr, hb5⟩
        have hem : e = .returned (.int .i64 (-1)) := by
          rcases hwr with ⟨h, _⟩ | ⟨i, h, _⟩
          · exact h
          · exact (not_wrong HUP.out h).elim
        subst hem
        obtain ⟨i0, hi0, hz0, hz1, hz2⟩ := info_parts ref_info
        have Hi0 := Lib.hid hi0
        have Hz0 := Lib.hid hz0
        have Hz1 := Lib.hid hz1
        have Hz2 := Lib.hid hz2
        have HS5 := Lib.hid (HST.out.below hb5)
        have I5 := Lib.hid (below_step I4.out hb5)
        have J5 := Lib.hid (J4.out.below hb5 J4.out.lt)
        have HR5 := Lib.hid ((HR.out.below (below_step I4.out hb5)).more (below_step I4.out hb5).size)
        clear hwr hb5 hi0 hz0 hz1 hz2 I4 J4 HST
        have HRN := Lib.hid (show (w5.alloc (.cells #[] refT)).ownsRow w5.heap.size refT 7 (.slice (some ⟨w5.heap.size, 0, none⟩) 0 0) 0 [] from ownsRow_new0 w5 refT 7 #[])
        go_wp2_with (at_builtin; refine wpList_append_any _ rfl (.tmp 79) (.tmp 80) _ rfl (w5.heap.size) refT i0 _ 7 80 Tryd.underlying22 Hi0.out Hz0.out Hz1.out Hz2.out rfl (by omega) (.slice (some ⟨w5.heap.size, 0, none⟩) 0 0) 0 [] rfl HRN.out w5.heap.size A m c (L.flatMap rcells) rfl (HR5.out.alloc (Nat.le_refl _) _) (one_rcells L) (by unfold maxLen; omega) (by omega) (by simp) ?_; intro v6 w6 hown hg6 _; simp only [Nat.zero_add, List.nil_append] at hown; obtain ⟨A6, c6, rfl⟩ := ownsRow_slice hown; have HOW := Lib.hid hown; have HG6 := Lib.hid hg6; clear hown hg6)
        have hb6 : Below w5.heap.size w5 w6 := ((Below.refl w5.heap.size w5).alloc (Nat.le_refl _) (.cells #[] refT)).grown HG6.out (by simp) (by simp [Value.ownBlock])
        have hbx := below_new w6 (.cells #[.slice A6 m c6] refST)
        have hb7 := below_step hb6 hbx
        have hz6 := hb6.size
        have hz5 := I5.out.size
        have hj3 := J5.out.lt
        have hbm : ¬ w.heap.size = bm := by have := HBM.out; omega
        have HP := Lib.hid (show Pl w g bm w6.heap.size L (w6.alloc (.cells #[.slice A6 m c6] refST)) from
          ⟨HS5.out.below hb7, ⟨A6, c6, by rw [HL.out]; exact Blk.new w6 refST #[.slice A6 m c6], by rw [HL.out]; exact ((Reads.of_own HOW.out).below hbx).more hbx.size⟩, below_step I5.out hb7, by have := HBM.out; omega, by omega⟩)
        have HB7 := Lib.hid ((J5.out.below hb7 J5.out.lt).drew)
        have HXX := Lib.hid (show ¬ (w.heap.size = bm ∨ w.heap.size = w6.heap.size) by omega)
        clear hb6 hbx hb7 HS5 I5 J5 HR5 HRN HOW HG6 Hi0 Hz0 Hz1 Hz2 hj3 hbm
        go_wp2_with fail
        generalize w6.alloc (.cells #[.slice A6 m c6] refST) = w7 at *
        have HP7 := Lib.hid (HP.out.below (Below.refl _ _).drew)
        generalize w6.heap.size = gr at *
        have hlt1 := length_take L (se, kk) ⟨t, r, v, gn, lf⟩
        have hll : L.length ≤ 60 := by rw [HL.out]; omega
        refine wp_region_mono (fun i => i = bm ∨ i = gr) (by kernel_rfl) ?_
        -- 0 Op.move (Operand.tmp 8)
        refine wpMono_take' 0 (v := ?_) rfl (by kernel_rfl) (by kernel_rfl) (by kernel_rfl) (fun _ _ _ h => h) (by rfl) ?_ ?_
        rotate_left
        · (intro W hSw; (try ((first | (have hk := HB10.out.keeps hSw HXX.out) | (have hk := HB9.out.keeps hSw HXX.out) | (have hk := HB8.out.keeps hSw HXX.out) | (have hk := HB7.out.keeps hSw HXX.out)); (obtain ⟨k0, k1, k2, k3, k4, k5, k6, k7, k8, k9⟩ := cells10 hk); (have kl := hk.lt)))
           go_simp; first | done | rfl)
        try simp only [Act.put, List.setIfInBounds_toArray, List.set_cons_zero, List.set_cons_succ]
        -- 1 Op.binOp BinOp.eql 38 (Operand.tmp 84) (Operand.const Value.nilIface) 38
        refine wpMono_take' 1 (v := ?_) rfl (by kernel_rfl) (by kernel_rfl) (by kernel_rfl) (fun _ _ _ h => h) (by rfl) ?_ ?_
        rotate_left
        · (intro W hSw; (try ((first | (have hk := HB10.out.keeps hSw HXX.out) | (have hk := HB9.out.keeps hSw HXX.out) | (have hk := HB8.out.keeps hSw HXX.out) | (have hk := HB7.out.keeps hSw HXX.out)); (obtain ⟨k0, k1, k2, k3, k4, k5, k6, k7, k8, k9⟩ := cells10 hk); (have kl := hk.lt)))
           go_simp; first | done | rfl)
        try simp only [Act.put, List.setIfInBounds_toArray, List.set_cons_zero, List.set_cons_succ]
        -- 2 Op.move (Operand.tmp 85)
        refine wpMono_take' 2 (v := ?_) rfl (by kernel_rfl) (by kernel_rfl) (by kernel_rfl) (fun _ _ _ h => h) (by rfl) ?_ ?_
        rotate_left
        · (intro W hSw; (try ((first | (have hk := HB10.out.keeps hSw HXX.out) | (have hk := HB9.out.keeps hSw HXX.out) | (have hk := HB8.out.keeps hSw HXX.out) | (have hk := HB7.out.keeps hSw HXX.out)); (obtain ⟨k0, k1, k2, k3, k4, k5, k6, k7, k8, k9⟩ := cells10 hk); (have kl := hk.lt)))
           go_simp; first | done | rfl)
        try simp only [Act.put, List.setIfInBounds_toArray, List.set_cons_zero, List.set_cons_succ]
        -- 3 Op.move (Operand.tmp 7)
        refine wpMono_take' 3 (v := ?_) rfl (by kernel_rfl) (by kernel_rfl) (by kernel_rfl) (fun _ _ _ h => h) (by rfl) ?_ ?_
        rotate_left
        · (intro W hSw; (try ((first | (have hk := HB10.out.keeps hSw HXX.out) | (have hk := HB9.out.keeps hSw HXX.out) | (have hk := HB8.out.keeps hSw HXX.out) | (have hk := HB7.out.keeps hSw HXX.out)); (obtain ⟨k0, k1, k2, k3, k4, k5, k6, k7, k8, k9⟩ := cells10 hk); (have kl := hk.lt)))
           go_simp; first | done | rfl)
        try simp only [Act.put, List.setIfInBounds_toArray, List.set_cons_zero, List.set_cons_succ]
        -- 4 Op.binOp BinOp.neq 36 (Operand.tmp 87) (Operand.const (Value.pointer none)) 36
        refine wpMono_take' 4 (v := ?_) rfl (by kernel_rfl) (by kernel_rfl) (by kernel_rfl) (fun _ _ _ h => h) (by rfl) ?_ ?_
        rotate_left
        · (intro W hSw; (try ((first | (have hk := HB10.out.keeps hSw HXX.out) | (have hk := HB9.out.keeps hSw HXX.out) | (have hk := HB8.out.keeps hSw HXX.out) | (have hk := HB7.out.keeps hSw HXX.out)); (obtain ⟨k0, k1, k2, k3, k4, k5, k6, k7, k8, k9⟩ := cells10 hk); (have kl := hk.lt)))
           go_simp; first | done | rfl)
        try simp only [Act.put, List.setIfInBounds_toArray, List.set_cons_zero, List.set_cons_succ]
        -- 5 Op.pick (Operand.tmp 86) (Operand.tmp 88) (Operand.const (Value.bool false))
        refine wpMono_take' 5 (v := ?_) rfl (by kernel_rfl) (by kernel_rfl) (by kernel_rfl) (fun _ _ _ h => h) (by rfl) ?_ ?_
        rotate_left
        · (intro W hSw; (try ((first | (have hk := HB10.out.keeps hSw HXX.out) | (have hk := HB9.out.keeps hSw HXX.out) | (have hk := HB8.out.keeps hSw HXX.out) | (have hk := HB7.out.keeps hSw HXX.out)); (obtain ⟨k0, k1, k2, k3, k4, k5, k6, k7, k8, k9⟩ := cells10 hk); (have kl := hk.lt)))
           go_simp; first | done | rfl)
        try simp only [Act.put, List.setIfInBounds_toArray, List.set_cons_zero, List.set_cons_succ]
        -- 6 Op.move (Operand.tmp 89)
        refine wpMono_take' 6 (v := ?_) rfl (by kernel_rfl) (by kernel_rfl) (by kernel_rfl) (fun _ _ _ h => h) (by rfl) ?_ ?_
        rotate_left
        · (intro W hSw; (try ((first | (have hk := HB10.out.keeps hSw HXX.out) | (have hk := HB9.out.keeps hSw HXX.out) | (have hk := HB8.out.keeps hSw HXX.out) | (have hk := HB7.out.keeps hSw HXX.out)); (obtain ⟨k0, k1, k2, k3, k4, k5, k6, k7, k8, k9⟩ := cells10 hk); (have kl := hk.lt)))
           go_simp; first | done | rfl)
        try simp only [Act.put, List.setIfInBounds_toArray, List.set_cons_zero, List.set_cons_succ]
        -- 7 Op.move (Operand.tmp 7)
        refine wpMono_take' 7 (v := ?_) rfl (by kernel_rfl) (by kernel_rfl) (by kernel_rfl) (fun _ _ _ h => h) (by rfl) ?_ ?_
        rotate_left
        · (intro W hSw; (try ((first | (have hk := HB10.out.keeps hSw HXX.out) | (have hk := HB9.out.keeps hSw HXX.out) | (have hk := HB8.out.keeps hSw HXX.out) | (have hk := HB7.out.keeps hSw HXX.out)); (obtain ⟨k0, k1, k2, k3, k4, k5, k6, k7, k8, k9⟩ := cells10 hk); (have kl := hk.lt)))
           go_simp; first | done | rfl)
        try simp only [Act.put, List.setIfInBounds_toArray, List.set_cons_zero, List.set_cons_succ]
        -- 8 Op.move (Operand.tmp 13)
        refine wpMono_take' 8 (v := ?_) rfl (by kernel_rfl) (by kernel_rfl) (by kernel_rfl) (fun _ _ _ h => h) (by rfl) ?_ ?_
        rotate_left
        · (intro W hSw; (try ((first | (have hk := HB10.out.keeps hSw HXX.out) | (have hk := HB9.out.keeps hSw HXX.out) | (have hk := HB8.out.keeps hSw HXX.out) | (have hk := HB7.out.keeps hSw HXX.out)); (obtain ⟨k0, k1, k2, k3, k4, k5, k6, k7, k8, k9⟩ := cells10 hk); (have kl := hk.lt)))
           go_simp; first | done | rfl)
        try simp only [Act.put, List.setIfInBounds_toArray, List.set_cons_zero, List.set_cons_succ]
        -- 9 Op.fieldAddr 28 (Operand.tmp 3) 4
        refine wpMono_take' 9 (v := ?_) rfl (by kernel_rfl) (by kernel_rfl) (by kernel_rfl) (fun _ _ _ h => h) (by rfl) ?_ ?_
        rotate_left
        · (intro W hSw; (try ((first | (have hk := HB10.out.keeps hSw HXX.out) | (have hk := HB9.out.keeps hSw HXX.out) | (have hk := HB8.out.keeps hSw HXX.out) | (have hk := HB7.out.keeps hSw HXX.out)); (obtain ⟨k0, k1, k2, k3, k4, k5, k6, k7, k8, k9⟩ := cells10 hk); (have kl := hk.lt)))
           go_simp; first | done | rfl)
        try simp only [Act.put, List.setIfInBounds_toArray, List.set_cons_zero, List.set_cons_succ]
        -- 10 Op.load 9 (Operand.tmp 93)
        refine wpMono_take' 10 (v := ?_) rfl (by kernel_rfl) (by kernel_rfl) (by kernel_rfl) (fun _ _ _ h => h) (by rfl) ?_ ?_
        rotate_left
        · (intro W hSw; (try ((first | (have hk := HB10.out.keeps hSw HXX.out) | (have hk := HB9.out.keeps hSw HXX.out) | (have hk := HB8.out.keeps hSw HXX.out) | (have hk := HB7.out.keeps hSw HXX.out)); (obtain ⟨k0, k1, k2, k3, k4, k5, k6, k7, k8, k9⟩ := cells10 hk); (have kl := hk.lt)))
           go_simp; first | done | rfl)
        try simp only [Act.put, List.setIfInBounds_toArray, List.set_cons_zero, List.set_cons_succ]
        -- 11 Op.fieldAddr 28 (Operand.tmp 3) 5
        refine wpMono_take' 11 (v := ?_) rfl (by kernel_rfl) (by kernel_rfl) (by kernel_rfl) (fun _ _ _ h => h) (by rfl) ?_ ?_
        rotate_left
        · (intro W hSw; (try ((first | (have hk := HB10.out.keeps hSw HXX.out) | (have hk := HB9.out.keeps hSw HXX.out) | (have hk := HB8.out.keeps hSw HXX.out) | (have hk := HB7.out.keeps hSw HXX.out)); (obtain ⟨k0, k1, k2, k3, k4, k5, k6, k7, k8, k9⟩ := cells10 hk); (have kl := hk.lt)))
           go_simp; first | done | rfl)
        try simp only [Act.put, List.setIfInBounds_toArray, List.set_cons_zero, List.set_cons_succ]
        -- 12 Op.load 9 (Operand.tmp 95)
        refine wpMono_take' 12 (v := ?_) rfl (by kernel_rfl) (by kernel_rfl) (by kernel_rfl) (fun _ _ _ h => h) (by rfl) ?_ ?_
        rotate_left
        · (intro W hSw; (try ((first | (have hk := HB10.out.keeps hSw HXX.out) | (have hk := HB9.out.keeps hSw HXX.out) | (have hk := HB8.out.keeps hSw HXX.out) | (have hk := HB7.out.keeps hSw HXX.out)); (obtain ⟨k0, k1, k2, k3, k4, k5, k6, k7, k8, k9⟩ := cells10 hk); (have kl := hk.lt)))
           go_simp; first | done | rfl)
        try simp only [Act.put, List.setIfInBounds_toArray, List.set_cons_zero, List.set_cons_succ]
        -- EFFECT 13 Op.call { callee := Callee.value (Operand.func 11), args := #[Operand.tmp 91, Operand.tmp 92, Operand.tmp 94, Operand.tmp 96], argTypes := #
        refine wpMono_one' 13 (by kernel_rfl) rfl (by rfl) (fun K hK => ?_)
        go_simp
        obtain ⟨A9, c9, hr9⟩ := HP7.out.rf
        refine (same_both g bm gr A9 c9 L se kk _ HP7.out.st hr9 HX.out.1 HX.out.2 (by omega)).mono ?_
        rintro e w8 ⟨rfl, hb8⟩
        have HP8 := Lib.hid (HP7.out.below hb8)
        have HB8 := Lib.hid (HB7.out.below hb8 HB7.out.lt)
        have HK8 := Lib.hid hb8
        clear hb8 hr9
        refine hK.out _ _ ?_ ?_
        · exact .of_below HK8.out
        clear hK K
        try simp only [Act.put, List.setIfInBounds_toArray, List.set_cons_zero, List.set_cons_succ]
        -- 14 Op.pick (Operand.tmp 90) (Operand.tmp 97) (Operand.const (Value.bool false))
        refine wpMono_take' 14 (v := ?_) rfl (by kernel_rfl) (by kernel_rfl) (by kernel_rfl) (fun _ _ _ h => h) (by rfl) ?_ ?_
        rotate_left
        · (intro W hSw; (try ((first | (have hk := HB10.out.keeps hSw HXX.out) | (have hk := HB9.out.keeps hSw HXX.out) | (have hk := HB8.out.keeps hSw HXX.out) | (have hk := HB7.out.keeps hSw HXX.out)); (obtain ⟨k0, k1, k2, k3, k4, k5, k6, k7, k8, k9⟩ := cells10 hk); (have kl := hk.lt)))
           go_simp; first | done | rfl)
        try simp only [Act.put, List.setIfInBounds_toArray, List.set_cons_zero, List.set_cons_succ]
        -- 15 Op.move (Operand.tmp 98)
        refine wpMono_take' 15 (v := ?_) rfl (by kernel_rfl) (by kernel_rfl) (by kernel_rfl) (fun _ _ _ h => h) (by rfl) ?_ ?_
        rotate_left
        · (intro W hSw; (try ((first | (have hk := HB10.out.keeps hSw HXX.out) | (have hk := HB9.out.keeps hSw HXX.out) | (have hk := HB8.out.keeps hSw HXX.out) | (have hk := HB7.out.keeps hSw HXX.out)); (obtain ⟨k0, k1, k2, k3, k4, k5, k6, k7, k8, k9⟩ := cells10 hk); (have kl := hk.lt)))
           go_simp; first | done | rfl)
        try simp only [Act.put, List.setIfInBounds_toArray, List.set_cons_zero, List.set_cons_succ]
        -- 16 Op.move (Operand.tmp 7)
        refine wpMono_take' 16 (v := ?_) rfl (by kernel_rfl) (by kernel_rfl) (by kernel_rfl) (fun _ _ _ h => h) (by rfl) ?_ ?_
        rotate_left
        · (intro W hSw; (try ((first | (have hk := HB10.out.keeps hSw HXX.out) | (have hk := HB9.out.keeps hSw HXX.out) | (have hk := HB8.out.keeps hSw HXX.out) | (have hk := HB7.out.keeps hSw HXX.out)); (obtain ⟨k0, k1, k2, k3, k4, k5, k6, k7, k8, k9⟩ := cells10 hk); (have kl := hk.lt)))
           go_simp; first | done | rfl)
        try simp only [Act.put, List.setIfInBounds_toArray, List.set_cons_zero, List.set_cons_succ]
        -- 17 Op.load 28 (Operand.tmp 3)
        refine wpMono_take' 17 (v := ?_) rfl (by kernel_rfl) (by kernel_rfl) (by kernel_rfl) (fun _ _ _ h => h) (by rfl) ?_ ?_
        rotate_left
        · (intro W hSw; (try ((first | (have hk := HB10.out.keeps hSw HXX.out) | (have hk := HB9.out.keeps hSw HXX.out) | (have hk := HB8.out.keeps hSw HXX.out) | (have hk := HB7.out.keeps hSw HXX.out)); (obtain ⟨k0, k1, k2, k3, k4, k5, k6, k7, k8, k9⟩ := cells10 hk); (have kl := hk.lt)))
           go_simp; first | done | rfl)
        try simp only [Act.put, List.setIfInBounds_toArray, List.set_cons_zero, List.set_cons_succ]
        -- 19 Op.move (Operand.tmp 13)
        refine wpMono_take' 19 (v := ?_) rfl (by kernel_rfl) (by kernel_rfl) (by kernel_rfl) (fun _ _ _ h => h) (by rfl) ?_ ?_
        rotate_left
        · (intro W hSw; (try ((first | (have hk := HB10.out.keeps hSw HXX.out) | (have hk := HB9.out.keeps hSw HXX.out) | (have hk := HB8.out.keeps hSw HXX.out) | (have hk := HB7.out.keeps hSw HXX.out)); (obtain ⟨k0, k1, k2, k3, k4, k5, k6, k7, k8, k9⟩ := cells10 hk); (have kl := hk.lt)))
           go_simp; first | done | rfl)
        try simp only [Act.put, List.setIfInBounds_toArray, List.set_cons_zero, List.set_cons_succ]
        -- 20 Op.load 28 (Operand.tmp 3)
        refine wpMono_take' 20 (v := ?_) rfl (by kernel_rfl) (by kernel_rfl) (by kernel_rfl) (fun _ _ _ h => h) (by rfl) ?_ ?_
        rotate_left
        · (intro W hSw; (try ((first | (have hk := HB10.out.keeps hSw HXX.out) | (have hk := HB9.out.keeps hSw HXX.out) | (have hk := HB8.out.keeps hSw HXX.out) | (have hk := HB7.out.keeps hSw HXX.out)); (obtain ⟨k0, k1, k2, k3, k4, k5, k6, k7, k8, k9⟩ := cells10 hk); (have kl := hk.lt)))
           go_simp; first | done | rfl)
        try simp only [Act.put, List.setIfInBounds_toArray, List.set_cons_zero, List.set_cons_succ]
        -- EFFECT 18 Op.call { callee := Callee.value (Operand.func 12), args := #[Operand.tmp 100, Operand.tmp 101], argTypes := #[36, 28] }
        refine wpMono_one' 18 (by kernel_rfl) rfl (by rfl) (fun K hK => ?_)
        go_simp
        refine (HAP.out g bm L _ HP8.out.st).mono ?_
        rintro e w9 ⟨rfl, hs9, hk9⟩
        obtain ⟨nb, hnb⟩ : ∃ nb, newC (getL L (se, kk)) ⟨t, r, v, gn, lf⟩ = nb := ⟨_, rfl⟩
        rw [show newC (getL L (Wt.name ⟨rg, nm, t, r, dA, dn, dc, se, kk, v, gn, lf⟩)) (Wt.cell ⟨rg, nm, t, r, dA, dn, dc, se, kk, v, gn, lf⟩) = nb from hnb]
        have Hnb := Lib.hid hnb
        have HS9 := Lib.hid (show StI w9 g bm (takeL L (se, kk) ⟨t, r, v, gn, lf⟩) from hs9)
        have HB9 := Lib.hid (HB8.out.keeps hk9 (fun e => HXX.out (.inl e)))
        have HK9 := Lib.hid hk9
        have HR9 := Lib.hid (show Ref w9 gr L from by obtain ⟨A9, c9, hr9⟩ := HP8.out.rf; exact ⟨A9, c9, hr9.keeps HP8.out.st hk9⟩)
        clear hnb hs9 hk9
        refine hK.out _ _ ?_ ?_
        · exact HK9.out.more fun i _ hi => .inl hi
        clear hK K
        try simp only [Act.put, List.setIfInBounds_toArray, List.set_cons_zero, List.set_cons_succ]
        -- EFFECT 21 Op.call { callee := Callee.value (Operand.func 13), args := #[Operand.tmp 103, Operand.tmp 104], argTypes := #[48, 28] }
        refine wpMono_one' 21 (by kernel_rfl) rfl (by rfl) (fun K hK => ?_)
        go_simp
        obtain ⟨A9, c9, hr9⟩ := HR9.out
        refine (apply_ref gr A9 c9 L rg nm t r dA dn dc se kk v gn lf _ hr9 HUP.out (by omega)).mono ?_
        rintro e w10 ⟨rfl, hs2, hk2⟩
        rw [Hnb.out]
        have HP10 := Lib.hid (HP8.out.step HS9.out HK9.out hs2 hk2 HR9.out)
        have HB10 := Lib.hid (HB9.out.keeps hk2 (fun e => HXX.out (.inr e)))
        have HK10 := Lib.hid hk2
        clear hs2 hk2 hr9
        refine hK.out _ _ ?_ ?_
        · exact HK10.out.more fun i _ hi => .inr hi
        clear hK K
        try simp only [Act.put, List.setIfInBounds_toArray, List.set_cons_zero, List.set_cons_succ]
        -- 22 Op.binOp BinOp.eql 4 (Operand.tmp 102) (Operand.tmp 105) 4
        refine wpMono_take' 22 (v := ?_) rfl (by kernel_rfl) (by kernel_rfl) (by kernel_rfl) (fun _ _ _ h => h) (by rfl) ?_ ?_
        rotate_left
        · (intro W hSw; (try ((first | (have hk := HB10.out.keeps hSw HXX.out) | (have hk := HB9.out.keeps hSw HXX.out) | (have hk := HB8.out.keeps hSw HXX.out) | (have hk := HB7.out.keeps hSw HXX.out)); (obtain ⟨k0, k1, k2, k3, k4, k5, k6, k7, k8, k9⟩ := cells10 hk); (have kl := hk.lt)))
           go_simp; first | done | rfl)
        try simp only [Act.put, List.setIfInBounds_toArray, List.set_cons_zero, List.set_cons_succ]
        -- 23 Op.pick (Operand.tmp 99) (Operand.tmp 106) (Operand.const (Value.bool false))
        refine wpMono_take' 23 (v := ?_) rfl (by kernel_rfl) (by kernel_rfl) (by kernel_rfl) (fun _ _ _ h => h) (by rfl) ?_ ?_
        rotate_left
        · (intro W hSw; (try ((first | (have hk := HB10.out.keeps hSw HXX.out) | (have hk := HB9.out.keeps hSw HXX.out) | (have hk := HB8.out.keeps hSw HXX.out) | (have hk := HB7.out.keeps hSw HXX.out)); (obtain ⟨k0, k1, k2, k3, k4, k5, k6, k7, k8, k9⟩ := cells10 hk); (have kl := hk.lt)))
           go_simp; first | done | rfl)
        try simp only [Act.put, List.setIfInBounds_toArray, List.set_cons_zero, List.set_cons_succ]
        -- 24 Op.move (Operand.tmp 107)
        refine wpMono_take' 24 (v := ?_) rfl (by kernel_rfl) (by kernel_rfl) (by kernel_rfl) (fun _ _ _ h => h) (by rfl) ?_ ?_
        rotate_left
        · (intro W hSw; (try ((first | (have hk := HB10.out.keeps hSw HXX.out) | (have hk := HB9.out.keeps hSw HXX.out) | (have hk := HB8.out.keeps hSw HXX.out) | (have hk := HB7.out.keeps hSw HXX.out)); (obtain ⟨k0, k1, k2, k3, k4, k5, k6, k7, k8, k9⟩ := cells10 hk); (have kl := hk.lt)))
           go_simp; first | done | rfl)
        try simp only [Act.put, List.setIfInBounds_toArray, List.set_cons_zero, List.set_cons_succ]
        -- 25 Op.move (Operand.tmp 7)
        refine wpMono_take' 25 (v := ?_) rfl (by kernel_rfl) (by kernel_rfl) (by kernel_rfl) (fun _ _ _ h => h) (by rfl) ?_ ?_
        rotate_left
        · (intro W hSw; (try ((first | (have hk := HB10.out.keeps hSw HXX.out) | (have hk := HB9.out.keeps hSw HXX.out) | (have hk := HB8.out.keeps hSw HXX.out) | (have hk := HB7.out.keeps hSw HXX.out)); (obtain ⟨k0, k1, k2, k3, k4, k5, k6, k7, k8, k9⟩ := cells10 hk); (have kl := hk.lt)))
           go_simp; first | done | rfl)
        try simp only [Act.put, List.setIfInBounds_toArray, List.set_cons_zero, List.set_cons_succ]
        -- 26 Op.move (Operand.tmp 13)
        refine wpMono_take' 26 (v := ?_) rfl (by kernel_rfl) (by kernel_rfl) (by kernel_rfl) (fun _ _ _ h => h) (by rfl) ?_ ?_
        rotate_left
        · (intro W hSw; (try ((first | (have hk := HB10.out.keeps hSw HXX.out) | (have hk := HB9.out.keeps hSw HXX.out) | (have hk := HB8.out.keeps hSw HXX.out) | (have hk := HB7.out.keeps hSw HXX.out)); (obtain ⟨k0, k1, k2, k3, k4, k5, k6, k7, k8, k9⟩ := cells10 hk); (have kl := hk.lt)))
           go_simp; first | done | rfl)
        try simp only [Act.put, List.setIfInBounds_toArray, List.set_cons_zero, List.set_cons_succ]
        -- 27 Op.fieldAddr 28 (Operand.tmp 3) 4
        refine wpMono_take' 27 (v := ?_) rfl (by kernel_rfl) (by kernel_rfl) (by kernel_rfl) (fun _ _ _ h => h) (by rfl) ?_ ?_
        rotate_left
        · (intro W hSw; (try ((first | (have hk := HB10.out.keeps hSw HXX.out) | (have hk := HB9.out.keeps hSw HXX.out) | (have hk := HB8.out.keeps hSw HXX.out) | (have hk := HB7.out.keeps hSw HXX.out)); (obtain ⟨k0, k1, k2, k3, k4, k5, k6, k7, k8, k9⟩ := cells10 hk); (have kl := hk.lt)))
           go_simp; first | done | rfl)
        try simp only [Act.put, List.setIfInBounds_toArray, List.set_cons_zero, List.set_cons_succ]
        -- 28 Op.load 9 (Operand.tmp 111)
        refine wpMono_take' 28 (v := ?_) rfl (by kernel_rfl) (by kernel_rfl) (by kernel_rfl) (fun _ _ _ h => h) (by rfl) ?_ ?_
        rotate_left
        · (intro W hSw; (try ((first | (have hk := HB10.out.keeps hSw HXX.out) | (have hk := HB9.out.keeps hSw HXX.out) | (have hk := HB8.out.keeps hSw HXX.out) | (have hk := HB7.out.keeps hSw HXX.out)); (obtain ⟨k0, k1, k2, k3, k4, k5, k6, k7, k8, k9⟩ := cells10 hk); (have kl := hk.lt)))
           go_simp; first | done | rfl)
        try simp only [Act.put, List.setIfInBounds_toArray, List.set_cons_zero, List.set_cons_succ]
        -- 29 Op.fieldAddr 28 (Operand.tmp 3) 5
        refine wpMono_take' 29 (v := ?_) rfl (by kernel_rfl) (by kernel_rfl) (by kernel_rfl) (fun _ _ _ h => h) (by rfl) ?_ ?_
        rotate_left
        · (intro W hSw; (try ((first | (have hk := HB10.out.keeps hSw HXX.out) | (have hk := HB9.out.keeps hSw HXX.out) | (have hk := HB8.out.keeps hSw HXX.out) | (have hk := HB7.out.keeps hSw HXX.out)); (obtain ⟨k0, k1, k2, k3, k4, k5, k6, k7, k8, k9⟩ := cells10 hk); (have kl := hk.lt)))
           go_simp; first | done | rfl)
        try simp only [Act.put, List.setIfInBounds_toArray, List.set_cons_zero, List.set_cons_succ]
        -- 30 Op.load 9 (Operand.tmp 113)
        refine wpMono_take' 30 (v := ?_) rfl (by kernel_rfl) (by kernel_rfl) (by kernel_rfl) (fun _ _ _ h => h) (by rfl) ?_ ?_
        rotate_left
        · (intro W hSw; (try ((first | (have hk := HB10.out.keeps hSw HXX.out) | (have hk := HB9.out.keeps hSw HXX.out) | (have hk := HB8.out.keeps hSw HXX.out) | (have hk := HB7.out.keeps hSw HXX.out)); (obtain ⟨k0, k1, k2, k3, k4, k5, k6, k7, k8, k9⟩ := cells10 hk); (have kl := hk.lt)))
           go_simp; first | done | rfl)
        try simp only [Act.put, List.setIfInBounds_toArray, List.set_cons_zero, List.set_cons_succ]
        -- EFFECT 31 Op.call { callee := Callee.value (Operand.func 11), args := #[Operand.tmp 109, Operand.tmp 110, Operand.tmp 112, Operand.tmp 114], argTypes 
        refine wpMono_one' 31 (by kernel_rfl) rfl (by rfl) (fun K hK => ?_)
        go_simp
        obtain ⟨A9, c9, hr9⟩ := HP10.out.rf
        refine (same_both g bm gr A9 c9 (takeL L (se, kk) ⟨t, r, v, gn, lf⟩) se kk _ HP10.out.st hr9 HX.out.1 HX.out.2 (by omega)).mono ?_
        rintro e w11 ⟨rfl, hb11⟩
        have HP11 := Lib.hid (HP10.out.below hb11)
        have HK11 := Lib.hid hb11
        clear hb11 hr9
        refine hK.out _ _ ?_ ?_
        · exact .of_below HK11.out
        clear hK K
        try simp only [Act.put, List.setIfInBounds_toArray, List.set_cons_zero, List.set_cons_succ]
        -- 32 Op.pick (Operand.tmp 108) (Operand.tmp 115) (Operand.const (Value.bool false))
        refine wpMono_take' 32 (v := ?_) rfl (by kernel_rfl) (by kernel_rfl) (by kernel_rfl) (fun _ _ _ h => h) (by rfl) ?_ ?_
        rotate_left
        · (intro W hSw; (try ((first | (have hk := HB10.out.keeps hSw HXX.out) | (have hk := HB9.out.keeps hSw HXX.out) | (have hk := HB8.out.keeps hSw HXX.out) | (have hk := HB7.out.keeps hSw HXX.out)); (obtain ⟨k0, k1, k2, k3, k4, k5, k6, k7, k8, k9⟩ := cells10 hk); (have kl := hk.lt)))
           go_simp; first | done | rfl)
        try simp only [Act.put, List.setIfInBounds_toArray, List.set_cons_zero, List.set_cons_succ]
        -- 33 Op.assign (Operand.tmp 116)
        refine wpMono_take' 33 (v := ?_) rfl (by kernel_rfl) (by kernel_rfl) (by kernel_rfl) (fun _ _ _ h => h) (by rfl) ?_ ?_
        rotate_left
        · (intro W hSw; (try ((first | (have hk := HB10.out.keeps hSw HXX.out) | (have hk := HB9.out.keeps hSw HXX.out) | (have hk := HB8.out.keeps hSw HXX.out) | (have hk := HB7.out.keeps hSw HXX.out)); (obtain ⟨k0, k1, k2, k3, k4, k5, k6, k7, k8, k9⟩ := cells10 hk); (have kl := hk.lt)))
           go_simp; first | done | rfl)
        try simp only [Act.put, List.setIfInBounds_toArray, List.set_cons_zero, List.set_cons_succ]
        refine wpMono_done (by kernel_rfl) ?_ _
        clear HP10 HB10 HK10 HK11 HP8 HB8 HK8 HS9 HB9 HK9 HR9 HP7 HB7 HP
        go_wp2
        go_ret
        exact ⟨rfl, HP11.out.bel⟩
      · obtain ⟨ge, rfl, hE⟩ := hE
        have HE := Lib.hid (show ErrAt w4 (.iface 69 (.pointer (some ⟨ge, 0, none⟩))) ⟨#[115, 116, 111, 114, 101]⟩ i 1 from ⟨ge, rfl, hE⟩)
        have HWA := Lib.hid hwa
        have HTI := Lib.hid hti
        have I4 := Lib.hid (below_step I3.out hb4)
        clear hE hwa hti hb4 I3 J3 HR3
        go_wp2_with fail
        refine (wrong_any A m c L w4 HL.out (by omega) ((HR.out.below I4.out).more I4.out.size)).mono ?_
        rintro e w5 ⟨hwr, hb5⟩
        have hem : e = .returned (.int .i64 i) := by
          rcases hwr with ⟨_, h⟩ | ⟨j, hj, rj, h⟩
          · exact (not_wrong h HWA.out).elim
          · rw [same_wrong HWA.out hj HTI.out rj]; exact h
        subst hem
        have HE5 := Lib.hid (HE.out.below hb5)
        have I5 := Lib.hid (below_step I4.out hb5)
        clear hwr hb5 HE I4
        have di : decide ((0 : Int) ≤ (i : Int)) = true := by simp
        go_wp2_with fail
        refine (place_any _ _ i 1 w5 (HT.out.below I5.out) HE5.out).mono ?_
        rintro e w6 ⟨rfl, hb6⟩
        have HE6 := Lib.hid (HE5.out.below hb6)
        have I6 := Lib.hid (below_step I5.out hb6)
        clear hb6 HE5 I5
        go_wp2_with fail
        refine (is_err _ 1 1 w6 HE6.out.err).mono ?_
        rintro e w9 ⟨rfl, hw9⟩
        subst w9
        go_wp2
        go_ret
        exact ⟨rfl, I6.out⟩
end Go.Proofs.YtgfamdakjcjdkaaDoor.wStoreMakes
