/- The walk of the law VecOwn. -/
import Derived.Test.YtfpknghbjniepaaOwn
namespace Go.Proofs.Ytfpknghbjniepaa.wVecOwn
open Go.RowKit Go.Proofs.Ytfpknghbjniepaa.base Go.Proofs.Ytfpknghbjniepaa.vec Go.Proofs.Ytfpknghbjniepaa.ref Go.Proofs.Ytfpknghbjniepaa.made Go.Proofs.Ytfpknghbjniepaa.all_ Go.Proofs.Ytfpknghbjniepaa.lit Go.Proofs.Ytfpknghbjniepaa.plain Go.Proofs.Ytfpknghbjniepaa.pair Go.Proofs.Ytfpknghbjniepaa.with_ Go.Proofs.Ytfpknghbjniepaa.own

set_option maxRecDepth 100000 in
set_option maxHeartbeats 3200000 in
theorem walk (v0 v1 v2 : Value) (w : World) (a0 : Arg Try.prog w 22 v0) (a1 : Arg Try.prog w 22 v1) (a2 : Arg Try.prog w 3 v2) :
    Calls Try.prog 7 #[v0, v1, v2] w fun e w' => e = .returned (.bool true) ∧ Below w.heap.size w w' := by
  obtain ⟨A0, l0, c0, x, rfl, h0⟩ := vec_arg a0
  obtain ⟨A1, l1, c1, y, rfl, h1⟩ := vec_arg a1
  obtain ⟨r, rfl, _⟩ := a2.int Try.underlying3
  clear a0 a1 a2
  obtain ⟨i0, hi, hz0, hz1, hz2⟩ := info_parts int_info
  have H0 := Lib.hid h0
  have H1 := Lib.hid h1
  clear h0 h1
  go_enter Try.func7, Try.ntmps7
  go_wp2_with fail
  refine (awake_any _).mono ?_
  rintro e w1 ⟨rfl, hb1⟩
  have hs1 := hb1.size
  have h3 := vecs0_lit w1 (g := w1.heap.size) 22 [⟨A0, l0, c0, x⟩, ⟨A1, l1, c1, y⟩] rfl (by simp) (by
    intro v hv
    simp only [List.mem_cons, List.not_mem_nil, or_false] at hv
    rcases hv with rfl | rfl
    · exact (H0.out.below hb1).more hs1
    · exact (H1.out.below hb1).more hs1)
  have Hb1 := Lib.hid hb1
  have H3 := Lib.hid h3
  clear hb1 h3
  generalize hG : greatB [⟨A0, l0, c0, x⟩, ⟨A1, l1, c1, y⟩] = G
  have HG := Lib.hid hG
  clear hG
  have hg3 := great_any _ _ _ _ _ _ H3.out
  rw [HG.out] at hg3
  have Hg3 := Lib.hid hg3
  clear hg3
  cases G
  · obtain ⟨_, hle⟩ := greatB_false HG.out
    have hl0 : l0 ≤ 100 := hle ⟨A0, l0, c0, x⟩ (by simp)
    have hl1 : l1 ≤ 100 := hle ⟨A1, l1, c1, y⟩ (by simp)
    clear hle HG
    have hbb := below_alloc Hb1.out (.cells ([⟨A0, l0, c0, x⟩, ⟨A1, l1, c1, y⟩].map V.val).toArray 22)
    go_wp2_with fail
    refine (Hg3.out).mono ?_
    rintro e w2 ⟨rfl, rfl⟩
    clear Hg3 H3
    generalize w1.alloc (.cells ([⟨A0, l0, c0, x⟩, ⟨A1, l1, c1, y⟩].map V.val).toArray 22) = W at *
    have k0 := ((H0.out.below hbb).more hbb.size).2.2.2.1
    have k1 := ((H1.out.below hbb).more hbb.size).2.2.2.1
    have Hbb := Lib.hid hbb
    clear hbb
    have hzx := enc_one x
    have hzy := enc_one y
    have Hzx := Lib.hid hzx
    have Hzy := Lib.hid hzy
    clear hzx hzy
    go_wp2_with (first
      | (at_builtin; refine wpList_append_any _ rfl (.tmp 18) (.tmp 19) _ rfl (W.heap.size) 3 i0 _ 1 8 Try.underlying22 hi hz0 hz1 hz2 rfl (by omega) (.slice (some ⟨W.heap.size, 0, none⟩) 0 0) 0 [] rfl (ownsRow_new0 _ _ _ _) W.heap.size _ l0 c0 (enc x) rfl (k0.alloc (Nat.le_refl _) _) Hzx.out (by unfold maxLen; omega) (by omega) (by simp) ?_; intro vx w3 hown3 hg3 _; simp only [Nat.zero_add, List.nil_append] at hown3; have Hown3 := Lib.hid hown3; have Hb3 := Lib.hid (((Below.refl W.heap.size W).alloc (Nat.le_refl _) _).grown hg3 (by simp) (by simp [Value.ownBlock])); clear hown3 hg3)
      | (at_builtin; refine wpList_append_any _ rfl (.tmp 21) (.tmp 22) _ rfl (w3.heap.size) 3 i0 _ 1 8 Try.underlying22 hi hz0 hz1 hz2 rfl (by omega) (.slice (some ⟨w3.heap.size, 0, none⟩) 0 0) 0 [] rfl (ownsRow_new0 _ _ _ _) W.heap.size _ l1 c1 (enc y) rfl ((k1.below Hb3.out).alloc Hb3.out.size _) Hzy.out (by unfold maxLen; omega) (by omega) (by simp) ?_; intro vy w4 hown4 hg4 _; simp only [Nat.zero_add, List.nil_append] at hown4; have Hown4 := Lib.hid hown4; have Hb4 := Lib.hid (((Below.refl w3.heap.size w3).alloc (Nat.le_refl _) _).grown hg4 (by simp) (by simp [Value.ownBlock])); clear hown4 hg4)
      | fail)
    have hbw4 : Below w.heap.size w w4 := below_step (below_step Hbb.out Hb3.out) Hb4.out
    have hX := (own_below Hown3.out Hb4.out)
    have hY := Hown4.out
    have j0 := Lib.hid ((H0.out.below hbw4).more hbw4.size)
    have j1 := Lib.hid ((H1.out.below hbw4).more hbw4.size)
    obtain ⟨xA, xc, rfl, hXV⟩ := Vec.of_own hX
    obtain ⟨yA, yc, rfl, hYV⟩ := Vec.of_own hY
    have Hbw4 := Lib.hid hbw4
    have HXV := Lib.hid hXV
    have HYV := Lib.hid hYV
    clear hbw4 hXV hYV
    clear k0 k1 Hown3 Hown4 Hb3 Hb4 hX hY
    go_wp2_with fail
    refine (trim_any _ _ _ _ _ j0.out (by omega)).mono ?_
    rintro e w5 ⟨u1, rfl, o1, b1⟩
    have j0b := Lib.hid ((j0.out.below b1).more b1.size)
    have c1' := own_lt o1
    have lt1 := trim_le x
    have O1 := Lib.hid o1
    have B1 := Lib.hid b1
    have C1' := Lib.hid c1'
    clear o1 b1 c1'
    go_wp2_with fail
    refine (with_any _ _ _ _ r 7 _ j0b.out (by omega)).mono ?_
    rintro e w6 ⟨u2, rfl, o2, b2⟩
    have c2' := own_lt o2
    have lt2 := with_le x r 7
    have j6 := Lib.hid ((j0b.out.below b2).more b2.size)
    have lx : x.length = l0 := j0.out.1
    have ln1 : (trimL x).length ≤ 1000 := by omega
    have ln2 : (withL x r 7).length ≤ 1000 := by omega
    have bb6 := Lib.hid (below_step B1.out b2)
    have O2 := Lib.hid o2
    have B2 := Lib.hid b2
    have C2' := Lib.hid c2'
    clear o2 b2 c2'
    clear lt1 lt2 lx j0b
    go_wp2_with fail
    refine (join1 _ ⟨A0, l0, c0, x⟩ _ rfl j6.out (by dsimp only; omega)).mono ?_
    rintro e w7 ⟨u3, n3, rfl, ⟨x3, o3⟩, ln3, b3⟩
    have c3' := own_lt o3
    have bb7 := Lib.hid (below_step bb6.out b3)
    have j7 := Lib.hid ((j6.out.below b3).more b3.size)
    have j7' := Lib.hid ((j1.out.below bb7.out).more bb7.out.size)
    have O3 := Lib.hid o3
    have B3 := Lib.hid b3
    have C3' := Lib.hid c3'
    clear o3 b3 c3'
    go_wp2_with fail
    refine (join2 _ ⟨A0, l0, c0, x⟩ ⟨A1, l1, c1, y⟩ _ rfl j7.out (by dsimp only; omega) j7'.out (by dsimp only; omega)).mono ?_
    rintro e w8 ⟨u4, n4, rfl, ⟨x4, o4⟩, ln4, b4⟩
    have c4' := own_lt o4
    have bb8 := Lib.hid (below_step bb7.out b4)
    have j8 := Lib.hid ((j7.out.below b4).more b4.size)
    have O4 := Lib.hid o4
    have B4 := Lib.hid b4
    have C4' := Lib.hid c4'
    clear o4 b4 c4'
    go_wp2_with fail
    refine (least1 _ ⟨A0, l0, c0, x⟩ _ rfl j8.out (by dsimp only; omega)).mono ?_
    rintro e w9 ⟨u5, n5, rfl, ⟨x5, o5⟩, ln5, b5⟩
    have c5' := own_lt o5
    have bb9 := Lib.hid (below_step bb8.out b5)
    have j9 := Lib.hid ((j8.out.below b5).more b5.size)
    have j9' := Lib.hid ((j1.out.below bb9.out).more bb9.out.size)
    have O5 := Lib.hid o5
    have B5 := Lib.hid b5
    have C5' := Lib.hid c5'
    clear o5 b5 c5'
    go_wp2_with fail
    refine (least2 _ ⟨A1, l1, c1, y⟩ ⟨A0, l0, c0, x⟩ _ rfl j9'.out (by dsimp only; omega) j9.out (by dsimp only; omega)).mono ?_
    rintro e w10 ⟨u6, n6, rfl, ⟨x6, o6⟩, ln6, b6⟩
    have c6' := own_lt o6
    obtain ⟨p1, q1, rfl⟩ := ownsRow_slice O1.out
    obtain ⟨p2, q2, rfl⟩ := ownsRow_slice O2.out
    obtain ⟨p3, q3, rfl⟩ := ownsRow_slice O3.out
    obtain ⟨p4, q4, rfl⟩ := ownsRow_slice O4.out
    obtain ⟨p5, q5, rfl⟩ := ownsRow_slice O5.out
    obtain ⟨p6, q6, rfl⟩ := ownsRow_slice o6
    have hch : Chain w10 w10.heap.size w4.heap.size [.slice p1 (trimL x).length q1, .slice p2 (withL x r 7).length q2, .slice p3 n3 q3, .slice p4 n4 q4, .slice p5 n5 q5, .slice p6 n6 q6] := by
      have k6 := b6
      have k5 := below_step B5.out k6
      have k4 := below_step B4.out k5
      have k3 := below_step B3.out k4
      have k2 := below_step B2.out k3
      exact .one (own_below O1.out k2) ln1 B1.out.size k2.size C1'.out
        (.one (own_below O2.out k3) ln2 B2.out.size k3.size C2'.out
        (.one (own_below O3.out k4) ln3 B3.out.size k4.size C3'.out
        (.one (own_below O4.out k5) ln4 B4.out.size k5.size C4'.out
        (.one (own_below O5.out k6) ln5 B5.out.size k6.size C5'.out
        (.one o6 ln6 k6.size (Nat.le_refl _) c6' trivial)))))
    have hbw : Below w4.heap.size w4 w10 := below_step bb9.out b6
    have Hch := Lib.hid hch
    have Hbw := Lib.hid hbw
    clear hch hbw
    clear o6 b6 c6' O1 O2 O3 O4 O5 B1 B2 B3 B4 B5 C1' C2' C3' C4' C5' bb6 bb7 bb8 bb9 j6 j7 j8 j9 j7' j9' ln1 ln2 ln3 ln4 ln5 ln6
    generalize (trimL x).length = n1 at *
    generalize (withL x r 7).length = n2 at *
    have hgs : w4.heap.size ≤ w10.heap.size := Hbw.out.size
    have hT : Blk (w10.alloc (.cells #[.slice p1 n1 q1, .slice p2 n2 q2, .slice p3 n3 q3, .slice p4 n4 q4, .slice p5 n5 q5, .slice p6 n6 q6] 32)) w10.heap.size _ _ := Blk.new w10 32 #[.slice p1 n1 q1, .slice p2 n2 q2, .slice p3 n3 q3, .slice p4 n4 q4, .slice p5 n5 q5, .slice p6 n6 q6]
    have hch2 : Chain (w10.alloc (.cells #[.slice p1 n1 q1, .slice p2 n2 q2, .slice p3 n3 q3, .slice p4 n4 q4, .slice p5 n5 q5, .slice p6 n6 q6] 32)) w10.heap.size w4.heap.size _ := Chain.keep (X := nobody) (.alloc _) _ _ Hch.out (fun _ _ _ h => h)
    have hbw2 := below_alloc Hbw.out (.cells #[.slice p1 n1 q1, .slice p2 n2 q2, .slice p3 n3 q3, .slice p4 n4 q4, .slice p5 n5 q5, .slice p6 n6 q6] 32)
    have hcells : (#[.slice p1 n1 q1, .slice p2 n2 q2, .slice p3 n3 q3, .slice p4 n4 q4, .slice p5 n5 q5, .slice p6 n6 q6] : Array Value).toList = [.slice p1 n1 q1, .slice p2 n2 q2, .slice p3 n3 q3, .slice p4 n4 q4, .slice p5 n5 q5, .slice p6 n6 q6] := rfl
    go_wp2
    generalize w10.alloc (.cells #[.slice p1 n1 q1, .slice p2 n2 q2, .slice p3 n3 q3, .slice p4 n4 q4, .slice p5 n5 q5, .slice p6 n6 q6] 32) = V at *
    generalize hgg : w10.heap.size = gg at *
    have hggV : gg < V.heap.size := hT.lt
    have Hch2 := Lib.hid hch2
    have Hbw2 := Lib.hid hbw2
    have HT := Lib.hid hT
    have Hgg := Lib.hid hgg
    clear hch2 hbw2 hT hgg
    clear Hch Hbw hcells
    go_loopw [10, 11, 45] (fun _ _ i wr => ∃ (k s : Nat), k ≤ 6 ∧ i = .int .i64 k ∧ w4.heap.size ≤ s ∧ s ≤ gg ∧ Chain wr gg s ([.slice p1 n1 q1, .slice p2 n2 q2, .slice p3 n3 q3, .slice p4 n4 q4, .slice p5 n5 q5, .slice p6 n6 q6].drop k) ∧ Keeps (fun i => w4.heap.size ≤ i ∧ i < s) V wr) (fun _ _ i _ => 6 - (intOf i).toNat)
    case atStart => exact ⟨0, w4.heap.size, by omega, rfl, Nat.le_refl _, hgs, Hch2.out, .refl _ _⟩
    case round =>
      obtain ⟨k, s, hk, rfl, hs4, hsg, hc, hkp⟩ := hrel
      by_cases hk6 : k < 6
      · obtain ⟨u, hu⟩ : ∃ u, ([.slice p1 n1 q1, .slice p2 n2 q2, .slice p3 n3 q3, .slice p4 n4 q4, .slice p5 n5 q5, .slice p6 n6 q6] : List Value)[k]? = some u := ⟨_, List.getElem?_eq_getElem (by simpa using hk6)⟩
        have hdr : ([.slice p1 n1 q1, .slice p2 n2 q2, .slice p3 n3 q3, .slice p4 n4 q4, .slice p5 n5 q5, .slice p6 n6 q6] : List Value).drop k = u :: ([.slice p1 n1 q1, .slice p2 n2 q2, .slice p3 n3 q3, .slice p4 n4 q4, .slice p5 n5 q5, .slice p6 n6 q6] : List Value).drop (k + 1) := by
          obtain ⟨hkl, rfl⟩ := List.getElem?_eq_some_iff.1 hu
          exact List.drop_eq_getElem_cons hkl
        rw [hdr] at hc
        obtain ⟨n, xs, s', ho, hn, hog, hss, hsT, hc'⟩ := hc
        have hcell : wr.cell? ⟨gg, 0 + k, none⟩ = some u := by
          rw [hkp.cell _ hggV (by omega), HT.out.cell, Nat.zero_add]
          simpa using hu
        rw [Nat.zero_add] at hcell
        obtain ⟨uA, uc, rfl⟩ := ownsRow_slice ho
        have hun : n ≤ uc ∧ uc ≤ 9223372036854775807 := by
          rcases ho.2 with ⟨e, rfl⟩ | ⟨g, cap, cur, e, _, _, e1, e2, _⟩
          · injection e with _ _ e; subst e; exact ⟨Nat.le_refl _, by omega⟩
          · injection e with _ _ e; subst e; unfold maxLen at e2; exact ⟨e1, by omega⟩
        have hsw : s ≤ wr.heap.size := by have := hkp.size; omega
        obtain ⟨hun1, hun2⟩ := hun
        have Hog := Lib.hid hog
        have Hc' := Lib.hid hc'
        have Hkp := Lib.hid hkp
        have Ho := Lib.hid ho
        clear hc' hkp ho
        clear hu hdr hog
        go_wp2_with (at_builtin; refine wpList_append_new rfl (.tmp 54) (.tmp 55) _ rfl s 3 i0 _ 1 8 Try.underlying32 hi hz0 hz1 hz2 rfl (by decide) (.slice uA n uc) n xs rfl Ho.out 1 1 [.int .i64 9] rfl rfl (by simp [Value.oneCell']) (by unfold maxLen; omega) (by omega) hsw ?_; intro vz wz hownz hbwz hgrz hwhz; obtain ⟨zg, zc, rfl⟩ := ownsRow_some hownz (by omega); have Hownz := Lib.hid hownz; have Hbwz := Lib.hid hbwz; have Hgrz := Lib.hid hgrz; have Hwhz := Lib.hid hwhz; clear hownz hbwz hgrz hwhz)
        obtain ⟨wo, rfl⟩ : ∃ wo : World, wo = wr := ⟨_, rfl⟩
        have hzX : (w4.heap.size ≤ zg ∧ zg < s') ∨ wo.heap.size ≤ zg := by
          rcases Hwhz.out with h | ⟨g, h, hg⟩
          · have e : (Value.slice uA n uc).ownBlock = some zg := by rw [← h]; rfl
            have h1 := Hog.out zg e
            have h2 := (Ho.out.lt zg e).1
            exact .inl ⟨by omega, h1⟩
          · have e : g = zg := by simpa [Value.ownBlock] using h.symm
            exact .inr (e ▸ hg)
        have hkz : Keeps (fun i => w4.heap.size ≤ i ∧ i < s') wo wz := .grown Hgrz.out (fun g hg => .inl ⟨by have := (Ho.out.lt g hg).1; omega, Hog.out g hg⟩)
        have HzX := Lib.hid hzX
        have Hkz := Lib.hid hkz
        clear hzX hkz
        clear Hgrz Hwhz Hbwz
        go_loopw [11, 59] (fun _ j wr => ∃ (m : Nat) (ys : List Value), m ≤ n + 1 ∧ j = .int .i64 m ∧ wr.ownsRow s 3 1 (.slice (some ⟨zg, 0, none⟩) (n + 1) zc) (n + 1) ys ∧ Keeps (fun i => w4.heap.size ≤ i ∧ i < s') wo wr) (fun _ j _ => n + 1 - (intOf j).toNat)
        case atStart => exact ⟨0, _, by omega, rfl, Hownz.out, Hkz.out⟩
        case round =>
          obtain ⟨m, ys, hm, rfl, hoy, hky⟩ := hrel
          by_cases hmn : m < n + 1
          · obtain ⟨⟨cu, hoc⟩, hof, hol⟩ := own_cell hoy hmn
            have Hoy := Lib.hid hoy
            have Hky := Lib.hid hky
            clear hoy hky
            go_wp2
            go_roundw
            case rel => exact ⟨m + 1, _, by omega, by go_num, own_store Hoy.out m (.int .i64 (-5)), Keeps.set Hky.out HzX.out _⟩
            case measure => simp [intOf]; omega
          · have hc2 := Chain.keep hky _ _ Hc'.out (fun g h1 h2 => by omega)
            have hk2 : Keeps (fun i => w4.heap.size ≤ i ∧ i < s') V wr := (Hkp.out.more (fun i _ h => ⟨h.1, by omega⟩)).trans hky
            have Hc2 := Lib.hid hc2
            have Hk2 := Lib.hid hk2
            clear hc2 hk2
            clear hky hoy
            go_wp2
            go_roundw
            case rel => exact ⟨k + 1, s', by omega, by go_num, by omega, by omega, Hc2.out, Hk2.out⟩
            case measure => simp [intOf]; omega
      · have hbv : Below w4.heap.size w4 wr := Hbw2.out.trans (hkp.below (fun i hi h => by omega) Hbw2.out.size)
        have va := Lib.hid (j0.out.below hbv)
        have vb := Lib.hid (j1.out.below hbv)
        have vx := Lib.hid (HXV.out.below hbv)
        have vy := Lib.hid (HYV.out.below hbv)
        have hfin := below_step Hbw4.out hbv
        have Hfin := Lib.hid hfin
        clear hfin
        clear hbv hkp hc
        go_wp2_with fail
        refine (same_any _ _ _ _ _ _ _ _ _ _ va.out vx.out).mono ?_
        rintro e w11 ⟨rfl, nq, rfl⟩
        rw [decide_eq_true rfl]
        have vb2 := Lib.hid (Vec.below (w' := wr.drewN nq) vb.out (below_drewN (Below.refl _ _) nq))
        have vy2 := Lib.hid (Vec.below (w' := wr.drewN nq) vy.out (below_drewN (Below.refl _ _) nq))
        have hfin2 := below_drewN Hfin.out nq
        generalize wr.drewN nq = w11 at *
        have Hfin2 := Lib.hid hfin2
        clear hfin2
        go_wp2_with fail
        refine (same_any _ _ _ _ _ _ _ _ _ _ vb2.out vy2.out).mono ?_
        rintro e w12 ⟨rfl, nq2, rfl⟩
        rw [decide_eq_true rfl]
        go_wp2
        go_ret
        exact ⟨rfl, below_drewN Hfin2.out _⟩
  · go_wp2_with fail
    refine (Hg3.out).mono ?_
    rintro e w2 ⟨rfl, rfl⟩
    go_wp2
    go_ret
    exact ⟨rfl, Hb1.out.alloc hs1 _⟩
end Go.Proofs.Ytfpknghbjniepaa.wVecOwn
