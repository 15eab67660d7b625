/- The walk of the law VecLeast. -/
import Derived.Test.YtfpknghbjniepaaPair
namespace Go.Proofs.Ytfpknghbjniepaa.wVecLeast
open Go.RowKit Go.Proofs.Ytfpknghbjniepaa.base Go.Proofs.Ytfpknghbjniepaa.vec Go.Proofs.Ytfpknghbjniepaa.ref Go.Proofs.Ytfpknghbjniepaa.made Go.Proofs.Ytfpknghbjniepaa.all_ Go.Proofs.Ytfpknghbjniepaa.lit Go.Proofs.Ytfpknghbjniepaa.plain Go.Proofs.Ytfpknghbjniepaa.pair

theorem max_comm (a b : Int) : opMax a b = opMax b a := by unfold opMax; split <;> split <;> omega
theorem max_back (a b : Int) : opMax (opMax a b) a = opMax a b := by unfold opMax; split <;> split <;> omega
theorem max_assoc (a b c : Int) : opMax (opMax a b) c = opMax a (opMax b c) := by unfold opMax; repeat' split <;> omega
theorem max_left (a b : Int) : a ≤ opMax a b := by unfold opMax; split <;> omega
theorem max_right (a b : Int) : b ≤ opMax a b := by unfold opMax; split <;> omega
theorem max_le {a b c : Int} (h : a ≤ c) (h' : b ≤ c) : opMax a b ≤ c := by unfold opMax; split <;> omega
theorem min_left (a b : Int) : opMin a b ≤ a := by unfold opMin; split <;> omega
theorem min_right (a b : Int) : opMin a b ≤ b := by unfold opMin; split <;> omega
set_option maxHeartbeats 6400000 in
theorem walk (v0 v1 v2 : Value) (w : World) (a0 : Arg Try.prog w 22 v0) (a1 : Arg Try.prog w 22 v1) (a2 : Arg Try.prog w 22 v2) :
    Calls Try.prog 5 #[v0, v1, v2] w fun e w' => e = .returned (.bool true) ∧ Below w.heap.size w w' := by
  obtain ⟨A0, l0, c0, x, rfl, h0⟩ := vec_arg a0
  obtain ⟨A1, l1, c1, y, rfl, h1⟩ := vec_arg a1
  obtain ⟨A2, l2, c2, z, rfl, h2⟩ := vec_arg a2
  clear a0 a1 a2
  have H0 := Lib.hid h0; clear h0
  have H1 := Lib.hid h1; clear h1
  have H2 := Lib.hid h2; clear h2
  go_enter Try.func5, Try.ntmps5
  go_wp2_with fail
  refine (awake_any _).mono ?_
  rintro e w1 ⟨rfl, hb1⟩
  have hs1 := hb1.size
  have h3 := vecs0_lit w1 (g := w1.heap.size) 22 [⟨A0, l0, c0, x⟩, ⟨A1, l1, c1, y⟩, ⟨A2, l2, c2, z⟩] rfl (by simp) (by
    intro v hv
    simp only [List.mem_cons, List.not_mem_nil, or_false] at hv
    rcases hv with rfl | rfl | rfl
    · exact (H0.out.below hb1).more hs1
    · exact (H1.out.below hb1).more hs1
    · exact (H2.out.below hb1).more hs1)
  have Hb1 := Lib.hid hb1; clear hb1
  have H3 := Lib.hid h3; clear h3
  generalize hG : greatB [⟨A0, l0, c0, x⟩, ⟨A1, l1, c1, y⟩, ⟨A2, l2, c2, z⟩] = G
  have HG := Lib.hid hG; clear hG
  have hg3 := great_any _ _ _ _ _ _ H3.out
  rw [HG.out] at hg3
  have Hg3 := Lib.hid hg3; clear hg3
  cases G
  · obtain ⟨_, hle⟩ := greatB_false HG.out
    have hl0 : l0 ≤ 100 := hle ⟨A0, l0, c0, x⟩ (by simp)
    have hl1 : l1 ≤ 100 := hle ⟨A1, l1, c1, y⟩ (by simp)
    have hl2 : l2 ≤ 100 := hle ⟨A2, l2, c2, z⟩ (by simp)
    clear hle HG
    have hbb := Hb1.out.alloc hs1 (.cells ([⟨A0, l0, c0, x⟩, ⟨A1, l1, c1, y⟩, ⟨A2, l2, c2, z⟩].map V.val).toArray 22)
    go_wp2_with fail
    refine Hg3.out.mono ?_
    rintro e w2 ⟨rfl, rfl⟩
    have k0 := (H0.out.below hbb).more hbb.size
    have k1 := (H1.out.below hbb).more hbb.size
    have k2 := (H2.out.below hbb).more hbb.size
    clear Hg3 H3
    generalize hW : w1.alloc (.cells ([⟨A0, l0, c0, x⟩, ⟨A1, l1, c1, y⟩, ⟨A2, l2, c2, z⟩].map V.val).toArray 22) = W at *
    clear hW
    have h3 := vecs0_lit W (g := W.heap.size) 22 [⟨A0, l0, c0, x⟩, ⟨A1, l1, c1, y⟩, ⟨A2, l2, c2, z⟩] rfl (by simp) (by
      intro v hv
      simp only [List.mem_cons, List.not_mem_nil, or_false] at hv
      rcases hv with rfl | rfl | rfl
      · exact k0
      · exact k1
      · exact k2)
    have h4 := h3.vecs (by
      intro v hv
      simp only [List.mem_cons, List.not_mem_nil, or_false] at hv
      rcases hv with rfl | rfl | rfl
      · exact hl0
      · exact hl1
      · exact hl2)
    have Hbb := Lib.hid (hbb.alloc hbb.size (.cells ([⟨A0, l0, c0, x⟩, ⟨A1, l1, c1, y⟩, ⟨A2, l2, c2, z⟩].map V.val).toArray 22)); clear hbb h3 k0 k1 k2
    have H4 := Lib.hid h4; clear h4
    go_wp2
    generalize hW' : W.alloc (.cells #[.slice A0 l0 c0, .slice A1 l1 c1, .slice A2 l2 c2] 22) = W'
    have hW2 : W.alloc (.cells ([⟨A0, l0, c0, x⟩, ⟨A1, l1, c1, y⟩, ⟨A2, l2, c2, z⟩].map V.val).toArray 22) = W' := hW'
    rw [hW2] at H4 Hbb
    clear hW' hW2
    go_loop [8, 10, 24] (fun _ _ i => ∃ k : Nat, k ≤ 3 ∧ i = .int .i64 k) (fun _ _ i => 3 - (intOf i).toNat)
    case atStart => exact ⟨0, by omega, rfl⟩
    case round =>
      obtain ⟨k, hk, rfl⟩ := hrel
      by_cases hlt : k < 3
      · obtain ⟨v, _, hcell, hv, hvl⟩ := H4.out.cell (k := k) (by simpa using hlt)
        rw [Nat.zero_add] at hcell
        obtain ⟨vA, vlen, vcap, vzs⟩ := v
        dsimp only at hcell hv hvl
        have hvc := hv.2.1
        have hvm := hv.2.2.1
        unfold maxLen at hvm
        have Hv := Lib.hid hv; clear hv
        go_wp2
        go_loop [10, 30] (fun _ i => ∃ p : Nat, p ≤ vlen ∧ i = .int .i64 p) (fun _ i => vlen - (intOf i).toNat)
        case atStart => exact ⟨0, by omega, rfl⟩
        case round =>
          obtain ⟨p, hp, rfl⟩ := hrel
          by_cases hpl : p < vlen
          · obtain ⟨b, off, rfl, hb⟩ := Hv.out.at_some (by omega)
            have hc := Hv.out.cell hpl
            generalize vzs.getD p 0 = n at hc
            by_cases hn : n < 0
            · have hd : decide (n < 0) = true := by simpa using hn
              go_wp2
              go_ret
              exact ⟨rfl, Hbb.out⟩
            · have hd : decide (n < 0) = false := by simpa using hn
              go_wp2
              go_round
              case rel => exact ⟨p + 1, by omega, by go_num⟩
              case measure => simp [intOf]; omega
          · obtain rfl : p = vlen := by omega
            go_wp2
            go_round
            case rel => exact ⟨k + 1, by omega, by go_num⟩
            case measure => simp [intOf]; omega
      · obtain rfl : k = 3 := by omega
        have okA : Ok W' ⟨A0, l0, c0, x⟩ := ⟨(H0.out.below Hbb.out).more Hbb.out.size, by dsimp only; omega⟩
        have okB : Ok W' ⟨A1, l1, c1, y⟩ := ⟨(H1.out.below Hbb.out).more Hbb.out.size, by dsimp only; omega⟩
        have okC : Ok W' ⟨A2, l2, c2, z⟩ := ⟨(H2.out.below Hbb.out).more Hbb.out.size, by dsimp only; omega⟩
        have OkA := Lib.hid okA; clear okA
        have OkB := Lib.hid okB; clear okB
        have OkC := Lib.hid okC; clear okC
        clear H4
        go_wp2_with fail
        refine (join_two W' ⟨A0, l0, c0, x⟩ ⟨A1, l1, c1, y⟩ _ rfl OkA.out OkB.out).mono ?_
        rintro e w3 ⟨⟨gA, gl, gc, g⟩, rfl, hg, hgl, okG, hb3⟩
        dsimp only at hg hgl
        have ha : (⟨A0, l0, c0, x⟩ : V).zs.length = (⟨A0, l0, c0, x⟩ : V).len := OkA.out.1.1
        have hb : (⟨A1, l1, c1, y⟩ : V).zs.length = (⟨A1, l1, c1, y⟩ : V).len := OkB.out.1.1
        have hc : (⟨A2, l2, c2, z⟩ : V).zs.length = (⟨A2, l2, c2, z⟩ : V).len := OkC.out.1.1
        have hgn : (⟨gA, gl, gc, g⟩ : V).zs.length = (⟨gA, gl, gc, g⟩ : V).len := okG.1.1
        have hgk : ∀ k, g.getD k 0 = opMax (x.getD k 0) (y.getD k 0) := fun k => by rw [hg]; exact join_getD _ rfl _ _ ha hb k
        have cga : coversB g x = true := (covers_iff _ _).2 fun k => by rw [hgk]; exact max_left _ _
        have cgb : coversB g y = true := (covers_iff _ _).2 fun k => by rw [hgk]; exact max_right _ _
        have czg : coversB z x = true → coversB z y = true → coversB z g = true := fun h h' => (covers_iff _ _).2 fun k => by rw [hgk]; exact max_le ((covers_iff _ _).1 h k) ((covers_iff _ _).1 h' k)
        have Hb3 := Lib.hid hb3; clear hb3
        have OkG := Lib.hid okG; clear okG
        have Hg := Lib.hid hg; clear hg
        have okA3 := OkA.out.below Hb3.out
        have okB3 := OkB.out.below Hb3.out
        have okC3 := OkC.out.below Hb3.out
        have q1 := covers_any gA gl gc g A0 l0 c0 x w3 _ OkG.out.1 okA3.1 (by omega) (by omega)
        have q2 := covers_any gA gl gc g A1 l1 c1 y w3 _ OkG.out.1 okB3.1 (by omega) (by omega)
        have q3 := covers_any A2 l2 c2 z A0 l0 c0 x w3 _ okC3.1 okA3.1 (by omega) (by omega)
        have q4 := covers_any A2 l2 c2 z A1 l1 c1 y w3 _ okC3.1 okB3.1 (by omega) (by omega)
        have q5 := covers_any A2 l2 c2 z gA gl gc g w3 _ okC3.1 OkG.out.1 (by omega) (by omega)
        rw [cga] at q1
        rw [cgb] at q2
        generalize coversB z x = C at q3 czg
        generalize coversB z y = D at q4 czg
        generalize coversB z g = E at q5 czg
        have Q1 := Lib.hid q1; clear q1
        have Q2 := Lib.hid q2; clear q2
        have Q3 := Lib.hid q3; clear q3
        have Q4 := Lib.hid q4; clear q4
        have Q5 := Lib.hid q5; clear q5
        have Hczg := Lib.hid czg; clear czg okA3 okB3 okC3 cga cgb
        cases C
        · go_wp2_with fail
          refine Q1.out.mono ?_
          rintro e w2 ⟨rfl, rfl⟩
          go_wp2_with fail
          refine Q2.out.mono ?_
          rintro e w2 ⟨rfl, rfl⟩
          go_wp2_with fail
          refine Q3.out.mono ?_
          rintro e w2 ⟨rfl, rfl⟩
          go_wp2_with fail
          refine (join_two w3 ⟨A1, l1, c1, y⟩ ⟨A0, l0, c0, x⟩ _ rfl (OkB.out.below Hb3.out) (OkA.out.below Hb3.out)).mono ?_
          rintro e w4 ⟨⟨jA, jl, jc, j⟩, rfl, hj, hjl, okJ, hb4⟩
          dsimp only at hj hjl
          have e1 : g = j := by rw [Hg.out, hj]; exact join_ext fun k => by rw [join_getD _ rfl _ _ ha hb, join_getD _ rfl _ _ hb ha, max_comm]
          have okG4 := OkG.out.below hb4
          have Hb4 := Lib.hid hb4; clear hb4 hj
          go_wp2_with fail
          refine (same_any _ _ _ g _ _ _ j _ _ okG4.1 okJ.1).mono ?_
          rintro e w5 ⟨rfl, n1, rfl⟩
          rw [decide_eq_true e1]
          have cc5 := below_drewN Hb4.out n1
          generalize w4.drewN n1 = w5 at cc5 ⊢
          have CC5 := Lib.hid cc5
          have BB5 := Lib.hid (Hb3.out.trans (cc5.mono Hb3.out.size))
          clear cc5 okG4 okJ Hb4 e1
          go_wp2_with fail
          refine (join_two w5 ⟨gA, gl, gc, g⟩ ⟨A0, l0, c0, x⟩ _ rfl (OkG.out.below CC5.out) (OkA.out.below BB5.out)).mono ?_
          rintro e w6 ⟨⟨j2A, j2l, j2c, j2⟩, rfl, hj2, hj2l, okJ2, hb6⟩
          dsimp only at hj2 hj2l
          have e2 : g = j2 := by rw [Hg.out, hj2]; exact join_ext fun k => by rw [join_getD _ rfl _ _ ha hb, join_getD _ rfl _ _ hgn ha, hgk, max_back]
          have cc6 := CC5.out.trans (hb6.mono CC5.out.size)
          have okG6 := OkG.out.below cc6
          clear hj2
          go_wp2_with fail
          refine (same_any _ _ _ g _ _ _ j2 _ _ okG6.1 okJ2.1).mono ?_
          rintro e w7 ⟨rfl, n2, rfl⟩
          rw [decide_eq_true e2]
          have cc7 := below_drewN cc6 n2
          generalize w6.drewN n2 = w7 at cc7 ⊢
          have CC7 := Lib.hid cc7
          have BB7 := Lib.hid (Hb3.out.trans (cc7.mono Hb3.out.size))
          clear cc7 cc6 okG6 okJ2 hb6 e2
          go_wp2_with fail
          refine (join_two w7 ⟨gA, gl, gc, g⟩ ⟨A2, l2, c2, z⟩ _ rfl (OkG.out.below CC7.out) (OkC.out.below BB7.out)).mono ?_
          rintro e w8 ⟨⟨j3A, j3l, j3c, j3⟩, rfl, hj3, hj3l, okJ3, hb8⟩
          dsimp only at hj3 hj3l
          have BB8 := Lib.hid (BB7.out.trans (hb8.mono BB7.out.size))
          have OkJ3 := Lib.hid okJ3; clear okJ3 hb8
          have Hj3 := Lib.hid hj3; clear hj3
          go_wp2_with fail
          refine (join_two w8 ⟨A1, l1, c1, y⟩ ⟨A2, l2, c2, z⟩ _ rfl (OkB.out.below BB8.out) (OkC.out.below BB8.out)).mono ?_
          rintro e w9 ⟨⟨j4A, j4l, j4c, j4⟩, rfl, hj4, hj4l, okJ4, hb9⟩
          dsimp only at hj4 hj4l
          have BB9 := Lib.hid (BB8.out.trans (hb9.mono BB8.out.size))
          have OkJ3' := Lib.hid (OkJ3.out.below hb9); clear hb9
          have OkJ4 := Lib.hid okJ4; clear okJ4
          have Hj4 := Lib.hid hj4; clear hj4
          go_wp2_with fail
          refine (join_two w9 ⟨A0, l0, c0, x⟩ ⟨j4A, j4l, j4c, j4⟩ _ rfl (OkA.out.below BB9.out) OkJ4.out).mono ?_
          rintro e w10 ⟨⟨j5A, j5l, j5c, j5⟩, rfl, hj5, hj5l, okJ5, hb10⟩
          dsimp only at hj5 hj5l
          have hj4n : (⟨j4A, j4l, j4c, j4⟩ : V).zs.length = (⟨j4A, j4l, j4c, j4⟩ : V).len := OkJ4.out.1.1
          have hj4k : ∀ k, j4.getD k 0 = opMax (y.getD k 0) (z.getD k 0) := fun k => by rw [Hj4.out]; exact join_getD _ rfl _ _ hb hc k
          have e3 : j3 = j5 := by rw [Hj3.out, hj5]; exact join_ext fun k => by rw [join_getD _ rfl _ _ hgn hc, join_getD _ rfl _ _ ha hj4n, hgk, hj4k, max_assoc]
          have okJ310 := OkJ3'.out.below hb10
          have cc10 := BB9.out.trans (hb10.mono BB9.out.size)
          clear hj5 hj4n hj4k hb10
          go_wp2_with fail
          refine (same_any _ _ _ j3 _ _ _ j5 _ _ okJ310.1 okJ5.1).mono ?_
          rintro e w11 ⟨rfl, n3, rfl⟩
          rw [decide_eq_true e3]
          have bb11 := below_drewN cc10 n3
          generalize w10.drewN n3 = w11 at bb11 ⊢
          have BB11 := Lib.hid bb11
          clear bb11 cc10 okJ310 okJ5 e3
          go_wp2_with fail
          refine (least_two w11 ⟨A0, l0, c0, x⟩ ⟨A1, l1, c1, y⟩ _ rfl (OkA.out.below BB11.out) (OkB.out.below BB11.out)).mono ?_
          rintro e w12 ⟨⟨m1A, m1l, m1c, m1⟩, rfl, hm1, hm1l, okM1, hb12⟩
          dsimp only at hm1 hm1l
          have cv1 : coversB x m1 = true := (covers_iff _ _).2 fun k => by rw [hm1, join_getD _ rfl _ _ ha hb]; exact min_left _ _
          have BB12 := Lib.hid (BB11.out.trans (hb12.mono BB11.out.size))
          have okA12 := OkA.out.below BB12.out
          clear hm1 hb12
          go_wp2_with fail
          refine (covers_any A0 l0 c0 x m1A m1l m1c m1 w12 _ okA12.1 okM1.1 (by omega) (by omega)).mono ?_
          rintro e w13 ⟨rfl, rfl⟩
          rw [cv1]
          clear cv1 okM1 okA12
          go_wp2_with fail
          refine (least_two w12 ⟨A0, l0, c0, x⟩ ⟨A1, l1, c1, y⟩ _ rfl (OkA.out.below BB12.out) (OkB.out.below BB12.out)).mono ?_
          rintro e w14 ⟨⟨m2A, m2l, m2c, m2⟩, rfl, hm2, hm2l, okM2, hb14⟩
          dsimp only at hm2 hm2l
          have cv2 : coversB y m2 = true := (covers_iff _ _).2 fun k => by rw [hm2, join_getD _ rfl _ _ ha hb]; exact min_right _ _
          have BB14 := Lib.hid (BB12.out.trans (hb14.mono BB12.out.size))
          have okB14 := OkB.out.below BB14.out
          clear hm2 hb14
          go_wp2_with fail
          refine (covers_any A1 l1 c1 y m2A m2l m2c m2 w14 _ okB14.1 okM2.1 (by omega) (by omega)).mono ?_
          rintro e w15 ⟨rfl, rfl⟩
          rw [cv2]
          clear cv2 okM2 okB14
          go_wp2
          go_ret
          exact ⟨rfl, Hbb.out.trans (BB14.out.mono Hbb.out.size)⟩
        · cases D
          · go_wp2_with fail
            refine Q1.out.mono ?_
            rintro e w2 ⟨rfl, rfl⟩
            go_wp2_with fail
            refine Q2.out.mono ?_
            rintro e w2 ⟨rfl, rfl⟩
            go_wp2_with fail
            refine Q3.out.mono ?_
            rintro e w2 ⟨rfl, rfl⟩
            go_wp2_with fail
            refine Q4.out.mono ?_
            rintro e w2 ⟨rfl, rfl⟩
            go_wp2_with fail
            refine (join_two w3 ⟨A1, l1, c1, y⟩ ⟨A0, l0, c0, x⟩ _ rfl (OkB.out.below Hb3.out) (OkA.out.below Hb3.out)).mono ?_
            rintro e w4 ⟨⟨jA, jl, jc, j⟩, rfl, hj, hjl, okJ, hb4⟩
            dsimp only at hj hjl
            have e1 : g = j := by rw [Hg.out, hj]; exact join_ext fun k => by rw [join_getD _ rfl _ _ ha hb, join_getD _ rfl _ _ hb ha, max_comm]
            have okG4 := OkG.out.below hb4
            have Hb4 := Lib.hid hb4; clear hb4 hj
            go_wp2_with fail
            refine (same_any _ _ _ g _ _ _ j _ _ okG4.1 okJ.1).mono ?_
            rintro e w5 ⟨rfl, n1, rfl⟩
            rw [decide_eq_true e1]
            have cc5 := below_drewN Hb4.out n1
            generalize w4.drewN n1 = w5 at cc5 ⊢
            have CC5 := Lib.hid cc5
            have BB5 := Lib.hid (Hb3.out.trans (cc5.mono Hb3.out.size))
            clear cc5 okG4 okJ Hb4 e1
            go_wp2_with fail
            refine (join_two w5 ⟨gA, gl, gc, g⟩ ⟨A0, l0, c0, x⟩ _ rfl (OkG.out.below CC5.out) (OkA.out.below BB5.out)).mono ?_
            rintro e w6 ⟨⟨j2A, j2l, j2c, j2⟩, rfl, hj2, hj2l, okJ2, hb6⟩
            dsimp only at hj2 hj2l
            have e2 : g = j2 := by rw [Hg.out, hj2]; exact join_ext fun k => by rw [join_getD _ rfl _ _ ha hb, join_getD _ rfl _ _ hgn ha, hgk, max_back]
            have cc6 := CC5.out.trans (hb6.mono CC5.out.size)
            have okG6 := OkG.out.below cc6
            clear hj2
            go_wp2_with fail
            refine (same_any _ _ _ g _ _ _ j2 _ _ okG6.1 okJ2.1).mono ?_
            rintro e w7 ⟨rfl, n2, rfl⟩
            rw [decide_eq_true e2]
            have cc7 := below_drewN cc6 n2
            generalize w6.drewN n2 = w7 at cc7 ⊢
            have CC7 := Lib.hid cc7
            have BB7 := Lib.hid (Hb3.out.trans (cc7.mono Hb3.out.size))
            clear cc7 cc6 okG6 okJ2 hb6 e2
            go_wp2_with fail
            refine (join_two w7 ⟨gA, gl, gc, g⟩ ⟨A2, l2, c2, z⟩ _ rfl (OkG.out.below CC7.out) (OkC.out.below BB7.out)).mono ?_
            rintro e w8 ⟨⟨j3A, j3l, j3c, j3⟩, rfl, hj3, hj3l, okJ3, hb8⟩
            dsimp only at hj3 hj3l
            have BB8 := Lib.hid (BB7.out.trans (hb8.mono BB7.out.size))
            have OkJ3 := Lib.hid okJ3; clear okJ3 hb8
            have Hj3 := Lib.hid hj3; clear hj3
            go_wp2_with fail
            refine (join_two w8 ⟨A1, l1, c1, y⟩ ⟨A2, l2, c2, z⟩ _ rfl (OkB.out.below BB8.out) (OkC.out.below BB8.out)).mono ?_
            rintro e w9 ⟨⟨j4A, j4l, j4c, j4⟩, rfl, hj4, hj4l, okJ4, hb9⟩
            dsimp only at hj4 hj4l
            have BB9 := Lib.hid (BB8.out.trans (hb9.mono BB8.out.size))
            have OkJ3' := Lib.hid (OkJ3.out.below hb9); clear hb9
            have OkJ4 := Lib.hid okJ4; clear okJ4
            have Hj4 := Lib.hid hj4; clear hj4
            go_wp2_with fail
            refine (join_two w9 ⟨A0, l0, c0, x⟩ ⟨j4A, j4l, j4c, j4⟩ _ rfl (OkA.out.below BB9.out) OkJ4.out).mono ?_
            rintro e w10 ⟨⟨j5A, j5l, j5c, j5⟩, rfl, hj5, hj5l, okJ5, hb10⟩
            dsimp only at hj5 hj5l
            have hj4n : (⟨j4A, j4l, j4c, j4⟩ : V).zs.length = (⟨j4A, j4l, j4c, j4⟩ : V).len := OkJ4.out.1.1
            have hj4k : ∀ k, j4.getD k 0 = opMax (y.getD k 0) (z.getD k 0) := fun k => by rw [Hj4.out]; exact join_getD _ rfl _ _ hb hc k
            have e3 : j3 = j5 := by rw [Hj3.out, hj5]; exact join_ext fun k => by rw [join_getD _ rfl _ _ hgn hc, join_getD _ rfl _ _ ha hj4n, hgk, hj4k, max_assoc]
            have okJ310 := OkJ3'.out.below hb10
            have cc10 := BB9.out.trans (hb10.mono BB9.out.size)
            clear hj5 hj4n hj4k hb10
            go_wp2_with fail
            refine (same_any _ _ _ j3 _ _ _ j5 _ _ okJ310.1 okJ5.1).mono ?_
            rintro e w11 ⟨rfl, n3, rfl⟩
            rw [decide_eq_true e3]
            have bb11 := below_drewN cc10 n3
            generalize w10.drewN n3 = w11 at bb11 ⊢
            have BB11 := Lib.hid bb11
            clear bb11 cc10 okJ310 okJ5 e3
            go_wp2_with fail
            refine (least_two w11 ⟨A0, l0, c0, x⟩ ⟨A1, l1, c1, y⟩ _ rfl (OkA.out.below BB11.out) (OkB.out.below BB11.out)).mono ?_
            rintro e w12 ⟨⟨m1A, m1l, m1c, m1⟩, rfl, hm1, hm1l, okM1, hb12⟩
            dsimp only at hm1 hm1l
            have cv1 : coversB x m1 = true := (covers_iff _ _).2 fun k => by rw [hm1, join_getD _ rfl _ _ ha hb]; exact min_left _ _
            have BB12 := Lib.hid (BB11.out.trans (hb12.mono BB11.out.size))
            have okA12 := OkA.out.below BB12.out
            clear hm1 hb12
            go_wp2_with fail
            refine (covers_any A0 l0 c0 x m1A m1l m1c m1 w12 _ okA12.1 okM1.1 (by omega) (by omega)).mono ?_
            rintro e w13 ⟨rfl, rfl⟩
            rw [cv1]
            clear cv1 okM1 okA12
            go_wp2_with fail
            refine (least_two w12 ⟨A0, l0, c0, x⟩ ⟨A1, l1, c1, y⟩ _ rfl (OkA.out.below BB12.out) (OkB.out.below BB12.out)).mono ?_
            rintro e w14 ⟨⟨m2A, m2l, m2c, m2⟩, rfl, hm2, hm2l, okM2, hb14⟩
            dsimp only at hm2 hm2l
            have cv2 : coversB y m2 = true := (covers_iff _ _).2 fun k => by rw [hm2, join_getD _ rfl _ _ ha hb]; exact min_right _ _
            have BB14 := Lib.hid (BB12.out.trans (hb14.mono BB12.out.size))
            have okB14 := OkB.out.below BB14.out
            clear hm2 hb14
            go_wp2_with fail
            refine (covers_any A1 l1 c1 y m2A m2l m2c m2 w14 _ okB14.1 okM2.1 (by omega) (by omega)).mono ?_
            rintro e w15 ⟨rfl, rfl⟩
            rw [cv2]
            clear cv2 okM2 okB14
            go_wp2
            go_ret
            exact ⟨rfl, Hbb.out.trans (BB14.out.mono Hbb.out.size)⟩
          · have hE := Hczg.out rfl rfl
            subst hE
            go_wp2_with fail
            refine Q1.out.mono ?_
            rintro e w2 ⟨rfl, rfl⟩
            go_wp2_with fail
            refine Q2.out.mono ?_
            rintro e w2 ⟨rfl, rfl⟩
            go_wp2_with fail
            refine Q3.out.mono ?_
            rintro e w2 ⟨rfl, rfl⟩
            go_wp2_with fail
            refine Q4.out.mono ?_
            rintro e w2 ⟨rfl, rfl⟩
            go_wp2_with fail
            refine Q5.out.mono ?_
            rintro e w2 ⟨rfl, rfl⟩
            go_wp2_with fail
            refine (join_two w3 ⟨A1, l1, c1, y⟩ ⟨A0, l0, c0, x⟩ _ rfl (OkB.out.below Hb3.out) (OkA.out.below Hb3.out)).mono ?_
            rintro e w4 ⟨⟨jA, jl, jc, j⟩, rfl, hj, hjl, okJ, hb4⟩
            dsimp only at hj hjl
            have e1 : g = j := by rw [Hg.out, hj]; exact join_ext fun k => by rw [join_getD _ rfl _ _ ha hb, join_getD _ rfl _ _ hb ha, max_comm]
            have okG4 := OkG.out.below hb4
            have Hb4 := Lib.hid hb4; clear hb4 hj
            go_wp2_with fail
            refine (same_any _ _ _ g _ _ _ j _ _ okG4.1 okJ.1).mono ?_
            rintro e w5 ⟨rfl, n1, rfl⟩
            rw [decide_eq_true e1]
            have cc5 := below_drewN Hb4.out n1
            generalize w4.drewN n1 = w5 at cc5 ⊢
            have CC5 := Lib.hid cc5
            have BB5 := Lib.hid (Hb3.out.trans (cc5.mono Hb3.out.size))
            clear cc5 okG4 okJ Hb4 e1
            go_wp2_with fail
            refine (join_two w5 ⟨gA, gl, gc, g⟩ ⟨A0, l0, c0, x⟩ _ rfl (OkG.out.below CC5.out) (OkA.out.below BB5.out)).mono ?_
            rintro e w6 ⟨⟨j2A, j2l, j2c, j2⟩, rfl, hj2, hj2l, okJ2, hb6⟩
            dsimp only at hj2 hj2l
            have e2 : g = j2 := by rw [Hg.out, hj2]; exact join_ext fun k => by rw [join_getD _ rfl _ _ ha hb, join_getD _ rfl _ _ hgn ha, hgk, max_back]
            have cc6 := CC5.out.trans (hb6.mono CC5.out.size)
            have okG6 := OkG.out.below cc6
            clear hj2
            go_wp2_with fail
            refine (same_any _ _ _ g _ _ _ j2 _ _ okG6.1 okJ2.1).mono ?_
            rintro e w7 ⟨rfl, n2, rfl⟩
            rw [decide_eq_true e2]
            have cc7 := below_drewN cc6 n2
            generalize w6.drewN n2 = w7 at cc7 ⊢
            have CC7 := Lib.hid cc7
            have BB7 := Lib.hid (Hb3.out.trans (cc7.mono Hb3.out.size))
            clear cc7 cc6 okG6 okJ2 hb6 e2
            go_wp2_with fail
            refine (join_two w7 ⟨gA, gl, gc, g⟩ ⟨A2, l2, c2, z⟩ _ rfl (OkG.out.below CC7.out) (OkC.out.below BB7.out)).mono ?_
            rintro e w8 ⟨⟨j3A, j3l, j3c, j3⟩, rfl, hj3, hj3l, okJ3, hb8⟩
            dsimp only at hj3 hj3l
            have BB8 := Lib.hid (BB7.out.trans (hb8.mono BB7.out.size))
            have OkJ3 := Lib.hid okJ3; clear okJ3 hb8
            have Hj3 := Lib.hid hj3; clear hj3
            go_wp2_with fail
            refine (join_two w8 ⟨A1, l1, c1, y⟩ ⟨A2, l2, c2, z⟩ _ rfl (OkB.out.below BB8.out) (OkC.out.below BB8.out)).mono ?_
            rintro e w9 ⟨⟨j4A, j4l, j4c, j4⟩, rfl, hj4, hj4l, okJ4, hb9⟩
            dsimp only at hj4 hj4l
            have BB9 := Lib.hid (BB8.out.trans (hb9.mono BB8.out.size))
            have OkJ3' := Lib.hid (OkJ3.out.below hb9); clear hb9
            have OkJ4 := Lib.hid okJ4; clear okJ4
            have Hj4 := Lib.hid hj4; clear hj4
            go_wp2_with fail
            refine (join_two w9 ⟨A0, l0, c0, x⟩ ⟨j4A, j4l, j4c, j4⟩ _ rfl (OkA.out.below BB9.out) OkJ4.out).mono ?_
            rintro e w10 ⟨⟨j5A, j5l, j5c, j5⟩, rfl, hj5, hj5l, okJ5, hb10⟩
            dsimp only at hj5 hj5l
            have hj4n : (⟨j4A, j4l, j4c, j4⟩ : V).zs.length = (⟨j4A, j4l, j4c, j4⟩ : V).len := OkJ4.out.1.1
            have hj4k : ∀ k, j4.getD k 0 = opMax (y.getD k 0) (z.getD k 0) := fun k => by rw [Hj4.out]; exact join_getD _ rfl _ _ hb hc k
            have e3 : j3 = j5 := by rw [Hj3.out, hj5]; exact join_ext fun k => by rw [join_getD _ rfl _ _ hgn hc, join_getD _ rfl _ _ ha hj4n, hgk, hj4k, max_assoc]
            have okJ310 := OkJ3'.out.below hb10
            have cc10 := BB9.out.trans (hb10.mono BB9.out.size)
            clear hj5 hj4n hj4k hb10
            go_wp2_with fail
            refine (same_any _ _ _ j3 _ _ _ j5 _ _ okJ310.1 okJ5.1).mono ?_
            rintro e w11 ⟨rfl, n3, rfl⟩
            rw [decide_eq_true e3]
            have bb11 := below_drewN cc10 n3
            generalize w10.drewN n3 = w11 at bb11 ⊢
            have BB11 := Lib.hid bb11
            clear bb11 cc10 okJ310 okJ5 e3
            go_wp2_with fail
            refine (least_two w11 ⟨A0, l0, c0, x⟩ ⟨A1, l1, c1, y⟩ _ rfl (OkA.out.below BB11.out) (OkB.out.below BB11.out)).mono ?_
            rintro e w12 ⟨⟨m1A, m1l, m1c, m1⟩, rfl, hm1, hm1l, okM1, hb12⟩
            dsimp only at hm1 hm1l
            have cv1 : coversB x m1 = true := (covers_iff _ _).2 fun k => by rw [hm1, join_getD _ rfl _ _ ha hb]; exact min_left _ _
            have BB12 := Lib.hid (BB11.out.trans (hb12.mono BB11.out.size))
            have okA12 := OkA.out.below BB12.out
            clear hm1 hb12
            go_wp2_with fail
            refine (covers_any A0 l0 c0 x m1A m1l m1c m1 w12 _ okA12.1 okM1.1 (by omega) (by omega)).mono ?_
            rintro e w13 ⟨rfl, rfl⟩
            rw [cv1]
            clear cv1 okM1 okA12
            go_wp2_with fail
            refine (least_two w12 ⟨A0, l0, c0, x⟩ ⟨A1, l1, c1, y⟩ _ rfl (OkA.out.below BB12.out) (OkB.out.below BB12.out)).mono ?_
            rintro e w14 ⟨⟨m2A, m2l, m2c, m2⟩, rfl, hm2, hm2l, okM2, hb14⟩
            dsimp only at hm2 hm2l
            have cv2 : coversB y m2 = true := (covers_iff _ _).2 fun k => by rw [hm2, join_getD _ rfl _ _ ha hb]; exact min_right _ _
            have BB14 := Lib.hid (BB12.out.trans (hb14.mono BB12.out.size))
            have okB14 := OkB.out.below BB14.out
            clear hm2 hb14
            go_wp2_with fail
            refine (covers_any A1 l1 c1 y m2A m2l m2c m2 w14 _ okB14.1 okM2.1 (by omega) (by omega)).mono ?_
            rintro e w15 ⟨rfl, rfl⟩
            rw [cv2]
            clear cv2 okM2 okB14
            go_wp2
            go_ret
            exact ⟨rfl, Hbb.out.trans (BB14.out.mono Hbb.out.size)⟩
  · go_wp2_with fail
    refine Hg3.out.mono ?_
    rintro e w2 ⟨rfl, rfl⟩
    go_wp2
    go_ret
    exact ⟨rfl, Hb1.out.alloc hs1 _⟩
end Go.Proofs.Ytfpknghbjniepaa.wVecLeast
