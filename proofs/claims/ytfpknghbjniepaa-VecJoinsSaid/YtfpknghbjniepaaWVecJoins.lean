/- The walk of the law VecJoins. -/
import Derived.Test.YtfpknghbjniepaaRefJoin
namespace Go.Proofs.Ytfpknghbjniepaa.wVecJoins
open Go.RowKit Go.Proofs.Ytfpknghbjniepaa.base Go.Proofs.Ytfpknghbjniepaa.vec Go.Proofs.Ytfpknghbjniepaa.ref Go.Proofs.Ytfpknghbjniepaa.made Go.Proofs.Ytfpknghbjniepaa.all_ Go.Proofs.Ytfpknghbjniepaa.lit Go.Proofs.Ytfpknghbjniepaa.plain Go.Proofs.Ytfpknghbjniepaa.refjoin

theorem vec_info : (Try.prog.info? 32).map (fun i => (i.zero, i.size, i.bytes)) = some (some (.slice none 0 0), 1, 24) := by kernel_rfl
theorem vecs_of_own {w : World} {base n : Nat} {v : Value} {l : List V} (h : w.ownsRow base 32 1 v n (l.map V.val)) (hv : ∀ v ∈ l, Vec w w.heap.size v.A v.len v.cap v.zs ∧ v.len ≤ 1000000) : ∃ A c, v = .slice A n c ∧ Vecs w w.heap.size A n c l := by
  have hl : l.length = n := by have := h.1; simpa using this
  rcases h.2 with ⟨rfl, rfl⟩ | ⟨g, cap, cur, rfl, _, _, h1, h2, _⟩
  · exact ⟨none, 0, rfl, hl, Nat.le_refl _, Nat.zero_le _, Reads.of_own h, hv, fun _ => ⟨rfl, rfl⟩⟩
  · exact ⟨_, cap, rfl, hl, h1, h2, Reads.of_own h, hv, fun e => by cases e⟩
set_option maxHeartbeats 1600000 in
theorem vectors_any (A : Option Addr) (n cap : Nat) (l : List V) (w : World) (h : Vecs w w.heap.size A n cap l) (hn : n ≤ 20) :
    Calls Try.prog 17 #[.slice A n cap] w fun e w' => ∃ v, e = .returned v ∧ w'.ownsRow w.heap.size 32 1 v n (l.map V.val) ∧ Below w.heap.size w w' := by
  obtain ⟨i0, hi, hz0, hz1, hz2⟩ := info_parts vec_info
  have hll := h.1
  have hnc := h.2.1
  have hcm := h.2.2.1
  unfold maxLen at hcm
  have Hll := Lib.hid hll; clear hll
  have H := Lib.hid h; clear h
  go_enter Try.func17, Try.ntmps17
  go_wp2
  go_loopw [3, 4, 7] (fun o _ i wr => ∃ k : Nat, k ≤ n ∧ i = .int .i64 k ∧ wr.ownsRow w.heap.size 32 1 o k ((l.take k).map V.val) ∧ Below w.heap.size w wr) (fun _ _ i _ => n - (intOf i).toNat)
  case atStart => exact ⟨0, by omega, rfl, World.ownsRow_nil _ _ _ _, Below.refl _ _⟩
  case round =>
    obtain ⟨k, hk, rfl, hown, hb⟩ := hrel
    have Hown := Lib.hid hown; clear hown
    have Hb := Lib.hid hb; clear hb
    by_cases hlt : k < n
    · obtain ⟨b, off, rfl, hbb⟩ := H.out.at_some (by omega)
      obtain ⟨v, hv, hcell, hvv, hvl⟩ := (H.out.below Hb.out).cell hlt
      have hes : (l.take (k + 1)).map V.val = (l.take k).map V.val ++ [.slice v.A v.len v.cap] := by
        obtain ⟨hkl, hve⟩ := List.getElem?_eq_some_iff.1 hv
        rw [List.take_succ_eq_append_getElem hkl, List.map_append, hve]; rfl
      clear hv hvv
      obtain ⟨vA, vlen, vcap, vzs⟩ := v
      dsimp only at hcell hvl hes
      have Hes := Lib.hid hes; clear hes
      go_wp2_with (at_builtin; refine wpList_append_new rfl (.tmp 10) (.tmp 15) 34 rfl w.heap.size 32 i0 _ 1 24 Try.underlying34 hi hz0 hz1 hz2 rfl (by decide) _ _ _ rfl Hown.out 1 1 [.slice vA vlen vcap] rfl rfl (by simp [Value.oneCell']) (by unfold maxLen; omega) (by omega) Hb.out.size ?_; intro v1 w1 hown1 hbw1 _ _; have Hown1 := Lib.hid hown1; have Hbw1 := Lib.hid (Hb.out.trans hbw1); clear hown1 hbw1)
      go_roundw
      case rel => exact ⟨k + 1, by omega, by go_num, by rw [Hes.out]; exact Hown1.out, Hbw1.out⟩
      case measure => simp [intOf]; omega
    · obtain rfl : k = n := by omega
      have ht : l.take k = l := List.take_of_length_le (by rw [Hll.out]; exact Nat.le_refl _)
      rw [ht] at Hown
      clear ht
      go_wp2
      go_ret
      exact ⟨_, rfl, Hown.out, Hb.out⟩
set_option maxHeartbeats 3200000 in
theorem walk (v0 : Value) (w : World) (a0 : Arg Try.prog w 25 v0) :
    Calls Try.prog 4 #[v0] w fun e w' => e = .returned (.bool true) ∧ Below w.heap.size w w' := by
  obtain ⟨A, n, cap, l, rfl, h0⟩ := vecs_arg a0
  clear a0
  have H0 := Lib.hid h0; clear h0
  go_enter Try.func4, Try.ntmps4
  go_wp2_with fail
  refine (awake_any _).mono ?_
  rintro e w1 ⟨rfl, hb1⟩
  have h1 : Vecs0 w1 w.heap.size A n cap l := ⟨H0.out.1, H0.out.2.1, H0.out.2.2.1, H0.out.2.2.2.1.below hb1, fun v hv => (H0.out.2.2.2.2.1 v hv).below hb1, H0.out.2.2.2.2.2⟩
  have Hb1 := Lib.hid hb1; clear hb1
  have H1 := Lib.hid h1; clear h1
  generalize hG : greatB l = G
  have HG := Lib.hid hG; clear hG
  have hg3 := great_any _ _ _ _ _ _ H1.out
  rw [HG.out] at hg3
  have Hg3 := Lib.hid hg3; clear hg3
  cases G
  · obtain ⟨hn, hle⟩ := greatB_false HG.out
    rw [H1.out.1] at hn
    have h2 := H1.out.vecs hle
    have h00 := Lib.hid (H0.out.vecs hle)
    have h3 := h2.more Hb1.out.size
    have H2 := Lib.hid h2; clear h2 hle
    have H3 := Lib.hid h3; clear h3 HG
    go_wp2_with fail
    refine Hg3.out.mono ?_
    rintro e w2 ⟨rfl, rfl⟩
    go_wp2_with fail
    refine (vectors_any _ _ _ _ _ H3.out hn).mono ?_
    rintro e w2 ⟨u, rfl, hown, hb2⟩
    obtain ⟨uA, uc, rfl, hu⟩ := vecs_of_own hown ((H3.out.below hb2).more hb2.size).2.2.2.2.1
    have Hu := Lib.hid hu; clear hu hown
    have Hb2 := Lib.hid (Hb1.out.trans (hb2.mono Hb1.out.size)); clear hb2
    go_wp2_with fail
    refine (join_any _ _ _ _ _ Hu.out (by omega)).mono ?_
    rintro e w3 ⟨u3, rfl, hown3, hb3⟩
    obtain ⟨A3, c3, rfl, h3⟩ := Vec.of_own hown3
    have Hb3 := Lib.hid (Hb2.out.trans (hb3.mono Hb2.out.size)); clear hb3 hown3
    have Hu3 := Lib.hid h3; clear h3
    have K3 := Lib.hid ((h00.out.below Hb3.out).more Hb3.out.size)
    go_wp2_with fail
    refine (join_ref _ _ _ _ _ K3.out (by omega)).mono ?_
    rintro e w4 ⟨u4, rfl, hown4, hb4⟩
    obtain ⟨A4, c4, rfl, h4⟩ := Vec.of_own hown4
    have Hu34 := Lib.hid ((Hu3.out.below hb4).more hb4.size)
    have Hb4 := Lib.hid (Hb3.out.trans (hb4.mono Hb3.out.size)); clear hb4 hown4
    have Hu4 := Lib.hid h4; clear h4
    go_wp2_with fail
    refine (same_any _ _ _ _ _ _ _ _ _ _ Hu34.out Hu4.out).mono ?_
    rintro e w5 ⟨rfl, nq, rfl⟩
    rw [decide_eq_true rfl]
    have bb5 := below_drewN Hb4.out nq
    generalize w4.drewN nq = w5 at bb5 ⊢
    have Hb5 := Lib.hid bb5; clear bb5
    have K5 := Lib.hid ((h00.out.below Hb5.out).more Hb5.out.size)
    go_wp2_with fail
    refine (vectors_any _ _ _ _ _ K5.out hn).mono ?_
    rintro e w6 ⟨u6, rfl, hown, hb6⟩
    obtain ⟨A6, c6, rfl, hu⟩ := vecs_of_own hown ((K5.out.below hb6).more hb6.size).2.2.2.2.1
    have Hu6 := Lib.hid hu; clear hu hown
    have Hb6 := Lib.hid (Hb5.out.trans (hb6.mono Hb5.out.size)); clear hb6
    go_wp2_with fail
    refine (least_any _ _ _ _ _ Hu6.out (by omega)).mono ?_
    rintro e w7 ⟨u7, rfl, hown7, hb7⟩
    obtain ⟨A7, c7, rfl, h7⟩ := Vec.of_own hown7
    have Hb7 := Lib.hid (Hb6.out.trans (hb7.mono Hb6.out.size)); clear hb7 hown7
    have Hu7 := Lib.hid h7; clear h7
    have K7 := Lib.hid ((h00.out.below Hb7.out).more Hb7.out.size)
    go_wp2_with fail
    refine (least_ref _ _ _ _ _ K7.out (by omega)).mono ?_
    rintro e w8 ⟨u8, rfl, hown8, hb8⟩
    obtain ⟨A8, c8, rfl, h8⟩ := Vec.of_own hown8
    have Hu78 := Lib.hid ((Hu7.out.below hb8).more hb8.size)
    have Hb8 := Lib.hid (Hb7.out.trans (hb8.mono Hb7.out.size)); clear hb8 hown8
    have Hu8 := Lib.hid h8; clear h8
    go_wp2_with fail
    refine (same_any _ _ _ _ _ _ _ _ _ _ Hu78.out Hu8.out).mono ?_
    rintro e w9 ⟨rfl, nq2, rfl⟩
    rw [decide_eq_true rfl]
    go_wp2
    go_ret
    exact ⟨rfl, below_drewN Hb8.out _⟩
  · go_wp2_with fail
    refine Hg3.out.mono ?_
    rintro e w2 ⟨rfl, rfl⟩
    go_wp2
    go_ret
    exact ⟨rfl, Hb1.out⟩
end Go.Proofs.Ytfpknghbjniepaa.wVecJoins
