/- The walk of the law StorePlays: it returns true; nothing that was there is written. -/
import Derived.Test.YtgfamdakjcjdkaaPlayS
namespace Go.Proofs.Ytgfamdakjcjdkaa.wStorePlays
open Go Go.RowKit Go.Proofs.Ytgfamdakjcjdkaa.base Go.Proofs.Ytgfamdakjcjdkaa.err Go.Proofs.Ytgfamdakjcjdkaa.above Go.Proofs.Ytgfamdakjcjdkaa.law Go.Proofs.Ytgfamdakjcjdkaa.merge Go.Proofs.Ytgfamdakjcjdkaa.rows Go.Proofs.Ytgfamdakjcjdkaa.rowe Go.Proofs.Ytgfamdakjcjdkaa.monoj Go.Proofs.Ytgfamdakjcjdkaa.store

/-- a store and the document's, side by side; w0 is as it was -/
structure Pl (w0 : World) (g bm gr : Nat) (L M : List R) (w : World) : Prop where
  st : StI w g bm L
  rf : Ref w gr M
  bel : Below w0.heap.size w0 w
  lo1 : w0.heap.size ≤ bm
  lo2 : w0.heap.size ≤ gr
section
variable {w0 w w' : World} {g bm gr : Nat} {L M N : List R}
theorem Pl.below (h : Pl w0 g bm gr L M w) (hb : Below w.heap.size w w') : Pl w0 g bm gr L M w' := ⟨h.st.below hb, h.rf.below hb, below_step h.bel hb, h.lo1, h.lo2⟩
theorem Pl.step1 (h : Pl w0 g bm gr L M w) (hs : StI w' g bm N) (hk : Keeps (· = bm) w w') : Pl w0 g bm gr N M w' :=
  ⟨hs, by obtain ⟨A, c, hr⟩ := h.rf; exact ⟨A, c, hr.keeps h.st hk⟩, below_keeps h.bel (Nat.le_refl _) hk (fun i hi e => by have := h.lo1; omega), h.lo1, h.lo2⟩
theorem Pl.step2 (h : Pl w0 g bm gr L M w) (hs : Ref w' gr N) (hk : Keeps (· = gr) w w') : Pl w0 g bm gr L N w' :=
  ⟨by obtain ⟨A, c, hr⟩ := h.rf; exact h.st.keepsRef hr.blk hk, hs, below_keeps h.bel (Nat.le_refl _) hk (fun i hi e => by have := h.lo2; omega), h.lo1, h.lo2⟩
end
set_option maxRecDepth 100000 in
set_option maxHeartbeats 8000000 in
theorem walk (v0 v1 v2 : Value) (w : World) (a0 : Arg Try.prog w 22 v0) (a1 : Arg Try.prog w 9 v1) (a2 : Arg Try.prog w 9 v2) :
    Calls Try.prog 7 #[v0, v1, v2] w fun e w' => e = .returned (.bool true) ∧ Below w.heap.size w w' := by
  obtain ⟨A, m, c, l, rfl, hl, hm, hw⟩ := lst_of a0
  obtain ⟨ses, rfl, hss⟩ := a1.string Try.underlying9
  obtain ⟨key, rfl, hks⟩ := a2.string Try.underlying9
  clear a0 a1 a2
  have HL := Lib.hid hl
  have HW := Lib.hid hw
  have HSS := Lib.hid hss
  have HKS := Lib.hid hks
  clear hl hw hss hks
  unfold maxLen at hm
  cases hg : greatW l with
  | true =>
    have HG := Lib.hid hg
    clear hg
    go_enter Try.func7, Try.ntmps7
    go_wp2_with fail
    refine (awake_any _).mono ?_
    rintro e w1 ⟨rfl, hb1⟩
    go_wp2_with fail
    refine (great_any _ l w1 (HW.out.below hb1)).mono ?_
    rintro e w2 ⟨rfl, hb2⟩
    rw [HG.out]
    have HB := Lib.hid (below_step hb1 hb2)
    clear hb1 hb2
    go_wp2
    go_ret
    exact ⟨rfl, HB.out⟩
  | false =>
  have h80 : m ≤ 80 := by have := great_few hg; have := HL.out.len; omega
  have HG := Lib.hid hg
  clear hg
  by_cases hs1 : 1000 < ses.size
  · go_enter Try.func7, Try.ntmps7
    go_wp2_with fail
    refine (awake_any _).mono ?_
    rintro e w1 ⟨rfl, hb1⟩
    go_wp2_with fail
    refine (great_any _ l w1 (HW.out.below hb1)).mono ?_
    rintro e w2 ⟨rfl, hb2⟩
    rw [HG.out]
    have HB := Lib.hid (below_step hb1 hb2)
    clear hb1 hb2
    go_wp2
    go_ret
    exact ⟨rfl, HB.out⟩
  by_cases hs2 : 1000 < key.size
  · go_enter Try.func7, Try.ntmps7
    go_wp2_with fail
    refine (awake_any _).mono ?_
    rintro e w1 ⟨rfl, hb1⟩
    go_wp2_with fail
    refine (great_any _ l w1 (HW.out.below hb1)).mono ?_
    rintro e w2 ⟨rfl, hb2⟩
    rw [HG.out]
    have HB := Lib.hid (below_step hb1 hb2)
    clear hb1 hb2
    go_wp2
    go_ret
    exact ⟨rfl, HB.out⟩
  go_enter Try.func7, Try.ntmps7
  go_wp2_with fail
  refine (awake_any _).mono ?_
  rintro e w1 ⟨rfl, hb1⟩
  go_wp2_with fail
  refine (great_any _ l w1 (HW.out.below hb1)).mono ?_
  rintro e w3 ⟨rfl, hb2⟩
  rw [HG.out]
  have HB3 := Lib.hid (below_step hb1 hb2)
  clear hb1 hb2
  go_wp2_with fail
  refine (new_any w3).mono ?_
  rintro e w4 ⟨rfl, h4, hb4⟩
  have hws := HB3.out.size
  have h4w := h4.lt
  have hbx := below_new w4 (.cells #[.slice none 0 0] refST)
  have HP := Lib.hid (show Pl w (w3.heap.size + 1) w3.heap.size w4.heap.size [] [] (w4.alloc (.cells #[.slice none 0 0] refST)) from ⟨h4.below hbx, ⟨none, 0, Blk.new w4 refST #[.slice none 0 0], ⟨rfl, fun h => absurd h (by decide)⟩⟩, below_step (below_step HB3.out hb4) hbx, by omega, by omega⟩)
  clear h4 hb4 hbx HW HG hs1 hs2
  generalize w3.heap.size = bm at *
  go_wp2_with fail
  generalize w4.alloc (.cells #[.slice none 0 0] refST) = w5 at *
  generalize w4.heap.size = gr at *
  go_loopw [30] (fun i wr => ∃ (n : Nat) (L : List R), n ≤ m ∧ i = .int .i64 n ∧ Pl w (bm + 1) bm gr L L wr ∧ L.length ≤ n) (fun i _ => m - (intOf i).toNat)
  case atStart => exact ⟨0, [], by omega, rfl, HP.out, by simp⟩
  case round =>
    clear HP
    obtain ⟨n, L, hn, rfl, hp, hz⟩ := hrel
    have HP := Lib.hid hp
    clear hp
    by_cases hlt : n < m
    · skip
      obtain ⟨bb, off, rfl, hbb, hc, hxk⟩ := HL.out.cells HP.out.bel hlt
      obtain ⟨e0, e1, e2, e3, e4, e5, e6, e7, e8, e9⟩ := ten_of hc
      generalize hX : l.getD n wtZ = x at *
      obtain ⟨rg, nm, t, r, dA, dn, dc, se, kk, v, gn, lf⟩ := x
      dsimp only at e0 e1 e2 e3 e4 e5 e6 e7 e8 e9
      have HXK := Lib.hid hxk
      clear hc hxk hX
      have hbx := below_new wr (.cells #[.int .i64 rg, .int .i64 nm, .int .i64 t, .int .i64 r, .slice dA dn dc, .string se, .string kk, .string v, .bool gn, .int .i64 lf] 33)
      have hb0 := Blk.new wr 33 #[.int .i64 rg, .int .i64 nm, .int .i64 t, .int .i64 r, .slice dA dn dc, .string se, .string kk, .string v, .bool gn, .int .i64 lf]
      have hl1 := HP.out.st.ltm
      have hl2 : gr < wr.heap.size := by obtain ⟨_, _, hr⟩ := HP.out.rf; exact hr.blk.lt
      have HXX := Lib.hid (show ¬ (wr.heap.size = bm ∨ wr.heap.size = gr) by omega)
      have HP0 := Lib.hid ((HP.out.below hbx).below (Below.refl _ _).drew)
      have HB0 := Lib.hid hb0.drew
      have hz3 := length_take L (se, kk) ⟨t, r, v, gn, lf⟩
      have HUP := Lib.hid HP0.out.st.up
      clear hbx hb0 HP hl1 hl2
      go_wp2_with fail
      refine wp_region_mono (fun i => i = bm ∨ i = gr) (by kernel_rfl) ?_
      -- 0 Op.move (Operand.tmp 7)
      refine wpMono_take' 0 (v := ?_) rfl (by kernel_rfl) (by kernel_rfl) (by kernel_rfl) (fun _ _ _ h => h) (by rfl) ?_ ?_
      rotate_left
      · (intro W hSw; (try ((first | (have hk := HB6.out.keeps hSw HXX.out) | (have hk := HB5.out.keeps hSw HXX.out) | (have hk := HB0.out.keeps hSw HXX.out)); (obtain ⟨k0, k1, k2, k3, k4, k5, k6, k7, k8, k9⟩ := cells10 hk); (have kl := hk.lt)))
         go_simp; first | done | rfl)
      try simp only [Act.put, List.setIfInBounds_toArray, List.set_cons_zero, List.set_cons_succ]
      -- 1 Op.load 33 (Operand.tmp 10)
      refine wpMono_take' 1 (v := ?_) rfl (by kernel_rfl) (by kernel_rfl) (by kernel_rfl) (fun _ _ _ h => h) (by rfl) ?_ ?_
      rotate_left
      · (intro W hSw; (try ((first | (have hk := HB6.out.keeps hSw HXX.out) | (have hk := HB5.out.keeps hSw HXX.out) | (have hk := HB0.out.keeps hSw HXX.out)); (obtain ⟨k0, k1, k2, k3, k4, k5, k6, k7, k8, k9⟩ := cells10 hk); (have kl := hk.lt)))
         go_simp; first | done | rfl)
      try simp only [Act.put, List.setIfInBounds_toArray, List.set_cons_zero, List.set_cons_succ]
      -- 3 Op.move (Operand.tmp 8)
      refine wpMono_take' 3 (v := ?_) rfl (by kernel_rfl) (by kernel_rfl) (by kernel_rfl) (fun _ _ _ h => h) (by rfl) ?_ ?_
      rotate_left
      · (intro W hSw; (try ((first | (have hk := HB6.out.keeps hSw HXX.out) | (have hk := HB5.out.keeps hSw HXX.out) | (have hk := HB0.out.keeps hSw HXX.out)); (obtain ⟨k0, k1, k2, k3, k4, k5, k6, k7, k8, k9⟩ := cells10 hk); (have kl := hk.lt)))
         go_simp; first | done | rfl)
      try simp only [Act.put, List.setIfInBounds_toArray, List.set_cons_zero, List.set_cons_succ]
      -- 4 Op.load 33 (Operand.tmp 10)
      refine wpMono_take' 4 (v := ?_) rfl (by kernel_rfl) (by kernel_rfl) (by kernel_rfl) (fun _ _ _ h => h) (by rfl) ?_ ?_
      rotate_left
      · (intro W hSw; (try ((first | (have hk := HB6.out.keeps hSw HXX.out) | (have hk := HB5.out.keeps hSw HXX.out) | (have hk := HB0.out.keeps hSw HXX.out)); (obtain ⟨k0, k1, k2, k3, k4, k5, k6, k7, k8, k9⟩ := cells10 hk); (have kl := hk.lt)))
         go_simp; first | done | rfl)
      try simp only [Act.put, List.setIfInBounds_toArray, List.set_cons_zero, List.set_cons_succ]
      -- EFFECT 2 Op.call { callee := Callee.value (Operand.func 12), args := #[Operand.tmp 34, Operand.tmp 35], argTypes := #[25, 33] }
      refine wpMono_one' 2 (by kernel_rfl) rfl (by rfl) (fun K hK => ?_)
      go_simp
      refine (wt_apply _ _ _ ⟨rg, nm, t, r, dA, dn, dc, se, kk, v, gn, lf⟩ _ HP0.out.st HXK.out).mono ?_
      rintro e w7 ⟨rfl, hs1, hk1⟩
      obtain ⟨nb, hnb⟩ : ∃ nb, newC (getL L (se, kk)) ⟨t, r, v, gn, lf⟩ = nb := ⟨_, rfl⟩
      rw [show newC (getL L (Wt.name ⟨rg, nm, t, r, dA, dn, dc, se, kk, v, gn, lf⟩)) (Wt.cell ⟨rg, nm, t, r, dA, dn, dc, se, kk, v, gn, lf⟩) = nb from hnb]
      have Hnb := Lib.hid hnb
      have HP1 := Lib.hid (HP0.out.step1 (N := takeL L (se, kk) ⟨t, r, v, gn, lf⟩) hs1 hk1)
      have HB5 := Lib.hid (HB0.out.keeps hk1 (fun e => HXX.out (.inl e)))
      have HK1 := Lib.hid hk1
      clear hnb hs1 hk1
      refine hK.out _ _ ?_ ?_
      · exact HK1.out.more fun i _ hi => .inl hi
      clear hK K
      try simp only [Act.put, List.setIfInBounds_toArray, List.set_cons_zero, List.set_cons_succ]
      -- EFFECT 5 Op.call { callee := Callee.value (Operand.func 23), args := #[Operand.tmp 37, Operand.tmp 38], argTypes := #[57, 33] }
      refine wpMono_one' 5 (by kernel_rfl) rfl (by rfl) (fun K hK => ?_)
      go_simp
      obtain ⟨A9, c9, hr9⟩ := HP1.out.rf
      refine (apply_ref gr A9 c9 L rg nm t r dA dn dc se kk v gn lf _ hr9 HUP.out (by omega)).mono ?_
      rintro e w8 ⟨rfl, hs2, hk2⟩
      rw [Hnb.out]
      have HP2 := Lib.hid (HP1.out.step2 hs2 hk2)
      have HB6 := Lib.hid (HB5.out.keeps hk2 (fun e => HXX.out (.inr e)))
      have HK2 := Lib.hid hk2
      clear hs2 hk2 hr9
      refine hK.out _ _ ?_ ?_
      · exact HK2.out.more fun i _ hi => .inr hi
      clear hK K
      try simp only [Act.put, List.setIfInBounds_toArray, List.set_cons_zero, List.set_cons_succ]
      -- 6 Op.binOp BinOp.neq 4 (Operand.tmp 36) (Operand.tmp 39) 4
      refine wpMono_take' 6 (v := ?_) rfl (by kernel_rfl) (by kernel_rfl) (by kernel_rfl) (fun _ _ _ h => h) (by rfl) ?_ ?_
      rotate_left
      · (intro W hSw; (try ((first | (have hk := HB6.out.keeps hSw HXX.out) | (have hk := HB5.out.keeps hSw HXX.out) | (have hk := HB0.out.keeps hSw HXX.out)); (obtain ⟨k0, k1, k2, k3, k4, k5, k6, k7, k8, k9⟩ := cells10 hk); (have kl := hk.lt)))
         go_simp; first | done | rfl)
      try simp only [Act.put, List.setIfInBounds_toArray, List.set_cons_zero, List.set_cons_succ]
      refine wpMono_done (by kernel_rfl) ?_ _
      have HP0 := Lib.hid (HP2.out.below (Below.refl _ _).drew)
      have HB0 := Lib.hid HB6.out.drew
      clear HB5 HB6 HK1 HK2 HP1 HP2 HUP e0 e1 e2 e3 e4 e5 e6 e7 e8 e9 Hnb
      generalize takeL L (se, kk) ⟨t, r, v, gn, lf⟩ = M at *
      by_cases hnm : nm = 0
      · have hq : (nm == 0) = true := by simpa using hnm
        clear hnm
        go_wp2_with fail
        refine wp_region_mono (fun i => i = bm ∨ i = gr) (by kernel_rfl) ?_
        -- 0 Op.fieldAddr 33 (Operand.tmp 10) 1
        refine wpMono_take' 0 (v := ?_) rfl (by kernel_rfl) (by kernel_rfl) (by kernel_rfl) (fun _ _ _ h => h) (by rfl) ?_ ?_
        rotate_left
        · (intro W hSw; (try ((first | (have hk := HB6.out.keeps hSw HXX.out) | (have hk := HB5.out.keeps hSw HXX.out) | (have hk := HB0.out.keeps hSw HXX.out)); (obtain ⟨k0, k1, k2, k3, k4, k5, k6, k7, k8, k9⟩ := cells10 hk); (have kl := hk.lt)))
           go_simp; first | done | rfl)
        try simp only [Act.put, List.setIfInBounds_toArray, List.set_cons_zero, List.set_cons_succ]
        -- 1 Op.load 3 (Operand.tmp 41)
        refine wpMono_take' 1 (v := ?_) rfl (by kernel_rfl) (by kernel_rfl) (by kernel_rfl) (fun _ _ _ h => h) (by rfl) ?_ ?_
        rotate_left
        · (intro W hSw; (try ((first | (have hk := HB6.out.keeps hSw HXX.out) | (have hk := HB5.out.keeps hSw HXX.out) | (have hk := HB0.out.keeps hSw HXX.out)); (obtain ⟨k0, k1, k2, k3, k4, k5, k6, k7, k8, k9⟩ := cells10 hk); (have kl := hk.lt)))
           go_simp; first | done | rfl)
        try simp only [Act.put, List.setIfInBounds_toArray, List.set_cons_zero, List.set_cons_succ]
        -- 2 Op.binOp BinOp.eql 3 (Operand.tmp 42) (Operand.const (Value.int IntKind.i64 0)) 3
        refine wpMono_take' 2 (v := ?_) rfl (by kernel_rfl) (by kernel_rfl) (by kernel_rfl) (fun _ _ _ h => h) (by rfl) ?_ ?_
        rotate_left
        · (intro W hSw; (try ((first | (have hk := HB6.out.keeps hSw HXX.out) | (have hk := HB5.out.keeps hSw HXX.out) | (have hk := HB0.out.keeps hSw HXX.out)); (obtain ⟨k0, k1, k2, k3, k4, k5, k6, k7, k8, k9⟩ := cells10 hk); (have kl := hk.lt)))
           go_simp; first | done | rfl)
        try simp only [Act.put, List.setIfInBounds_toArray, List.set_cons_zero, List.set_cons_succ]
        -- 3 Op.move (Operand.tmp 43)
        refine wpMono_take' 3 (v := ?_) rfl (by kernel_rfl) (by kernel_rfl) (by kernel_rfl) (fun _ _ _ h => h) (by rfl) ?_ ?_
        rotate_left
        · (intro W hSw; (try ((first | (have hk := HB6.out.keeps hSw HXX.out) | (have hk := HB5.out.keeps hSw HXX.out) | (have hk := HB0.out.keeps hSw HXX.out)); (obtain ⟨k0, k1, k2, k3, k4, k5, k6, k7, k8, k9⟩ := cells10 hk); (have kl := hk.lt)))
           go_simp; first | done | rfl)
        try simp only [Act.put, List.setIfInBounds_toArray, List.set_cons_zero, List.set_cons_succ]
        -- 4 Op.move (Operand.tmp 7)
        refine wpMono_take' 4 (v := ?_) rfl (by kernel_rfl) (by kernel_rfl) (by kernel_rfl) (fun _ _ _ h => h) (by rfl) ?_ ?_
        rotate_left
        · (intro W hSw; (try ((first | (have hk := HB6.out.keeps hSw HXX.out) | (have hk := HB5.out.keeps hSw HXX.out) | (have hk := HB0.out.keeps hSw HXX.out)); (obtain ⟨k0, k1, k2, k3, k4, k5, k6, k7, k8, k9⟩ := cells10 hk); (have kl := hk.lt)))
           go_simp; first | done | rfl)
        try simp only [Act.put, List.setIfInBounds_toArray, List.set_cons_zero, List.set_cons_succ]
        -- 5 Op.fieldAddr 33 (Operand.tmp 10) 8
        refine wpMono_take' 5 (v := ?_) rfl (by kernel_rfl) (by kernel_rfl) (by kernel_rfl) (fun _ _ _ h => h) (by rfl) ?_ ?_
        rotate_left
        · (intro W hSw; (try ((first | (have hk := HB6.out.keeps hSw HXX.out) | (have hk := HB5.out.keeps hSw HXX.out) | (have hk := HB0.out.keeps hSw HXX.out)); (obtain ⟨k0, k1, k2, k3, k4, k5, k6, k7, k8, k9⟩ := cells10 hk); (have kl := hk.lt)))
           go_simp; first | done | rfl)
        try simp only [Act.put, List.setIfInBounds_toArray, List.set_cons_zero, List.set_cons_succ]
        -- 6 Op.load 3 (Operand.tmp 46)
        refine wpMono_take' 6 (v := ?_) rfl (by kernel_rfl) (by kernel_rfl) (by kernel_rfl) (fun _ _ _ h => h) (by rfl) ?_ ?_
        rotate_left
        · (intro W hSw; (try ((first | (have hk := HB6.out.keeps hSw HXX.out) | (have hk := HB5.out.keeps hSw HXX.out) | (have hk := HB0.out.keeps hSw HXX.out)); (obtain ⟨k0, k1, k2, k3, k4, k5, k6, k7, k8, k9⟩ := cells10 hk); (have kl := hk.lt)))
           go_simp; first | done | rfl)
        try simp only [Act.put, List.setIfInBounds_toArray, List.set_cons_zero, List.set_cons_succ]
        -- 8 Op.move (Operand.tmp 8)
        refine wpMono_take' 8 (v := ?_) rfl (by kernel_rfl) (by kernel_rfl) (by kernel_rfl) (fun _ _ _ h => h) (by rfl) ?_ ?_
        rotate_left
        · (intro W hSw; (try ((first | (have hk := HB6.out.keeps hSw HXX.out) | (have hk := HB5.out.keeps hSw HXX.out) | (have hk := HB0.out.keeps hSw HXX.out)); (obtain ⟨k0, k1, k2, k3, k4, k5, k6, k7, k8, k9⟩ := cells10 hk); (have kl := hk.lt)))
           go_simp; first | done | rfl)
        try simp only [Act.put, List.setIfInBounds_toArray, List.set_cons_zero, List.set_cons_succ]
        -- 9 Op.fieldAddr 33 (Operand.tmp 10) 8
        refine wpMono_take' 9 (v := ?_) rfl (by kernel_rfl) (by kernel_rfl) (by kernel_rfl) (fun _ _ _ h => h) (by rfl) ?_ ?_
        rotate_left
        · (intro W hSw; (try ((first | (have hk := HB6.out.keeps hSw HXX.out) | (have hk := HB5.out.keeps hSw HXX.out) | (have hk := HB0.out.keeps hSw HXX.out)); (obtain ⟨k0, k1, k2, k3, k4, k5, k6, k7, k8, k9⟩ := cells10 hk); (have kl := hk.lt)))
           go_simp; first | done | rfl)
        try simp only [Act.put, List.setIfInBounds_toArray, List.set_cons_zero, List.set_cons_succ]
        -- 10 Op.load 3 (Operand.tmp 50)
        refine wpMono_take' 10 (v := ?_) rfl (by kernel_rfl) (by kernel_rfl) (by kernel_rfl) (fun _ _ _ h => h) (by rfl) ?_ ?_
        rotate_left
        · (intro W hSw; (try ((first | (have hk := HB6.out.keeps hSw HXX.out) | (have hk := HB5.out.keeps hSw HXX.out) | (have hk := HB0.out.keeps hSw HXX.out)); (obtain ⟨k0, k1, k2, k3, k4, k5, k6, k7, k8, k9⟩ := cells10 hk); (have kl := hk.lt)))
           go_simp; first | done | rfl)
        try simp only [Act.put, List.setIfInBounds_toArray, List.set_cons_zero, List.set_cons_succ]
        -- EFFECT 7 Op.call { callee := Callee.value (Operand.func 17), args := #[Operand.tmp 45, Operand.tmp 47], argTypes := #[25, 3] }
        refine wpMono_one' 7 (by kernel_rfl) rfl (by rfl) (fun K hK => ?_)
        go_simp
        refine (sweep_any (bm + 1) bm lf M _ HP0.out.st (by omega)).mono ?_
        rintro e w9 ⟨rfl, hs1, hk1⟩
        have HP1 := Lib.hid (HP0.out.step1 hs1 hk1)
        have HB5 := Lib.hid (HB0.out.keeps hk1 (fun e => HXX.out (.inl e)))
        have HK1 := Lib.hid hk1
        clear hs1 hk1
        refine hK.out _ _ ?_ ?_
        · exact HK1.out.more fun i _ hi => .inl hi
        clear hK K
        try simp only [Act.put, List.setIfInBounds_toArray, List.set_cons_zero, List.set_cons_succ]
        -- EFFECT 11 Op.call { callee := Callee.value (Operand.func 24), args := #[Operand.tmp 49, Operand.tmp 51], argTypes := #[57, 3] }
        refine wpMono_one' 11 (by kernel_rfl) rfl (by rfl) (fun K hK => ?_)
        go_simp
        obtain ⟨A9, c9, hr9⟩ := HP1.out.rf
        refine (sweep_ref gr A9 c9 M lf _ hr9 (by omega)).mono ?_
        rintro e w10 ⟨rfl, hs2, hk2⟩
        have HP2 := Lib.hid (HP1.out.step2 hs2 hk2)
        have HB6 := Lib.hid (HB5.out.keeps hk2 (fun e => HXX.out (.inr e)))
        have HK2 := Lib.hid hk2
        clear hs2 hk2 hr9
        refine hK.out _ _ ?_ ?_
        · exact HK2.out.more fun i _ hi => .inr hi
        clear hK K
        try simp only [Act.put, List.setIfInBounds_toArray, List.set_cons_zero, List.set_cons_succ]
        -- 12 Op.binOp BinOp.neq 3 (Operand.tmp 48) (Operand.tmp 52) 3
        refine wpMono_take' 12 (v := ?_) rfl (by kernel_rfl) (by kernel_rfl) (by kernel_rfl) (fun _ _ _ h => h) (by rfl) ?_ ?_
        rotate_left
        · (intro W hSw; (try ((first | (have hk := HB6.out.keeps hSw HXX.out) | (have hk := HB5.out.keeps hSw HXX.out) | (have hk := HB0.out.keeps hSw HXX.out)); (obtain ⟨k0, k1, k2, k3, k4, k5, k6, k7, k8, k9⟩ := cells10 hk); (have kl := hk.lt)))
           go_simp; first | done | rfl)
        try simp only [Act.put, List.setIfInBounds_toArray, List.set_cons_zero, List.set_cons_succ]
        -- 13 Op.pick (Operand.tmp 44) (Operand.tmp 53) (Operand.const (Value.bool false))
        refine wpMono_take' 13 (v := ?_) rfl (by kernel_rfl) (by kernel_rfl) (by kernel_rfl) (fun _ _ _ h => h) (by rfl) ?_ ?_
        rotate_left
        · (intro W hSw; (try ((first | (have hk := HB6.out.keeps hSw HXX.out) | (have hk := HB5.out.keeps hSw HXX.out) | (have hk := HB0.out.keeps hSw HXX.out)); (obtain ⟨k0, k1, k2, k3, k4, k5, k6, k7, k8, k9⟩ := cells10 hk); (have kl := hk.lt)))
           go_simp; first | done | rfl)
        try simp only [Act.put, List.setIfInBounds_toArray, List.set_cons_zero, List.set_cons_succ]
        refine wpMono_done (by kernel_rfl) ?_ _
        have hkl := keepL_len lf M
        obtain ⟨k0, k1, k2, k3, k4, k5, k6, k7, k8, k9⟩ := cells10 HB6.out
        have kl := HB6.out.lt
        obtain ⟨A9, c9, hr9⟩ := HP2.out.rf
        have HR9 := Lib.hid hr9
        clear hr9 HB0 HP0 HP1 HB5 HK1 HK2
        go_wp2_with fail
        refine (same_both (bm + 1) bm gr A9 c9 (keepL lf M) se kk _ HP2.out.st HR9.out HXK.out.1 HXK.out.2 (by omega)).mono ?_
        rintro e w12 ⟨rfl, hb12⟩
        have HP12 := Lib.hid (HP2.out.below hb12)
        clear hb12 k0 k1 k2 k3 k4 k5 k6 k7 k8 k9 kl HP2 HB6 HR9
        go_wp2
        go_roundw
        case rel => exact ⟨n + 1, keepL lf M, by omega, by go_num, HP12.out, by omega⟩
        case measure => simp [intOf]; omega
      · have hq : (nm == 0) = false := by simpa using hnm
        clear hnm
        go_wp2_with fail
        refine wp_region_mono (fun i => i = bm ∨ i = gr) (by kernel_rfl) ?_
        -- 0 Op.fieldAddr 33 (Operand.tmp 10) 1
        refine wpMono_take' 0 (v := ?_) rfl (by kernel_rfl) (by kernel_rfl) (by kernel_rfl) (fun _ _ _ h => h) (by rfl) ?_ ?_
        rotate_left
        · (intro W hSw; (try ((first | (have hk := HB6.out.keeps hSw HXX.out) | (have hk := HB5.out.keeps hSw HXX.out) | (have hk := HB0.out.keeps hSw HXX.out)); (obtain ⟨k0, k1, k2, k3, k4, k5, k6, k7, k8, k9⟩ := cells10 hk); (have kl := hk.lt)))
           go_simp; first | done | rfl)
        try simp only [Act.put, List.setIfInBounds_toArray, List.set_cons_zero, List.set_cons_succ]
        -- 1 Op.load 3 (Operand.tmp 41)
        refine wpMono_take' 1 (v := ?_) rfl (by kernel_rfl) (by kernel_rfl) (by kernel_rfl) (fun _ _ _ h => h) (by rfl) ?_ ?_
        rotate_left
        · (intro W hSw; (try ((first | (have hk := HB6.out.keeps hSw HXX.out) | (have hk := HB5.out.keeps hSw HXX.out) | (have hk := HB0.out.keeps hSw HXX.out)); (obtain ⟨k0, k1, k2, k3, k4, k5, k6, k7, k8, k9⟩ := cells10 hk); (have kl := hk.lt)))
           go_simp; first | done | rfl)
        try simp only [Act.put, List.setIfInBounds_toArray, List.set_cons_zero, List.set_cons_succ]
        -- 2 Op.binOp BinOp.eql 3 (Operand.tmp 42) (Operand.const (Value.int IntKind.i64 0)) 3
        refine wpMono_take' 2 (v := ?_) rfl (by kernel_rfl) (by kernel_rfl) (by kernel_rfl) (fun _ _ _ h => h) (by rfl) ?_ ?_
        rotate_left
        · (intro W hSw; (try ((first | (have hk := HB6.out.keeps hSw HXX.out) | (have hk := HB5.out.keeps hSw HXX.out) | (have hk := HB0.out.keeps hSw HXX.out)); (obtain ⟨k0, k1, k2, k3, k4, k5, k6, k7, k8, k9⟩ := cells10 hk); (have kl := hk.lt)))
           go_simp; first | done | rfl)
        try simp only [Act.put, List.setIfInBounds_toArray, List.set_cons_zero, List.set_cons_succ]
        -- 3 Op.move (Operand.tmp 43)
        refine wpMono_take' 3 (v := ?_) rfl (by kernel_rfl) (by kernel_rfl) (by kernel_rfl) (fun _ _ _ h => h) (by rfl) ?_ ?_
        rotate_left
        · (intro W hSw; (try ((first | (have hk := HB6.out.keeps hSw HXX.out) | (have hk := HB5.out.keeps hSw HXX.out) | (have hk := HB0.out.keeps hSw HXX.out)); (obtain ⟨k0, k1, k2, k3, k4, k5, k6, k7, k8, k9⟩ := cells10 hk); (have kl := hk.lt)))
           go_simp; first | done | rfl)
        try simp only [Act.put, List.setIfInBounds_toArray, List.set_cons_zero, List.set_cons_succ]
        -- 4 Op.move (Operand.tmp 7)
        refine wpMono_skip' 4 rfl (by kernel_rfl) (by kernel_rfl) (by kernel_rfl) (fun _ _ _ h => h) (by rfl) ?_
        try simp only [Act.put, List.setIfInBounds_toArray, List.set_cons_zero, List.set_cons_succ]
        -- 5 Op.fieldAddr 33 (Operand.tmp 10) 8
        refine wpMono_skip' 5 rfl (by kernel_rfl) (by kernel_rfl) (by kernel_rfl) (fun _ _ _ h => h) (by rfl) ?_
        try simp only [Act.put, List.setIfInBounds_toArray, List.set_cons_zero, List.set_cons_succ]
        -- 6 Op.load 3 (Operand.tmp 46)
        refine wpMono_skip' 6 rfl (by kernel_rfl) (by kernel_rfl) (by kernel_rfl) (fun _ _ _ h => h) (by rfl) ?_
        try simp only [Act.put, List.setIfInBounds_toArray, List.set_cons_zero, List.set_cons_succ]
        -- 7 Op.call { callee := Callee.value (Operand.func 17), args := #[Operand.tmp 45, Operand.tmp 
        refine wpMono_skip' 7 rfl (by kernel_rfl) (by kernel_rfl) (by kernel_rfl) (fun _ _ _ h => h) (by rfl) ?_
        try simp only [Act.put, List.setIfInBounds_toArray, List.set_cons_zero, List.set_cons_succ]
        -- 8 Op.move (Operand.tmp 8)
        refine wpMono_skip' 8 rfl (by kernel_rfl) (by kernel_rfl) (by kernel_rfl) (fun _ _ _ h => h) (by rfl) ?_
        try simp only [Act.put, List.setIfInBounds_toArray, List.set_cons_zero, List.set_cons_succ]
        -- 9 Op.fieldAddr 33 (Operand.tmp 10) 8
        refine wpMono_skip' 9 rfl (by kernel_rfl) (by kernel_rfl) (by kernel_rfl) (fun _ _ _ h => h) (by rfl) ?_
        try simp only [Act.put, List.setIfInBounds_toArray, List.set_cons_zero, List.set_cons_succ]
        -- 10 Op.load 3 (Operand.tmp 50)
        refine wpMono_skip' 10 rfl (by kernel_rfl) (by kernel_rfl) (by kernel_rfl) (fun _ _ _ h => h) (by rfl) ?_
        try simp only [Act.put, List.setIfInBounds_toArray, List.set_cons_zero, List.set_cons_succ]
        -- 11 Op.call { callee := Callee.value (Operand.func 24), args := #[Operand.tmp 49, Operand.tmp 
        refine wpMono_skip' 11 rfl (by kernel_rfl) (by kernel_rfl) (by kernel_rfl) (fun _ _ _ h => h) (by rfl) ?_
        try simp only [Act.put, List.setIfInBounds_toArray, List.set_cons_zero, List.set_cons_succ]
        -- 12 Op.binOp BinOp.neq 3 (Operand.tmp 48) (Operand.tmp 52) 3
        refine wpMono_skip' 12 rfl (by kernel_rfl) (by kernel_rfl) (by kernel_rfl) (fun _ _ _ h => h) (by rfl) ?_
        try simp only [Act.put, List.setIfInBounds_toArray, List.set_cons_zero, List.set_cons_succ]
        -- 13 Op.pick (Operand.tmp 44) (Operand.tmp 53) (Operand.const (Value.bool false))
        refine wpMono_take' 13 (v := ?_) rfl (by kernel_rfl) (by kernel_rfl) (by kernel_rfl) (fun _ _ _ h => h) (by rfl) ?_ ?_
        rotate_left
        · (intro W hSw; (try ((first | (have hk := HB6.out.keeps hSw HXX.out) | (have hk := HB5.out.keeps hSw HXX.out) | (have hk := HB0.out.keeps hSw HXX.out)); (obtain ⟨k0, k1, k2, k3, k4, k5, k6, k7, k8, k9⟩ := cells10 hk); (have kl := hk.lt)))
           go_simp; first | done | rfl)
        try simp only [Act.put, List.setIfInBounds_toArray, List.set_cons_zero, List.set_cons_succ]
        refine wpMono_done (by kernel_rfl) ?_ _
        have hb8 : Blk w8 wr.heap.size _ _ := HB0.out
        obtain ⟨k0, k1, k2, k3, k4, k5, k6, k7, k8, k9⟩ := cells10 hb8
        have kl := hb8.lt
        clear hb8
        have HP2 := Lib.hid HP0.out
        obtain ⟨A9, c9, hr9⟩ := HP2.out.rf
        have HR9 := Lib.hid hr9
        clear hr9 HB0 HP0
        go_wp2_with fail
        refine (same_both (bm + 1) bm gr A9 c9 M se kk _ HP2.out.st HR9.out HXK.out.1 HXK.out.2 (by omega)).mono ?_
        rintro e w12 ⟨rfl, hb12⟩
        have HP12 := Lib.hid (HP2.out.below hb12)
        clear hb12 k0 k1 k2 k3 k4 k5 k6 k7 k8 k9 kl HP2 HR9
        go_wp2
        go_roundw
        case rel => exact ⟨n + 1, M, by omega, by go_num, HP12.out, by omega⟩
        case measure => simp [intOf]; omega
    · obtain rfl : m = n := by omega
      obtain ⟨A9, c9, hr9⟩ := HP.out.rf
      have HR9 := Lib.hid hr9
      clear hr9
      go_wp2_with fail
      refine (same_both (bm + 1) bm gr A9 c9 L ses key _ HP.out.st HR9.out HSS.out HKS.out (by omega)).mono ?_
      rintro e w12 ⟨rfl, hb12⟩
      have HB := Lib.hid (HP.out.below hb12).bel
      clear hb12
      go_wp2
      go_ret
      exact ⟨rfl, HB.out⟩
end Go.Proofs.Ytgfamdakjcjdkaa.wStorePlays
