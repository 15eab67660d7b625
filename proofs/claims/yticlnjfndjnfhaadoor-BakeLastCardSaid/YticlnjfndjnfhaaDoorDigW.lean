/- The document's digits. -/
import Derived.Test.YticlnjfndjnfhaaDoorParseW
import Derived.Test.YticlnjfndjnfhaaDoorMonoJ
namespace Go.Proofs.YticlnjfndjnfhaaDoor.bake
open Go Go.RowKit Go.Proofs.YticlnjfndjnfhaaDoor.base Go.Proofs.YticlnjfndjnfhaaDoor.dec Go.Proofs.YticlnjfndjnfhaaDoor.err Go.Proofs.YticlnjfndjnfhaaDoor.rowe Go.Proofs.YticlnjfndjnfhaaDoor.monoj
open Go.Lib (decDigits)

theorem mk_app (a b : List UInt8) : mkB a ++ mkB b = mkB (a ++ b) := by
  apply ByteArray.ext
  simp [mkB, ByteArray.data_append]
theorem conv_one (d : Nat) (h : d < 10) (g : Nat) (w : World) (hg : g = w.heap.size) : (convert 30 9 (.slice (some ⟨g, 0, none⟩) 1 1)).run Tryd.prog (w.alloc (.cells #[.int .u8 (48 + (d : Int))] 5)) = .ok (.string (mkB [UInt8.ofNat (48 + d)])) (w.alloc (.cells #[.int .u8 (48 + (d : Int))] 5)) := by
  subst hg
  refine run_convert_bytes_back _ 30 9 5 ⟨w.heap.size, 0, none⟩ 1 [UInt8.ofNat (48 + d)] Tryd.underlying30 Tryd.underlying5 Tryd.underlying9 ?_
  intro j hj
  obtain rfl : j = 0 := by simpa using hj
  simp only [List.getElem_cons_zero]
  have hcc : ((UInt8.ofNat (48 + d)).toNat : Int) = 48 + (d : Int) := by rw [toNat_dig h]; omega
  rw [hcc]
  simp [Addr.add]
theorem conv_at (d : Nat) (h : d < 10) (g : Nat) (W : World) (hc : W.cell? ⟨g, 0, none⟩ = some (.int .u8 (48 + (d : Int)))) : (convert 30 9 (.slice (some ⟨g, 0, none⟩) 1 1)).run Tryd.prog W = .ok (.string (mkB [UInt8.ofNat (48 + d)])) W := by
  refine run_convert_bytes_back _ 30 9 5 ⟨g, 0, none⟩ 1 [UInt8.ofNat (48 + d)] Tryd.underlying30 Tryd.underlying5 Tryd.underlying9 ?_
  intro j hj
  obtain rfl : j = 0 := by simpa using hj
  simp only [List.getElem_cons_zero]
  have hcc : ((UInt8.ofNat (48 + d)).toNat : Int) = 48 + (d : Int) := by rw [toNat_dig h]; omega
  rw [hcc]
  simpa [Addr.add] using hc
set_option maxRecDepth 10000 in
set_option maxHeartbeats 1600000 in
theorem digits_ref : ∀ (n : Nat) (w : World), n ≤ 1099511627776 → Calls Tryd.prog 29 #[.int .i64 n] w fun e w' => e = .returned (.string (mkB (decDigits n))) ∧ Below w.heap.size w w' := by
  intro n
  induction n using Nat.strongRecOn with
  | _ n ih =>
    intro w hn
    by_cases h : n < 10
    · have hc := conv_one n h w.heap.size w rfl
      have HD := Lib.hid (dec_small h)
      have d1 : decide ((n : Int) < 10) = true := by simp; omega
      go_enter Tryd.func29, Tryd.ntmps29
      obtain ⟨C, hC⟩ : ∃ C, mkB [UInt8.ofNat (48 + n)] = C := ⟨_, rfl⟩
      rw [hC] at hc
      have HC := Lib.hid hC
      clear hC
      go_wp2_with fail
      go_ret
      exact ⟨by rw [HD.out, HC.out]; rfl, below_new w _⟩
    · have HD := Lib.hid (dec_big h)
      have d1 : decide ((n : Int) < 10) = false := by simp; omega
      go_enter Tryd.func29, Tryd.ntmps29
      have hl19 : (decDigits (n / 10)).length ≤ 19 := dec_len_le 18 _ (by omega)
      have hd10 : n % 10 < 10 := by omega
      obtain ⟨C, hC⟩ : ∃ C, mkB [UInt8.ofNat (48 + n % 10)] = C := ⟨_, rfl⟩
      obtain ⟨D, hD⟩ : ∃ D, mkB (decDigits (n / 10)) = D := ⟨_, rfl⟩
      have hsC : C.size = 1 := by rw [← hC]; rfl
      have hsD : D.size ≤ 19 := by rw [← hD, mkB_size]; exact hl19
      have HCV := Lib.hid (show ∀ (g : Nat) (W : World), W.cell? ⟨g, 0, none⟩ = some (.int .u8 (48 + (n : Int) % 10)) → (convert 30 9 (.slice (some ⟨g, 0, none⟩) 1 1)).run Tryd.prog W = .ok (.string C) W from by
        intro g W hc
        rw [← hC]
        exact conv_at (n % 10) hd10 g W (by rw [hc]; rfl))
      have HFIN := Lib.hid (show mkB (decDigits n) = D ++ C from by rw [HD.out, ← hC, ← hD, mk_app])
      have HIH := Lib.hid (show ∀ w0 : World, Calls Tryd.prog 29 #[.int .i64 ((n : Int) / 10)] w0 fun e w' => e = .returned (.string D) ∧ Below w0.heap.size w0 w' from by
        intro w0; rw [← hD]; exact ih (n / 10) (by omega) w0 (by omega))
      clear hC hD HD ih hl19
      have hq : (n : Int).tdiv 10 = (n : Int) / 10 := Int.tdiv_eq_ediv_of_nonneg (by omega)
      have hr : (n : Int).tmod 10 = (n : Int) % 10 := Int.tmod_eq_emod_of_nonneg (by omega)
      have hq2 : IntKind.i64.wrap ((n : Int) / 10) = (n : Int) / 10 := by rw [IntKind.wrap_i64]; omega
      have hr1 : IntKind.i64.wrap (48 + (n : Int) % 10) = 48 + (n : Int) % 10 := by rw [IntKind.wrap_i64]; omega
      have hr2 : IntKind.u8.wrap (48 + (n : Int) % 10) = 48 + (n : Int) % 10 := by rw [IntKind.wrap_u8]; omega
      go_wp2_with fail
      refine wp_region_monoJ nobody [] (by kernel_rfl) ?_
      refine wpMonoJ_take' 0 (v := ?_) rfl (by kernel_rfl) (by kernel_rfl) (by kernel_rfl) (by kernel_rfl) (fun _ _ _ h => h) (by rfl) ?_ ?_
      rotate_left
      · (intro W hSw; go_simp; first | done | rfl)
      try simp only [Act.put, List.setIfInBounds_toArray, List.set_cons_zero, List.set_cons_succ]
      refine wpMonoJ_take' 1 (v := ?_) rfl (by kernel_rfl) (by kernel_rfl) (by kernel_rfl) (by kernel_rfl) (fun _ _ _ h => h) (by rfl) ?_ ?_
      rotate_left
      · (intro W hSw; go_simp; first | done | rfl)
      try simp only [Act.put, List.setIfInBounds_toArray, List.set_cons_zero, List.set_cons_succ]
      refine wpMonoJ_take' 3 (v := ?_) rfl (by kernel_rfl) (by kernel_rfl) (by kernel_rfl) (by kernel_rfl) (fun _ _ _ h => h) (by rfl) ?_ ?_
      rotate_left
      · (intro W hSw; go_simp; first | done | rfl)
      try simp only [Act.put, List.setIfInBounds_toArray, List.set_cons_zero, List.set_cons_succ]
      refine wpMonoJ_take' 4 (v := ?_) rfl (by kernel_rfl) (by kernel_rfl) (by kernel_rfl) (by kernel_rfl) (fun _ _ _ h => h) (by rfl) ?_ ?_
      rotate_left
      · (intro W hSw; go_simp; first | done | rfl)
      try simp only [Act.put, List.setIfInBounds_toArray, List.set_cons_zero, List.set_cons_succ]
      refine wpMonoJ_take' 5 (v := ?_) rfl (by kernel_rfl) (by kernel_rfl) (by kernel_rfl) (by kernel_rfl) (fun _ _ _ h => h) (by rfl) ?_ ?_
      rotate_left
      · (intro W hSw; go_simp; first | done | rfl)
      try simp only [Act.put, List.setIfInBounds_toArray, List.set_cons_zero, List.set_cons_succ]
      refine wpMonoJ_take' 6 (v := ?_) rfl (by kernel_rfl) (by kernel_rfl) (by kernel_rfl) (by kernel_rfl) (fun _ _ _ h => h) (by rfl) ?_ ?_
      rotate_left
      · (intro W hSw; go_simp; first | done | rfl)
      try simp only [Act.put, List.setIfInBounds_toArray, List.set_cons_zero, List.set_cons_succ]
      try simp only [hq, hr, hq2, hr1, hr2]
      refine wpMonoJ_two' 2 7 (by kernel_rfl) rfl (by rfl) rfl (by rfl) (fun K hK => ?_) (fun K hK => ?_)
      · go_simp
        refine (HIH.out _).mono ?_
        rintro e w1 ⟨rfl, hb1⟩
        refine hK.out _ _ ?_ ?_
        · exact .of_below hb1
        clear hK K
        try simp only [Act.put, List.setIfInBounds_toArray, List.set_cons_zero, List.set_cons_succ]
        refine wpMonoJ_one' 7 (by kernel_rfl) rfl (by rfl) (fun K hK => ?_)
        go_simp
        refine hK.out _ _ ?_ ?_
        · exact .alloc _
        clear hK K
        try simp only [Act.put, List.setIfInBounds_toArray, List.set_cons_zero, List.set_cons_succ]
        have HG := Lib.hid (show ∀ W, Keeps nobody (w1.alloc (.cells #[.int .u8 (48 + (n : Int) % 10)] 5)) W → W.cell? ⟨w1.heap.size, 0, none⟩ = some (.int .u8 (48 + (n : Int) % 10)) from
          fun W h => (h.cell 0 (by simp) (fun h => h)).trans (cell_new w1 _ _ _ 0))
        have HBB := Lib.hid (show Below w.heap.size w (w1.alloc (.cells #[.int .u8 (48 + (n : Int) % 10)] 5)) from
          ((Below.refl w.heap.size w).drew.trans (hb1.mono (Nat.le_refl _))).alloc (by have := hb1.size; exact this) _)
        clear hb1
        refine wpMonoJ_take' 8 (v := ?_) rfl (by kernel_rfl) (by kernel_rfl) (by kernel_rfl) (by kernel_rfl) (fun _ _ _ h => h) (by rfl) ?_ ?_
        rotate_left
        · (intro W hSw; have hcv := HCV.out _ W (HG.out W hSw); go_simp; first | done | rfl)
        try simp only [Act.put, List.setIfInBounds_toArray, List.set_cons_zero, List.set_cons_succ]
        refine wpMonoJ_take' 9 (v := ?_) rfl (by kernel_rfl) (by kernel_rfl) (by kernel_rfl) (by kernel_rfl) (fun _ _ _ h => h) (by rfl) ?_ ?_
        rotate_left
        · (intro W hSw; go_simp; rw [if_neg (by omega)])
        try simp only [Act.put, List.setIfInBounds_toArray, List.set_cons_zero, List.set_cons_succ]
        refine wpMonoJ_take' 10 (v := ?_) rfl (by kernel_rfl) (by kernel_rfl) (by kernel_rfl) (by kernel_rfl) (fun _ _ _ h => h) (by rfl) ?_ ?_
        rotate_left
        · (intro W hSw; go_simp; first | done | rfl)
        try simp only [Act.put, List.setIfInBounds_toArray, List.set_cons_zero, List.set_cons_succ]
        refine wpMonoJ_done (by kernel_rfl) ?_ _
        go_wp2_with fail
        go_ret
        exact ⟨by rw [HFIN.out]; rfl, HBB.out⟩
      · go_simp
        refine hK.out _ _ ?_ ?_
        · exact .alloc _
        clear hK K
        try simp only [Act.put, List.setIfInBounds_toArray, List.set_cons_zero, List.set_cons_succ]
        have HG := Lib.hid (show ∀ W, Keeps nobody (w.drew.alloc (.cells #[.int .u8 (48 + (n : Int) % 10)] 5)) W → W.cell? ⟨w.heap.size, 0, none⟩ = some (.int .u8 (48 + (n : Int) % 10)) from
          fun W h => (h.cell 0 (by simp) (fun h => h)).trans (cell_new w.drew _ _ _ 0))
        refine wpMonoJ_take' 8 (v := ?_) rfl (by kernel_rfl) (by kernel_rfl) (by kernel_rfl) (by kernel_rfl) (fun _ _ _ h => h) (by rfl) ?_ ?_
        rotate_left
        · (intro W hSw; have hcv := HCV.out _ W (HG.out W hSw); go_simp; first | done | rfl)
        try simp only [Act.put, List.setIfInBounds_toArray, List.set_cons_zero, List.set_cons_succ]
        refine wpMonoJ_one' 2 (by kernel_rfl) rfl (by rfl) (fun K hK => ?_)
        go_simp
        refine (HIH.out _).mono ?_
        rintro e w1 ⟨rfl, hb1⟩
        refine hK.out _ _ ?_ ?_
        · exact .of_below hb1
        clear hK K
        try simp only [Act.put, List.setIfInBounds_toArray, List.set_cons_zero, List.set_cons_succ]
        have HBB := Lib.hid (show Below w.heap.size w w1 from
          (((Below.refl w.heap.size w).drew).alloc (Nat.le_refl _) _).trans (hb1.mono (by simp)))
        refine wpMonoJ_take' 9 (v := ?_) rfl (by kernel_rfl) (by kernel_rfl) (by kernel_rfl) (by kernel_rfl) (fun _ _ _ h => h) (by rfl) ?_ ?_
        rotate_left
        · (intro W hSw; go_simp; rw [if_neg (by omega)])
        try simp only [Act.put, List.setIfInBounds_toArray, List.set_cons_zero, List.set_cons_succ]
        refine wpMonoJ_take' 10 (v := ?_) rfl (by kernel_rfl) (by kernel_rfl) (by kernel_rfl) (by kernel_rfl) (fun _ _ _ h => h) (by rfl) ?_ ?_
        rotate_left
        · (intro W hSw; go_simp; first | done | rfl)
        try simp only [Act.put, List.setIfInBounds_toArray, List.set_cons_zero, List.set_cons_succ]
        refine wpMonoJ_done (by kernel_rfl) ?_ _
        go_wp2_with fail
        go_ret
        exact ⟨by rw [HFIN.out]; rfl, HBB.out⟩
end Go.Proofs.YticlnjfndjnfhaaDoor.bake
