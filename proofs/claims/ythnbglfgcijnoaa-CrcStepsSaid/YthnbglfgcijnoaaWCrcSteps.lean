/- The walk of the law CrcSteps: it returns true; nothing that was there is written. -/
import Derived.Test.YthnbglfgcijnoaaCrc
import Derived.Deep.QuietTactic
import Derived.BigQuiet
namespace Go.Proofs.Ythnbglfgcijnoaa.wCrcSteps
open Go.RowKit Go.Proofs.Ythnbglfgcijnoaa.base Go.Proofs.Ythnbglfgcijnoaa.num Go.Proofs.Ythnbglfgcijnoaa.crc

set_option maxHeartbeats 800000 in
theorem walk (v0 : Value) (v1 : Value) (v2 : Value) (w : World) (a0 : Arg Try.prog w 22 v0) (a1 : Arg Try.prog w 24 v1) (a2 : Arg Try.prog w 27 v2) :
    Calls Try.prog 4 #[v0, v1, v2] w fun e w' => e = .returned (.bool true) ∧ Below w.heap.size w w' := by
  obtain ⟨A, len, cap, zs, rfl, hl, hm, hlen, hwf, hr, _⟩ := a0.ints Try.underlying22 Try.underlying5 (by kernel_rfl)
  obtain ⟨s, rfl, hs⟩ := a1.int Try.underlying24
  obtain ⟨l, rfl, hll, hla⟩ := a2.agg (.inr ⟨_, _, Try.underlying27⟩)
  have hC : Try.prog.cellsOf 27 = 2 := by kernel_rfl
  have hC5 : Try.prog.cellsOf 5 = 1 := by kernel_rfl
  obtain ⟨p, q, rfl, hp, hq⟩ : ∃ p q, l = [.int .u8 p, .int .u8 q] ∧ (0 ≤ p ∧ p ≤ 255) ∧ 0 ≤ q ∧ q ≤ 255 := by
    rw [hC] at hll
    obtain ⟨_, hg⟩ := hla.array Try.underlying27
    rw [hC5] at hg
    match l, hll with
    | [c0, c1], _ =>
      obtain ⟨p, e0, w0⟩ := (hg 0 (by decide)).int Try.underlying5
      obtain ⟨q, e1, w1⟩ := (hg 1 (by decide)).int Try.underlying5
      simp at e0 e1
      subst e0 e1
      exact ⟨p, q, rfl, bounds_u8 w0, bounds_u8 w1⟩
  have hs := bounds_u32 hs
  have hzs : ∀ c ∈ zs, 0 ≤ c ∧ c ≤ 255 := fun c h => bounds_u8 (hwf c h)
  clear hC hC5 hll hla
  have Hlen := Lib.hid hlen; clear hlen
  have Hr := Lib.hid hr; clear hr
  unfold maxLen at hm
  by_cases hbig : 100000 < len
  · go_enter Try.func4, Try.ntmps4
    go_wp2_with (go_at_call 7; refine (awake_any _).mono ?_; rintro e w1 ⟨rfl, hb1⟩)
    go_ret
    exact ⟨rfl, ((Below.refl _ _).alloc (Nat.le_refl _) _).trans (hb1.mono (by simp))⟩
  · go_enter Try.func4, Try.ntmps4
    go_wp2_with (go_at_call 7; refine (awake_any _).mono ?_; rintro e w1 ⟨rfl, hb1⟩)
    have hbw : Below w.heap.size w w1 := ((Below.refl _ _).alloc (Nat.le_refl _) _).trans (hb1.mono (by simp))
    have hcp : w1.cell? ⟨w.heap.size, 0, none⟩ = some (.int .u8 p) := by
      rw [hb1.cell (p := ⟨w.heap.size, 0, none⟩) (by simp)]; rw [cell_new]; rfl
    have hcq : w1.cell? ⟨w.heap.size, 1, none⟩ = some (.int .u8 q) := by
      rw [hb1.cell (p := ⟨w.heap.size, 1, none⟩) (by simp)]; rw [cell_new]; rfl
    have Hr1 : Hid (Reads w1 w1.heap.size 1 A len (zs.map (Value.int .u8))) := (Hr.out.below hbw).more hbw.size
    have Hbw := Lib.hid hbw; clear hbw hb1 Hr
    go_loop [7, 17] (fun x k => ∃ n : Nat, n ≤ len ∧ k = .int .i64 n ∧ x = .int .u32 (sumI (zs.take n))) (fun _ k => len - (intOf k).toNat)
    case atStart => exact ⟨0, by omega, rfl, rfl⟩
    case round =>
      obtain ⟨n, hn, rfl, rfl⟩ := hrel
      by_cases hlt : n < len
      · obtain ⟨b, off, rfl, hb, hc⟩ := Hr1.out.2 (by omega)
        have hcell : w1.cell? ⟨b, off + n, none⟩ = some (.int .u8 (zs.getD n 0)) := Reads.int_at hc (by rw [Hlen.out]; exact hlt)
        have hb := sumI_bd (l := zs.take n) (fun c h => hzs c (List.mem_of_mem_take h))
        have hcb : 0 ≤ zs.getD n 0 ∧ zs.getD n 0 ≤ 255 := by
          have : n < zs.length := by rw [Hlen.out]; exact hlt
          rw [List.getD_eq_getElem?_getD, List.getElem?_eq_getElem this]
          exact hzs _ (List.getElem_mem this)
        clear hc
        go_wp2_with (go_at_call 10; refine (step_any _ _ _ hb hcb).mono ?_; rintro e w' ⟨rfl, rfl⟩)
        go_round
        case rel => exact ⟨n + 1, by omega, by go_num, val_int (take_succ_foldl zs n (by rw [Hlen.out]; exact hlt)).symm⟩
        case measure => simp [intOf]; omega
      · obtain rfl : n = len := by omega
        have htake : sumI (zs.take n) = sumI zs := by rw [List.take_of_length_le (by rw [Hlen.out]; exact Nat.le_refl _)]
        rw [htake]
        have hb := sumI_bd hzs
        have Hin := Lib.hid (fun h => stepI_inj_c hs hp hq h)
        clear htake
        have hg : (sumI zs == sumI zs) = true := by simp
        go_wp2_with fail
        go_quiet ((first | (go_at_call 8; exact quiet_left (sum_any _ _ _ zs _ Hlen.out (by unfold maxLen; omega) (by exact Hr1.out.drewN _) hzs)) | (go_at_call 10; exact quiet_left (step_any _ _ _ hs hp)) | (go_at_call 10; exact quiet_left (step_any _ _ _ hs hq))))
        go_wp2
        go_ret
        refine ⟨ret_bool ?_, below_drewN Hbw.out _⟩
        by_cases he : p = q
        · subst he; simp
        · have : ¬ stepI s p = stepI s q := fun h => he (Hin.out h)
          have h1 : (stepI s p == stepI s q) = false := by simpa using this
          have h2 : (p == q) = false := by simpa using he
          rw [h1, h2]; rfl
end Go.Proofs.Ythnbglfgcijnoaa.wCrcSteps
