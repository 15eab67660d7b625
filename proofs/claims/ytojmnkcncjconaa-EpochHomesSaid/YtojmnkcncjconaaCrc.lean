/- The walks of crc.Step, crc.Sum and of the law's own awake: what each returns; nothing is written. -/
import Derived.Test.YtojmnkcncjconaaRows
import Derived.Test.YtojmnkcncjconaaNum
import Derived.Test.YtojmnkcncjconaaBase
import Derived.WalkKit
import Derived.Lib.SlBytesConst
import Derived.ProofKit
import Derived.Lib.Hide
namespace Go.Proofs.Ytojmnkcncjconaa.crc
open Go.RowKit Go.Proofs.Ytojmnkcncjconaa.base Go.Proofs.Ytojmnkcncjconaa.num

set_option maxHeartbeats 400000 in
theorem step_any (s c : Int) (w : World) (hs : 0 ≤ s ∧ s ≤ 4294967295) (hc : 0 ≤ c ∧ c ≤ 255) :
    Calls Try.prog 34 #[.int .u32 s, .int .u8 c] w fun e w' => e = .returned (.int .u32 (stepI s c)) ∧ w = w' := by
  obtain ⟨s, rfl⟩ := Int.eq_ofNat_of_zero_le hs.1
  obtain ⟨c, rfl⟩ := Int.eq_ofNat_of_zero_le hc.1
  go_enter Try.func34, Try.ntmps34
  go_wp2
  go_loop [0, 5] (fun x k => ∃ n : Nat, n ≤ 8 ∧ k = .int .i64 n ∧ x = .int .u32 ((rnds n ((s ^^^ 4294967295) ^^^ c) : Nat) : Int)) (fun _ k => 8 - (intOf k).toNat)
  case atStart => exact ⟨0, by omega, rfl, val_int (spell_start (by omega) (by omega))⟩
  case round =>
    obtain ⟨n, hn, rfl, rfl⟩ := hrel
    have hlt' := rnds_lt n (xor_lt (xor_lt (show s < 4294967296 by omega) (show 4294967295 < 4294967296 by omega)) (show c < 4294967296 by omega))
    by_cases hlt : n < 8
    · go_wp2
      go_round
      case rel => exact ⟨n + 1, by omega, by go_num, val_int (spell_rnd hlt')⟩
      case measure => simp [intOf]; omega
    · obtain rfl : n = 8 := by omega
      go_wp2
      go_ret
      exact ⟨ret_int (by rw [spell_end hlt']; simp [stepI, stepN]), rfl⟩

set_option maxHeartbeats 400000 in
theorem sum_any (A : Option Addr) (len cap : Nat) (zs : List Int) (w : World) (hl : zs.length = len) (hm : len ≤ maxLen) (hr : Reads w w.heap.size 1 A len (zs.map (Value.int .u8))) (hz : ∀ c ∈ zs, 0 ≤ c ∧ c ≤ 255) :
    Calls Try.prog 25 #[.slice A len cap] w fun e w' => e = .returned (.int .u32 (sumI zs)) ∧ w = w' := by
  unfold maxLen at hm
  have Hl := Lib.hid hl; clear hl
  have Hr := Lib.hid hr; clear hr
  go_enter Try.func25, Try.ntmps25
  go_wp2
  go_loop [3, 8] (fun x k => ∃ n : Nat, n ≤ len ∧ k = .int .i64 n ∧ x = .int .u32 (sumI (zs.take n))) (fun _ k => len - (intOf k).toNat)
  case atStart => exact ⟨0, by omega, rfl, rfl⟩
  case round =>
    obtain ⟨n, hn, rfl, rfl⟩ := hrel
    by_cases hlt : n < len
    · obtain ⟨b, off, rfl, hb, hc⟩ := Hr.out.2 (by omega)
      have hcell : w.cell? ⟨b, off + n, none⟩ = some (.int .u8 (zs.getD n 0)) := Reads.int_at hc (by rw [Hl.out]; exact hlt)
      have hb := sumI_bd (l := zs.take n) (fun c h => hz c (List.mem_of_mem_take h))
      have hcb : 0 ≤ zs.getD n 0 ∧ zs.getD n 0 ≤ 255 := by
        have : n < zs.length := by rw [Hl.out]; exact hlt
        rw [List.getD_eq_getElem?_getD, List.getElem?_eq_getElem this]
        exact hz _ (List.getElem_mem this)
      clear hc
      go_wp2_with (go_at_call 34; refine (step_any _ _ _ hb hcb).mono ?_; rintro e w' ⟨rfl, rfl⟩)
      go_round
      case rel => exact ⟨n + 1, by omega, by go_num, val_int (take_succ_foldl zs n (by rw [Hl.out]; exact hlt)).symm⟩
      case measure => simp [intOf]; omega
    · obtain rfl : n = len := by omega
      go_wp2
      go_ret
      exact ⟨ret_int (by rw [List.take_of_length_le (by rw [Hl.out]; exact Nat.le_refl _)]), rfl⟩
end Go.Proofs.Ytojmnkcncjconaa.crc
