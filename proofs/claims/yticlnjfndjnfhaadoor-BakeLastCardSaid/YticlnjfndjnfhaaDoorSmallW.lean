/- A text with small letters: the document's. -/
import Derived.Test.YticlnjfndjnfhaaDoorLowW
import Derived.Test.YticlnjfndjnfhaaDoorRowE
import Derived.Lib.AppendStr
namespace Go.Proofs.YticlnjfndjnfhaaDoor.bake
open Go Go.RowKit Go.Proofs.YticlnjfndjnfhaaDoor.base Go.Proofs.YticlnjfndjnfhaaDoor.dec Go.Proofs.YticlnjfndjnfhaaDoor.rowe

theorem byte_info : (Tryd.prog.info? 5).map (fun i => (i.zero, i.size, i.bytes)) = some (some (.int .u8 0), 1, 1) := by kernel_rfl
def cells (l : List UInt8) : List Value := l.map fun b => Value.int .u8 (b.toNat : Nat)
theorem cells_low (s : ByteArray) {k : Nat} (h : k < s.size) : cells (lowL (s.data.toList.take (k + 1))) = cells (lowL (s.data.toList.take k)) ++ [.int .u8 ((lowC s[k]).toNat : Nat)] := by
  have h2 : k < s.data.toList.length := h
  rw [List.take_succ_eq_append_getElem h2]
  simp [cells, lowL]
  rfl
theorem own_text {w : World} {base n : Nat} {A : Option Addr} {c : Nat} {l : List UInt8} (h : w.ownsRow base 5 1 (.slice A n c) n (cells l)) : (convert 30 9 (.slice A n c)).run Tryd.prog w = .ok (.string (mkB l)) w := by
  have hr := Reads.of_own h
  have hn : l.length = n := by have := hr.1; simpa [cells] using this
  by_cases h0 : 0 < n
  · obtain ⟨b, off, rfl, _, hc⟩ := hr.2 h0
    subst hn
    refine run_convert_bytes_back w 30 9 5 ⟨b, off, none⟩ c l Tryd.underlying30 Tryd.underlying5 Tryd.underlying9 ?_
    intro j hj
    have := hc j (by simpa [cells] using hj)
    simp [cells, hj] at this
    rw [← this]
    simp only [Addr.add]
    split
    · rename_i e; subst e; rfl
    · rfl
  · obtain rfl : n = 0 := by omega
    obtain rfl : l = [] := List.eq_nil_of_length_eq_zero hn
    rcases A with _ | ⟨b, off, sp⟩
    · exact run_convert_bytes_nil w 30 5 Tryd.underlying30 Tryd.underlying5 0 c 9 Tryd.underlying9
    · exact run_convert_bytes_back w 30 9 5 ⟨b, off, sp⟩ c [] Tryd.underlying30 Tryd.underlying5 Tryd.underlying9 (by simp)
set_option maxRecDepth 10000 in
set_option maxHeartbeats 3200000 in
theorem small_ref (s : ByteArray) (w : World) (hs : s.size ≤ 1000000) : Calls Tryd.prog 32 #[.string s] w fun e w' => e = .returned (.string (mkB (lowL s.data.toList))) ∧ Below w.heap.size w w' := by
  obtain ⟨i0, hi, hz⟩ := Option.map_eq_some_iff.1 byte_info
  simp only [Prod.mk.injEq] at hz
  obtain ⟨hz0, hz1, hz2⟩ := hz
  go_enter Tryd.func32, Tryd.ntmps32
  go_wp2
  go_loopw [3, 4] (fun v x wr => ∃ k : Nat, k ≤ s.size ∧ x = .int .i64 k ∧ wr.ownsRow w.heap.size 5 1 v k (cells (lowL (s.data.toList.take k))) ∧ Below w.heap.size w wr) (fun _ x _ => s.size - (intOf x).toNat)
  case atStart => exact ⟨0, by omega, rfl, ownsRow_new0 w 5 1 #[], (Below.refl _ _).alloc (Nat.le_refl _) _⟩
  case round =>
    obtain ⟨k, hk, rfl, hown, hbw⟩ := hrel
    have hws : w.heap.size ≤ wr.heap.size := hbw.size
    by_cases h0 : k < s.size
    · have h256 : s[k].toNat < 256 := s[k].toNat_lt
      have HC := Lib.hid (cells_low s h0)
      have Hown := Lib.hid hown
      have Hbw := Lib.hid hbw
      clear hown hbw
      by_cases hb : 65 ≤ s[k].toNat ∧ s[k].toNat ≤ 90
      · have d1 : decide ((65 : Int) ≤ (s[k].toNat : Int)) = true := by simp; omega
        have d2 : decide ((s[k].toNat : Int) ≤ 90) = true := by simp; omega
        have HB := Lib.hid (lowC_big hb)
        have hmod : ((s[k].toNat : Int) + 32) % 256 = (s[k].toNat : Int) + 32 := by omega
        clear hb
        go_wp2_with (at_builtin; refine wpList_append_newAt rfl (.tmp 24) (.tmp 26) _ rfl w.heap.size 5 i0 _ 1 1 Tryd.underlying30 hi hz0 hz1 hz2 rfl (by decide) _ k _ rfl Hown.out 1 1 wr.heap.size (by simp) [_] rfl rfl (by simp [Value.oneCell']) (by unfold maxLen; omega) (by omega) hws ?_; intro v1 w5 hown1 hbw1 hgr1 hwh1; have Hown1 := Lib.hid hown1; have Hbw1 := Lib.hid (Hbw.out.trans hbw1); clear hown1 hbw1 hgr1 hwh1)
        go_roundw
        case rel => exact ⟨k + 1, by omega, by go_num, by rw [HC.out]; simpa [HB.out] using Hown1.out, Hbw1.out⟩
        case measure => simp [intOf]; omega
      · have HB := Lib.hid (lowC_small hb)
        by_cases h65 : 65 ≤ s[k].toNat
        · have d1 : decide ((65 : Int) ≤ (s[k].toNat : Int)) = true := by simp; omega
          have d2 : decide ((s[k].toNat : Int) ≤ 90) = false := by simp; omega
          clear hb
          go_wp2_with (at_builtin; refine wpList_append_newAt rfl (.tmp 24) (.tmp 26) _ rfl w.heap.size 5 i0 _ 1 1 Tryd.underlying30 hi hz0 hz1 hz2 rfl (by decide) _ k _ rfl Hown.out 1 1 wr.heap.size (by simp) [_] rfl rfl (by simp [Value.oneCell']) (by unfold maxLen; omega) (by omega) hws ?_; intro v1 w5 hown1 hbw1 hgr1 hwh1; have Hown1 := Lib.hid hown1; have Hbw1 := Lib.hid (Hbw.out.trans hbw1); clear hown1 hbw1 hgr1 hwh1)
          go_roundw
          case rel => exact ⟨k + 1, by omega, by go_num, by rw [HC.out]; simpa [HB.out] using Hown1.out, Hbw1.out⟩
          case measure => simp [intOf]; omega
        · have d1 : decide ((65 : Int) ≤ (s[k].toNat : Int)) = false := by simp; omega
          clear hb
          go_wp2_with (at_builtin; refine wpList_append_newAt rfl (.tmp 24) (.tmp 26) _ rfl w.heap.size 5 i0 _ 1 1 Tryd.underlying30 hi hz0 hz1 hz2 rfl (by decide) _ k _ rfl Hown.out 1 1 wr.heap.size (by simp) [_] rfl rfl (by simp [Value.oneCell']) (by unfold maxLen; omega) (by omega) hws ?_; intro v1 w5 hown1 hbw1 hgr1 hwh1; have Hown1 := Lib.hid hown1; have Hbw1 := Lib.hid (Hbw.out.trans hbw1); clear hown1 hbw1 hgr1 hwh1)
          go_roundw
          case rel => exact ⟨k + 1, by omega, by go_num, by rw [HC.out]; simpa [HB.out] using Hown1.out, Hbw1.out⟩
          case measure => simp [intOf]; omega
    · obtain rfl : k = s.size := by omega
      have htk : s.data.toList.take s.size = s.data.toList := List.take_of_length_le (Nat.le_refl _)
      rw [htk] at hown
      clear htk
      obtain ⟨A, c, rfl⟩ := ownsRow_slice hown
      have hback := own_text hown
      have HBW := Lib.hid hbw
      clear hown hbw
      go_wp2_with fail
      go_ret
      exact ⟨rfl, HBW.out⟩
end Go.Proofs.YticlnjfndjnfhaaDoor.bake
