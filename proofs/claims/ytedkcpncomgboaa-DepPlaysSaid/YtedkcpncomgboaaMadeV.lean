/- The walks that make a vector: the reference's Trim. -/
import Derived.Test.YtedkcpncomgboaaRefV
namespace Go.Proofs.Ytedkcpncomgboaa.made
open Go.RowKit Go.Proofs.Ytedkcpncomgboaa.base Go.Proofs.Ytedkcpncomgboaa.vec Go.Proofs.Ytedkcpncomgboaa.ref

theorem trimN_zero (zs : List Int) : ∀ n j, trimN zs n ≤ j → j < n → zs.getD j 0 = 0
  | 0, j, _, h => by omega
  | n + 1, j, h1, h2 => by
    unfold trimN at h1
    split at h1
    · next hz =>
      rcases Nat.lt_or_eq_of_le (Nat.le_of_lt_succ h2) with h | h
      · exact trimN_zero zs n j h1 h
      · subst h; exact hz
    · omega
theorem trimN_last (zs : List Int) : ∀ n, trimN zs n = 0 ∨ zs.getD (trimN zs n - 1) 0 ≠ 0
  | 0 => .inl rfl
  | n + 1 => by
    unfold trimN
    split
    · exact trimN_last zs n
    · next hz => right; simpa using hz
theorem enc_snoc (zs : List Int) (z : Int) : enc (zs ++ [z]) = enc zs ++ [.int .i64 z] := by simp [enc]
theorem take_snoc (zs : List Int) (n : Nat) (h : n < zs.length) : zs.take (n + 1) = zs.take n ++ [zs.getD n 0] := by
  rw [List.take_succ_eq_append_getElem h, List.getD_eq_getElem?_getD, List.getElem?_eq_getElem h]; rfl
set_option maxHeartbeats 800000 in
theorem trim_ref (A : Option Addr) (len cap : Nat) (zs : List Int) (w : World) (h : Vec w w.heap.size A len cap zs) (hl : len ≤ 1000000) :
    Calls Try.prog 29 #[.slice A len cap] w (OwnL w (trimL zs)) := by
  obtain ⟨i0, hi, hz0, hz1, hz2⟩ := info_parts int_info
  have hN : trimN zs zs.length = trimN zs len := by rw [h.1]
  have hNl := trimN_le zs len
  have hNz := trimN_zero zs len
  have hNn := trimN_last zs len
  have htl : trimL zs = zs.take (trimN zs len) := by unfold trimL; rw [hN]
  have hll : (trimL zs).length = trimN zs len := by rw [htl, List.length_take, h.1]; omega
  have hzl := h.1
  generalize trimN zs len = N at hNl hNz hNn htl hll
  have HNz := Lib.hid hNz; clear hNz
  have HNn := Lib.hid hNn; clear hNn
  have Htl := Lib.hid htl; clear htl hN
  have Hll := Lib.hid hll; clear hll
  have Hzl := Lib.hid hzl; clear hzl
  have H := Lib.hid h; clear h
  generalize trimL zs = T at Htl Hll ⊢
  go_enter Try.func29, Try.ntmps29
  go_wp2
  go_loopw [3, 4, 5, 6] (fun l i _ _ wr => ∃ n : Nat, n ≤ N ∧ i = .int .i64 n ∧ wr.ownsRow w.heap.size 3 1 l n (enc (zs.take n)) ∧ Below w.heap.size w wr) (fun _ i _ _ _ => len - (intOf i).toNat)
  case atStart => exact ⟨0, by omega, rfl, ownsRow_new0 w 3 1 #[], (Below.refl _ _).alloc (Nat.le_refl _) _⟩
  case round =>
    obtain ⟨n, hn, rfl, hown, hbw⟩ := hrel
    have Hown := Lib.hid hown; clear hown
    have Hbw := Lib.hid hbw; clear hbw
    by_cases hlt : n < len
    · obtain ⟨b, off, rfl, hb⟩ := H.out.at_some (by omega)
      have HV := Lib.hid (H.out.below Hbw.out)
      go_wp2
      go_loop [5, 6] (fun m k => ∃ (q : Nat) (x : Bool), n ≤ q ∧ q ≤ len ∧ k = .int .i64 q ∧ m = .bool x ∧ (x = true → n < N) ∧ (x = false → ∀ j, n ≤ j → j < q → zs.getD j 0 = 0)) (fun _ k => len - (intOf k).toNat)
      case atStart => exact ⟨n, false, Nat.le_refl _, by omega, rfl, rfl, by simp, fun _ j h1 h2 => by omega⟩
      case round =>
        obtain ⟨q, x, hq1, hq2, rfl, rfl, hx1, hx2⟩ := hrel
        have Hx1 := Lib.hid hx1; clear hx1
        have Hx2 := Lib.hid hx2; clear hx2
        by_cases hql : q < len
        · cases x
          · have hcell := HV.out.cell hql
            generalize hz : zs.getD q 0 = z at hcell
            have Hz := Lib.hid hz; clear hz
            by_cases hzz : z = 0
            · have hd : (z != 0) = false := by simpa using hzz
              have Hzz := Lib.hid hzz; clear hzz
              go_wp2
              go_round
              case rel => exact ⟨q + 1, false, by omega, by omega, by go_num, rfl, by simp, fun _ j h1 h2 => by
                rcases Nat.lt_or_eq_of_le (Nat.le_of_lt_succ h2) with h | h
                · exact Hx2.out rfl j h1 h
                · subst h; exact Hz.out.trans Hzz.out⟩
              case measure => simp [intOf]; omega
            · have hd : (z != 0) = true := by simpa using hzz
              have hnN : n < N := by
                rcases Nat.lt_or_ge n N with h | h
                · exact h
                · exact absurd (Hz.out.symm.trans (HNz.out q (by omega) hql)) hzz
              clear hzz
              go_wp2
              go_round
              case rel => exact ⟨q + 1, true, by omega, by omega, by go_num, rfl, fun _ => hnN, by simp⟩
              case measure => simp [intOf]; omega
          · go_wp2
            go_round
            case rel => exact ⟨q + 1, true, by omega, by omega, by go_num, rfl, Hx1.out, by simp⟩
            case measure => simp [intOf]; omega
        · obtain rfl : q = len := by omega
          cases x
          · have hfin : n = N := by
              rcases Nat.lt_or_ge n N with h | h
              · rcases HNn.out with h' | h'
                · omega
                · exact absurd (Hx2.out rfl (N - 1) (by omega) (by omega)) h'
              · omega
            have Hfin := Lib.hid hfin; clear hfin
            go_wp2
            go_ret
            exact ⟨_, rfl, by rw [Hll.out, Htl.out, ← Hfin.out]; exact Hown.out, Hbw.out⟩
          · have hnN := Hx1.out rfl
            have hcell := HV.out.cell hlt
            have hsn := take_snoc zs n (by rw [Hzl.out]; exact hlt)
            have hes := enc_snoc (zs.take n) (zs.getD n 0)
            generalize zs.getD n 0 = z at hcell hsn hes
            rw [← hsn] at hes
            have Hes := Lib.hid hes; clear hes hsn
            go_wp2_with (at_builtin; refine wpList_append_new rfl (.tmp 31) (.tmp 36) _ rfl w.heap.size 3 i0 (.int .i64 0) 1 8 Try.underlying26 hi hz0 hz1 hz2 rfl (by decide) _ _ _ rfl Hown.out 1 1 [.int .i64 z] rfl rfl (by simp [Value.oneCell']) (by unfold maxLen; omega) (by omega) Hbw.out.size ?_; intro v1 w1 hown1 hbw1 _ _; have Hown1 := Lib.hid hown1; have Hbw1 := Lib.hid (Hbw.out.trans hbw1); clear hown1 hbw1)
            go_roundw
            case rel => exact ⟨n + 1, by omega, by go_num, by rw [Hes.out]; exact Hown1.out, Hbw1.out⟩
            case measure => simp [intOf]; omega
    · have hfin : n = N := by omega
      have Hfin := Lib.hid hfin; clear hfin
      go_wp2
      go_ret
      exact ⟨_, rfl, by rw [Hll.out, Htl.out, ← Hfin.out]; exact Hown.out, Hbw.out⟩
end Go.Proofs.Ytedkcpncomgboaa.made
