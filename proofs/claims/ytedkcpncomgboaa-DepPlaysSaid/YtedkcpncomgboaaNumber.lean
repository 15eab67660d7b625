/- wire's number: what is appended is one to nine bytes. -/
import Derived.Test.YtedkcpncomgboaaErr
import Derived.Test.YtedkcpncomgboaaRowE
import Derived.Lib.AppendStr
namespace Go.Proofs.Ytedkcpncomgboaa.wire
open Go.RowKit Go.Proofs.Ytedkcpncomgboaa.base Go.Proofs.Ytedkcpncomgboaa.rowe Go.Proofs.Ytedkcpncomgboaa.err

theorem byte_info : (Try.prog.info? 5).map (fun i => (i.zero, i.size, i.bytes)) = some (some (.int .u8 0), 1, 1) := by kernel_rfl
def IsU8 (u : Value) : Prop := ∃ b : Int, u = .int .u8 b
theorem IsU8.one {u : Value} (h : IsU8 u) : u.oneCell' = true := by obtain ⟨b, rfl⟩ := h; rfl
/-- a row of bytes of one's own, of n bytes -/
def Row8 (w : World) (base : Nat) (v : Value) (n : Nat) : Prop := ∃ xs, w.ownsRow base 5 1 v n xs ∧ ∀ u ∈ xs, IsU8 u
def NumR (base : Nat) (m : Nat) (w : World) (e : Ending) (w' : World) : Prop := ∃ v' k, e = .returned v' ∧ m < k ∧ k ≤ m + 9 ∧ Row8 w' base v' k ∧ Below base w w'
theorem one_more {ys : List Value} {u : Value} (h : ∀ u ∈ ys, IsU8 u) (hu : IsU8 u) : ∀ x ∈ ys ++ [u], IsU8 x := by
  intro x hx
  rcases List.mem_append.1 hx with hx | hx
  · exact h x hx
  · rw [List.mem_singleton.1 hx]; exact hu
theorem pow7 (i q n : Nat) (h : q * 128 ^ i ≤ n) (hn : n < 9223372036854775808) (hq : 128 ≤ q) : q / 128 * 128 ^ (i + 1) ≤ n ∧ i + 1 ≤ 8 := by
  have h1 : q / 128 * 128 ≤ q := Nat.div_mul_le_self q 128
  have h2 : q / 128 * 128 ^ (i + 1) ≤ q * 128 ^ i := by
    rw [Nat.pow_succ, Nat.mul_comm (128 ^ i) 128, ← Nat.mul_assoc]
    exact Nat.mul_le_mul_right _ h1
  refine ⟨Nat.le_trans h2 h, ?_⟩
  rcases Nat.lt_or_ge i 8 with h3 | h3
  · exact h3
  · have h4 : 128 ^ 8 ≤ 128 ^ i := Nat.pow_le_pow_right (by decide) h3
    have h5 : 128 * 128 ^ 8 ≤ q * 128 ^ i := Nat.mul_le_mul hq h4
    have h6 : (128 : Nat) * 128 ^ 8 = 9223372036854775808 := by decide
    omega
set_option maxRecDepth 10000 in
theorem number_any (v : Value) (m n : Nat) (base : Nat) (w : World) (hv : Row8 w base v m) (hn : n < 9223372036854775808) (hm : m ≤ 1000000) (hb : base ≤ w.heap.size) :
    Calls Try.prog 70 #[v, .int .i64 n] w (NumR base m w) := by
  obtain ⟨i0, hi, hz⟩ := Option.map_eq_some_iff.1 byte_info
  simp only [Prod.mk.injEq] at hz
  obtain ⟨hz0, hz1, hz2⟩ := hz
  obtain ⟨xs, hx, hu⟩ := hv
  have Hx := Lib.hid hx
  have Hn := Lib.hid hn
  have Hu := Lib.hid hu
  clear hx hn hu
  go_enter Try.func70, Try.ntmps70
  go_wp2
  go_loopw [0, 1] (fun s0 s1 wr' => ∃ i q : Nat, ∃ ys, s1 = .int .i64 q ∧ q * 128 ^ i ≤ n ∧ i ≤ 8 ∧ wr'.ownsRow base 5 1 s0 (m + i) ys ∧ (∀ u ∈ ys, IsU8 u) ∧ Below base w wr') (fun _ s1 _ => (intOf s1).toNat)
  case atStart => exact ⟨0, n, xs, rfl, by simp, by omega, Hx.out, Hu.out, Below.refl _ _⟩
  case round =>
    clear Hx Hu
    obtain ⟨i, q, ys, rfl, hq, hi8, hown, hu, hbw⟩ := hrel
    have hws : base ≤ wr.heap.size := Nat.le_trans hb hbw.size
    by_cases hlt : 128 ≤ q
    · have d1 : decide ((128 : Int) ≤ (q : Int)) = true := by simp; omega
      obtain ⟨hq2, hi9⟩ := pow7 i q n hq Hn.out hlt
      have Hq := Lib.hid hq
      have Hown := Lib.hid hown
      have Hbw := Lib.hid hbw
      have Hu := Lib.hid hu
      have Hq2 := Lib.hid hq2
      clear hq hown hbw hu hq2
      go_wp2_with (at_builtin; refine wpList_append_newAt rfl (.tmp 7) (.tmp 11) _ rfl base 5 i0 _ 1 1 Try.underlying22 hi hz0 hz1 hz2 rfl (by decide) _ (m + i) _ rfl Hown.out 1 1 wr.heap.size (by simp) [_] rfl rfl (by simp [Value.oneCell']) (by unfold maxLen; omega) (by omega) hws ?_; intro v1 w5 hown1 hbw1 hgr1 hwh1; have Hown1 := Lib.hid hown1; have Hbw1 := Lib.hid (Hbw.out.trans hbw1); clear hown1 hbw1 hgr1 hwh1)
      go_roundw
      case rel => exact ⟨i + 1, q / 128, _, by go_num, Hq2.out, hi9, Hown1.out, one_more Hu.out ⟨_, rfl⟩, Hbw1.out⟩
      case measure => simp [intOf]; omega
    · have d1 : decide ((128 : Int) ≤ (q : Int)) = false := by simp; omega
      have Hq := Lib.hid hq
      have Hown := Lib.hid hown
      have Hbw := Lib.hid hbw
      have Hu := Lib.hid hu
      clear hq hown hbw hu
      go_wp2_with (at_builtin; refine wpList_append_newAt rfl (.tmp 15) (.tmp 18) _ rfl base 5 i0 _ 1 1 Try.underlying22 hi hz0 hz1 hz2 rfl (by decide) _ (m + i) _ rfl Hown.out 1 1 wr.heap.size (by simp) [_] rfl rfl (by simp [Value.oneCell']) (by unfold maxLen; omega) (by omega) hws ?_; intro v1 w5 hown1 hbw1 hgr1 hwh1; have Hown1 := Lib.hid hown1; have Hbw1 := Lib.hid (Hbw.out.trans hbw1); clear hown1 hbw1 hgr1 hwh1)
      go_ret
      exact ⟨_, m + i + 1, rfl, by omega, by omega, ⟨_, Hown1.out, one_more Hu.out ⟨_, rfl⟩⟩, Hbw1.out⟩
end Go.Proofs.Ytedkcpncomgboaa.wire
