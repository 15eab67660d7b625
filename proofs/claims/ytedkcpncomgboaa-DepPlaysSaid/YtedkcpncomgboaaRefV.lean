/- The walks of vec.Rel and of the reference's At, Covers, Rel, Trim and SameVec: what each returns. -/
import Derived.Test.YtedkcpncomgboaaVec
import Derived.Deep.QuietTactic
import Derived.BigQuiet
namespace Go.Proofs.Ytedkcpncomgboaa.ref
open Go.RowKit Go.Proofs.Ytedkcpncomgboaa.base Go.Proofs.Ytedkcpncomgboaa.vec

theorem atV_succ (zs : List Int) (k : Nat) (h : k < zs.length) : atV zs ((k : Int) + 1) = zs.getD k 0 := by
  unfold atV
  rw [if_neg (by omega)]
  congr 1
theorem atV_out (zs : List Int) (r : Int) (h : ∀ j : Nat, j < zs.length → (j : Int) + 1 ≠ r) : atV zs r = 0 := by
  unfold atV
  by_cases h1 : r < 1 ∨ (zs.length : Int) < r
  · rw [if_pos h1]
  · exact absurd (by omega) (h (r.toNat - 1) (by omega))
set_option maxHeartbeats 400000 in
theorem at_ref (A : Option Addr) (len cap : Nat) (zs : List Int) (r : Int) (w : World) (B : Nat) (h : Vec w B A len cap zs) :
    Calls Try.prog 8 #[.slice A len cap, .int .i64 r] w fun e w' => e = .returned (.int .i64 (atV zs r)) ∧ w = w' := by
  have hl := h.1
  have hlc := h.2.1
  have hc := h.2.2.1
  unfold maxLen at hc
  have Hl := Lib.hid hl; clear hl
  have H := Lib.hid h; clear h
  go_enter Try.func8, Try.ntmps8
  go_wp2
  go_loop [5] (fun i => ∃ n : Nat, n ≤ len ∧ i = .int .i64 n ∧ ∀ j : Nat, j < n → (j : Int) + 1 ≠ r) (fun i => len - (intOf i).toNat)
  case atStart => exact ⟨0, by omega, rfl, fun j hj => by omega⟩
  case round =>
    obtain ⟨n, hn, rfl, hall⟩ := hrel
    have Hall := Lib.hid hall; clear hall
    by_cases hlt : n < len
    · obtain ⟨b, off, rfl, hb⟩ := H.out.at_some (by omega)
      have hcell := H.out.cell hlt
      by_cases hr : (n : Int) + 1 = r
      · subst hr
        have hv := atV_succ zs n (by rw [Hl.out]; exact hlt)
        have Hv := Lib.hid hv; clear hv
        have he : ((n : Int) + 1 == (n : Int) + 1) = true := by simp
        go_wp2
        go_ret
        exact ⟨ret_int (by rw [Hv.out]; simp [List.getD_eq_getElem?_getD]), rfl⟩
      · have he : ((n : Int) + 1 == r) = false := by simpa using hr
        have Hr := Lib.hid hr; clear hr
        go_wp2
        go_round
        case rel => exact ⟨n + 1, by omega, by go_num, fun j hj => by
          rcases Nat.lt_or_eq_of_le (Nat.le_of_lt_succ hj) with h | h
          · exact Hall.out j h
          · subst h; exact Hr.out⟩
        case measure => simp [intOf]; omega
    · have hv : atV zs r = 0 := atV_out zs r (fun j hj => Hall.out j (by rw [Hl.out] at hj; omega))
      have Hv := Lib.hid hv; clear hv
      go_wp2
      go_ret
      exact ⟨ret_int Hv.out.symm, rfl⟩
set_option maxHeartbeats 800000 in
theorem covers_ref (A : Option Addr) (len cap : Nat) (xs : List Int) (A' : Option Addr) (len' cap' : Nat) (ys : List Int) (w : World) (B : Nat) (h : Vec w B A len cap xs) (h' : Vec w B A' len' cap' ys) (hs : len ≤ 1000000) (hs' : len' ≤ 1000000) :
    Calls Try.prog 18 #[.slice A len cap, .slice A' len' cap'] w fun e w' => e = .returned (.bool (coversB xs ys)) ∧ w = w' := by
  have hco : coversB xs ys = (List.range (max len len')).all fun r => !decide (atV xs (r + 1) < atV ys (r + 1)) := by unfold coversB; rw [h.1, h'.1]
  generalize coversB xs ys = cv at hco
  have hM : len ≤ max len len' ∧ len' ≤ max len len' ∧ (max len len' ≤ len ∨ max len len' ≤ len') := ⟨Nat.le_max_left _ _, Nat.le_max_right _ _, by rw [Nat.max_def]; split <;> omega⟩
  generalize max len len' = M at hco hM
  obtain ⟨hM1, hM2, hM3⟩ := hM
  have Hco := Lib.hid hco; clear hco
  have H := Lib.hid h; clear h
  have H' := Lib.hid h'; clear h'
  go_enter Try.func18, Try.ntmps18
  go_wp2
  go_loop [5] (fun i => ∃ n : Nat, n ≤ M ∧ i = .int .i64 ((n : Int) + 1) ∧ (List.range n).all (fun r => !decide (atV xs (r + 1) < atV ys (r + 1))) = true) (fun i => M + 1 - (intOf i).toNat)
  case atStart => exact ⟨0, by omega, rfl, rfl⟩
  case round =>
    obtain ⟨n, hn, rfl, hall⟩ := hrel
    by_cases hlt : n < M
    · have hss := all_range_succ (fun r => !decide (atV xs (r + 1) < atV ys (r + 1))) n
      rw [hall, Bool.true_and] at hss
      obtain ⟨d1, hd1⟩ : ∃ d, decide ((n : Int) + 1 ≤ len) = d := ⟨_, rfl⟩
      have hd2 : d1 = false → decide ((n : Int) + 1 ≤ len') = true := by
        intro e; subst e
        have := of_decide_eq_false hd1
        simp; omega
      by_cases hab : atV xs (n + 1) < atV ys (n + 1)
      · have hcf : cv = false := by rw [Hco.out]; exact all_range_false _ n _ hlt (by simp [hab])
        have Hcf := Lib.hid hcf; clear hcf hss hall
        have hd : decide (atV xs (n + 1) < atV ys (n + 1)) = true := by simpa using hab
        clear hab
        cases d1
        · have hd2 := hd2 rfl
          go_wp2_with fail
          refine (at_ref A len cap xs ((n : Int) + 1) _ B H.out).mono ?_
          rintro e w1 ⟨rfl, rfl⟩
          go_wp2_with fail
          refine (at_ref A' len' cap' ys ((n : Int) + 1) _ B H'.out).mono ?_
          rintro e w1 ⟨rfl, rfl⟩
          go_wp2
          go_ret
          exact ⟨ret_bool Hcf.out.symm, rfl⟩
        · clear hd2
          go_wp2_with fail
          refine (at_ref A len cap xs ((n : Int) + 1) _ B H.out).mono ?_
          rintro e w1 ⟨rfl, rfl⟩
          go_wp2_with fail
          refine (at_ref A' len' cap' ys ((n : Int) + 1) _ B H'.out).mono ?_
          rintro e w1 ⟨rfl, rfl⟩
          go_wp2
          go_ret
          exact ⟨ret_bool Hcf.out.symm, rfl⟩
      · have Hs := Lib.hid hss; clear hss hall
        have hd : decide (atV xs (n + 1) < atV ys (n + 1)) = false := by simpa using hab
        have Hd := Lib.hid hd
        clear hab
        cases d1
        · have hd2 := hd2 rfl
          go_wp2_with fail
          refine (at_ref A len cap xs ((n : Int) + 1) _ B H.out).mono ?_
          rintro e w1 ⟨rfl, rfl⟩
          go_wp2_with fail
          refine (at_ref A' len' cap' ys ((n : Int) + 1) _ B H'.out).mono ?_
          rintro e w1 ⟨rfl, rfl⟩
          go_wp2
          go_round
          case rel => exact ⟨n + 1, by omega, val_int (by omega), by rw [Hs.out, Hd.out]; rfl⟩
          case measure => simp [intOf]; omega
        · clear hd2
          go_wp2_with fail
          refine (at_ref A len cap xs ((n : Int) + 1) _ B H.out).mono ?_
          rintro e w1 ⟨rfl, rfl⟩
          go_wp2_with fail
          refine (at_ref A' len' cap' ys ((n : Int) + 1) _ B H'.out).mono ?_
          rintro e w1 ⟨rfl, rfl⟩
          go_wp2
          go_round
          case rel => exact ⟨n + 1, by omega, val_int (by omega), by rw [Hs.out, Hd.out]; rfl⟩
          case measure => simp [intOf]; omega
    · have hct : cv = true := by rw [Hco.out, show M = n by omega]; exact hall
      have Hct := Lib.hid hct; clear hct hall
      have hd1 : decide ((n : Int) + 1 ≤ len) = false := by simp; omega
      have hd2 : decide ((n : Int) + 1 ≤ len') = false := by simp; omega
      go_wp2
      go_ret
      exact ⟨ret_bool Hct.out.symm, rfl⟩
end Go.Proofs.Ytedkcpncomgboaa.ref
