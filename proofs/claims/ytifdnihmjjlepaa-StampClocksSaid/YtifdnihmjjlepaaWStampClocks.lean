/- The walk of the law StampClocks. -/
import Derived.Test.YtifdnihmjjlepaaAwake
namespace Go.Proofs.Ytifdnihmjjlepaa.wStampClocks
open Go.RowKit Go.Proofs.Ytifdnihmjjlepaa.base Go.Proofs.Ytifdnihmjjlepaa.is_ Go.Proofs.Ytifdnihmjjlepaa.clock Go.Proofs.Ytifdnihmjjlepaa.awake

set_option maxRecDepth 100000 in
set_option maxHeartbeats 1600000 in
theorem walk (v0 : Value) (v1 : Value) (v2 : Value) (w : World) (a0 : Arg Try.prog w 3 v0) (a1 : Arg Try.prog w 3 v1) (a2 : Arg Try.prog w 37 v2) :
    Calls Try.prog 4 #[v0, v1, v2] w fun e w' => e = .returned (.bool true) ∧ Below w.heap.size w w' := by
  obtain ⟨r, rfl, _⟩ := a0.int Try.underlying3
  obtain ⟨t, rfl, _⟩ := a1.int Try.underlying3
  obtain ⟨A, len, cap, zs, rfl, hlc, hcm, hzl, hzw, hz, hnil⟩ := a2.ints Try.underlying37 Try.underlying3 (by kernel_rfl)
  clear a0 a1 a2
  unfold maxLen at hcm
  have Hzw := Lib.hid hzw
  have Hz := Lib.hid hz
  have Hzl := Lib.hid hzl
  clear hz hzl
  clear hnil hzw
  by_cases hr : 0 < r ∧ r < 17 ∧ 0 ≤ t ∧ t ≤ 1099511627776
  · have hrt := decide_eq_true hr
    obtain ⟨h1, h2, h3, h4⟩ := hr
    have Hrt := Lib.hid hrt; clear hrt
    go_enter Try.func4, Try.ntmps4
    go_wp2_with fail
    refine (awake_any _).mono ?_
    rintro e w1 ⟨rfl, hb1⟩
    have Hb1 := Lib.hid hb1
    clear hb1
    go_wp2_with fail
    refine (new_yes r t _ h1 h2 h3 h4).mono ?_
    rintro e w2 ⟨rfl, hc, hb2⟩
    have hb3 := below_step Hb1.out hb2
    have hg := Hb1.out.size
    generalize w1.heap.size = g at hc hg ⊢
    have Hc := Lib.hid hc
    have Hb3 := Lib.hid hb3
    clear hc hb3
    clear hb2
    have hrr := right_any r t w2
    rw [Hrt.out] at hrr
    go_wp2_with fail
    refine (hrr).mono ?_
    rintro e w3 ⟨rfl, rfl⟩
    clear hrr
    go_wp2
    go_loopw [9, 10, 11, 12, 13] (fun at_ i _ _ _ wr => ∃ (k : Nat) (t' : Int), k ≤ len ∧ k ≤ 300 ∧ i = .int .i64 k ∧ at_ = .int .i64 t' ∧ 0 ≤ t' ∧ t' ≤ 1099511627776 ∧ Clk wr g t' r ∧ Below w.heap.size w wr) (fun _ i _ _ _ _ => 300 - (intOf i).toNat)
    case atStart => exact ⟨0, t, by omega, by omega, rfl, rfl, h3, h4, Hc.out, Hb3.out⟩
    case round =>
      obtain ⟨k, t', hk, hk3, rfl, rfl, ht0, ht1, hc, hb⟩ := hrel
      have Hc' := Lib.hid hc
      have Hb' := Lib.hid hb
      by_cases hin : k < len ∧ k < 300
      · obtain ⟨hlt, h300⟩ := hin
        obtain ⟨b, off, rfl, hbb⟩ := Hz.out.at_some (by omega)
        have hcell := (Hz.out.below hb).int hlt
        have hwf := Hzw.out (zs.getD k 0) (by rw [List.getD_eq_getElem?_getD, List.getElem?_eq_getElem (by rw [Hzl.out]; exact hlt)]; exact List.getElem_mem _)
        generalize zs.getD k 0 = z at hcell hwf
        clear hb hwf hc
        by_cases hz : z = -1
        · subst hz
          have hz1 : ((-1 : Int) == -1) = true := rfl
          by_cases h40 : t' < 1099511627776
          · go_wp2_with fail
            refine (next_yes _ t' r _ Hc'.out ht0 h40).mono ?_
            rintro e w3 ⟨rfl, hc2, hk2⟩
            have hb2 := below_alloc (below_kept Hb'.out hk2 (fun i hi => by omega)) (.cells #[.int .i64 (t' + 1), .int .i64 r] 31)
            have hc3 : Clk (w3.alloc (.cells #[.int .i64 (t' + 1), .int .i64 r] 31)) g (t' + 1) r := Blk.alloc hc2 _
            have Hb2 := Lib.hid hb2
            have Hc3 := Lib.hid hc3
            clear hb2 hc3
            clear hc2 hk2
            go_wp2
            go_roundw
            case rel => exact ⟨k + 1, t' + 1, by omega, by omega, by go_num, rfl, by omega, by omega, Hc3.out, Hb2.out⟩
            case measure => simp [intOf]; omega
          · obtain rfl : t' = 1099511627776 := by omega
            go_wp2_with fail
            refine (next_long _ _ r _ Hc'.out (by omega)).mono ?_
            rintro e w3 ⟨v, rfl, he, hne, hb2⟩
            have hb3 := below_alloc (below_step Hb'.out hb2) (.cells #[.int .i64 0, .int .i64 0] 31)
            have hc3 : Clk (w3.alloc (.cells #[.int .i64 0, .int .i64 0] 31)) g 1099511627776 r := Blk.alloc (Blk.below Hc'.out hb2 Hc'.out.lt) _
            have he2 := he.below (below_new w3 (.cells #[.int .i64 0, .int .i64 0] 31))
            have Hb3 := Lib.hid hb3
            have Hc3 := Lib.hid hc3
            clear hb3 hc3
            clear hb2 he
            unfold zst
            go_wp2_with fail
            refine (is_err _ _ _ _ he2).mono ?_
            rintro e w4 ⟨rfl, rfl⟩
            clear he2
            go_wp2
            go_roundw
            case rel => exact ⟨k + 1, _, by omega, by omega, by go_num, rfl, by omega, by omega, Hc3.out, Hb3.out⟩
            case measure => simp [intOf]; omega
        · have hz1 : (z == -1) = false := by simpa using hz
          by_cases hok : 0 ≤ z ∧ z ≤ 1099511627776
          · obtain ⟨hz0, hz4⟩ := hok
            clear hz
            go_wp2_with fail
            refine (see_yes _ t' r z _ Hc'.out hz0 hz4).mono ?_
            rintro e w3 ⟨rfl, hc2, hk2⟩
            have hb2 := below_kept Hb'.out hk2 (fun i hi => by omega)
            have hcell2 := (hk2.cell (off + k) (Nat.lt_of_lt_of_le hbb Hb'.out.size) (by omega)).trans hcell
            have Hb2 := Lib.hid hb2
            have Hc2 := Lib.hid hc2
            clear hb2 hc2
            clear hk2 hcell
            by_cases hgt : t' < z
            · rw [show max t' z = z by omega] at Hc2
              go_wp2_with fail
              refine (time_any _ z r _ Hc2.out).mono ?_
              rintro e w4 ⟨rfl, rfl⟩
              go_wp2
              go_roundw
              case rel => exact ⟨k + 1, z, by omega, by omega, by go_num, rfl, by omega, by omega, Hc2.out, Hb2.out⟩
              case measure => simp [intOf]; omega
            · rw [show max t' z = t' by omega] at Hc2
              go_wp2_with fail
              refine (time_any _ t' r _ Hc2.out).mono ?_
              rintro e w4 ⟨rfl, rfl⟩
              go_wp2
              go_roundw
              case rel => exact ⟨k + 1, t', by omega, by omega, by go_num, rfl, by omega, by omega, Hc2.out, Hb2.out⟩
              case measure => simp [intOf]; omega
          · have hor : z < 0 ∨ (0 ≤ z ∧ 1099511627776 < z) := by omega
            have hor' : z < 0 ∨ 1099511627776 < z := by omega
            clear hok hz
            go_wp2_with fail
            refine (see_no g z _ hor').mono ?_
            rintro e w3 ⟨v, rfl, he, hne, hb2⟩
            have hcell2 := (bcell hb2).1 b (off + k) (Nat.lt_of_lt_of_le hbb Hb'.out.size)
            rw [hcell] at hcell2
            have hb3 := below_step Hb'.out hb2
            have hc3 : Clk w3 g t' r := Blk.below Hc'.out hb2 Hc'.out.lt
            have Hb3 := Lib.hid hb3
            have Hc3 := Lib.hid hc3
            clear hb3 hc3
            clear hb2 hcell hor' hne
            rcases hor with hz0 | ⟨hz0, hz4⟩
            all_goals
              go_wp2_with fail
              refine (is_err _ _ _ _ he).mono ?_
              rintro e w4 ⟨rfl, rfl⟩
              clear he
              go_wp2_with fail
              refine (time_any _ t' r _ Hc3.out).mono ?_
              rintro e w4 ⟨rfl, rfl⟩
              go_wp2
              go_roundw
              case rel => exact ⟨k + 1, t', by omega, by omega, by go_num, rfl, by omega, by omega, Hc3.out, Hb3.out⟩
              case measure => simp [intOf]; omega
      · have hor : ¬ k < len ∨ (k < len ∧ ¬ k < 300) := by omega
        clear hin hc hb
        rcases hor with hlt | ⟨hlt, h300⟩
        · go_wp2_with fail
          refine (time_any _ t' r _ Hc'.out).mono ?_
          rintro e w4 ⟨rfl, rfl⟩
          go_wp2
          go_ret
          exact ⟨rfl, Hb'.out⟩
        · have h300' : decide ((k : Int) < 300) = false := by simp; omega
          go_wp2_with fail
          refine (time_any _ t' r _ Hc'.out).mono ?_
          rintro e w4 ⟨rfl, rfl⟩
          go_wp2
          go_ret
          exact ⟨rfl, Hb'.out⟩
  · have hrt := decide_eq_false hr
    have Hr := Lib.hid hr
    have Hrt := Lib.hid hrt
    clear hrt hr
    go_enter Try.func4, Try.ntmps4
    go_wp2_with fail
    refine (awake_any _).mono ?_
    rintro e w1 ⟨rfl, hb1⟩
    have Hb1 := Lib.hid hb1
    clear hb1
    go_wp2_with fail
    refine (new_no r t _ Hr.out).mono ?_
    rintro e w2 ⟨v, rfl, he, hne, hb2⟩
    have hb3 := below_step Hb1.out hb2
    have Hb3 := Lib.hid hb3
    clear hb3
    clear hb2 hne
    have hrr := right_any r t w2
    rw [Hrt.out] at hrr
    go_wp2_with fail
    refine (hrr).mono ?_
    rintro e w3 ⟨rfl, rfl⟩
    clear hrr
    go_wp2_with fail
    refine (is_err _ _ _ _ he).mono ?_
    rintro e w4 ⟨rfl, rfl⟩
    go_wp2
    go_ret
    exact ⟨rfl, Hb3.out⟩
end Go.Proofs.Ytifdnihmjjlepaa.wStampClocks
