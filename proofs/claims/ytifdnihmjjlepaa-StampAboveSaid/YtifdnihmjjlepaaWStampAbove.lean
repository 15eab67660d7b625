/- The walk of the law StampAbove. -/
import Derived.Test.YtifdnihmjjlepaaAwake
import Derived.Test.YtifdnihmjjlepaaStamps
import Derived.Test.YtifdnihmjjlepaaCmp
namespace Go.Proofs.Ytifdnihmjjlepaa.wStampAbove
open Go.RowKit Go.Proofs.Ytifdnihmjjlepaa.base Go.Proofs.Ytifdnihmjjlepaa.is_ Go.Proofs.Ytifdnihmjjlepaa.clock Go.Proofs.Ytifdnihmjjlepaa.awake Go.Proofs.Ytifdnihmjjlepaa.stamps Go.Proofs.Ytifdnihmjjlepaa.cmp

theorem cmpT_lt (t1 r1 t2 r2 : Int) (h : t1 < t2) : decide (cmpT t1 r1 t2 r2 < 0) = true := by
  unfold cmpT or2 cmpI
  rw [if_pos h]; simp
set_option maxRecDepth 100000 in
set_option maxHeartbeats 1600000 in
theorem walk (v0 : Value) (v1 : Value) (w : World) (a0 : Arg Try.prog w 3 v0) (a1 : Arg Try.prog w 22 v1) :
    Calls Try.prog 3 #[v0, v1] w fun e w' => e = .returned (.bool true) ∧ Below w.heap.size w w' := by
  obtain ⟨r, rfl, _⟩ := a0.int Try.underlying3
  obtain ⟨A, len, cap, l, rfl, hz, _⟩ := sts_arg a1
  clear a0 a1
  have hlc := hz.2.1
  have hcm := hz.2.2.1
  unfold maxLen at hcm
  obtain ⟨i0, hi, hz0, hz1, hz2⟩ := info_parts st_info
  have Hz := Lib.hid hz
  clear hz
  by_cases hr : 0 < r ∧ r < 17
  · obtain ⟨h1, h2⟩ := hr
    go_enter Try.func3, Try.ntmps3
    go_wp2_with fail
    refine (awake_any _).mono ?_
    rintro e w1 ⟨rfl, hb1⟩
    have Hb1 := Lib.hid hb1
    clear hb1
    go_wp2_with fail
    refine (new_yes r 0 _ h1 h2 (by omega) (by omega)).mono ?_
    rintro e w2 ⟨rfl, hc, hb2⟩
    have hb3 := below_step Hb1.out hb2
    have hg := Hb1.out.size
    have hgl := hc.lt
    generalize w1.heap.size = g at hc hg ⊢ hgl
    have hg2 : g + 1 ≤ w2.heap.size := hgl
    have Hc := Lib.hid hc
    have Hb3 := Lib.hid hb3
    clear hc hb3
    clear hb2
    go_wp2
    go_loopw [7, 8, 9, 10, 12] (fun all i _ _ _ wr => ∃ (k n : Nat) (t' : Int) (xs : List St), k ≤ len ∧ k ≤ 100 ∧ i = .int .i64 k ∧ n ≤ 2 * k ∧ wr.ownsRow (g + 1) 31 2 all n (xs.flatMap st) ∧ (∀ x ∈ xs, x.t ≤ t') ∧ 0 ≤ t' ∧ t' ≤ 1099511627776 ∧ Clk wr g t' r ∧ Below w.heap.size w wr) (fun _ i _ _ _ _ => 100 - (intOf i).toNat)
    case atStart => exact ⟨0, 0, 0, [], by omega, by omega, rfl, by omega, World.ownsRow_nil _ _ _ _, by simp, by omega, by omega, Hc.out, Hb3.out⟩
    case round =>
      obtain ⟨k, n, t', xs, hk, hk3, rfl, hn, hown, hall, ht0, ht1, hc, hb⟩ := hrel
      have Hc' := Lib.hid hc
      have Hb' := Lib.hid hb
      have Hall := Lib.hid hall
      have Hown := Lib.hid hown
      clear hown
      clear hc hall
      by_cases hin : k < len ∧ k < 100
      · obtain ⟨hlt, h300⟩ := hin
        obtain ⟨b, off, rfl, hbb⟩ := Hz.out.at_some (by omega)
        obtain ⟨s, hs⟩ := Hz.out.get hlt
        obtain ⟨hcell0, hcell1⟩ := (Hz.out.below hb).cell hlt hs
        obtain ⟨st_, sr⟩ := s
        dsimp only at hcell0 hcell1
        clear hb hs
        have hways : (0 ≤ st_ ∧ st_ ≤ 1099511627776 ∧ sr < 17) ∨ (0 ≤ st_ ∧ st_ ≤ 1099511627776 ∧ ¬ sr < 17) ∨ (st_ < 0 ∨ 1099511627776 < st_) := by omega
        have hbb2 := Nat.lt_of_lt_of_le hbb Hb'.out.size
        have hsz3 := Hc'.out.lt
        rcases hways with ⟨hs0, hs4, hrr⟩ | ⟨hs0, hs4, hrr⟩ | hbad
        case' inl =>
          go_wp2_with fail
          refine (see_yes _ t' r st_ _ Hc'.out hs0 hs4).mono ?_
          rintro e w3 ⟨rfl, hc2, hk2⟩
          have hb2 := below_kept Hb'.out hk2 (fun i hi => by omega)
          have hcell2 := (hk2.cell (off + k * 2) hbb2 (by omega)).trans hcell0
          have hcell3 := (hk2.cell (off + k * 2 + 1) hbb2 (by omega)).trans hcell1
          have hown2 := own_keeps Hown.out hk2 (fun i hi => by omega)
          have hsz2 := hk2.size
          have hsz4 : g + 1 ≤ w3.heap.size := by omega
          have hall3 : ∀ x ∈ xs ++ [(⟨st_, sr⟩ : St)], x.t ≤ max t' st_ := fun x hx => by
            rcases List.mem_append.1 hx with hx | hx
            · have := Hall.out x hx; omega
            · simp at hx; subst hx; simp; omega
          have ht2 : 0 ≤ max t' st_ := by omega
          have ht3 : max t' st_ ≤ 1099511627776 := by omega
          generalize max t' st_ = t2 at *
          have Hb2 := Lib.hid hb2
          have Hc2 := Lib.hid hc2
          have Hown2 := Lib.hid hown2
          have Hall3 := Lib.hid hall3
          clear hb2 hc2 hown2 hall3
          clear hk2 hcell0 hcell1 hsz2 hsz3 hs0 hs4 Hall ht0 ht1
          go_wp2_with (at_builtin; refine wpList_append_new rfl (.tmp 50) (.tmp 55) _ rfl (g + 1) 31 i0 _ 2 16 Try.underlying22 hi hz0 hz1 hz2 rfl (by decide) _ _ _ rfl Hown2.out 1 1 [.int .i64 st_, .int .i64 sr] rfl rfl (by simp [Value.oneCell']) (by unfold maxLen; omega) (by omega) hsz4 ?_; intro va w4 hown4 hbw4 _ _; have Hown4 := Lib.hid hown4; have Hbw4 := Lib.hid hbw4; clear hown4 hbw4)
          have HO : Hid (w4.ownsRow (g + 1) 31 2 va (n + 1) ((xs ++ [(⟨st_, sr⟩ : St)]).flatMap st)) := Lib.hid (by have := Hown4.out; simpa [st] using this)
          have HC : Hid (Clk w4 g t2 r) := Lib.hid (Blk.below Hc2.out Hbw4.out (by omega))
          have HB : Hid (Below w.heap.size w w4) := Lib.hid (Hb2.out.trans (Hbw4.out.mono (by omega)))
          have HA := Hall3
          have hna : n + 1 ≤ 2 * k + 1 := by omega
          generalize n + 1 = na at HO hna
          generalize xs ++ [(⟨st_, sr⟩ : St)] = ys at HO HA
          clear Hown2 Hown4 Hbw4 Hb2 Hc2 Hall3 Hown
        case' inr.inl =>
          go_wp2_with fail
          refine (see_yes _ t' r st_ _ Hc'.out hs0 hs4).mono ?_
          rintro e w4 ⟨rfl, hc2, hk2⟩
          have hb2 := below_kept Hb'.out hk2 (fun i hi => by omega)
          have hcell2 := (hk2.cell (off + k * 2) hbb2 (by omega)).trans hcell0
          have hcell3 := (hk2.cell (off + k * 2 + 1) hbb2 (by omega)).trans hcell1
          have HO := Lib.hid (own_keeps Hown.out hk2 (fun i hi => by omega))
          have HA : Hid (∀ x ∈ xs, x.t ≤ max t' st_) := Lib.hid (fun x hx => by have := Hall.out x hx; omega)
          have ht2 : 0 ≤ max t' st_ := by omega
          have ht3 : max t' st_ ≤ 1099511627776 := by omega
          have HC := Lib.hid hc2
          have HB := Lib.hid hb2
          have hna : n ≤ 2 * k + 1 := by omega
          clear Hown Hall
          generalize max t' st_ = t2 at *
          clear hk2 hcell0 hcell1 hsz3 hs0 hs4 ht0 ht1 hb2 hc2
          obtain ⟨ys, rfl⟩ : ∃ ys, ys = xs := ⟨_, rfl⟩
          obtain ⟨na, rfl⟩ : ∃ na, na = n := ⟨_, rfl⟩
          obtain ⟨va, rfl⟩ : ∃ va, va = u7 := ⟨_, rfl⟩
          go_wp2_with fail
        case' inr.inr =>
          go_wp2_with fail
          refine (see_no g st_ _ hbad).mono ?_
          rintro e w4 ⟨v, rfl, he, hne, hb2⟩
          have HB := Lib.hid (below_step Hb'.out hb2)
          have HC : Hid (Clk w4 g t' r) := Lib.hid (Blk.below Hc'.out hb2 hsz3)
          have HO := Lib.hid (own_below Hown.out hb2)
          have HA := Hall
          have hna : n ≤ 2 * k + 1 := by omega
          have ht2 := ht0
          have ht3 := ht1
          clear hb2 Hown Hall ht0 ht1
          obtain ⟨t2, rfl⟩ : ∃ t2, t2 = t' := ⟨_, rfl⟩
          obtain ⟨ys, rfl⟩ : ∃ ys, ys = xs := ⟨_, rfl⟩
          obtain ⟨na, rfl⟩ : ∃ na, na = n := ⟨_, rfl⟩
          obtain ⟨va, rfl⟩ : ∃ va, va = u7 := ⟨_, rfl⟩
          obtain ⟨f, rfl, _, _⟩ := he
          go_wp2_with fail
        all_goals
          have hg4 := HC.out.lt
          clear Hb' Hc'
          by_cases h40 : t2 < 1099511627776
          · go_wp2_with fail
            refine (next_yes _ t2 r _ HC.out ht2 h40).mono ?_
            rintro e w5 ⟨rfl, hc5, hk5⟩
            have hb5 := below_alloc (below_kept HB.out hk5 (fun i hi => by omega)) (.cells #[.int .i64 (t2 + 1), .int .i64 r] 31)
            have hO5 := (own_keeps HO.out hk5 (fun i hi => by omega)).alloc (.cells #[.int .i64 (t2 + 1), .int .i64 r] 31)
            have hC5 : Clk (w5.alloc (.cells #[.int .i64 (t2 + 1), .int .i64 r] 31)) g (t2 + 1) r := Blk.alloc hc5 _
            have hN5 := Blk.new w5 31 #[.int .i64 (t2 + 1), .int .i64 r]
            have hz5 := hk5.size
            have hz6 : g + 1 ≤ w5.heap.size := by omega
            have hS := (Sts.of_own hO5)
            obtain ⟨vA, vc, rfl, hS⟩ := hS
            have hzW : w5.heap.size + 1 ≤ (w5.alloc (.cells #[.int .i64 (t2 + 1), .int .i64 r] 31)).heap.size := by simp
            go_wp2_with fail
            generalize w5.alloc (.cells #[.int .i64 (t2 + 1), .int .i64 r] 31) = W at *
            have hvc := hS.2.1
            have hvm := hS.2.2.1
            unfold maxLen at hvm
            generalize w5.heap.size = sg at *
            have HO5 := Lib.hid hO5
            have HC5 := Lib.hid hC5
            have HN5 := Lib.hid hN5
            have HS := Lib.hid hS
            have Hb5 := Lib.hid hb5
            clear hO5 hC5 hN5 hS hb5
            clear hz5 hk5 hc5 HO HC HB
            go_loopw [12, 69] (fun _ j wr => ∃ m : Nat, m ≤ na ∧ j = .int .i64 m ∧ Below W.heap.size W wr) (fun _ j _ => na - (intOf j).toNat)
            case atStart => exact ⟨0, by omega, rfl, Below.refl _ _⟩
            case round =>
              obtain ⟨m, hm, rfl, hbq⟩ := hrel
              by_cases hmn : m < na
              · obtain ⟨vb, vo, rfl, hvb⟩ := HS.out.at_some (by omega)
                obtain ⟨x, hx⟩ := HS.out.get hmn
                obtain ⟨hx0, hx1⟩ := (HS.out.below hbq).cell hmn hx
                have hxt := HA.out x (List.mem_of_getElem? hx)
                obtain ⟨xt, xr⟩ := x
                dsimp only at hx0 hx1 hxt
                have hs0 := (hbq.cell (p := ⟨sg, 0, none⟩) HN5.out.lt).trans (HN5.out.cell 0)
                have hs1 := (hbq.cell (p := ⟨sg, 1, none⟩) HN5.out.lt).trans (HN5.out.cell 1)
                have hsl := Nat.lt_of_lt_of_le HN5.out.lt hbq.size
                simp at hs0 hs1
                have Hbq := Lib.hid hbq
                clear hbq
                clear hx
                have hls := less_stamp xt xr (t2 + 1) r (wr.alloc (.cells #[.int .i64 xt, .int .i64 xr] 31))
                rw [cmpT_lt _ _ _ _ (by omega)] at hls
                go_wp2_with fail
                refine (hls).mono ?_
                rintro e w6 ⟨rfl, hb6⟩
                have hb7 := below_step Hbq.out (below_step (below_new wr _) hb6)
                have Hb7 := Lib.hid hb7
                clear hb7
                clear hb6 hls
                go_wp2
                go_roundw
                case rel => exact ⟨m + 1, by omega, by go_num, Hb7.out⟩
                case measure => simp [intOf]; omega
              · obtain rfl : m = na := by omega
                have hs0 := (hbq.cell (p := ⟨sg, 0, none⟩) HN5.out.lt).trans (HN5.out.cell 0)
                have hs1 := (hbq.cell (p := ⟨sg, 1, none⟩) HN5.out.lt).trans (HN5.out.cell 1)
                have hO6 := own_below HO5.out hbq
                have hq6 : g + 1 ≤ wr.heap.size := by have := hbq.size; omega
                have hB6 := below_step Hb5.out hbq
                have hC6 : Clk wr g (t2 + 1) r := Blk.below HC5.out hbq HC5.out.lt
                simp at hs0 hs1
                have HO6 := Lib.hid hO6
                have HB6 := Lib.hid hB6
                have HC6 := Lib.hid hC6
                clear hO6 hB6 hC6
                clear hbq hmn hm
                go_wp2_with (at_builtin; refine wpList_append_new rfl (.tmp 78) (.tmp 80) _ rfl (g + 1) 31 i0 _ 2 16 Try.underlying22 hi hz0 hz1 hz2 rfl (by decide) _ _ _ rfl HO6.out 1 1 [.int .i64 (t2 + 1), .int .i64 r] rfl rfl (by simp [Value.oneCell']) (by unfold maxLen; omega) (by omega) hq6 ?_; intro vx w7 hown7 hbw7 _ _; have Hown7 := Lib.hid hown7; have Hbw7 := Lib.hid hbw7; clear hown7 hbw7)
                go_roundw
                case rel => exact ⟨k + 1, m + 1, t2 + 1, ys ++ [⟨t2 + 1, r⟩], by omega, by omega, by go_num, by omega, (by have := Hown7.out; simpa [st] using this), (fun x hx => by
                    rcases List.mem_append.1 hx with hx | hx
                    · have := HA.out x hx; omega
                    · simp at hx; subst hx; simp), by omega, by omega, Blk.below HC6.out Hbw7.out (by omega), HB6.out.trans (Hbw7.out.mono (by omega))⟩
                case measure => simp [intOf]; omega
          · obtain rfl : t2 = 1099511627776 := by omega
            go_wp2_with fail
            refine (next_long _ _ r _ HC.out (by omega)).mono ?_
            rintro e w5 ⟨v, rfl, he, hne, hb2⟩
            have hb3 := below_alloc (below_step HB.out hb2) (.cells #[.int .i64 0, .int .i64 0] 31)
            have hc3 : Clk (w5.alloc (.cells #[.int .i64 0, .int .i64 0] 31)) g 1099511627776 r := Blk.alloc (Blk.below HC.out hb2 HC.out.lt) _
            obtain ⟨f2, rfl, _, _⟩ := he
            have Hb3 := Lib.hid hb3
            have Hc3 := Lib.hid hc3
            clear hb3 hc3
            clear hb2 hne
            unfold zst
            go_wp2_with fail
            refine (time_any _ _ r _ Hc3.out).mono ?_
            rintro e w6 ⟨rfl, rfl⟩
            go_wp2
            go_ret
            exact ⟨rfl, Hb3.out⟩
      · have hor : ¬ k < len ∨ (k < len ∧ ¬ k < 100) := by omega
        clear hin
        have hall : ∀ x ∈ xs, x.t ≤ t' := Hall.out
        clear hall hb
        rcases hor with hlt | ⟨hlt, h300⟩
        · go_wp2
          go_ret
          exact ⟨rfl, Hb'.out⟩
        · have h300' : decide ((k : Int) < 100) = false := by simp; omega
          go_wp2
          go_ret
          exact ⟨rfl, Hb'.out⟩
  · have Hr := Lib.hid hr; clear hr
    go_enter Try.func3, Try.ntmps3
    go_wp2_with fail
    refine (awake_any _).mono ?_
    rintro e w1 ⟨rfl, hb1⟩
    have Hb1 := Lib.hid hb1
    clear hb1
    go_wp2_with fail
    refine (new_no r 0 _ (by have := Hr.out; omega)).mono ?_
    rintro e w2 ⟨v, rfl, he, hne, hb2⟩
    have hb3 := below_step Hb1.out hb2
    obtain ⟨f, rfl, _, _⟩ := he
    have Hb3 := Lib.hid hb3
    clear hb3
    clear hb2 hne
    go_wp2
    go_ret
    exact ⟨rfl, Hb3.out⟩
end Go.Proofs.Ytifdnihmjjlepaa.wStampAbove
