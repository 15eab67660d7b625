/- The walk of the law EpochLearns. -/
import Derived.Test.YtojmnkcncjconaaAll
import Derived.Test.YtojmnkcncjconaaLearns
namespace Go.Proofs.Ytojmnkcncjconaa.wEpochLearns
open Go.RowKit Go.Proofs.Ytojmnkcncjconaa.base Go.Proofs.Ytojmnkcncjconaa.list Go.Proofs.Ytojmnkcncjconaa.err Go.Proofs.Ytojmnkcncjconaa.tab Go.Proofs.Ytojmnkcncjconaa.new Go.Proofs.Ytojmnkcncjconaa.awake Go.Proofs.Ytojmnkcncjconaa.ops Go.Proofs.Ytojmnkcncjconaa.law Go.Proofs.Ytojmnkcncjconaa.all_ Go.Proofs.Ytojmnkcncjconaa.keys Go.Proofs.Ytojmnkcncjconaa.reft Go.Proofs.Ytojmnkcncjconaa.learns

set_option maxRecDepth 100000 in
set_option maxHeartbeats 3200000 in
theorem walk (v0 : Value) (v1 : Value) (w : World) (a0 : Arg Try.prog w 25 v0) (a1 : Arg Try.prog w 25 v1) :
    Calls Try.prog 4 #[v0, v1] w fun e w' => e = .returned (.bool true) ∧ Below w.heap.size w w' := by
  obtain ⟨A, len, cap, l, rfl, ha⟩ := ops_arg a0
  obtain ⟨A', len', cap', l', rfl, ha'⟩ := ops_arg a1
  clear a0 a1
  have hlc := ha.2.1
  have hcm := ha.2.2.1
  have hlc' := ha'.2.1
  have hcm' := ha'.2.2.1
  unfold maxLen at hcm hcm'
  have Ha := Lib.hid ha
  have Ha' := Lib.hid ha'
  clear ha ha'
  have hcase : 30 < len ∨ (len ≤ 30 ∧ 30 < len') ∨ (len ≤ 30 ∧ len' ≤ 30) := by omega
  rcases hcase with h1 | ⟨h1, h2⟩ | ⟨h1, h2⟩
  · have hd : decide (30 < (len : Int)) = true := by simp; omega
    go_enter Try.func4, Try.ntmps4
    go_wp2_with fail
    refine (awake_any _).mono ?_
    rintro e w1 ⟨rfl, hb1⟩
    have Hb1 := Lib.hid hb1
    clear hb1
    go_wp2
    go_ret
    exact ⟨rfl, Hb1.out⟩
  · have hd : decide (30 < (len : Int)) = false := by simp; omega
    have hd2 : decide (30 < (len' : Int)) = true := by simp; omega
    go_enter Try.func4, Try.ntmps4
    go_wp2_with fail
    refine (awake_any _).mono ?_
    rintro e w1 ⟨rfl, hb1⟩
    have Hb1 := Lib.hid hb1
    clear hb1
    go_wp2
    go_ret
    exact ⟨rfl, Hb1.out⟩
  · have hd : decide (30 < (len : Int)) = false := by simp; omega
    have hd2 : decide (30 < (len' : Int)) = false := by simp; omega
    have hnil : ∀ w, Eps w w.heap.size none 0 0 [] := fun w => ⟨rfl, Nat.le_refl _, Nat.zero_le _, Reads.none_⟩
    have Hnil := Lib.hid hnil
    clear hnil
    go_enter Try.func4, Try.ntmps4
    go_wp2_with fail
    refine (awake_any _).mono ?_
    rintro e w1 ⟨rfl, hb1⟩
    have Hb1 := Lib.hid hb1
    clear hb1
    go_wp2_with fail
    refine (new_any none 0 0 [] _ (Hnil.out _) (by omega) (by simp)).mono ?_
    rintro e w2 (⟨_, g, b, rfl, hg, hb, hT, hb2⟩ | ⟨hn, _⟩)
    case inr => exact absurd good_nil hn
    have hg' : w.heap.size ≤ g := Nat.le_trans Hb1.out.size hg
    have hb' : w.heap.size ≤ b := Nat.le_trans Hb1.out.size hb
    have hb3 := below_step Hb1.out hb2
    have Hb3 := Lib.hid hb3
    have HT := Lib.hid hT
    clear hb3 hT
    clear hb2 hg hb
    go_wp2_with fail
    refine (new_any none 0 0 [] _ (Hnil.out _) (by omega) (by simp)).mono ?_
    rintro e w3 (⟨_, g2, b2, rfl, hg2, hb2, hT2, hb4⟩ | ⟨hn, _⟩)
    case inr => exact absurd good_nil hn
    have hTa := HT.out.below hb4
    have hlt1 := HT.out.1.lt
    have hlt2 := HT.out.2.lt
    have hsz := Hb3.out.size
    have hb5 := below_step Hb3.out hb4
    have HTa := Lib.hid hTa
    have HT2 := Lib.hid hT2
    have Hb5 := Lib.hid hb5
    clear hTa hT2 hb5
    clear hb4
    go_wp2
    go_loopw [10, 41] (fun _ i wr => ∃ (k : Nat) (L : List Ep), k ≤ len ∧ i = .int .i64 k ∧ GoodL L ∧ L.length ≤ k ∧ Tab wr g b L ∧ Tab wr g2 b2 [] ∧ Below w.heap.size w wr) (fun _ i _ => len - (intOf i).toNat)
    case atStart => exact ⟨0, [], by omega, rfl, good_nil, by simp, HTa.out, HT2.out, Hb5.out⟩
    case round =>
      obtain ⟨k, L, hk, rfl, hG, hLl, hT, hTb, hbw⟩ := hrel
      by_cases hlt : k < len
      · obtain ⟨ob, off, rfl, hob⟩ := Ha.out.at_some (by omega)
        obtain ⟨o, ho⟩ := Ha.out.get hlt
        obtain ⟨c0, c1, c2⟩ := (Ha.out.below hbw).cell hlt ho
        have Hou := Lib.hid (Ha.out.2.2.2.2 o (List.mem_of_getElem? ho)).2
        obtain ⟨ok, ou, on⟩ := o
        dsimp only at c0 c1 c2
        have HG := Lib.hid hG
        have hT2 := hT.below (below_new wr (.cells #[.int .i64 ok, .string ou, .int .i64 on] 32))
        have hTb2 := hTb.below (below_new wr (.cells #[.int .i64 ok, .string ou, .int .i64 on] 32))
        have hbw2 := below_alloc hbw (.cells #[.int .i64 ok, .string ou, .int .i64 on] 32)
        have hgw := hTb2.1.lt
        have hgb := hTb2.2.lt
        have hll := learn_len (L := L) ou on
        have HT2 := Lib.hid hT2
        have HTb2 := Lib.hid hTb2
        have Hbw2 := Lib.hid hbw2
        clear hT2 hTb2 hbw2
        clear hT hTb hbw ho hG
        go_wp2_with fail
        refine (learn_all g b L ou on _ HT2.out HG.out Hou.out).mono ?_
        rintro e w3 ⟨_, v, rfl, _, _, hT3, hk3⟩
        have hbw3 := below_kept Hbw2.out hk3 (fun i hi => by have := Hbw2.out.size; omega)
        have hTb3 := HTb2.out.keeps hk3 (fun h => by rcases h with h | h <;> omega) (fun h => by rcases h with h | h <;> omega)
        have HT3 := Lib.hid hT3
        have HTb3 := Lib.hid hTb3
        have Hbw3 := Lib.hid hbw3
        clear hT3 hTb3 hbw3
        clear hk3
        go_wp2
        go_roundw
        case rel => exact ⟨k + 1, _, by omega, by go_num, learn_good HG.out _ _, by omega, HT3.out, HTb3.out, Hbw3.out⟩
        case measure => simp [intOf]; omega
      · have HGT := Lib.hid hG
        have HT2 := Lib.hid hT
        have HTb2 := Lib.hid hTb
        have Hbw := Lib.hid hbw
        have hT30 : L.length ≤ 30 := by omega
        obtain ⟨T, rfl⟩ : ∃ T, T = L := ⟨_, rfl⟩
        have hga := hT.1.lt
        have hgb := hT.2.lt
        clear hT hTb hbw hG hLl
        obtain ⟨w5, rfl⟩ : ∃ w5 : World, w5 = wr := ⟨_, rfl⟩
        go_wp2
        go_loopw [12, 54] (fun _ i wr => ∃ (k : Nat) (L : List Ep), k ≤ len' ∧ i = .int .i64 k ∧ GoodL L ∧ L.length ≤ k ∧ Tab wr g b T ∧ Tab wr g2 b2 L ∧ Below w.heap.size w wr) (fun _ i _ => len' - (intOf i).toNat)
        case atStart => exact ⟨0, [], by omega, rfl, good_nil, by simp, HT2.out, HTb2.out, Hbw.out⟩
        case round =>
          clear HT2 HTb2 Hbw
          obtain ⟨k, L, hk, rfl, hG, hLl, hT, hTb, hbw⟩ := hrel
          by_cases hlt : k < len'
          · obtain ⟨ob, off, rfl, hob⟩ := Ha'.out.at_some (by omega)
            obtain ⟨o, ho⟩ := Ha'.out.get hlt
            obtain ⟨c0, c1, c2⟩ := (Ha'.out.below hbw).cell hlt ho
            have Hou := Lib.hid (Ha'.out.2.2.2.2 o (List.mem_of_getElem? ho)).2
            obtain ⟨ok, ou, on⟩ := o
            dsimp only at c0 c1 c2
            have HG := Lib.hid hG
            have hT2 := hT.below (below_new wr (.cells #[.int .i64 ok, .string ou, .int .i64 on] 32))
            have hTb2 := hTb.below (below_new wr (.cells #[.int .i64 ok, .string ou, .int .i64 on] 32))
            have hbw2 := below_alloc hbw (.cells #[.int .i64 ok, .string ou, .int .i64 on] 32)
            have hll := learn_len (L := L) ou on
            have hxa := hT2.1.lt
            have hxb := hT2.2.lt
            have HT2 := Lib.hid hT2
            have HTb2 := Lib.hid hTb2
            have Hbw2 := Lib.hid hbw2
            clear hT2 hTb2 hbw2
            clear hT hTb hbw ho hG
            go_wp2_with fail
            refine (learn_all g2 b2 L ou on _ HTb2.out HG.out Hou.out).mono ?_
            rintro e w3 ⟨_, v, rfl, _, _, hTb3, hk3⟩
            have hbw3 := below_kept Hbw2.out hk3 (fun i hi => by have := Hbw2.out.size; omega)
            have hT3 := HT2.out.keeps hk3 (fun h => by rcases h with h | h <;> omega) (fun h => by rcases h with h | h <;> omega)
            have HT3 := Lib.hid hT3
            have HTb3 := Lib.hid hTb3
            have Hbw3 := Lib.hid hbw3
            clear hT3 hTb3 hbw3
            clear hk3
            go_wp2
            go_roundw
            case rel => exact ⟨k + 1, _, by omega, by go_num, learn_good HG.out _ _, by omega, HT3.out, HTb3.out, Hbw3.out⟩
            case measure => simp [intOf]; omega
          · have HGU := Lib.hid hG
            have HT2 := Lib.hid hT
            have HTb2 := Lib.hid hTb
            have Hbw := Lib.hid hbw
            have hU30 : L.length ≤ 30 := by omega
            obtain ⟨U, rfl⟩ : ∃ U, U = L := ⟨_, rfl⟩
            clear hT hTb hbw hG hLl
            go_wp2_with fail
            refine (list_any g b T _ HT2.out (by omega) (user_small HGT.out)).mono ?_
            rintro e w6 ⟨lA, lc, rfl, hown, hb6⟩
            have hT6 := HT2.out.below hb6
            have hTb6 := HTb2.out.below hb6
            have hbw6 := below_step Hbw.out hb6
            obtain ⟨_, _, e', hE6⟩ := Eps.of_own hown
            injection e' with e1 _ e2
            subst e1 e2
            have hlb : g < wr.heap.size ∧ b < wr.heap.size ∧ g2 < wr.heap.size ∧ b2 < wr.heap.size := ⟨HT2.out.1.lt, HT2.out.2.lt, HTb2.out.1.lt, HTb2.out.2.lt⟩
            obtain ⟨x1, x2, x3, x4⟩ := hlb
            have hs6 := hb6.size
            obtain ⟨w7, rfl⟩ : ∃ w7 : World, w7 = wr := ⟨_, rfl⟩
            have htn : T.length ≤ lc ∧ lc ≤ 9223372036854775807 := by have h1 := hE6.2.1; have h2 := hE6.2.2.1; unfold maxLen at h2; omega
            obtain ⟨htn1, htn2⟩ := htn
            generalize hTn : T.length = n at *
            have HT6 := Lib.hid hT6
            have HTb6 := Lib.hid hTb6
            have Hbw6 := Lib.hid hbw6
            have Hown := Lib.hid hown
            have HTn := Lib.hid hTn
            clear hT6 hTb6 hbw6 hown hTn
            clear hb6 HT2 HTb2 Hbw hE6
            go_wp2
            go_loopw [14, 15, 16, 68] (fun _ _ _ i wr => ∃ k : Nat, k ≤ n ∧ i = .int .i64 k ∧ Tab wr g2 b2 (learnAll U (T.take k)) ∧ Keeps (fun i => w6.heap.size ≤ i ∨ i = b2) w6 wr) (fun _ _ _ i _ => n - (intOf i).toNat)
            case atStart => exact ⟨0, by omega, rfl, HTb6.out, .refl _ _⟩
            case round =>
              obtain ⟨k, hk, rfl, hTU, hkp⟩ := hrel
              have hG6 := all_good HGU.out (T.take k)
              have hbw7 := below_kept Hbw6.out hkp (fun i hi => by have := Hbw6.out.size; omega)
              by_cases hlt : k < n
              · have hE := eps_own (own_keep Hown.out hkp (fun i h1 h2 => by omega))
                obtain ⟨lb, lo, rfl, hlb⟩ := hE.at_some (by omega)
                obtain ⟨x, hx⟩ := hE.get hlt
                obtain ⟨hx0, hx1⟩ := hE.cell hlt hx
                have hcan := first_can HGT.out HGU.out (by rw [HTn.out]; exact hT30) hU30 hx
                have hsucc := all_succ (L := U) hx
                have hxu := user_small HGT.out x (List.mem_of_getElem? hx)
                obtain ⟨xu, xn⟩ := x
                dsimp only at hx0 hx1 hcan hsucc hxu
                have Hxu : Hid (xu.size ≤ maxLen) := Lib.hid (by unfold maxLen; omega)
                have hT2 := hTU.below (below_new wr (.cells #[.string xu, .int .i64 xn] 38))
                have hk2 := hkp.trans (Keeps.alloc (X := fun i => w6.heap.size ≤ i ∨ i = b2) (.cells #[.string xu, .int .i64 xn] 38))
                have hsk := hkp.size
                have HT2 := Lib.hid hT2
                have Hk2 := Lib.hid hk2
                have Hcan := Lib.hid hcan
                have Hsucc := Lib.hid hsucc
                have HG6 := Lib.hid hG6
                have Hbw7 := Lib.hid hbw7
                clear hT2 hk2 hcan hsucc hG6 hbw7
                clear hE hTU hkp hx hxu
                go_wp2_with fail
                refine (learn_all g2 b2 (learnAll U (T.take k)) xu xn _ HT2.out HG6.out Hxu.out).mono ?_
                rintro e w8 ⟨_, v, rfl, hev, _, hT3, hk3⟩
                rw [Hcan.out] at hev
                obtain rfl := eo_none hev
                rw [← Hsucc.out] at hT3
                have hk4 := Hk2.out.trans (hk3.more (fun i hi h => by rcases h with h | h; exact .inl (by simp at h; omega); exact .inr h))
                have HT3 := Lib.hid hT3
                have Hk4 := Lib.hid hk4
                clear hT3 hk4
                clear hk3 hev
                go_wp2
                go_roundw
                case rel => exact ⟨k + 1, by omega, by go_num, HT3.out, Hk4.out⟩
                case measure => simp [intOf]; omega
              · have htk : T.take k = T := List.take_of_length_le (by rw [HTn.out]; omega)
                rw [htk] at hTU hG6
                have hTt := HT6.out.keeps hkp (fun h => by rcases h with h | h <;> omega) (fun h => by rcases h with h | h <;> omega)
                have hVl := first_len HGT.out HGU.out (by rw [HTn.out]; exact hT30) hU30 n
                rw [show T.take n = T from List.take_of_length_le (by rw [HTn.out]; exact Nat.le_refl _)] at hVl
                have hbs := Hbw6.out.size
                obtain ⟨w8, rfl⟩ : ∃ w8 : World, w8 = wr := ⟨_, rfl⟩
                have HTt := Lib.hid hTt
                have HTU := Lib.hid hTU
                have HG6 := Lib.hid hG6
                have Hbw7 := Lib.hid hbw7
                clear hTt hTU hG6 hbw7
                clear hkp htk
                go_wp2_with fail
                refine (list_any g2 b2 (learnAll U T) _ HTU.out (by omega) (user_small HG6.out)).mono ?_
                rintro e w9 ⟨mA, mc, rfl, hownV, hb9⟩
                have hTt9 := HTt.out.below hb9
                have hTU9 := HTU.out.below hb9
                have hbw9 := below_step Hbw7.out hb9
                have hE9 := eps_own hownV
                have y1 := HTt.out.1.lt
                have y2 := HTt.out.2.lt
                have y3 := HTU.out.1.lt
                have y4 := HTU.out.2.lt
                have hs9 := hb9.size
                have hVn : (learnAll U T).length ≤ mc ∧ mc ≤ 9223372036854775807 := by have h1 := hE9.2.1; have h2 := hE9.2.2.1; unfold maxLen at h2; omega
                obtain ⟨hVn1, hVn2⟩ := hVn
                generalize hVm : (learnAll U T).length = m at *
                have HTt9 := Lib.hid hTt9
                have HTU9 := Lib.hid hTU9
                have Hbw9 := Lib.hid hbw9
                have HownV := Lib.hid hownV
                have HVm := Lib.hid hVm
                clear hTt9 hTU9 hbw9 hownV hVm
                clear hb9 HTt HTU hE9
                go_wp2
                go_loopw [18, 19, 20, 87] (fun _ _ _ i wr => ∃ k : Nat, k ≤ m ∧ i = .int .i64 k ∧ Tab wr g b (learnAll T ((learnAll U T).take k)) ∧ Keeps (fun i => w9.heap.size ≤ i ∨ i = b) w9 wr) (fun _ _ _ i _ => m - (intOf i).toNat)
                case atStart => exact ⟨0, by omega, rfl, HTt9.out, .refl _ _⟩
                case round =>
                  obtain ⟨k, hk, rfl, hTV, hkp⟩ := hrel
                  have hG9 := all_good HGT.out ((learnAll U T).take k)
                  have hbw10 := below_kept Hbw9.out hkp (fun i hi => by omega)
                  by_cases hlt : k < m
                  · have hE := eps_own (own_keep HownV.out hkp (fun i h1 h2 => by omega))
                    obtain ⟨lb, lo, rfl, hlb⟩ := hE.at_some (by omega)
                    obtain ⟨x, hx⟩ := hE.get hlt
                    obtain ⟨hx0, hx1⟩ := hE.cell hlt hx
                    have hcan := second_can HGT.out HGU.out (by rw [HTn.out]; exact hT30) hU30 hx
                    have hhas := second_has HGT.out HGU.out (by rw [HTn.out]; exact hT30) hU30 hx
                    have hsucc := all_succ (L := T) hx
                    have hxu := user_small HG6.out x (List.mem_of_getElem? hx)
                    obtain ⟨xu, xn⟩ := x
                    dsimp only at hx0 hx1 hcan hsucc hxu hhas
                    have Hxu : Hid (xu.size ≤ maxLen) := Lib.hid (by unfold maxLen; omega)
                    have hT2 := hTV.below (below_new wr (.cells #[.string xu, .int .i64 xn] 38))
                    have hk2 := hkp.trans (Keeps.alloc (X := fun i => w9.heap.size ≤ i ∨ i = b) (.cells #[.string xu, .int .i64 xn] 38))
                    have hO := Blk.new wr 38 #[.string xu, .int .i64 xn]
                    have hsk := hkp.size
                    have HT2 := Lib.hid hT2
                    have Hk2 := Lib.hid hk2
                    have Hcan := Lib.hid hcan
                    have Hsucc := Lib.hid hsucc
                    have HG9 := Lib.hid hG9
                    have Hbw10 := Lib.hid hbw10
                    have Hhas := Lib.hid hhas
                    have HO := Lib.hid hO
                    clear hT2 hk2 hcan hsucc hG9 hbw10 hhas hO
                    clear hE hTV hkp hx hxu
                    go_wp2_with fail
                    refine (learn_all g b (learnAll T ((learnAll U T).take k)) xu xn _ HT2.out HG9.out Hxu.out).mono ?_
                    rintro e w11 ⟨_, v, rfl, hev, _, hT3, hk3⟩
                    rw [Hcan.out] at hev
                    obtain rfl := eo_none hev
                    have hO2 := HO.out.keeps hk3 (fun h => by simp at h; omega)
                    have q0 : w11.cell? ⟨wr.heap.size, 0, none⟩ = _ := hO2.cell 0
                    have q1 : w11.cell? ⟨wr.heap.size, 1, none⟩ = _ := hO2.cell 1
                    have q2 := hO2.lt
                    simp at q0 q1
                    rw [← Hsucc.out] at hT3
                    have hhas2 := Hhas.out
                    rw [← Hsucc.out] at hhas2
                    have hga := tab.get_any g b _ xu w11.drew (hT3.keeps (X := nobody) .drew (fun h => h) (fun h => h)) Hxu.out
                    rw [hhas2] at hga
                    have hk4 := Hk2.out.trans (hk3.more (fun i hi h => by rcases h with h | h; exact .inl (by simp at h; omega); exact .inr h))
                    have hT4 : Tab w11.drew g b _ := hT3.keeps (X := nobody) .drew (fun h => h) (fun h => h)
                    have hk5 := hk4.trans (Keeps.drew (X := fun i => w9.heap.size ≤ i ∨ i = b))
                    have HT4 := Lib.hid hT4
                    have Hk5 := Lib.hid hk5
                    have Hga := Lib.hid hga
                    clear hT4 hk5 hga
                    clear hk3 hev hO2 hT3 hk4 hhas2
                    go_wp2_with fail
                    refine wp_region_mono nobody (by kernel_rfl) ?_
                    -- 0 Op.move (Operand.tmp 20)
                    refine wpMono_take' 0 (v := ?_) rfl (by kernel_rfl) (by kernel_rfl) (by kernel_rfl) (fun _ _ _ h => h) (by rfl) ?_ ?_
                    rotate_left
                    · (intro W hSw; have hcW := hSw.cells; try simp only [World.size_drew, World.cell?_drew] at hcW
                       go_simp; first | done | rfl)
                    try simp only [Act.put, List.setIfInBounds_toArray, List.set_cons_zero, List.set_cons_succ]
                    -- 1 Op.binOp BinOp.neq 28 (Operand.tmp 100) (Operand.const Value.nilIface) 28
                    refine wpMono_take' 1 (v := ?_) rfl (by kernel_rfl) (by kernel_rfl) (by kernel_rfl) (fun _ _ _ h => h) (by rfl) ?_ ?_
                    rotate_left
                    · (intro W hSw; have hcW := hSw.cells; try simp only [World.size_drew, World.cell?_drew] at hcW
                       go_simp; first | done | rfl)
                    try simp only [Act.put, List.setIfInBounds_toArray, List.set_cons_zero, List.set_cons_succ]
                    -- 2 Op.move (Operand.tmp 101)
                    refine wpMono_take' 2 (v := ?_) rfl (by kernel_rfl) (by kernel_rfl) (by kernel_rfl) (fun _ _ _ h => h) (by rfl) ?_ ?_
                    rotate_left
                    · (intro W hSw; have hcW := hSw.cells; try simp only [World.size_drew, World.cell?_drew] at hcW
                       go_simp; first | done | rfl)
                    try simp only [Act.put, List.setIfInBounds_toArray, List.set_cons_zero, List.set_cons_succ]
                    -- 3 Op.move (Operand.tmp 5)
                    refine wpMono_take' 3 (v := ?_) rfl (by kernel_rfl) (by kernel_rfl) (by kernel_rfl) (fun _ _ _ h => h) (by rfl) ?_ ?_
                    rotate_left
                    · (intro W hSw; have hcW := hSw.cells; try simp only [World.size_drew, World.cell?_drew] at hcW
                       go_simp; first | done | rfl)
                    try simp only [Act.put, List.setIfInBounds_toArray, List.set_cons_zero, List.set_cons_succ]
                    -- 4 Op.fieldAddr 38 (Operand.tmp 18) 0
                    refine wpMono_take' 4 (v := ?_) rfl (by kernel_rfl) (by kernel_rfl) (by kernel_rfl) (fun _ _ _ h => h) (by rfl) ?_ ?_
                    rotate_left
                    · (intro W hSw; have hcW := hSw.cells; try simp only [World.size_drew, World.cell?_drew] at hcW
                       go_simp; first | done | rfl)
                    try simp only [Act.put, List.setIfInBounds_toArray, List.set_cons_zero, List.set_cons_succ]
                    -- 5 Op.load 9 (Operand.tmp 104)
                    refine wpMono_take' 5 (v := ?_) rfl (by kernel_rfl) (by kernel_rfl) (by kernel_rfl) (fun _ _ _ h => h) (by rfl) ?_ ?_
                    rotate_left
                    · (intro W hSw; have hcW := hSw.cells; try simp only [World.size_drew, World.cell?_drew] at hcW
                       go_simp; first | done | rfl)
                    try simp only [Act.put, List.setIfInBounds_toArray, List.set_cons_zero, List.set_cons_succ]
                    -- 7 Op.fieldAddr 38 (Operand.tmp 18) 1
                    refine wpMono_take' 7 (v := ?_) rfl (by kernel_rfl) (by kernel_rfl) (by kernel_rfl) (fun _ _ _ h => h) (by rfl) ?_ ?_
                    rotate_left
                    · (intro W hSw; have hcW := hSw.cells; try simp only [World.size_drew, World.cell?_drew] at hcW
                       go_simp; first | done | rfl)
                    try simp only [Act.put, List.setIfInBounds_toArray, List.set_cons_zero, List.set_cons_succ]
                    -- 8 Op.load 3 (Operand.tmp 107)
                    refine wpMono_take' 8 (v := ?_) rfl (by kernel_rfl) (by kernel_rfl) (by kernel_rfl) (fun _ _ _ h => h) (by rfl) ?_ ?_
                    rotate_left
                    · (intro W hSw; have hcW := hSw.cells; try simp only [World.size_drew, World.cell?_drew] at hcW
                       go_simp; first | done | rfl)
                    try simp only [Act.put, List.setIfInBounds_toArray, List.set_cons_zero, List.set_cons_succ]
                    -- EFFECT 6 Op.call { callee := Callee.value (Operand.func 14), args := #[Operand.tmp 103, Operand.tmp 105], argTypes := #[26, 9] }
                    refine wpMono_one' 6 (by kernel_rfl) rfl (by rfl) (fun K hK => ?_)
                    go_simp
                    refine Hga.out.mono ?_
                    rintro e w12 ⟨rfl, rfl⟩
                    refine hK.out _ _ ?_ ?_
                    · exact .refl _ _
                    clear hK K
                    try simp only [Act.put, List.setIfInBounds_toArray, List.set_cons_zero, List.set_cons_succ]
                    -- 9 Op.binOp BinOp.neq 3 (Operand.tmp 106) (Operand.tmp 108) 3
                    refine wpMono_take' 9 (v := ?_) rfl (by kernel_rfl) (by kernel_rfl) (by kernel_rfl) (fun _ _ _ h => h) (by rfl) ?_ ?_
                    rotate_left
                    · (intro W hSw; have hcW := hSw.cells; try simp only [World.size_drew, World.cell?_drew] at hcW
                       go_simp; first | done | rfl)
                    try simp only [Act.put, List.setIfInBounds_toArray, List.set_cons_zero, List.set_cons_succ]
                    -- 10 Op.pick (Operand.tmp 102) (Operand.const (Value.bool true)) (Operand.tmp 109)
                    refine wpMono_take' 10 (v := ?_) rfl (by kernel_rfl) (by kernel_rfl) (by kernel_rfl) (fun _ _ _ h => h) (by rfl) ?_ ?_
                    rotate_left
                    · (intro W hSw; have hcW := hSw.cells; try simp only [World.size_drew, World.cell?_drew] at hcW
                       go_simp; first | done | rfl)
                    try simp only [Act.put, List.setIfInBounds_toArray, List.set_cons_zero, List.set_cons_succ]
                    refine wpMono_done (by kernel_rfl) ?_ _
                    go_wp2
                    go_roundw
                    case rel => exact ⟨k + 1, by omega, by go_num, HT4.out, Hk5.out⟩
                    case measure => simp [intOf]; omega
                  · have htk : (learnAll U T).take k = learnAll U T := List.take_of_length_le (by rw [HVm.out]; omega)
                    rw [htk, both_same HGT.out HGU.out (by rw [HTn.out]; exact hT30) hU30] at hTV
                    have hTU10 := HTU9.out.keeps hkp (fun h => by rcases h with h | h <;> omega) (fun h => by rcases h with h | h <;> omega)
                    have HTV := Lib.hid hTV
                    have HTU10 := Lib.hid hTU10
                    have Hbw10 := Lib.hid hbw10
                    clear hTV hTU10 hbw10
                    clear hkp htk
                    generalize learnAll U T = V at *
                    go_wp2_with fail
                    refine (list_any g b V _ HTV.out (by rw [HVm.out]; omega) (user_small HG6.out)).mono ?_
                    rintro e w11 ⟨xA, xc, rfl, hown, hb11⟩
                    have hE5 := eps_own hown
                    have hTb3 := HTU10.out.below hb11
                    have hbw11 := below_step Hbw10.out hb11
                    have HE5 := Lib.hid hE5
                    have HTb3 := Lib.hid hTb3
                    have Hbw11 := Lib.hid hbw11
                    clear hE5 hTb3 hbw11
                    clear hown hb11
                    go_wp2_with fail
                    refine (list_any g2 b2 V _ HTb3.out (by rw [HVm.out]; omega) (user_small HG6.out)).mono ?_
                    rintro e w12 ⟨yA, yc, rfl, hown, hb12⟩
                    have hE6 := eps_own hown
                    have hE5' := (HE5.out.below hb12).more hb12.size
                    have hbw12 := below_step Hbw11.out hb12
                    have HE6 := Lib.hid hE6
                    have HE5' := Lib.hid hE5'
                    have Hbw12 := Lib.hid hbw12
                    clear hE6 hE5' hbw12
                    clear hown hb12
                    go_wp2_with fail
                    refine (same_any _ _ _ _ _ _ _ HE5'.out HE6.out).mono ?_
                    rintro e w13 ⟨rfl, hb13⟩
                    have hbw13 := below_step Hbw12.out hb13
                    have Hbw13 := Lib.hid hbw13
                    clear hbw13
                    clear hb13
                    go_wp2
                    go_ret
                    exact ⟨rfl, Hbw13.out⟩
end Go.Proofs.Ytojmnkcncjconaa.wEpochLearns
