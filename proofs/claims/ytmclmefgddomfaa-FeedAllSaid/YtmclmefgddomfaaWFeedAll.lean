/- The walk of the law FeedAll: it returns true; nothing that was there is written. -/
import Derived.Test.YtmclmefgddomfaaPlainF
import Derived.Laws.Cover1
namespace Go.Proofs.Ytmclmefgddomfaa.wFeedAll
open Go.RowKit Go.Proofs.Ytmclmefgddomfaa.base Go.Proofs.Ytmclmefgddomfaa.rowe Go.Proofs.Ytmclmefgddomfaa.err Go.Proofs.Ytmclmefgddomfaa.wire Go.Proofs.Ytmclmefgddomfaa.feed

/-- two bytes -/
structure Pr where
  a : Nat
  b : Nat
  ha : a < 256
  hb : b < 256
def Pr.cells (x : Pr) : List Value := [.int .u8 x.a, .int .u8 x.b]
theorem Pr.len (x : Pr) : x.cells.length = 2 := rfl
theorem pr_cells : Try.prog.cellsOf 37 = 2 := by kernel_rfl
theorem u8_cells : Try.prog.cellsOf 5 = 1 := by kernel_rfl
theorem u8_nat {n : Int} (h : (Lit.int IntKind.u8 n).wf = true) : ∃ k : Nat, n = k ∧ k < 256 := by
  have h : (decide ((0 : Int) ≤ n) && decide (n ≤ 255)) = true := h
  simp only [Bool.and_eq_true, decide_eq_true_eq] at h
  exact ⟨n.toNat, by omega, by omega⟩
set_option maxRecDepth 100000 in
theorem pr_sees {w : World} (cs : List Value) (hl : cs.length = Try.prog.cellsOf 37) (h : Sees Try.prog w 37 cs) : ∃ x : Pr, cs = x.cells := by
  rw [pr_cells] at hl
  obtain ⟨_, hg⟩ := h.array Try.underlying37
  match cs, hl with
  | [x0, x1], _ =>
    have h0 := hg 0 (by decide)
    have h1 := hg 1 (by decide)
    simp [u8_cells] at h0 h1
    obtain ⟨n0, e0, w0⟩ := h0.int Try.underlying5
    obtain ⟨n1, e1, w1⟩ := h1.int Try.underlying5
    obtain ⟨k0, rfl, b0⟩ := u8_nat w0
    obtain ⟨k1, rfl, b1⟩ := u8_nat w1
    simp at e0 e1
    subst e0 e1
    exact ⟨⟨k0, k1, b0, b1⟩, rfl⟩
set_option maxRecDepth 100000 in
set_option maxHeartbeats 4000000 in
theorem walk (v0 : Value) (v1 : Value) (v2 : Value) (w : World) (a0 : Arg Try.prog w 5 v0) (a1 : Arg Try.prog w 22 v1) (a2 : Arg Try.prog w 5 v2) :
    Calls Try.prog 3 #[v0, v1, v2] w fun e w' => e = .returned (.bool true) ∧ Below w.heap.size w w' := by
  obtain ⟨n, rfl, hn⟩ := a0.int Try.underlying5
  obtain ⟨nb, rfl, hnb⟩ := u8_nat hn
  obtain ⟨n2, rfl, hn2⟩ := a2.int Try.underlying5
  obtain ⟨tb, rfl, htb⟩ := u8_nat hn2
  obtain ⟨A, len, cap, l, rfl, h1, h2, h3, h4, _, _⟩ := a1.things Pr.cells Try.underlying22 (by rw [pr_cells]; omega) pr_sees
  rw [pr_cells] at h4
  clear a0 a1 a2 hn hn2
  have Hr := Lib.hid h4
  have Hl := Lib.hid h3
  clear h3 h4
  unfold maxLen at h2
  obtain ⟨last, hlast⟩ : ∃ last : Nat, nb % 60 = last := ⟨_, rfl⟩
  have hl60 : last < 60 := by omega
  have hl2 : (nb : Int) % 60 = (last : Int) := by omega
  clear hlast
  go_enter Try.func3, Try.ntmps3
  go_wp2_with fail
  refine (awake_any _).mono ?_
  rintro e w1 ⟨rfl, hb1⟩
  have HB1 := Lib.hid hb1
  clear hb1
  go_wp2_with fail
  refine (new_any 1 4 0 _ [] _ (RW.zero _ _ _)).mono ?_
  rintro e w2 hN
  obtain ⟨L2, hL2, g, S, rfl, hS, hSw, hb2⟩ : ∃ L2, newL 1 4 0 [] = some L2 ∧ NewYes 1 4 0 L2 w1 e w2 := by
    rcases hN with h | ⟨h, _⟩
    · exact h
    · rw [show newL 1 4 0 [] = some [] from by kernel_rfl] at h; cases h
  rw [show newL 1 4 0 [] = some [] from by kernel_rfl] at hL2
  injection hL2 with hL2
  subst hL2
  have hS : FeedS w2 S g 1 4 0 (wsL 1 0 0) [0, 0, 0, 0] := hS
  have hSw : ∀ i, S i → w.heap.size ≤ i := fun i hi => Nat.le_trans HB1.out.size (hSw i hi)
  have HS := Lib.hid hS
  have HSw := Lib.hid hSw
  have HB := Lib.hid (below_step HB1.out hb2)
  clear hS hSw hb2 HB1 hN
  by_cases hbig : 100 < len
  · have d1 : decide ((100 : Int) < (len : Int)) = true := by simp; omega
    go_wp2_with fail
    go_ret
    exact ⟨rfl, HB.out⟩
  · have d1 : decide ((100 : Int) < (len : Int)) = false := by simp; omega
    have hl100 : len ≤ 100 := by omega
    go_wp2_with fail
    rw [hl2]
    clear hl2
    go_loopw [10] (fun i wr' => ∃ k : Nat, k ≤ last ∧ i = .int .i64 ((k : Nat) + 1 : Int) ∧ ∃ S, FeedS wr' S g 1 4 0 (wsL 1 0 k) [0, 0, 0, 0] ∧ (∀ i, S i → w.heap.size ≤ i) ∧ Below w.heap.size w wr') (fun i _ => last + 1 - (intOf i).toNat)
    case atStart => exact ⟨0, by omega, rfl, S, HS.out, HSw.out, HB.out⟩
    case round =>
      clear HS HSw HB
      obtain ⟨k, hk, rfl, S, hS, hSw, hB⟩ := hrel
      have hsz := hB.size
      by_cases hlt : k < last
      · have d2 : decide (((k : Nat) : Int) + 1 ≤ (last : Int)) = true := by simp; omega
        have HS := Lib.hid hS
        have HSw := Lib.hid hSw
        have HB := Lib.hid hB
        clear hS hSw hB
        go_wp2_with fail
        refine (write_any 1 ((k : Nat) + 1 : Int) _).mono ?_
        rintro e w3 ⟨rfl, hb3⟩
        have HS3 := Lib.hid (HS.out.below hb3)
        have HB3 := Lib.hid (HB.out.trans (hb3.mono hsz))
        clear hb3
        go_wp2_with fail
        refine (add_any (wrL 1 ((k : Nat) + 1 : Int)) HS3.out (wrL_nums _ _ _ _) (by simp [wrL]) (by rw [wsL_len]; omega)).mono ?_
        rintro e w4 ⟨v4, S4, rfl, heo, _, hS4, hk4, hs4⟩
        have e4 : wrL 1 ((k : Nat) + 1 : Int) = wrL ((1 : Nat) : Int) ((0 + k + 1 : Nat) : Int) := by congr 1; omega
        rw [e4, add_more (by decide) (by decide) (by omega)] at hS4
        rw [e4, add_ok (by decide) (by decide) (by omega)] at heo
        obtain rfl : v4 = .nilIface := by
          rcases heo with ⟨_, h⟩ | ⟨h, _⟩
          · exact h
          · exact absurd rfl h
        have HS4 := Lib.hid hS4
        have hSw4 : ∀ i, S4 i → w.heap.size ≤ i := fun i hi => (hs4 i hi).elim (HSw.out i) (fun h => by have := HB3.out.size; omega)
        have HB4 := Lib.hid (HB3.out.trans (hk4.below (B := w.heap.size) (fun i hi e => by have := HSw.out i e; omega) HB3.out.size))
        clear hS4 hk4 hs4 heo e4
        go_wp2_with fail
        go_roundw
        case rel => exact ⟨k + 1, by omega, by go_num, S4, HS4.out, hSw4, HB4.out⟩
        case measure => simp [intOf]; omega
      · obtain rfl : last = k := by omega
        have d2 : decide (((last : Nat) : Int) + 1 ≤ (last : Int)) = false := by simp; omega
        have HS := Lib.hid hS
        have HSw := Lib.hid hSw
        have HB := Lib.hid hB
        clear hS hSw hB
        obtain ⟨wo, rfl⟩ : ∃ wo : World, wo = wr := ⟨_, rfl⟩
        go_wp2_with fail
        go_loopw [11, 12, 48] (fun _ _ i wr' => ∃ k : Nat, k ≤ len ∧ i = .int .i64 k ∧ ∃ S bs m K, FeedS wr' S g 1 4 bs (wsL 1 bs m) K ∧ GoodF 1 4 last bs m K ∧ (∀ i, S i → w.heap.size ≤ i) ∧ Below w.heap.size w wr') (fun _ _ i _ => len - (intOf i).toNat)
        case atStart => exact ⟨0, by omega, rfl, S, 0, last, [0, 0, 0, 0], HS.out, ⟨by omega, rfl, fun q hq _ => by
          have : q = 0 ∨ q = 1 ∨ q = 2 ∨ q = 3 := by omega
          rcases this with rfl | rfl | rfl | rfl <;> simp⟩, HSw.out, HB.out⟩
        case round =>
          clear HS HSw HB
          obtain ⟨k, hk, rfl, S, bs, m, K, hS, hG, hSw, hB⟩ := hrel
          have hsz := hB.size
          by_cases hlt : k < len
          · obtain ⟨b, off, rfl, hbb⟩ := Hr.out.at_some (by omega)
            have hxl : k < l.length := by rw [Hl.out]; exact hlt
            have c0 := Reads.thing Pr.cells Pr.len (Hr.out.below hB) (k := k) (x := l[k]) hlt (List.getElem?_eq_getElem hxl) 0 (by decide)
            have c1 := Reads.thing Pr.cells Pr.len (Hr.out.below hB) (k := k) (x := l[k]) hlt (List.getElem?_eq_getElem hxl) 1 (by decide)
            generalize l[k] = x at *
            obtain ⟨xa, xb, hxa, hxb⟩ := x
            simp [Pr.cells] at c0 c1
            have hsum := hG.sum
            have HS := Lib.hid hS
            have HSw := Lib.hid hSw
            have HB := Lib.hid hB
            have HG := Lib.hid hG
            clear hS hSw hB hG
            go_wp2_with fail
            refine (ack_any _ _ (HS.out.below (below_new wr (.cells #[.int .u8 xa, .int .u8 xb] 37)))).mono ?_
            rintro e w3 ⟨rfl, hS3, hk3⟩
            have HG3 := Lib.hid (HG.out.ack ((xa : Int) % 6) ((xb : Int) % 64))
            generalize ackK 1 4 bs (wsL 1 bs m) K ((xa : Int) % 6) ((xb : Int) % 64) = K3 at *
            have HS3 := Lib.hid hS3
            have HB3 := Lib.hid ((HB.out.alloc hsz (.cells #[.int .u8 xa, .int .u8 xb] 37)).trans (hk3.below (B := w.heap.size) (fun i hi e => by have := HSw.out i e; omega) (by simp; omega)))
            clear hS3 hk3 HS HB HG
            cases dt : ((k : Int) % (1 + (tb : Int) % 5) == 0) with
            | true =>
              obtain ⟨n, hn, hnm, _, hG4⟩ := HG3.out.trim (by decide)
              go_wp2_with fail
              refine (trim_feed HS3.out).mono ?_
              rintro e w4 ⟨rfl, hk4, S4, hS4, hs4⟩
              rw [hn] at hS4 ⊢
              rw [Int.toNat_natCast, wsL_drop] at hS4
              have hSw4 : ∀ i, S4 i → w.heap.size ≤ i := fun i hi => (hs4 i hi).elim (HSw.out i) (fun h => by have := HB3.out.size; omega)
              have HB4 := Lib.hid (HB3.out.trans (hk4.below (B := w.heap.size) (fun i hi e => by have := HSw.out i e; omega) HB3.out.size))
              have HS4 := Lib.hid hS4
              have HSw4 := Lib.hid hSw4
              have HG4 := Lib.hid hG4
              clear hS4 hk4 hs4 hSw4 hG4 HS3 HB3 HG3 HSw hn
              go_wp2_with fail
              go_roundw
              case rel => exact ⟨k + 1, by omega, by go_num, S4, bs + n, m - n, K3, HS4.out, HG4.out, HSw4.out, HB4.out⟩
              case measure => simp [intOf]; omega
            | false =>
              go_wp2_with fail
              go_roundw
              case rel => exact ⟨k + 1, by omega, by go_num, S, bs, m, K3, HS3.out, HG3.out, HSw.out, HB3.out⟩
              case measure => simp [intOf]; omega
          · obtain rfl : len = k := by omega
            have d9 : decide ((len : Int) < (len : Int)) = false := by simp
            have hsum := hG.sum
            have HS := Lib.hid hS
            have HG := Lib.hid hG
            have HB := Lib.hid hB
            clear hS hG hSw hB
            obtain ⟨wt, rfl⟩ : ∃ wt : World, wt = wr := ⟨_, rfl⟩
            go_wp2_with fail
            go_loopw [13, 14, 15, 17, 96] (fun p _ _ _ _ wr' => ∃ q : Nat, 2 ≤ q ∧ q ≤ 5 ∧ p = .int .i64 q ∧ FeedS wr' S g 1 4 bs (wsL 1 bs m) K ∧ Below w.heap.size w wr') (fun p _ _ _ _ _ => 5 - (intOf p).toNat)
            case atStart => exact ⟨2, by omega, by omega, rfl, HS.out, HB.out⟩
            case round =>
              clear HS HB
              obtain ⟨q, hq2, hq5, rfl, hS, hB⟩ := hrel
              have hsz := hB.size
              by_cases hq : q ≤ 4
              · have d3 : decide ((q : Int) ≤ 4) = true := by simp; omega
                have hkn : knownI 1 4 K (q : Int) = K.getD (q - 1) 0 := known_eq (by unfold isB; simp; omega)
                have hkb := HG.out.kb (q - 1) (by omega) (by omega)
                obtain ⟨hv, hhv⟩ : ∃ hv : Nat, K.getD (q - 1) 0 = (hv : Int) := ⟨(K.getD (q - 1) 0).toNat, by omega⟩
                rw [hhv] at hkn hkb
                have HK := Lib.hid hkn
                have HS := Lib.hid hS
                have HB := Lib.hid hB
                clear hkn hhv hS hB
                go_wp2_with fail
                refine (known_any (q : Int) HS.out).mono ?_
                rintro e w4 ⟨rfl, rfl⟩
                rw [HK.out]
                go_wp2_with fail
                go_loopw [14, 15, 17, 96] (fun hh _ _ _ wr' => ∃ h : Nat, hh = .int .i64 h ∧ bs ≤ h ∧ h ≤ last ∧ FeedS wr' S g 1 4 bs (wsL 1 bs m) K ∧ Below w.heap.size w wr') (fun hh _ _ _ _ => last - (intOf hh).toNat)
                case atStart => exact ⟨hv, rfl, by omega, by omega, HS.out, HB.out⟩
                case round =>
                  clear HS HB HK
                  obtain ⟨h, rfl, hb, hl, hS, hB⟩ := hrel
                  have hsz := hB.size
                  by_cases hlt : h < last
                  · have d4 : decide ((h : Int) < (last : Int)) = true := by simp; omega
                    obtain ⟨c, hc⟩ : ∃ c, min 8 (bs + m - h) = c := ⟨_, rfl⟩
                    have hbt := batch_wsL (rg := 1) (m := m) hb (by omega)
                    rw [hc] at hbt
                    have hc1 : 1 ≤ c := by omega
                    have hc8 : c ≤ 8 := by omega
                    have hcl : h + c ≤ last := by omega
                    have Hbt := Lib.hid hbt
                    have HS := Lib.hid hS
                    have HB := Lib.hid hB
                    clear hc hbt hS hB
                    go_wp2_with fail
                    refine (batch_any (h : Int) HS.out).mono ?_
                    rintro e w6 ⟨⟨v, L6, rfl, hL6, hO6⟩, hb6⟩
                    rw [Hbt.out] at hL6
                    have hlen : L6.length = c := by have := congrArg List.length hL6; rw [List.length_map, wsL_len] at this; exact this
                    obtain ⟨A6, c6, rfl⟩ := ownsRow_slice hO6.row
                    have HS6 := Lib.hid (HS.out.below hb6)
                    have HB6 := Lib.hid (HB.out.trans (hb6.mono HB.out.size))
                    have HO6 := Lib.hid (hO6.more (S' := fun _ => True) (fun _ _ => trivial))
                    have HL6 := Lib.hid hL6
                    have Hlen := Lib.hid hlen
                    rw [hlen]
                    have dc1 : ((c : Int) == 0) = false := by simp; omega
                    have dc2 : decide ((8 : Int) < (c : Int)) = false := by simp; omega
                    clear hL6 hO6 hb6 HS HB hlen
                    obtain ⟨wb, rfl⟩ : ∃ wb : World, wb = wr := ⟨_, rfl⟩
                    go_wp2_with fail
                    go_loopw [14, 17, 96] (fun hh _ i wr' => ∃ j : Nat, j ≤ c ∧ i = .int .i64 j ∧ hh = .int .i64 ((h : Int) + (j : Int)) ∧ FeedS wr' S g 1 4 bs (wsL 1 bs m) K ∧ OW wr' (fun _ => True) wb.heap.size (.slice A6 c c6) L6 ∧ Below w.heap.size w wr') (fun _ _ i _ => c - (intOf i).toNat)
                    case atStart => exact ⟨0, by omega, rfl, by simp, HS6.out, Hlen.out ▸ HO6.out, HB6.out⟩
                    case round =>
                      clear HS6 HO6 HB6
                      obtain ⟨j, hj, rfl, rfl, hS, hO, hB⟩ := hrel
                      have hsz := hB.size
                      by_cases hjr : j < c
                      · have hjl : j < L6.length := by rw [Hlen.out]; exact hjr
                        have hrow := hO.row
                        rw [Hlen.out] at hrow
                        have hrd := Reads.of_own hrow
                        clear hrow
                        obtain ⟨b6, o6, rfl, hb6⟩ := hrd.at_some (by omega)
                        have hx := congrArg (fun l => l[j]?) HL6.out
                        simp only [List.getElem?_map, List.getElem?_eq_getElem hjl, Option.map_some] at hx
                        rw [wsL_get hjr] at hx
                        injection hx with hx
                        have hxn : (L6[j]).n = ((h + 1 + j : Nat) : Int) := congrArg Wr.n hx
                        have hxr : (L6[j]).r = 1 := congrArg Wr.r hx
                        have hd1 := nums_one (hO.nums L6[j] (List.getElem_mem hjl)).nums
                        have hcell : ∀ i v, (L6[j]).cells[i]? = some v → wr.cell? ⟨b6, o6 + j * 10 + i, none⟩ = some v := fun i v hi => by
                          have hi2 : i < 10 := by
                            rcases Nat.lt_or_ge i 10 with h | h
                            · exact h
                            · rw [List.getElem?_eq_none (by rw [Wr.len]; exact h)] at hi; cases hi
                          exact (Reads.thing Wr.cells Wr.len hrd (k := j) (x := L6[j]) (by omega) (List.getElem?_eq_getElem hjl) i hi2).trans hi
                        clear hx
                        generalize L6[j] = x at *
                        obtain ⟨xr, xn, xt, xs, xd, xz, xse, xk, xv, xg, xl⟩ := x
                        dsimp only at hxn hxr hd1
                        subst hxn hxr
                        have Hcell := Lib.hid hcell
                        have Hd1 := Lib.hid hd1
                        have HS := Lib.hid hS
                        have HO := Lib.hid hO
                        have HB := Lib.hid hB
                        clear hcell hS hO hB hrd hd1
                        go_wp2_with (first | (refine wpList_load_at rfl 35 (.tmp 98) rfl b6 (o6 + j * 10) (Wr.cells ⟨1, ((h + 1 + j : Nat) : Int), xt, xs, xd, xz, xse, xk, xv, xg, xl⟩) rfl Try.underlying35 rfl (by kernel_rfl) Hcell.out ?_) | (refine wpList_store_blk rfl 35 (.tmp 17) (.tmp 99) rfl wr.heap.size (Wr.cells ⟨1, ((h + 1 + j : Nat) : Int), xt, xs, xd, xz, xse, xk, xv, xg, xl⟩) rfl rfl (Blk.new wr 35 #[.int .i64 0, .int .i64 0, .int .i64 0, .int .i64 0, .slice none 0 0, .string ⟨#[]⟩, .string ⟨#[]⟩, .string ⟨#[]⟩, .bool false, .int .i64 0]) (by kernel_rfl) rfl (oneAll ⟨1, ((h + 1 + j : Nat) : Int), xt, xs, xd, xz, xse, xk, xv, xg, xl⟩ Hd1.out) ?_; intro w9 ho9 hk9 hs9; have p0 : w9.cell? ⟨wr.heap.size, 0, none⟩ = some (.int .i64 1) := ho9.cell 0; have p1 : w9.cell? ⟨wr.heap.size, 1, none⟩ = some (.int .i64 ((h : Int) + (j : Int) + 1)) := (ho9.cell 1).trans (by simp [Wr.cells]; omega); have pl := ho9.lt))
                        have hb9 : Below wr.heap.size wr w9 := (below_new wr (.cells #[.int .i64 0, .int .i64 0, .int .i64 0, .int .i64 0, .slice none 0 0, .string ⟨#[]⟩, .string ⟨#[]⟩, .string ⟨#[]⟩, .bool false, .int .i64 0] 35)).trans (hk9.below (fun i hi e => by omega) (by simp))
                        have HS9 := Lib.hid (HS.out.below hb9)
                        have HO9 := Lib.hid (HO.out.keeps (X := nobody) (.of_below hb9) (fun _ _ h => h))
                        have HB9 := Lib.hid (HB.out.trans (hb9.mono hsz))
                        clear ho9 hk9 hb9 HS HO HB Hcell
                        go_roundw
                        case rel => exact ⟨j + 1, by omega, by go_num, by go_num, HS9.out, HO9.out, HB9.out⟩
                        case measure => simp [intOf]; omega
                      · obtain rfl : c = j := by omega
                        have d9 : decide ((c : Int) < (c : Int)) = false := by simp
                        have HS := Lib.hid hS
                        have HB := Lib.hid hB
                        clear hS hO hB
                        go_wp2_with fail
                        go_roundw
                        case rel => exact ⟨h + c, by go_num, by omega, by omega, HS.out, HB.out⟩
                        case measure => simp [intOf]; omega
                  · obtain rfl : last = h := by omega
                    have d4 : decide ((last : Int) < (last : Int)) = false := by simp
                    have hbt := batch_none (rg := 1) (bs := bs) (m := m) (h := last) (by omega)
                    have Hbt := Lib.hid hbt
                    have HS := Lib.hid hS
                    have HB := Lib.hid hB
                    clear hbt hS hB
                    go_wp2_with fail
                    refine (batch_any (last : Int) HS.out).mono ?_
                    rintro e w6 ⟨⟨v, L6, rfl, hL6, hO6⟩, hb6⟩
                    rw [Hbt.out] at hL6
                    have hlen : L6.length = 0 := by have := congrArg List.length hL6; simpa using this
                    obtain ⟨A6, c6, rfl⟩ := ownsRow_slice hO6.row
                    have HS6 := Lib.hid (HS.out.below hb6)
                    have HB6 := Lib.hid (HB.out.trans (hb6.mono HB.out.size))
                    rw [hlen]
                    clear hL6 hO6 hb6 HS HB
                    go_wp2_with fail
                    go_roundw
                    case rel => exact ⟨q + 1, by omega, by omega, by go_num, HS6.out, HB6.out⟩
                    case measure => simp [intOf]; omega
              · obtain rfl : q = 5 := by omega
                have d3 : decide (((5 : Nat) : Int) ≤ 4) = false := by decide
                have HS := Lib.hid hS
                have HB := Lib.hid hB
                clear hS hB
                go_wp2_with fail
                refine (last_any HS.out).mono ?_
                rintro e w5 ⟨rfl, hb5⟩
                rw [wsL_len, hsum]
                have HB5 := Lib.hid (HB.out.trans (hb5.mono hsz))
                clear hb5
                go_wp2_with fail
                go_ret
                exact ⟨rfl, HB5.out⟩
end Go.Proofs.Ytmclmefgddomfaa.wFeedAll
