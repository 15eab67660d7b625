/- The walk of the reference's Sum: it returns what the division leaves; nothing that was there is written. -/
import Derived.Test.YtojmnkcncjconaaCrc
import Derived.Test.YtojmnkcncjconaaDiv
namespace Go.Proofs.Ytojmnkcncjconaa.refsum
open Go.RowKit Go.Proofs.Ytojmnkcncjconaa.base Go.Proofs.Ytojmnkcncjconaa.num Go.Proofs.Ytojmnkcncjconaa.crc Go.Proofs.Ytojmnkcncjconaa.div

theorem int_info : (Try.prog.info? 3).map (fun i => (i.zero, i.size, i.bytes)) = some (some (.int .i64 0), 1, 8) := by kernel_rfl
def enc (bs : List Bool) : List Value := bs.map fun b => Value.int .i64 (bi b)
theorem enc_len (bs : List Bool) : (enc bs).length = bs.length := by simp [enc]
theorem enc_snoc (bs : List Bool) (b : Bool) : enc (bs ++ [b]) = enc bs ++ [.int .i64 (bi b)] := by simp [enc]
theorem bit_int (c k : Nat) : bi (c.testBit k) = ((c / 2 ^ k : Nat) : Int) % 2 := by
  rw [Nat.testBit_eq_decide_div_mod_eq]
  unfold bi
  have e : ((c / 2 ^ k : Nat) : Int) % 2 = ((c / 2 ^ k % 2 : Nat) : Int) := by omega
  rw [e]
  rcases Nat.mod_two_eq_zero_or_one (c / 2 ^ k) with h | h <;> rw [h] <;> rfl
theorem bits_snoc (c k : Nat) (hk : k < 8) : (byteBits c).take (k + 1) = (byteBits c).take k ++ [c.testBit k] := by
  rw [List.take_succ_eq_append_getElem (by simp [byteBits]; omega)]; simp [byteBits]
theorem msg_snoc (cs : List Nat) (n : Nat) (h : n < cs.length) : msg (cs.take (n + 1)) = msg (cs.take n) ++ byteBits (cs.getD n 0) := by
  unfold msg
  rw [List.take_succ_eq_append_getElem h, List.flatMap_append]
  simp [List.getD_eq_getElem?_getD, List.getElem?_eq_getElem h]
def flipFirst (k : Nat) (M : List Bool) : List Bool := (M.take k).map not ++ M.drop k
theorem flipFirst_len (k : Nat) (M : List Bool) : (flipFirst k M).length = M.length := by simp [flipFirst]; omega
theorem flipFirst_at (k : Nat) (M : List Bool) (h : k < M.length) : (flipFirst k M)[k]? = some M[k] := by
  unfold flipFirst
  rw [List.getElem?_append_right (by simp; omega)]
  simp
  rw [show k + (k - min k M.length) = k by omega]
  exact List.getElem?_eq_getElem h
theorem flipFirst_succ (k : Nat) (M : List Bool) (h : k < M.length) : (flipFirst k M).set k (!M[k]) = flipFirst (k + 1) M := by
  unfold flipFirst
  rw [List.set_append_right _ _ (by simp; omega)]
  have h1 : (M.take k).length = k := by simp; omega
  rw [List.length_map, h1, Nat.sub_self, List.drop_eq_getElem_cons h, List.set_cons_zero, List.take_succ_eq_append_getElem h, List.map_append, List.append_assoc]
  rfl

theorem enc_at (bs : List Bool) (p : Nat) (h : p < bs.length) : (enc bs)[p]? = some (.int .i64 (bi (bs.getD p false))) := by
  simp only [enc, List.getElem?_map, List.getElem?_eq_getElem h, Option.map_some, List.getD_eq_getElem?_getD, Option.getD_some]
theorem enc_flip (bs : List Bool) (p : Nat) : (enc bs).set p (.int .i64 (1 - bi (bs.getD p false))) = enc (flipAt bs p) := by
  have : 1 - bi (bs.getD p false) = bi (!bs.getD p false) := by cases bs.getD p false <;> rfl
  rw [this]; simp only [enc, flipAt, List.map_set]
theorem flips_snoc (i j : Nat) (l : List Bool) (h : j < powers.length) : flips i (powers.take (j + 1)) l = flipAt (flips i (powers.take j) l) (i + 32 - powers.getD j 0) := by
  unfold flips
  rw [List.take_succ_eq_append_getElem h, List.foldl_append]
  simp [List.getD_eq_getElem?_getD, List.getElem?_eq_getElem h]
theorem powers_cell (j : Nat) (hj : j < 17) : (#[.int .i64 28, .int .i64 27, .int .i64 26, .int .i64 25, .int .i64 23, .int .i64 22, .int .i64 20, .int .i64 19, .int .i64 18, .int .i64 14, .int .i64 13, .int .i64 11, .int .i64 10, .int .i64 9, .int .i64 8, .int .i64 6, .int .i64 0] : Array Value)[j]? = some (.int .i64 (powers.getD j 0 : Nat)) := by
  have e : (#[.int .i64 28, .int .i64 27, .int .i64 26, .int .i64 25, .int .i64 23, .int .i64 22, .int .i64 20, .int .i64 19, .int .i64 18, .int .i64 14, .int .i64 13, .int .i64 11, .int .i64 10, .int .i64 9, .int .i64 8, .int .i64 6, .int .i64 0] : Array Value) = (powers.map fun (q : Nat) => Value.int .i64 (q : Int)).toArray := rfl
  have hl : j < powers.length := hj
  rw [e, List.getElem?_toArray, List.getElem?_map, List.getElem?_eq_getElem hl, List.getD_eq_getElem?_getD, List.getElem?_eq_getElem hl]
  rfl
theorem powers_le : ∀ j, j < 17 → powers.getD j 0 ≤ 28 := by decide

set_option maxRecDepth 100000 in
set_option maxHeartbeats 4000000 in
theorem sum_any (A : Option Addr) (len cap : Nat) (cs : List Nat) (w : World) (hl : cs.length = len) (hm : len ≤ 2000) (hr : Reads w w.heap.size 1 A len (cs.map fun (c : Nat) => Value.int .u8 (c : Int))) (hz : ∀ c ∈ cs, c < 256) :
    Calls Try.prog 26 #[.slice A len cap] w fun e w' => e = .returned (.int .u32 ((cs.foldl stepN 0 : Nat) : Int)) ∧ Below w.heap.size w w' := by
  obtain ⟨i0, hi, hz0, hz1, hz2⟩ := info_parts int_info
  have Hl := Lib.hid hl; clear hl
  have Hr := Lib.hid hr; clear hr
  go_enter Try.func26, Try.ntmps26
  go_wp2
  go_loopw [3, 4] (fun l i wr => ∃ n : Nat, n ≤ len ∧ i = .int .i64 n ∧ wr.ownsRow w.heap.size 3 1 l (8 * n) (enc (msg (cs.take n))) ∧ Below w.heap.size w wr) (fun _ i _ => len - (intOf i).toNat)
  case atStart => exact ⟨0, by omega, rfl, ownsRow_new0 w 3 1 #[], (Below.refl _ _).alloc (Nat.le_refl _) _⟩
  case round =>
    obtain ⟨n, hn, rfl, hown, hbw⟩ := hrel
    by_cases hlt : n < len
    · obtain ⟨b, off, rfl, hb, hc⟩ := Hr.out.2 (by omega)
      have hnc : n < cs.length := by rw [Hl.out]; exact hlt
      have hcell : wr.cell? ⟨b, off + n, none⟩ = some (.int .u8 (cs[n] : Nat)) := by
        rw [hbw.cell (p := ⟨b, off + n, none⟩) hb, hc n (by simpa using hnc)]; simp [List.getElem?_eq_getElem hnc]
      have hcb : cs[n] < 256 := hz _ (List.getElem_mem hnc)
      have hsn := msg_snoc cs n hnc
      rw [List.getD_eq_getElem?_getD, List.getElem?_eq_getElem hnc, Option.getD_some] at hsn
      generalize cs[n] = c at hcell hcb hsn
      have Hsn := Lib.hid hsn; clear hsn hc
      have Hown := Lib.hid hown; clear hown
      have Hbw := Lib.hid hbw; clear hbw
      go_wp2
      go_loopw [3, 5, 6] (fun l x i wr => ∃ k : Nat, k ≤ 8 ∧ i = .int .i64 k ∧ x = .int .i64 (c / 2 ^ k : Nat) ∧ wr.ownsRow w.heap.size 3 1 l (8 * n + k) (enc (msg (cs.take n) ++ (byteBits c).take k)) ∧ Below w.heap.size w wr) (fun _ _ i _ => 8 - (intOf i).toNat)
      case atStart => exact ⟨0, by omega, rfl, by simp, by simpa using Hown.out, Hbw.out⟩
      case round =>
        clear Hown Hbw hcell
        obtain ⟨k, hk, rfl, rfl, hown, hbw⟩ := hrel
        have Hown := Lib.hid hown; clear hown
        have Hbw := Lib.hid hbw; clear hbw
        by_cases hk8 : k < 8
        · have hbit := bit_int c k
          have hd2 : c / 2 ^ k / 2 = c / 2 ^ (k + 1) := by rw [Nat.pow_succ, Nat.div_div_eq_div_mul]
          have hdb : c / 2 ^ k < 256 := Nat.lt_of_le_of_lt (Nat.div_le_self _ _) hcb
          generalize hd : c / 2 ^ k = d at *
          have Hbit := Lib.hid hbit; clear hbit
          have Hd2 := Lib.hid hd2; clear hd2 hd
          go_wp2_with (at_builtin; refine wpList_append_new rfl (.tmp 32) (.tmp 35) _ rfl w.heap.size 3 i0 (.int .i64 0) 1 8 Try.underlying76 hi hz0 hz1 hz2 rfl (by decide) _ _ _ rfl Hown.out 1 1 [.int .i64 ((d : Int) % 2)] rfl rfl (by simp [Value.oneCell']) (by unfold maxLen; omega) (by omega) Hbw.out.size ?_; intro v1 w1 hown1 hbw1 _ _; have Hown1 := Lib.hid hown1; have Hbw1 := Lib.hid (Hbw.out.trans hbw1); clear hown1 hbw1)
          go_roundw
          case rel =>
            refine ⟨k + 1, by omega, by go_num, by rw [← Hd2.out]; go_num, ?_, Hbw1.out⟩
            have := Hown1.out
            rwa [← Hbit.out, ← enc_snoc, List.append_assoc, ← bits_snoc c k hk8] at this
          case measure => simp [intOf]; omega
        · obtain rfl : k = 8 := by omega
          have e8 : (byteBits c).take 8 = byteBits c := List.take_of_length_le (by rw [byteBits_len]; exact Nat.le_refl _)
          rw [e8, ← Hsn.out] at Hown
          clear e8
          go_wp2
          go_roundw
          case rel => exact ⟨n + 1, by omega, by go_num, by simpa [Nat.mul_add] using Hown.out, Hbw.out⟩
          case measure => simp [intOf]; omega
    · obtain rfl : n = len := by omega
      have e8 : cs.take n = cs := List.take_of_length_le (by rw [Hl.out]; exact Nat.le_refl _)
      rw [e8] at hown
      have Hown := Lib.hid hown
      clear e8
      have Hbw := Lib.hid hbw; clear hbw hown
      go_wp2
      go_loopw [3, 7] (fun l i wr => ∃ k : Nat, k ≤ 32 ∧ i = .int .i64 k ∧ wr.ownsRow w.heap.size 3 1 l (8 * n + k) (enc (msg cs ++ List.replicate k false)) ∧ Below w.heap.size w wr) (fun _ i _ => 32 - (intOf i).toNat)
      case atStart => exact ⟨0, by omega, rfl, by simpa using Hown.out, Hbw.out⟩
      case round =>
        clear Hown Hbw
        obtain ⟨k, hk, rfl, hown, hbw⟩ := hrel
        have Hown := Lib.hid hown; clear hown
        have Hbw := Lib.hid hbw; clear hbw
        by_cases hk8 : k < 32
        · go_wp2_with (at_builtin; refine wpList_append_new rfl (.tmp 43) (.tmp 44) _ rfl w.heap.size 3 i0 (.int .i64 0) 1 8 Try.underlying76 hi hz0 hz1 hz2 rfl (by decide) _ _ _ rfl Hown.out 1 1 [.int .i64 0] rfl rfl (by simp [Value.oneCell']) (by unfold maxLen; omega) (by omega) Hbw.out.size ?_; intro v1 w1 hown1 hbw1 _ _; have Hown1 := Lib.hid hown1; have Hbw1 := Lib.hid (Hbw.out.trans hbw1); clear hown1 hbw1)
          go_roundw
          case rel =>
            refine ⟨k + 1, by omega, by go_num, ?_, Hbw1.out⟩
            have := Hown1.out
            rwa [show Value.int .i64 0 = .int .i64 (bi false) from rfl, ← enc_snoc, List.append_assoc, ← List.replicate_succ'] at this
          case measure => simp [intOf]; omega
        · have hk32 : k = 32 := by omega
          rw [hk32] at Hown
          clear hk32
          have hM : (msg cs ++ List.replicate 32 false).length = 8 * n + 32 := by simp [msg_len, Hl.out]
          have hst : div.start cs = flipFirst 32 (msg cs ++ List.replicate 32 false) := rfl
          generalize msg cs ++ List.replicate 32 false = M at Hown hM hst
          have HM := Lib.hid hM; clear hM
          have Hst := Lib.hid hst; clear hst
          obtain ⟨g, c1, rfl, hbg, hgs⟩ := Hown.out.form (by omega)
          go_wp2
          go_loopw [8] (fun i wr => ∃ k : Nat, k ≤ 32 ∧ i = .int .i64 k ∧ wr.ownsRow w.heap.size 3 1 (.slice (some ⟨g, 0, none⟩) (8 * n + 32) c1) (8 * n + 32) (enc (flipFirst k M)) ∧ Below w.heap.size w wr) (fun i _ => 32 - (intOf i).toNat)
          case atStart => exact ⟨0, by omega, rfl, by simpa [flipFirst] using Hown.out, Hbw.out⟩
          case round =>
            clear Hown Hbw hgs
            obtain ⟨k, hk, rfl, hown, hbw⟩ := hrel
            have Hbw := Lib.hid hbw; clear hbw
            by_cases hk8 : k < 32
            · have hkM : k < M.length := by rw [HM.out]; omega
              have hcell : wr.cell? ⟨g, k, none⟩ = some (.int .i64 (bi M[k])) := by
                rw [hown.cellAt k (by omega)]; simp only [enc, List.getElem?_map, flipFirst_at k M hkM, Option.map_some]
              have hfr : wr.frozen? ⟨g, k, none⟩ = false := hown.frozenAt k
              have hst1 := (hown.stored k (.int .i64 (bi (!M[k])))).1
              have e1 : (enc (flipFirst k M)).set k (.int .i64 (bi (!M[k]))) = enc (flipFirst (k + 1) M) := by
                rw [← flipFirst_succ k M hkM]; simp only [enc, List.map_set]
              rw [e1] at hst1
              have hb1 : 0 ≤ bi M[k] ∧ bi M[k] ≤ 1 := by unfold bi; split <;> omega
              have hb2 : bi (!M[k]) = 1 - bi M[k] := by cases M[k] <;> rfl
              rw [hb2] at hst1
              generalize bi M[k] = x at hcell hst1 hb1
              have Hown1 := Lib.hid hst1
              have Hbw1 := Lib.hid (Hbw.out.setCell (p := ⟨g, k, none⟩) hbg (.int .i64 (1 - x)))
              clear hst1 hown e1 hb2
              go_wp2
              go_roundw
              case rel => exact ⟨k + 1, by omega, by go_num, Hown1.out, Hbw1.out⟩
              case measure => simp [intOf]; omega
            · have hk32 : k = 32 := by omega
              rw [hk32, ← Hst.out] at hown
              clear hk32
              have Hown := Lib.hid hown; clear hown
              have hgs := (Hown.out.lt g rfl).2
              have hbs := Hbw.out.size
              obtain ⟨w5, rfl⟩ : ∃ w5, w5 = wr := ⟨_, rfl⟩
              generalize hS : div.start cs = S at Hown
              have HS := Lib.hid hS; clear hS Hst
              have HSl : Hid (S.length = 8 * n + 32) := by rw [← HS.out]; show _ = _; rw [start_len, Hl.out]
              have hgb : ∀ wx : World, wx = w5.alloc (.cells #[.int .i64 28, .int .i64 27, .int .i64 26, .int .i64 25, .int .i64 23, .int .i64 22, .int .i64 20, .int .i64 19, .int .i64 18, .int .i64 14, .int .i64 13, .int .i64 11, .int .i64 10, .int .i64 9, .int .i64 8, .int .i64 6, .int .i64 0] 3) → ∀ j, j < 17 → wx.cell? ⟨w5.heap.size, j, none⟩ = some (.int .i64 (powers.getD j 0 : Nat)) := by
                intro wx hwx j hj
                rw [hwx, cell_new]
                exact powers_cell j hj
              have Hgb := Lib.hid hgb; clear hgb
              go_wp2
              go_loopw [10] (fun i wr => ∃ k : Nat, k ≤ 8 * n ∧ i = .int .i64 k ∧ wr.ownsRow w.heap.size 3 1 (.slice (some ⟨g, 0, none⟩) (8 * n + 32) c1) (8 * n + 32) (enc (divs S k)) ∧ Below w.heap.size w wr ∧ (∀ j, j < 17 → wr.cell? ⟨w5.heap.size, j, none⟩ = some (.int .i64 (powers.getD j 0 : Nat)))) (fun i _ => 8 * n - (intOf i).toNat)
              case atStart => exact ⟨0, by omega, rfl, Hown.out.alloc _, Hbw.out.alloc (by omega) _, Hgb.out _ rfl⟩
              case round =>
                clear Hown Hbw Hgb
                obtain ⟨k, hk, rfl, hown, hbw, hpw⟩ := hrel
                have Hbw := Lib.hid hbw; clear hbw
                have Hpw := Lib.hid hpw; clear hpw
                have hlen : (divs S k).length = 8 * n + 32 := by rw [divs_len, HSl.out]
                by_cases hk8 : k < 8 * n
                · have hcell : wr.cell? ⟨g, k, none⟩ = some (.int .i64 (bi ((divs S k).getD k false))) := by
                    rw [hown.cellAt k (by omega), enc_at _ _ (by omega)]
                  have hstep : divs S (k + 1) = if (divs S k).getD k false then flips k powers (divs S k) else divs S k := rfl
                  generalize divs S k = D at hown hcell hstep hlen
                  have Hlen := Lib.hid hlen; clear hlen
                  have Hown := Lib.hid hown; clear hown
                  generalize hb : D.getD k false = bt at hcell hstep
                  clear hb
                  cases bt with
                  | false =>
                    simp only [bi, Bool.false_eq_true, if_false] at hcell
                    have Hstep := Lib.hid hstep; clear hstep
                    have h01 : ((0 : Int) == 1) = false := rfl
                    go_wp2
                    go_roundw
                    case rel => exact ⟨k + 1, by omega, by go_num, by rw [Hstep.out]; exact Hown.out, Hbw.out, Hpw.out⟩
                    case measure => simp [intOf]; omega
                  | true =>
                    simp only [bi, if_true] at hcell
                    have Hstep := Lib.hid hstep; clear hstep
                    have h01 : ((1 : Int) == 1) = true := rfl
                    go_wp2
                    go_loopw [12, 73] (fun _ i wr => ∃ j : Nat, j ≤ 17 ∧ i = .int .i64 j ∧ wr.ownsRow w.heap.size 3 1 (.slice (some ⟨g, 0, none⟩) (8 * n + 32) c1) (8 * n + 32) (enc (flips k (powers.take j) D)) ∧ Below w.heap.size w wr ∧ (∀ j, j < 17 → wr.cell? ⟨w5.heap.size, j, none⟩ = some (.int .i64 (powers.getD j 0 : Nat)))) (fun _ i _ => 17 - (intOf i).toNat)
                    case atStart => exact ⟨0, by omega, rfl, Hown.out, Hbw.out, Hpw.out⟩
                    case round =>
                      clear Hown Hbw Hpw
                      obtain ⟨j, hj, rfl, hown, hbw, hpw⟩ := hrel
                      by_cases hj17 : j < 17
                      · have hq := hpw j hj17
                        have hql := powers_le j hj17
                        have hfl := flips_snoc k j D hj17
                        have hlenF : (flips k (powers.take j) D).length = 8 * n + 32 := by rw [flips_len, Hlen.out]
                        generalize hqq : powers.getD j 0 = q at hq hql hfl
                        generalize flips k (powers.take j) D = F at hown hfl hlenF
                        have hcellF : wr.cell? ⟨g, k + 32 - q, none⟩ = some (.int .i64 (bi (F.getD (k + 32 - q) false))) := by
                          rw [hown.cellAt _ (by omega), enc_at _ _ (by omega)]
                        have hfr : wr.frozen? ⟨g, k + 32 - q, none⟩ = false := hown.frozenAt _
                        have hst1 := (hown.stored (k + 32 - q) (.int .i64 (1 - bi (F.getD (k + 32 - q) false)))).1
                        rw [enc_flip, ← hfl] at hst1
                        have hb1 : 0 ≤ bi (F.getD (k + 32 - q) false) ∧ bi (F.getD (k + 32 - q) false) ≤ 1 := by unfold bi; split <;> omega
                        generalize bi (F.getD (k + 32 - q) false) = x at hcellF hst1 hb1
                        have Hown1 := Lib.hid hst1
                        have Hbw1 := Lib.hid (hbw.setCell (p := ⟨g, k + 32 - q, none⟩) hbg (.int .i64 (1 - x)))
                        have Hpw1 : Hid (∀ j, j < 17 → (wr.setCell ⟨g, k + 32 - q, none⟩ (.int .i64 (1 - x))).cell? ⟨w5.heap.size, j, none⟩ = some (.int .i64 (powers.getD j 0 : Nat))) := fun j hj => by
                          rw [World.cell?_setCell_other _ _ _ _ (fun e => by injection e with e; omega)]; exact hpw j hj
                        clear hst1 hown hfl hpw hbw hqq hlenF Hlen Hstep
                        have hk32 : (k : Int) + 32 - q = ((k + 32 - q : Nat) : Int) := by omega
                        have Hk32 := Lib.hid hk32; clear hk32
                        go_wp2
                        go_roundw
                        case rel => exact ⟨j + 1, by omega, by go_num, Hown1.out, Hbw1.out, Hpw1.out⟩
                        case measure => simp [intOf]; omega
                      · obtain rfl : j = 17 := by omega
                        have Hown := Lib.hid hown; clear hown
                        have Hbw := Lib.hid hbw; clear hbw
                        have Hpw := Lib.hid hpw; clear hpw
                        go_wp2
                        go_roundw
                        case rel => exact ⟨k + 1, by omega, by go_num, by rw [Hstep.out]; exact Hown.out, Hbw.out, Hpw.out⟩
                        case measure => simp [intOf]; omega
                · have hk8n : k = 8 * n := by omega
                  have hdiv : gather (divs S k) (8 * n) 32 = cs.foldl stepN 0 := by
                    rw [hk8n, ← HS.out, ← Hl.out]; exact division cs hz
                  have Hdiv := Lib.hid hdiv; clear hdiv hk8n
                  generalize divs S k = D at hown hlen Hdiv
                  have Hown := Lib.hid hown; clear hown
                  have Hlen := Lib.hid hlen; clear hlen
                  have hg32 : ∀ k, k ≤ 32 → gather D (8 * n) k < 2 ^ k := by
                    intro k
                    induction k with
                    | zero => intro _; show 0 < 1; decide
                    | succ k ih =>
                      intro hk
                      have := ih (by omega)
                      show gather D (8 * n) k + _ < _
                      rw [Nat.pow_succ]
                      split <;> omega
                  have Hg32 := Lib.hid hg32; clear hg32
                  clear Hpw
                  go_wp2
                  go_loop [13, 14, 15] (fun s wt i => ∃ j : Nat, j ≤ 32 ∧ i = .int .i64 (8 * (n : Int) + (j : Int)) ∧ s = .int .u32 (gather D (8 * n) j : Nat) ∧ wt = .int .u32 (2 ^ j % 4294967296 : Nat)) (fun _ _ i => 8 * n + 32 - (intOf i).toNat)
                  case atStart => exact ⟨0, by omega, by go_num, rfl, rfl⟩
                  case round =>
                    obtain ⟨j, hj, rfl, rfl, rfl⟩ := hrel
                    by_cases hj32 : j < 32
                    · have hcell : wr.cell? ⟨g, 8 * n + j, none⟩ = some (.int .i64 (bi (D.getD (8 * n + j) false))) := by
                        rw [Hown.out.cellAt _ (by omega), enc_at _ _ (by rw [Hlen.out]; omega)]
                      have hlt2 := Hg32.out j (by omega)
                      have hpw : 2 ^ j ≤ 2147483648 := by
                        have := Nat.pow_le_pow_right (n := 2) (by decide) (show j ≤ 31 by omega)
                        simpa using this
                      have hwt : 2 ^ j % 4294967296 = 2 ^ j := Nat.mod_eq_of_lt (by omega)
                      have hnx : 2 ^ (j + 1) % 4294967296 = 2 ^ j * 2 % 4294967296 := by rw [Nat.pow_succ]
                      have hga : gather D (8 * n) (j + 1) = gather D (8 * n) j + (if D.getD (8 * n + j) false then 0 else 2 ^ j) := rfl
                      rw [hwt]
                      generalize 2 ^ j = p at *
                      generalize gather D (8 * n) j = sv at *
                      have Hnx := Lib.hid hnx; clear hnx hwt
                      generalize hbt : D.getD (8 * n + j) false = bt at hcell hga
                      clear hbt
                      cases bt with
                      | true =>
                        simp only [bi, if_true] at hcell
                        have Hga := Lib.hid hga; clear hga
                        have h10 : ((1 : Int) == 0) = false := rfl
                        go_wp2
                        go_round
                        case rel => exact ⟨j + 1, by omega, by go_num, by rw [Hga.out]; rfl, by rw [Hnx.out]; go_num⟩
                        case measure => simp [intOf]; omega
                      | false =>
                        simp only [bi, Bool.false_eq_true, if_false] at hcell
                        have Hga := Lib.hid hga; clear hga
                        have h10 : ((0 : Int) == 0) = true := rfl
                        go_wp2
                        go_round
                        case rel => exact ⟨j + 1, by omega, by go_num, by rw [Hga.out]; go_num, by rw [Hnx.out]; go_num⟩
                        case measure => simp [intOf]; omega
                    · have hj32 : j = 32 := by omega
                      have Hj := Lib.hid hj32; clear hj32
                      go_wp2
                      go_ret
                      exact ⟨ret_int (by rw [← Hdiv.out, Hj.out]), Hbw.out⟩
end Go.Proofs.Ytojmnkcncjconaa.refsum
