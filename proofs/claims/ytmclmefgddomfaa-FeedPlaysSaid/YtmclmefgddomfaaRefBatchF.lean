/- The walk of the document's Batch. -/
import Derived.Test.YtmclmefgddomfaaRefAddF
namespace Go.Proofs.Ytmclmefgddomfaa.feed
open Go.RowKit Go.Proofs.Ytmclmefgddomfaa.base Go.Proofs.Ytmclmefgddomfaa.rowe Go.Proofs.Ytmclmefgddomfaa.err Go.Proofs.Ytmclmefgddomfaa.wire Go.Proofs.Ytmclmefgddomfaa.monoj

def later (hv : Int) (x : Wr) : Bool := decide (hv < x.n)
def refBatch (hv : Int) (L : List Wr) : List Wr := (L.filter (later hv)).take 8
theorem abs_filter (hv : Int) (L : List Wr) : (refBatch hv L).map Wr.abs = refBatch hv (L.map Wr.abs) := by
  unfold refBatch
  rw [List.map_take, List.filter_map]
  rfl
theorem refBatch_step {hv : Int} {L : List Wr} {k : Nat} (hk : k < L.length) (h8 : (refBatch hv (L.take k)).length < 8) :
    refBatch hv (L.take (k + 1)) = if later hv L[k] = true then refBatch hv (L.take k) ++ [L[k]] else refBatch hv (L.take k) := by
  unfold refBatch at *
  rw [List.take_succ_eq_append_getElem hk, List.filter_append]
  have hl : (List.filter (later hv) (L.take k)).length < 8 := by
    rw [List.length_take] at h8; omega
  have e : List.take 8 (List.filter (later hv) (L.take k)) = List.filter (later hv) (L.take k) := List.take_of_length_le (by omega)
  rw [e]
  by_cases h : later hv L[k] = true
  · rw [if_pos h]
    have e2 : List.filter (later hv) [L[k]] = [L[k]] := by rw [List.filter_cons, if_pos h]; rfl
    rw [e2, List.take_of_length_le]
    rw [List.length_append]
    simp only [List.length_cons, List.length_nil]
    omega
  · rw [if_neg h]
    have e2 : List.filter (later hv) [L[k]] = [] := by rw [List.filter_cons, if_neg h]; rfl
    rw [e2, List.append_nil, e]
theorem refBatch_end {hv : Int} {L : List Wr} {k : Nat} (h8 : ¬ (refBatch hv (L.take k)).length < 8) : refBatch hv L = refBatch hv (L.take k) := by
  unfold refBatch at *
  conv => lhs; rw [← List.take_append_drop k L, List.filter_append]
  rw [List.take_append_of_le_length]
  rw [List.length_take] at h8
  omega
def BatchRR (L : List Wr) (hv : Int) (w : World) (e : Ending) (w' : World) : Prop := (∃ v P, e = .returned v ∧ RW w' v P ∧ P.map Wr.abs = refBatch hv L) ∧ Below w.heap.size w w'
set_option maxRecDepth 100000 in
set_option maxHeartbeats 1000000 in
theorem batch_ref {S : Nat → Prop} {w : World} {g rg nn bs : Nat} {L : List Wr} {K : List Int} (hv : Int) (h : RefS w S g rg nn bs L K) : Calls Try.prog 26 #[.pointer (some ⟨g, 0, none⟩), .int .i64 hv] w (BatchRR L hv w) := by
  obtain ⟨i0, hi, hz⟩ := Option.map_eq_some_iff.1 write_info
  simp only [Prod.mk.injEq] at hz
  obtain ⟨hz0, hz1, hz2⟩ := hz
  obtain ⟨L', A, c, k0, ck, hLL, hf⟩ := h
  obtain ⟨m, hm⟩ : ∃ m, L'.length = m := ⟨_, rfl⟩
  have hm6 : m ≤ 1000000 := by rw [← hm]; exact hf.rl.few
  have HF := Lib.hid hf
  have Hm := Lib.hid hm
  have hglt := hf.blk.lt
  clear hf hm
  go_enter Try.func26, Try.ntmps26
  go_wp2_with fail
  go_loopw [5, 6] (fun s i wr' => ∃ k : Nat, k ≤ m ∧ i = .int .i64 k ∧ wr'.ownsRow w.heap.size 35 10 s (refBatch hv (L'.take k)).length ((refBatch hv (L'.take k)).flatMap Wr.cells) ∧ Below w.heap.size w wr') (fun _ i _ => m - (intOf i).toNat)
  case atStart => exact ⟨0, by omega, rfl, by simpa [refBatch] using ownsRow_new0 w 35 10 #[] (n := 0), below_new _ _⟩
  case round =>
    obtain ⟨k, hk, rfl, hrow, hb⟩ := hrel
    have hsz := hb.size
    obtain ⟨n, hn⟩ : ∃ n, (refBatch hv (L'.take k)).length = n := ⟨_, rfl⟩
    have hn8 : n ≤ 8 := by rw [← hn]; unfold refBatch; rw [List.length_take]; omega
    rw [hn] at hrow
    obtain ⟨As, cs, rfl⟩ := ownsRow_slice hrow
    have hf1 := HF.out.keeps (X := nobody) (.of_below hb) (fun _ _ h => h)
    have c3 : wr.cell? ⟨g, 3, none⟩ = _ := hf1.blk.cell 3
    have hgw := hf1.blk.lt
    rw [Hm.out] at c3
    simp at c3
    by_cases hlt : k < m
    · have d1 : decide ((k : Int) < (m : Int)) = true := by simp; omega
      have hkm : (k : Int) < (m : Int) := by omega
      by_cases h8 : n < 8
      · have d2 : decide ((n : Int) < 8) = true := by simp; omega
        have hkl : k < L'.length := by rw [Hm.out]; exact hlt
        have hst := refBatch_step (hv := hv) hkl (by rw [hn]; exact h8)
        have hrl := hf1.rl.row
        rw [Hm.out] at hrl
        obtain ⟨b, off, rfl, hbb⟩ := hrl.at_some (by omega)
        have hel := elem_at hrl hlt Hm.out
        obtain ⟨e0, e1, e2, e3, e4, e5, e6, e7, e8, e9⟩ := ten_at hel
        obtain ⟨Ad, cd, hd1⟩ := ownsRow_slice (hf1.rl.nums L'[k] (List.getElem_mem hkl)).1
        clear hel
        generalize L'[k] = x at *
        obtain ⟨r, xn, t, s, d, zs, se, kk, v, gg, l⟩ := x
        dsimp only at e0 e1 e2 e3 e4 e5 e6 e7 e8 e9 hd1
        subst hd1
        have Hst := Lib.hid hst
        have Hrow := Lib.hid hrow
        have Hb := Lib.hid hb
        have Hn := Lib.hid hn
        clear hst hrow hb hn hf1 hrl
        cases dl : decide (hv < xn) with
        | true =>
          have hst2 := Hst.out
          rw [if_pos (by unfold later; exact dl)] at hst2
          have Hst2 := Lib.hid hst2
          clear hst2 Hst
          go_wp2_with (at_builtin; refine wpList_append_newAt rfl (.tmp 32) (.tmp 40) _ rfl w.heap.size 35 i0 _ 10 120 Try.underlying41 hi hz0 hz1 hz2 rfl (by decide) (.slice As n cs) n _ rfl Hrow.out 1 1 wr.heap.size rfl (Wr.cells ⟨r, xn, t, s, .slice Ad zs.length cd, zs, se, kk, v, gg, l⟩) rfl rfl (oneW _ rfl) (by unfold maxLen; omega) (by omega) hsz ?_; intro v11 w11 hown11 hbw11 hgr11 hwh11; have Hown11 := Lib.hid hown11; have Hbw11 := Lib.hid (Hb.out.trans hbw11); clear hown11 hbw11 hgr11 hwh11)
          go_roundw
          case rel =>
            refine ⟨k + 1, by omega, by go_num, ?_, Hbw11.out⟩
            rw [Hst2.out, List.length_append, Hn.out, List.flatMap_append]
            exact Hown11.out
          case measure => simp [intOf]; omega
        | false =>
          have hst2 := Hst.out
          rw [if_neg (by unfold later; rw [dl]; decide)] at hst2
          have Hst2 := Lib.hid hst2
          clear hst2 Hst
          go_wp2_with fail
          go_roundw
          case rel =>
            refine ⟨k + 1, by omega, by go_num, ?_, Hb.out⟩
            rw [Hst2.out, Hn.out]
            exact Hrow.out
          case measure => simp [intOf]; omega
      · have d2 : decide ((n : Int) < 8) = false := by simp; omega
        have hend := refBatch_end (hv := hv) (L := L') (k := k) (by rw [hn]; exact h8)
        rw [← hend] at hrow hn
        have HR := Lib.hid (show BatchRR L hv w (.returned (.slice As n cs)) wr from by
          refine ⟨⟨_, refBatch hv L', rfl, ?_, by rw [abs_filter, hLL]⟩, hb⟩
          have hcap : n ≤ cs := by
            rcases hrow.2 with ⟨e, h0⟩ | ⟨g', cap, cur, e, _, _, h3, _⟩
            · omega
            · injection e with _ _ e; omega
          have hr := Reads.of_own hrow
          rw [← hn] at hr hcap ⊢
          exact ⟨As, cs, rfl, by rw [hn]; omega, hcap, hr, fun x hx => ⟨(hf1.rl.nums x ((List.mem_filter.1 (List.mem_of_mem_take hx)).1)).nums, (hf1.rl.nums x ((List.mem_filter.1 (List.mem_of_mem_take hx)).1)).2⟩⟩)
        clear hrow hn hb hf1 hend
        go_wp2_with fail
        go_ret
        exact HR.out
    · obtain rfl : m = k := by omega
      have d1 : decide ((m : Int) < (m : Int)) = false := by simp
      have hend : refBatch hv L' = refBatch hv (L'.take m) := by rw [List.take_of_length_le (by rw [Hm.out]; omega)]
      rw [← hend] at hrow hn
      have HR := Lib.hid (show BatchRR L hv w (.returned (.slice As n cs)) wr from by
        refine ⟨⟨_, refBatch hv L', rfl, ?_, by rw [abs_filter, hLL]⟩, hb⟩
        have hcap : n ≤ cs := by
          rcases hrow.2 with ⟨e, h0⟩ | ⟨g', cap, cur, e, _, _, h3, _⟩
          · omega
          · injection e with _ _ e; omega
        have hr := Reads.of_own hrow
        rw [← hn] at hr hcap ⊢
        exact ⟨As, cs, rfl, by rw [hn]; omega, hcap, hr, fun x hx => ⟨(hf1.rl.nums x ((List.mem_filter.1 (List.mem_of_mem_take hx)).1)).nums, (hf1.rl.nums x ((List.mem_filter.1 (List.mem_of_mem_take hx)).1)).2⟩⟩)
      clear hrow hn hb hf1 hend
      go_wp2_with fail
      go_ret
      exact HR.out
end Go.Proofs.Ytmclmefgddomfaa.feed
