/- The walk of the law RegMerges: it returns true; nothing that was there is written. -/
import Derived.Test.YtbknkajlajbifaaRefMerge
import Derived.Test.YtbknkajlajbifaaWRegAboves
namespace Go.Proofs.Ytbknkajlajbifaa.wRegMerges
open Go.RowKit Go.Proofs.Ytbknkajlajbifaa.base Go.Proofs.Ytbknkajlajbifaa.cmp Go.Proofs.Ytbknkajlajbifaa.above Go.Proofs.Ytbknkajlajbifaa.merge Go.Proofs.Ytbknkajlajbifaa.awake Go.Proofs.Ytbknkajlajbifaa.law Go.Proofs.Ytbknkajlajbifaa.refmerge
open Go.Proofs.Ytbknkajlajbifaa.wRegAboves (open_cells)

theorem cell_info : (Try.prog.info? 31).map (fun i => (i.zero, i.size, i.bytes)) = some (some (.agg #[.int .i64 0, .int .i64 0, .string ⟨#[]⟩, .bool false, .int .i64 0]), 5, 48) := by kernel_rfl
set_option maxRecDepth 10000 in
set_option maxHeartbeats 8000000 in
theorem walk (v0 : Value) (w : World) (a0 : Arg Try.prog w 22 v0) :
    Calls Try.prog 4 #[v0] w fun e w' => e = .returned (.bool true) ∧ Below w.heap.size w w' := by
  obtain ⟨A, len, cap, cs, rfl, hl, hm, _, _, hr⟩ := open_cells a0
  clear a0
  have href := ref_eq cs
  have hmg : mergeL cs = mg cs len := by rw [← hl]; rfl
  rw [hmg] at href
  have Href := Lib.hid href; clear href hmg
  obtain ⟨i0, hi, hz0, hz1, hz2⟩ := info_parts cell_info
  have Hl := Lib.hid hl; clear hl
  have Hr := Lib.hid hr; clear hr
  have hm' := hm
  unfold maxLen at hm
  cases hgr : greatB cs with
  | true =>
    have Hgr := Lib.hid hgr; clear hgr
    go_enter Try.func4, Try.ntmps4
    go_wp2_with fail
    refine (awake_any _).mono ?_
    rintro e w1 ⟨rfl, hb1⟩
    go_wp2_with fail
    refine (great_any A len cap cs _ Hl.out hm' (by exact (Hr.out.below hb1).more hb1.size)).mono ?_
    rintro e w2 ⟨rfl, hb2⟩
    rw [Hgr.out]
    go_wp2
    go_ret
    exact ⟨rfl, hb1.trans (hb2.mono hb1.size)⟩
  | false =>
    have hl60 : len ≤ 60 := by
      unfold greatB at hgr
      simp only [Bool.or_eq_false_iff, decide_eq_false_iff_not] at hgr
      have := Hl.out; omega
    have Hgr := Lib.hid hgr; clear hgr
    go_enter Try.func4, Try.ntmps4
    go_wp2_with fail
    refine (awake_any _).mono ?_
    rintro e w1 ⟨rfl, hb1⟩
    go_wp2_with fail
    refine (great_any A len cap cs _ Hl.out hm' (by exact (Hr.out.below hb1).more hb1.size)).mono ?_
    rintro e w2 ⟨rfl, hb2⟩
    rw [Hgr.out]
    have Hb2 := Lib.hid (hb1.trans (hb2.mono hb1.size))
    clear hb1 hb2
    go_wp2
    go_loopw [3, 5, 12] (fun l _ i wr => ∃ n : Nat, n ≤ len ∧ i = .int .i64 n ∧ wr.ownsRow w.heap.size 31 5 l n ((cs.take n).flatMap C.cells) ∧ Below w.heap.size w wr) (fun _ _ i _ => len - (intOf i).toNat)
    case atStart => exact ⟨0, by omega, rfl, World.ownsRow_nil _ _ _ _, Hb2.out⟩
    case round =>
      clear Hb2
      obtain ⟨n, hn, rfl, hown, hb⟩ := hrel
      by_cases hlt : n < len
      · obtain ⟨b, off, rfl, hblt, hc⟩ := (Hr.out.below hb).2 (by omega)
        have hnc : n < cs.length := by rw [Hl.out]; exact hlt
        obtain ⟨c0, c1, c2, c3, c4⟩ := cells_at hc hnc
        have htk : (cs.take (n + 1)).flatMap C.cells = (cs.take n).flatMap C.cells ++ cs[n].cells := by
          rw [List.take_succ_eq_append_getElem hnc, List.flatMap_append]; simp
        generalize cs[n] = c at *
        obtain ⟨t, r, v, g, l⟩ := c
        dsimp only at c0 c1 c2 c3 c4
        have Htk := Lib.hid htk; clear htk hc
        have Hown := Lib.hid hown; clear hown
        have Hb := Lib.hid hb; clear hb
        have hbs := Hb.out.size
        go_wp2_with (at_builtin; refine wpList_append_newAt rfl (.tmp 16) (.tmp 18) _ rfl w.heap.size 31 i0 (.agg #[.int .i64 0, .int .i64 0, .string ⟨#[]⟩, .bool false, .int .i64 0]) 5 48 Try.underlying34 hi hz0 hz1 hz2 rfl (by decide) _ _ _ rfl (Hown.out.alloc _) 1 1 (wr.heap.size + 1) (by simp) [.int .i64 t, .int .i64 r, .string v, .bool g, .int .i64 l] rfl rfl (by simp [Value.oneCell']) (by unfold maxLen; omega) (by omega) (by simp; omega) ?_; intro v1 w1 hown1 hbw1 _ _; have Hown1 := Lib.hid hown1; have Hbw1 := Lib.hid ((Hb.out.alloc hbs _).trans hbw1); clear hown1 hbw1)
        go_roundw
        case rel => exact ⟨n + 1, by omega, by go_num, by rw [Htk.out]; exact Hown1.out, Hbw1.out⟩
        case measure => simp [intOf]; omega
      · have e8 : cs.take n = cs := List.take_of_length_le (by rw [Hl.out]; omega)
        have hnl : n = len := by omega
        subst hnl
        rw [e8] at hown
        obtain ⟨A2, c2, rfl⟩ := ownsRow_slice hown
        have hr2 := Reads.of_own hown
        have Hr2 := Lib.hid hr2; clear hr2
        have Hb := Lib.hid hb; clear hb hown e8
        go_wp2_with fail
        refine (merge_any A n cap cs _ Hl.out hm' (by exact (Hr.out.below Hb.out).more Hb.out.size)).mono ?_
        rintro e w3 ⟨rfl, hb3⟩
        have Hr3 := Lib.hid ((Hr2.out.below hb3).more hb3.size)
        go_wp2_with fail
        refine (merge_ref A2 n c2 cs _ Hl.out hm' (by exact Hr3.out)).mono ?_
        rintro e w4 ⟨rfl, hb4⟩
        rw [Href.out]
        generalize mg cs n = c
        obtain ⟨t, r, v, g, l⟩ := c
        unfold cval
        go_wp2
        go_ret
        exact ⟨rfl, (Hb.out.trans (hb3.mono Hb.out.size)).trans (hb4.mono (Nat.le_trans Hb.out.size hb3.size))⟩
end Go.Proofs.Ytbknkajlajbifaa.wRegMerges
