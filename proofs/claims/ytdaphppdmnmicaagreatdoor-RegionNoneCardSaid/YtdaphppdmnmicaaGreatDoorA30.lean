/- A part of the proof of RegionNone: DelW, InsW. -/
import Derived.Test.YtdaphppdmnmicaaGreatDoorA14
import Derived.Test.YtdaphppdmnmicaaGreatDoorA01
import Derived.Lib.AppendZeros
import Derived.Lib.Overlaps
import Derived.Laws.Externs
import Derived.Deep.Cut
namespace Go.Proofs.YtdaphppdmnmicaaGreatDoor.wire
open Go Go.RowKit base rowe rowops err
theorem write_zero (w:World):(zeroValue 34).run Tryz.prog w=.ok (.agg #[.int .i64 0,.int .i64 0,.int .i64 0,.int .i64 0,.slice none 0 0,.string ⟨#[]⟩,.string ⟨#[]⟩,.string ⟨#[]⟩,.bool false,.int .i64 0]) w:=by kernel_rfl
set_option maxRecDepth 100000 in
set_option maxHeartbeats 1600000 in
theorem delete_w (g n cap base i : Nat) (L : List Wr) (w : World) (h : w.ownsRow base 34 10 (.slice (some ⟨g, 0, none⟩) n cap) n (L.flatMap Wr.cells)) (hl : L.length = n) (hi : i < n) (hone : ∀ x ∈ L, x.d.oneCell' = true) :
    Calls Tryz.prog 277 #[.slice (some ⟨g, 0, none⟩) n cap, .int .i64 i, .int .i64 ((i : Int) + 1)] w fun e w' =>
      e = .returned (.slice (some ⟨g, 0, none⟩) (n - 1) cap) ∧ w'.ownsRow base 34 10 (.slice (some ⟨g, 0, none⟩) (n - 1) cap) (n - 1) ((L.eraseIdx i).flatMap Wr.cells) ∧ Keeps (· = g) w w' := by
  obtain ⟨i0, hi0, hz⟩ := Option.map_eq_some_iff.1 write_info
  simp only [Prod.mk.injEq] at hz
  obtain ⟨hz0, hz1, hz2⟩ := hz
  have hlen : (L.flatMap Wr.cells).length = n * 10 := h.1
  obtain ⟨cur, hb0, hg, hnc, hcm, hcs, hta⟩ : ∃ cur, base ≤ g ∧ w.heap[g]? = some (.cells cur 34 (0, 0)) ∧ n ≤ cap ∧ cap ≤ maxLen ∧ cur.size = cap * 10 ∧ cur.toList.take (n * 10) = L.flatMap Wr.cells := by
    rcases h.2 with ⟨e, _⟩ | ⟨g', cap', cur, e, h1, h2, h3, h4, h5, h6⟩
    · cases e
    · injection e with e _ ec
      injection e with e
      injection e with e
      subst e ec
      exact ⟨cur, h1, h2, h3, h4, h5, h6⟩
  have Hta := Lib.hid hta
  have hcm' : cap ≤ 9223372036854775807 := by unfold maxLen at hcm; omega
  have hsplit : L.flatMap Wr.cells = (L.take (i + 1)).flatMap Wr.cells ++ (L.drop (i + 1)).flatMap Wr.cells := by rw [← List.flatMap_append, List.take_append_drop]
  have hlt : ((L.take (i + 1)).flatMap Wr.cells).length = (i + 1) * 10 := by rw [len_flat Wr.cells Wr.len, List.length_take, Nat.min_eq_left (by omega)]
  have hld : ((L.drop (i + 1)).flatMap Wr.cells).length = (n - (i + 1)) * 10 := by rw [len_flat Wr.cells Wr.len, List.length_drop, hl]
  have hcell : ∀ k u, k < n * 10 → (L.flatMap Wr.cells)[k]? = some u → w.drew.cell? ⟨g, k, none⟩ = some u := fun k u hk hu => by
    rw [← hta, List.getElem?_take_of_lt hk, Array.getElem?_toList] at hu
    have hb : Blk w.drew g 34 cur := hg
    rw [hb.cell k]
    exact hu
  have hone' : ∀ u ∈ (L.drop (i + 1)).flatMap Wr.cells, u.oneCell' = true := fun u hu => by
    obtain ⟨x, hx, hu⟩ := List.mem_flatMap.1 hu
    exact oneW x (hone x (List.mem_of_mem_drop hx)) u hu
  have c1 : i ≤ cap := by omega
  have c2 : 0 ≤ (i : Int) + 1 ∧ (i : Int) + 1 ≤ (n : Int) := by omega
  obtain ⟨sa, hsa⟩ : ∃ sa, (if cap = i + 1 then some (⟨g, 0, none⟩ : Addr) else some ⟨g, (i + 1) * 10, none⟩) = some sa := by split <;> exact ⟨_, rfl⟩
  have hnews : ∀ j u, ((L.drop (i + 1)).flatMap Wr.cells)[j]? = some u → w.drew.cell? (sa.add j) = some u := fun j u hj => by
    have hj2 : j < ((L.drop (i + 1)).flatMap Wr.cells).length := (List.getElem?_eq_some_iff.1 hj).1
    have hne : ¬ cap = i + 1 := by omega
    rw [if_neg hne] at hsa
    injection hsa with hsa
    rw [← hsa, Addr.add_lit]
    refine hcell _ u (by omega) ?_
    rw [hsplit, List.getElem?_append_right (by omega), hlt, Nat.add_sub_cancel_left]
    exact hj
  have HR := Lib.hid (fun ty c => run_append_room (P := Tryz.prog) w.drew 25 ty 34 i0 Tryz.underlying25 hi0 g i cap cur hg sa (n - (i + 1)) c ((L.drop (i + 1)).flatMap Wr.cells)
    (by rw [hz1]; exact hld) hnews hone' (by omega) (by rw [hz1, hld]; omega))
  have Hcs := Lib.hid hcs
  have Hg := Lib.hid hg
  clear h hg hcs hta hcm hcell hone' hnews hsplit
  have e1 : i + (n - (i + 1)) = n - 1 := by omega
  have hcut : (cur.toList.take (i * 10)).length = i * 10 := by rw [List.length_take, Array.length_toList, Hcs.out]; omega
  have hc1l : (cur.toList.take (i * 10) ++ (L.drop (i + 1)).flatMap Wr.cells ++ cur.toList.drop (i * 10 + (n - (i + 1)) * 10)).length = cap * 10 := by
    simp only [List.length_append, hcut, hld, List.length_drop, Array.length_toList, Hcs.out]
    omega
  go_enter Tryz.func277, Tryz.ntmps277
  go_wp2_with fail
  refine wp_region_mono (fun b => b = g) (by kernel_rfl) ?_
  refine qT 0 (v := ?_) ?_ ?_; rotate_left
  · (intro W hSw; skip
     go_simp; first | done | rfl | (rw [if_pos c1]; rfl) | (rw [if_pos c2, hsa]; rfl))
  try simp only [qPA]
  refine qT 1 (v := ?_) ?_ ?_; rotate_left
  · (intro W hSw; skip
     go_simp; first | done | rfl | (rw [if_pos c1]; rfl) | (rw [if_pos c2, hsa]; rfl))
  try simp only [qPA]
  refine qT 2 (v := ?_) ?_ ?_; rotate_left
  · (intro W hSw; skip
     go_simp; first | done | rfl | (rw [if_pos c1]; rfl) | (rw [if_pos c2, hsa]; rfl))
  try simp only [qPA]
  refine qT 3 (v := ?_) ?_ ?_; rotate_left
  · (intro W hSw; skip
     go_simp; first | done | rfl | (rw [if_pos c1]; rfl) | (rw [if_pos c2, hsa]; rfl))
  try simp only [qPA]
  refine qT 4 (v := ?_) ?_ ?_; rotate_left
  · (intro W hSw; skip
     go_simp; first | done | rfl | (rw [if_pos c1]; rfl) | (rw [if_pos c2, hsa]; rfl))
  try simp only [qPA]
  refine qT 5 (v := ?_) ?_ ?_; rotate_left
  · (intro W hSw; skip
     go_simp; first | done | rfl | (rw [if_pos c1]; rfl) | (rw [if_pos c2, hsa]; rfl))
  try simp only [qPA]
  refine wpMono_one' 6 (by kernel_rfl) rfl (by rfl) (fun K hK => ?_)
  refine Lib.wp_append_run _ (.tmp 22) (.tmp 25) 25 25 rfl _ _ rfl rfl _ _ (HR.out _ _) ?_
  rw [hz1, e1, hld]
  have hk1 : Keeps (· = g) w.drew (w.drew.setRow g (cur.toList.take (i * 10) ++ (L.drop (i + 1)).flatMap Wr.cells ++ cur.toList.drop (i * 10 + (n - (i + 1)) * 10)).toArray) := setRow_keeps _ _ _
  have hg1 : Blk (w.drew.setRow g (cur.toList.take (i * 10) ++ (L.drop (i + 1)).flatMap Wr.cells ++ cur.toList.drop (i * 10 + (n - (i + 1)) * 10)).toArray) g 34 _ := setRow_blk _ (show Blk w.drew g 34 cur from Hg.out)
  generalize w.drew.setRow g (cur.toList.take (i * 10) ++ (L.drop (i + 1)).flatMap Wr.cells ++ cur.toList.drop (i * 10 + (n - (i + 1)) * 10)).toArray = W1 at *
  refine hK.out _ _ ?_ ?_
  · exact hk1
  clear hK K
  try simp only [qPA]
  refine qT 7 (v := ?_) ?_ ?_; rotate_left
  · (intro W hSw; skip
     go_simp; first | done | rfl | (rw [if_pos c1]; rfl) | (rw [if_pos c2, hsa]; rfl))
  try simp only [qPA]
  refine wpMono_done (by kernel_rfl) ?_ _
  obtain ⟨cur1, hcur1⟩ : ∃ cur1, (cur.toList.take (i * 10) ++ (L.drop (i + 1)).flatMap Wr.cells ++ cur.toList.drop (i * 10 + (n - (i + 1)) * 10)).toArray = cur1 := ⟨_, rfl⟩
  rw [hcur1] at hg1
  have hc1s : cur1.size = cap * 10 := by rw [← hcur1, List.size_toArray]; exact hc1l
  have e2 : n - (n - 1) = 1 := by omega
  have hzc : ∀ v ∈ (#[.int .i64 0, .int .i64 0, .int .i64 0, .int .i64 0, .slice none 0 0, .string ⟨#[]⟩, .string ⟨#[]⟩, .string ⟨#[]⟩, .bool false, .int .i64 0] : Array Value).toList, v.oneCell' = true := by simp [Value.oneCell']
  have hcl := fun ty c => run_clear_rows (P := Tryz.prog) (w := W1) 25 34 ty _ Tryz.underlying25 (write_zero W1) (by decide) hzc g ((n - 1) * 10) 1 c cur1 (by omega) hg1 (by rw [hc1s]; show (n - 1) * 10 + 1 * 10 ≤ cap * 10; omega)
  obtain ⟨zs, hzs⟩ : ∃ zs, (Builtin.zeroCells (Value.agg #[.int .i64 0, .int .i64 0, .int .i64 0, .int .i64 0, .slice none 0 0, .string ⟨#[]⟩, .string ⟨#[]⟩, .string ⟨#[]⟩, .bool false, .int .i64 0]).cells 1).toList = zs := ⟨_, rfl⟩
  have hzl : zs.length = 10 := by rw [← hzs, zeros_len]; rfl
  rw [hzs] at hcl
  have hk2 : Keeps (· = g) W1 (W1.setRow g (putAt cur1.toList ((n - 1) * 10) zs).toArray) := setRow_keeps _ _ _
  have hg2 : Blk (W1.setRow g (putAt cur1.toList ((n - 1) * 10) zs).toArray) g 34 _ := setRow_blk _ hg1
  generalize W1.setRow g (putAt cur1.toList ((n - 1) * 10) zs).toArray = W2 at *
  have HK1 := Lib.hid hk1
  have HK2 := Lib.hid hk2
  have HG2 := Lib.hid hg2
  have HC1 := Lib.hid hcur1
  clear hk1 hk2 hg1 hg2 hzs hzc hcur1
  go_wp2_with fail
  go_ret
  refine ⟨rfl, ⟨?_, .inr ⟨g, cap, _, rfl, hb0, HG2.out, by omega, by unfold maxLen; omega, ?_, ?_⟩⟩, (Keeps.drew (X := (· = g))).trans (HK1.out.trans HK2.out)⟩
  · rw [len_flat Wr.cells Wr.len, List.length_eraseIdx_of_lt (by omega), hl]
  · have := putAt_len (cur := cur1.toList) (vs := zs) (o := (n - 1) * 10) (by
      have h1 : cur1.toList.length = cap * 10 := by rw [Array.length_toList, hc1s]
      rw [h1, hzl]
      omega)
    rw [List.size_toArray, this, Array.length_toList, hc1s]
  · have h1 : cur1.toList.length = cap * 10 := by rw [Array.length_toList, hc1s]
    have h2 : cur.toList.take (i * 10) = (L.take i).flatMap Wr.cells := by
      have h3 := congrArg (List.take (i * 10)) Hta.out
      rw [List.take_take, Nat.min_eq_left (by omega)] at h3
      rw [h3]
      have h4 : L.flatMap Wr.cells = (L.take i).flatMap Wr.cells ++ (L.drop i).flatMap Wr.cells := by rw [← List.flatMap_append, List.take_append_drop]
      rw [h4, List.take_left' (by rw [len_flat Wr.cells Wr.len, List.length_take, Nat.min_eq_left (by omega)])]
    show (putAt cur1.toList ((n - 1) * 10) zs).take ((n - 1) * 10) = _
    unfold putAt
    rw [List.append_assoc, List.take_left' (by rw [List.length_take, h1]; omega), ← HC1.out, List.take_left' (by rw [List.length_append, hcut, hld]; omega), h2, List.eraseIdx_eq_take_drop_succ, List.flatMap_append]
end Go.Proofs.YtdaphppdmnmicaaGreatDoor.wire
namespace Go.Proofs.YtdaphppdmnmicaaGreatDoor.wire
open Go Go.RowKit base rowe rowops err
theorem reads_blk {w:World} {g:Nat} {t:TypeId} {cs:Array Value} {n size:Nat} (h:Blk w g t cs) (hn:cs.size=n * size):Reads w w.heap.size size (some ⟨g,0,none⟩) n cs.toList :=
 ⟨by simpa using hn,fun _=>⟨g,0,rfl,h.lt,fun j _=>by rw [Nat.zero_add,h.cell j];simp⟩⟩
end Go.Proofs.YtdaphppdmnmicaaGreatDoor.wire
