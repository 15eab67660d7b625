/- slices.Insert of one write into a row of one's own. -/
import Derived.Test.YtedkcpncomgboaaDelW
import Derived.Lib.Overlaps
import Derived.Laws.Externs
import Derived.Deep.Cut
namespace Go.Proofs.Ytedkcpncomgboaa.wire
open Go Go.RowKit Go.Proofs.Ytedkcpncomgboaa.base Go.Proofs.Ytedkcpncomgboaa.rowe Go.Proofs.Ytedkcpncomgboaa.rowops Go.Proofs.Ytedkcpncomgboaa.err

theorem reads_blk {w : World} {g : Nat} {t : TypeId} {cs : Array Value} {n size : Nat} (h : Blk w g t cs) (hn : cs.size = n * size) : Reads w w.heap.size size (some ⟨g, 0, none⟩) n cs.toList :=
  ⟨by simpa using hn, fun _ => ⟨g, 0, rfl, h.lt, fun j _ => by rw [Nat.zero_add, h.cell j]; simp⟩⟩
def InsR (base i n : Nat) (v : Value) (L : List Wr) (x : Wr) (w : World) (e : Ending) (w' : World) : Prop :=
  ∃ v', e = .returned v' ∧ w'.ownsRow base 35 10 v' (n + 1) ((L.take i ++ x :: L.drop i).flatMap Wr.cells) ∧ Keeps (fun b => v.ownBlock = some b) w w' ∧ (v'.ownBlock = v.ownBlock ∨ ∀ b, v'.ownBlock = some b → w.heap.size ≤ b)
set_option maxRecDepth 100000 in
set_option maxHeartbeats 1600000 in
/-- at the end -/
theorem insert_end (v : Value) (n base vb c1 : Nat) (L : List Wr) (x : Wr) (w : World) (h : w.ownsRow base 35 10 v n (L.flatMap Wr.cells)) (hl : L.length = n) (hn : n ≤ 1000000) (hbase : base ≤ w.heap.size)
    (hx : Blk w vb 35 x.cells.toArray) (hone : x.d.oneCell' = true) :
    Calls Try.prog 38 #[v, .int .i64 n, .slice (some ⟨vb, 0, none⟩) 1 c1] w (InsR base n n v L x w) := by
  obtain ⟨i0, hi0, hz⟩ := Option.map_eq_some_iff.1 write_info
  simp only [Prod.mk.injEq] at hz
  obtain ⟨hz0, hz1, hz2⟩ := hz
  obtain ⟨A, c, rfl⟩ := ownsRow_slice h
  have hr := reads_blk (n := 1) (size := 10) hx rfl
  have H := Lib.hid h
  have HR := Lib.hid hr
  have hc : n ≤ c ∧ c ≤ 9223372036854775807 := by
    rcases h.2 with ⟨e, e2⟩ | ⟨g', cap', cur, e, h1, h2, h3, h4, _⟩
    · injection e with _ e3 e4
      omega
    · injection e with _ _ ec
      unfold maxLen at h4
      omega
  clear h hr
  rcases Nat.lt_or_ge n c with hlt | hge
  · have hne : ¬ c = n := by omega
    go_enter Try.func38, Try.ntmps38
    go_wp2_with (at_builtin; refine wpList_append_any _ rfl (.tmp 23) (.tmp 24) _ rfl base 35 i0 _ 10 120 Try.underlying25 hi0 hz0 hz1 hz2 rfl (by decide) (.slice A n c) n _ rfl H.out w.heap.size (some ⟨vb, 0, none⟩) 1 c1 x.cells rfl HR.out (oneW x hone) (by unfold maxLen; omega) (by omega) hbase ?_; intro v6 w6 ho6 hg6 hv6; obtain ⟨A6, c6, rfl⟩ := ownsRow_slice ho6; have Ho6 := Lib.hid ho6; have Hg6 := Lib.hid hg6; have Hv6 := Lib.hid hv6; clear ho6 hg6 hv6)
    go_ret
    refine ⟨_, rfl, ?_, .grown Hg6.out fun b hb => .inl hb, Hv6.out.imp id fun e b hb => ?_⟩
    · have ho := Ho6.out
      rw [List.take_of_length_le (by omega), List.drop_eq_nil_of_le (by omega), List.flatMap_append]
      simpa using ho
    · exact Nat.le_of_eq (Option.some.inj (e.symm.trans hb))
  · obtain rfl : n = c := by omega
    go_enter Try.func38, Try.ntmps38
    go_wp2_with (at_builtin; refine wpList_append_any _ rfl (.tmp 23) (.tmp 24) _ rfl base 35 i0 _ 10 120 Try.underlying25 hi0 hz0 hz1 hz2 rfl (by decide) (.slice A n n) n _ rfl H.out w.heap.size (some ⟨vb, 0, none⟩) 1 c1 x.cells rfl HR.out (oneW x hone) (by unfold maxLen; omega) (by omega) hbase ?_; intro v6 w6 ho6 hg6 hv6; obtain ⟨A6, c6, rfl⟩ := ownsRow_slice ho6; have Ho6 := Lib.hid ho6; have Hg6 := Lib.hid hg6; have Hv6 := Lib.hid hv6; clear ho6 hg6 hv6)
    go_ret
    refine ⟨_, rfl, ?_, .grown Hg6.out fun b hb => .inl hb, Hv6.out.imp id fun e b hb => ?_⟩
    · have ho := Ho6.out
      rw [List.take_of_length_le (by omega), List.drop_eq_nil_of_le (by omega), List.flatMap_append]
      simpa using ho
    · exact Nat.le_of_eq (Option.some.inj (e.symm.trans hb))
theorem wp_copy_run {P : Program} (w : World) {o : Oper} {a : Act} {K : Act → World → Prop} {Q : Exit → Act → World → Prop} (d s : Operand) (t t' : TypeId)
    (ho : o.op = .call { callee := .builtin .copy, args := #[d, s], argTypes := #[t, t'] }) (v u : Value) (hd : a.eval d = v) (hs : a.eval s = u) {v' : Value} {w' : World}
    (hr : (Builtin.copy_ #[t, t'] o.type #[v, u]).run P w = .ok v' w') (h : K (a.put o.dst v') w') : o.wp P a w K Q := by
  unfold Oper.wp execOp
  simp only [ho, resolve, invoke, builtin, Sem.run_bind, Sem.run_pure, Result.andThen_ok, List.map_toArray, List.map_cons, List.map_nil, hd, hs, hr]
  exact h
theorem wpList_copy_run {P : Program} (w : World) {ops : Array Oper} {rest : List Oper} {o : Oper} {a : Act} {Q : Exit → Act → World → Prop} (hgd : o.guard = none) (d s : Operand) (t t' : TypeId)
    (ho : o.op = .call { callee := .builtin .copy, args := #[d, s], argTypes := #[t, t'] }) (v u : Value) (hd : a.eval d = v) (hs : a.eval s = u) {v' : Value} {w' : World}
    (hr : (Builtin.copy_ #[t, t'] o.type #[v, u]).run P w = .ok v' w') (h : wpList P ops Q rest (a.put o.dst v') w') : wpList P ops Q (o :: rest) a w :=
  wpList_plain hgd fun _ hK => wp_copy_run w d s t t' ho v u hd hs hr (hK _ _ h)
theorem write_size (w : World) : (Go.sizeOf 35).run Try.prog w = .ok 10 w := by kernel_rfl
set_option maxRecDepth 100000 in
set_option maxHeartbeats 1600000 in
/-- in the middle, where there is room -/
theorem insert_shift (g n cap base vb c1 i : Nat) (L : List Wr) (x : Wr) (w : World) (h : w.ownsRow base 35 10 (.slice (some ⟨g, 0, none⟩) n cap) n (L.flatMap Wr.cells)) (hl : L.length = n) (hi : i < n) (hcap : n < cap)
    (hx : Blk w vb 35 x.cells.toArray) (hvb : vb ≠ g) (hone : x.d.oneCell' = true) (hones : ∀ y ∈ L, y.d.oneCell' = true) :
    Calls Try.prog 38 #[.slice (some ⟨g, 0, none⟩) n cap, .int .i64 i, .slice (some ⟨vb, 0, none⟩) 1 c1] w (InsR base i n (.slice (some ⟨g, 0, none⟩) n cap) L x w) := by
  obtain ⟨i0, hi0, hz⟩ := Option.map_eq_some_iff.1 write_info
  simp only [Prod.mk.injEq] at hz
  obtain ⟨hz0, hz1, hz2⟩ := hz
  obtain ⟨cur, hb0, hg, hcm, hcs, hta⟩ : ∃ cur, base ≤ g ∧ w.heap[g]? = some (.cells cur 35 (0, 0)) ∧ cap ≤ maxLen ∧ cur.size = cap * 10 ∧ cur.toList.take (n * 10) = L.flatMap Wr.cells := by
    rcases h.2 with ⟨e, _⟩ | ⟨g', cap', cur, e, h1, h2, h3, h4, h5, h6⟩
    · cases e
    · injection e with e _ ec
      injection e with e
      injection e with e
      subst e ec
      exact ⟨cur, h1, h2, h4, h5, h6⟩
  have hcm' : cap ≤ 9223372036854775807 := by unfold maxLen at hcm; omega
  have hx2 : w.heap[vb]? = some (.cells x.cells.toArray 35 (0, 0)) := hx
  have hov : ∀ lb cb, (callFunc 61 #[.slice (some ⟨vb, 0, none⟩) 1 c1, .slice (some ⟨g, (i + 1) * 10, none⟩) lb cb]).run Try.prog w = .ok (.value (.bool false)) w := fun lb cb => by
    rw [run_callFunc_extern Try.func61 (by kernel_rfl) (by kernel_rfl) (by kernel_rfl) (e := Extern.SlicesOverlaps.overlaps #[25, 25] #[4]) (by kernel_rfl),
      Lib.run_overlaps_apart w 25 4 35 Try.underlying25 10 write_size ⟨vb, 0, none⟩ ⟨g, (i + 1) * 10, none⟩ 1 c1 lb cb hvb 35 35 10 cur.size (by simp [World.shape?, hx2]; rfl) (by simp [World.shape?, hg]) (by omega) (by simp [World.frozen?, hx2]) (by simp [World.frozen?, hx2])]
    rfl
  have hne1 : ¬ cap = i := by omega
  have hne2 : ¬ cap = i + 1 := by omega
  have c1' : 0 ≤ (i : Int) + 1 ∧ (i : Int) + 1 ≤ (n : Int) + 1 := by omega
  have c2' : 0 ≤ (i : Int) ∧ (i : Int) ≤ (n : Int) + 1 := by omega
  have hsplit : L.flatMap Wr.cells = (L.take i).flatMap Wr.cells ++ (L.drop i).flatMap Wr.cells := by rw [← List.flatMap_append, List.take_append_drop]
  have hlt : ((L.take i).flatMap Wr.cells).length = i * 10 := by rw [len_flat Wr.cells Wr.len, List.length_take, Nat.min_eq_left (by omega)]
  have hld : ((L.drop i).flatMap Wr.cells).length = (n - i) * 10 := by rw [len_flat Wr.cells Wr.len, List.length_drop, hl]
  have hone' : ∀ u ∈ (L.drop i).flatMap Wr.cells, u.oneCell' = true := fun u hu => by
    obtain ⟨y, hy, hu⟩ := List.mem_flatMap.1 hu
    exact oneW y (hones y (List.mem_of_mem_drop hy)) u hu
  have hsrc : ∀ j u, ((L.drop i).flatMap Wr.cells)[j]? = some u → w.drew.cell? (Addr.add ⟨g, i * 10, none⟩ j) = some u := fun j u hj => by
    have hj2 : j < ((L.drop i).flatMap Wr.cells).length := (List.getElem?_eq_some_iff.1 hj).1
    have hb : Blk w.drew g 35 cur := hg
    have h5 : (L.flatMap Wr.cells)[i * 10 + j]? = some u := by
      rw [hsplit, List.getElem?_append_right (by omega), hlt, Nat.add_sub_cancel_left]
      exact hj
    rw [← hta, List.getElem?_take_of_lt (by omega), Array.getElem?_toList] at h5
    rw [Addr.add_lit, hb.cell]
    exact h5
  have hwi : IntKind.i64.wrap ((i : Int) + 1) = (i : Int) + 1 := by rw [IntKind.wrap_i64]; omega
  have hti : ((i : Int) + 1).toNat = i + 1 := by omega
  have hti0 : ((i : Int)).toNat = i := by omega
  have hmin : Nat.min (n + 1 - i) (n - i) = n - i := by simp only [Nat.min_def]; split <;> omega
  have HCP := Lib.hid (fun ty dc sc => run_copy_rows (P := Try.prog) (w := w.drew) 25 25 ty 35 10 g ((i + 1) * 10) (n - i) dc ⟨g, i * 10, none⟩ (n + 1 - i) sc cur 35 ((L.drop i).flatMap Wr.cells) Try.underlying25 (by rw [hi0]; simp [hz1]) hg (by rw [hmin]; exact hld) hsrc (by rw [hld, hcs]; omega) hone')
  have Hg := Lib.hid hg
  have Hcs := Lib.hid hcs
  have Hta := Lib.hid hta
  have Hx := Lib.hid hx
  clear h hg hcs hta hx hx2 hsrc hone' hsplit hmin
  go_enter Try.func38, Try.ntmps38
  go_wp2_with fail
  refine wp_region_mono (fun b => b = g) (by kernel_rfl) ?_
  -- 0 Op.move (Operand.tmp 0)
  refine wpMono_take' 0 (v := ?_) rfl (by kernel_rfl) (by kernel_rfl) (by kernel_rfl) (fun _ _ _ h => h) (by rfl) ?_ ?_
  rotate_left
  · (intro W hSw; skip
     go_simp; first | done | rfl | (rw [if_pos c1']; rfl) | (rw [if_pos c2']; rfl))
  try simp only [Act.put, List.setIfInBounds_toArray, List.set_cons_zero, List.set_cons_succ]
  (try rw [hwi]); (try rw [hti]); (try rw [hti0]); (try rw [if_neg hne2]); (try rw [if_neg hne1])
  -- 1 Op.move (Operand.tmp 1)
  refine wpMono_take' 1 (v := ?_) rfl (by kernel_rfl) (by kernel_rfl) (by kernel_rfl) (fun _ _ _ h => h) (by rfl) ?_ ?_
  rotate_left
  · (intro W hSw; skip
     go_simp; first | done | rfl | (rw [if_pos c1']; rfl) | (rw [if_pos c2']; rfl))
  try simp only [Act.put, List.setIfInBounds_toArray, List.set_cons_zero, List.set_cons_succ]
  (try rw [hwi]); (try rw [hti]); (try rw [hti0]); (try rw [if_neg hne2]); (try rw [if_neg hne1])
  -- 2 Op.move (Operand.tmp 7)
  refine wpMono_take' 2 (v := ?_) rfl (by kernel_rfl) (by kernel_rfl) (by kernel_rfl) (fun _ _ _ h => h) (by rfl) ?_ ?_
  rotate_left
  · (intro W hSw; skip
     go_simp; first | done | rfl | (rw [if_pos c1']; rfl) | (rw [if_pos c2']; rfl))
  try simp only [Act.put, List.setIfInBounds_toArray, List.set_cons_zero, List.set_cons_succ]
  (try rw [hwi]); (try rw [hti]); (try rw [hti0]); (try rw [if_neg hne2]); (try rw [if_neg hne1])
  -- 3 Op.binOp BinOp.add 3 (Operand.tmp 70) (Operand.tmp 71) 3
  refine wpMono_take' 3 (v := ?_) rfl (by kernel_rfl) (by kernel_rfl) (by kernel_rfl) (fun _ _ _ h => h) (by rfl) ?_ ?_
  rotate_left
  · (intro W hSw; skip
     go_simp; first | done | rfl | (rw [if_pos c1']; rfl) | (rw [if_pos c2']; rfl))
  try simp only [Act.put, List.setIfInBounds_toArray, List.set_cons_zero, List.set_cons_succ]
  (try rw [hwi]); (try rw [hti]); (try rw [hti0]); (try rw [if_neg hne2]); (try rw [if_neg hne1])
  -- 4 Op.slice 25 (Operand.tmp 69) (some (Operand.tmp 72)) none none
  refine wpMono_take' 4 (v := ?_) rfl (by kernel_rfl) (by kernel_rfl) (by kernel_rfl) (fun _ _ _ h => h) (by rfl) ?_ ?_
  rotate_left
  · (intro W hSw; skip
     go_simp; first | done | rfl | (rw [if_pos c1']; rfl) | (rw [if_pos c2']; rfl))
  try simp only [Act.put, List.setIfInBounds_toArray, List.set_cons_zero, List.set_cons_succ]
  (try rw [hwi]); (try rw [hti]); (try rw [hti0]); (try rw [if_neg hne2]); (try rw [if_neg hne1])
  -- 5 Op.move (Operand.tmp 0)
  refine wpMono_take' 5 (v := ?_) rfl (by kernel_rfl) (by kernel_rfl) (by kernel_rfl) (fun _ _ _ h => h) (by rfl) ?_ ?_
  rotate_left
  · (intro W hSw; skip
     go_simp; first | done | rfl | (rw [if_pos c1']; rfl) | (rw [if_pos c2']; rfl))
  try simp only [Act.put, List.setIfInBounds_toArray, List.set_cons_zero, List.set_cons_succ]
  (try rw [hwi]); (try rw [hti]); (try rw [hti0]); (try rw [if_neg hne2]); (try rw [if_neg hne1])
  -- 6 Op.move (Operand.tmp 1)
  refine wpMono_take' 6 (v := ?_) rfl (by kernel_rfl) (by kernel_rfl) (by kernel_rfl) (fun _ _ _ h => h) (by rfl) ?_ ?_
  rotate_left
  · (intro W hSw; skip
     go_simp; first | done | rfl | (rw [if_pos c1']; rfl) | (rw [if_pos c2']; rfl))
  try simp only [Act.put, List.setIfInBounds_toArray, List.set_cons_zero, List.set_cons_succ]
  (try rw [hwi]); (try rw [hti]); (try rw [hti0]); (try rw [if_neg hne2]); (try rw [if_neg hne1])
  -- 7 Op.slice 25 (Operand.tmp 74) (some (Operand.tmp 75)) none none
  refine wpMono_take' 7 (v := ?_) rfl (by kernel_rfl) (by kernel_rfl) (by kernel_rfl) (fun _ _ _ h => h) (by rfl) ?_ ?_
  rotate_left
  · (intro W hSw; skip
     go_simp; first | done | rfl | (rw [if_pos c1']; rfl) | (rw [if_pos c2']; rfl))
  try simp only [Act.put, List.setIfInBounds_toArray, List.set_cons_zero, List.set_cons_succ]
  (try rw [hwi]); (try rw [hti]); (try rw [hti0]); (try rw [if_neg hne2]); (try rw [if_neg hne1])
  -- EFFECT 8 Op.call { callee := Callee.builtin Builtin.copy, args := #[Operand.tmp 73, Operand.tmp 76], argTypes := #[25, 25] }
  refine wpMono_one' 8 (by kernel_rfl) rfl (by rfl) (fun K hK => ?_)
  refine wp_copy_run _ (.tmp 73) (.tmp 76) 25 25 rfl _ _ rfl rfl (HCP.out _ _ _) ?_
  have hk1 : Keeps (· = g) w.drew (w.drew.setRow g (putAt cur.toList ((i + 1) * 10) ((L.drop i).flatMap Wr.cells)).toArray) := setRow_keeps _ _ _
  have hg1 : Blk (w.drew.setRow g (putAt cur.toList ((i + 1) * 10) ((L.drop i).flatMap Wr.cells)).toArray) g 35 _ := setRow_blk _ (show Blk w.drew g 35 cur from Hg.out)
  generalize w.drew.setRow g (putAt cur.toList ((i + 1) * 10) ((L.drop i).flatMap Wr.cells)).toArray = W1 at *
  refine hK.out _ _ ?_ ?_
  · exact hk1
  clear hK K
  try simp only [Act.put, List.setIfInBounds_toArray, List.set_cons_zero, List.set_cons_succ]
  (try rw [hwi]); (try rw [hti]); (try rw [hti0]); (try rw [if_neg hne2]); (try rw [if_neg hne1])
  refine wpMono_done (by kernel_rfl) ?_ _
  obtain ⟨cur1, hcur1⟩ : ∃ cur1, (putAt cur.toList ((i + 1) * 10) ((L.drop i).flatMap Wr.cells)).toArray = cur1 := ⟨_, rfl⟩
  rw [hcur1] at hg1
  have hcl : cur.toList.length = cap * 10 := by rw [Array.length_toList, Hcs.out]
  have hc1l : cur1.toList.length = cap * 10 := by
    rw [← hcur1]
    show (putAt cur.toList ((i + 1) * 10) ((L.drop i).flatMap Wr.cells)).length = _
    rw [putAt_len (by rw [hcl, hld]; omega), hcl]
  have hc1s : cur1.size = cap * 10 := by rw [← Array.length_toList]; exact hc1l
  have hx1 : Blk W1 vb 35 x.cells.toArray := (Hx.out.drew).keeps hk1 (fun e => hvb e)
  have hmin2 : Nat.min 1 (n + 1 - i) = 1 := by simp only [Nat.min_def]; split <;> omega
  have hcp2 := (fun ty dc => run_copy_rows (P := Try.prog) (w := W1) 25 25 ty 35 10 g (i * 10) (n + 1 - i) dc ⟨vb, 0, none⟩ 1 c1 cur1 35 x.cells Try.underlying25 (by rw [hi0]; simp [hz1]) hg1 (by rw [hmin2]; rfl) (fun j u hj => by
    rw [Addr.add_lit, Nat.zero_add, hx1.cell]
    simpa using hj) (by rw [hc1s]; show i * 10 + 10 ≤ cap * 10; omega) (oneW x hone))
  have hk2 : Keeps (· = g) W1 (W1.setRow g (putAt cur1.toList (i * 10) x.cells).toArray) := setRow_keeps _ _ _
  have hg2 : Blk (W1.setRow g (putAt cur1.toList (i * 10) x.cells).toArray) g 35 _ := setRow_blk _ hg1
  obtain ⟨cur2, hcur2⟩ : ∃ cur2, (putAt cur1.toList (i * 10) x.cells).toArray = cur2 := ⟨_, rfl⟩
  rw [hcur2] at hcp2 hk2 hg2
  generalize W1.setRow g cur2 = W2 at *
  have HC1 := Lib.hid hcur1
  have HC2 := Lib.hid hcur2
  have HK1 := Lib.hid hk1
  have HK2 := Lib.hid hk2
  have HG2 := Lib.hid hg2
  clear hk1 hg1 hk2 hg2 hx1 hcur1 hcur2
  go_wp2_with fail
  go_ret
  have hic : (i + 1) * 10 + (n - i) * 10 = (n + 1) * 10 := by omega
  have hli : cur1.toList.take (i * 10) = (L.take i).flatMap Wr.cells := by
    rw [← HC1.out]
    show (putAt cur.toList ((i + 1) * 10) ((L.drop i).flatMap Wr.cells)).take (i * 10) = _
    unfold putAt
    have h3 := congrArg (List.take (i * 10)) Hta.out
    rw [List.take_take, Nat.min_eq_left (by omega)] at h3
    have h4 : L.flatMap Wr.cells = (L.take i).flatMap Wr.cells ++ (L.drop i).flatMap Wr.cells := by rw [← List.flatMap_append, List.take_append_drop]
    rw [List.append_assoc, List.take_append_of_le_length (by rw [List.length_take, hcl]; omega), List.take_take, Nat.min_eq_left (by omega), h3, h4, List.take_left' hlt]
  have hdi : (cur1.toList.drop ((i + 1) * 10)).take ((n - i) * 10) = (L.drop i).flatMap Wr.cells := by
    rw [← HC1.out]
    show ((putAt cur.toList ((i + 1) * 10) ((L.drop i).flatMap Wr.cells)).drop ((i + 1) * 10)).take ((n - i) * 10) = _
    unfold putAt
    rw [List.append_assoc, List.drop_left' (by rw [List.length_take, hcl]; omega), List.take_left' hld]
  refine ⟨_, rfl, ⟨?_, .inr ⟨g, cap, cur2, rfl, hb0, HG2.out, by omega, hcm, ?_, ?_⟩⟩, ?_, .inl rfl⟩
  · rw [len_flat Wr.cells Wr.len]
    simp
    omega
  · rw [← HC2.out]
    show (putAt cur1.toList (i * 10) x.cells).length = _
    rw [putAt_len (by rw [hc1l, Wr.len]; omega), hc1l]
  · rw [← HC2.out]
    show (putAt cur1.toList (i * 10) x.cells).take ((n + 1) * 10) = _
    unfold putAt
    rw [hli, Wr.len, show i * 10 + 10 = (i + 1) * 10 by omega, List.flatMap_append, List.flatMap_cons, ← hdi]
    have e1 : (n + 1) * 10 = ((L.take i).flatMap Wr.cells ++ x.cells).length + (n - i) * 10 := by rw [List.length_append, hlt, Wr.len]; omega
    rw [e1, List.take_length_add_append, List.append_assoc]
  · exact ((Keeps.drew (X := (· = g))).trans (HK1.out.trans HK2.out)).more (fun b _ e => by rw [e]; rfl)
set_option maxRecDepth 100000 in
set_option maxHeartbeats 1600000 in
/-- in the middle, where there is no room -/
theorem insert_grow (g n cap base vb c1 i : Nat) (L : List Wr) (x : Wr) (w : World) (h : w.ownsRow base 35 10 (.slice (some ⟨g, 0, none⟩) n cap) n (L.flatMap Wr.cells)) (hl : L.length = n) (hi : i < n) (hcap : cap ≤ n) (hn : n ≤ 1000000) (hbase : base ≤ w.heap.size)
    (hx : Blk w vb 35 x.cells.toArray) (hone : x.d.oneCell' = true) (hones : ∀ y ∈ L, y.d.oneCell' = true) :
    Calls Try.prog 38 #[.slice (some ⟨g, 0, none⟩) n cap, .int .i64 i, .slice (some ⟨vb, 0, none⟩) 1 c1] w (InsR base i n (.slice (some ⟨g, 0, none⟩) n cap) L x w) := by
  obtain ⟨i0, hi0, hz⟩ := Option.map_eq_some_iff.1 write_info
  simp only [Prod.mk.injEq] at hz
  obtain ⟨hz0, hz1, hz2⟩ := hz
  obtain ⟨cur, hb0, hg, hnc, hcm, hcs, hta⟩ : ∃ cur, base ≤ g ∧ w.heap[g]? = some (.cells cur 35 (0, 0)) ∧ n ≤ cap ∧ cap ≤ maxLen ∧ cur.size = cap * 10 ∧ cur.toList.take (n * 10) = L.flatMap Wr.cells := by
    rcases h.2 with ⟨e, _⟩ | ⟨g', cap', cur, e, h1, h2, h3, h4, h5, h6⟩
    · cases e
    · injection e with e _ ec
      injection e with e
      injection e with e
      subst e ec
      exact ⟨cur, h1, h2, h3, h4, h5, h6⟩
  obtain rfl : n = cap := by omega
  clear hcm hcap hnc
  have hne1 : ¬ n = i := by omega
  have hgl : g < w.heap.size := heap_lt hg
  have hvl : vb < w.heap.size := hx.lt
  have hsplit : L.flatMap Wr.cells = (L.take i).flatMap Wr.cells ++ (L.drop i).flatMap Wr.cells := by rw [← List.flatMap_append, List.take_append_drop]
  have hlt : ((L.take i).flatMap Wr.cells).length = i * 10 := by rw [len_flat Wr.cells Wr.len, List.length_take, Nat.min_eq_left (by omega)]
  have hld : ((L.drop i).flatMap Wr.cells).length = (n - i) * 10 := by rw [len_flat Wr.cells Wr.len, List.length_drop, hl]
  have hone' : ∀ u ∈ (L.drop i).flatMap Wr.cells, u.oneCell' = true := fun u hu => by
    obtain ⟨y, hy, hu⟩ := List.mem_flatMap.1 hu
    exact oneW y (hones y (List.mem_of_mem_drop hy)) u hu
  have hall : ∀ k u, k < n * 10 → (L.flatMap Wr.cells)[k]? = some u → w.cell? ⟨g, k, none⟩ = some u := fun k u hk hu => by
    have hb : Blk w g 35 cur := hg
    rw [← hta, List.getElem?_take_of_lt hk, Array.getElem?_toList] at hu
    rw [hb.cell]
    exact hu
  have HAP := Lib.hid (fun ty => run_append_zeros_grow (P := Try.prog) (w := w) 25 3 ty 35 i0 _ 10 120 .i64 .i64 Try.underlying25 Try.underlying3 hi0 hz0 hz1 hz2 rfl (by decide) ⟨g, 0, none⟩ i n ((L.take i).flatMap Wr.cells) hlt (fun j u hj => by
    have hj2 : j < ((L.take i).flatMap Wr.cells).length := (List.getElem?_eq_some_iff.1 hj).1
    rw [Addr.add_lit, Nat.zero_add]
    refine hall j u (by omega) ?_
    rw [hsplit, List.getElem?_append_left hj2]
    exact hj) (n + 1 - i) (by omega) (by omega) (by unfold maxLen; omega) (by omega))
  have e1 : i + (n + 1 - i) = n + 1 := by omega
  have e2 : ((n + 1 - i : Nat) : Int) = (n : Int) + 1 - (i : Int) := by omega
  have Hg := Lib.hid hg
  have Hall := Lib.hid hall
  have Hx := Lib.hid hx
  clear h hg hcs hta hx hall
  go_enter Try.func38, Try.ntmps38
  go_upto_region 9 with fail
  obtain ⟨c', curz, hap, hczs, hcn, hcm, hcz⟩ := HAP.out 25
  rw [e1, e2] at hap
  have hgW : Blk (w.drew.alloc (.cells curz 35)) w.heap.size 35 curz := heap_alloc_new w.drew _
  have hbW : Below w.heap.size w (w.drew.alloc (.cells curz 35)) := ((Below.refl _ w).drew).trans (below_new w.drew _)
  generalize w.drew.alloc (.cells curz 35) = W1 at *
  have hx1 : Blk W1 vb 35 x.cells.toArray := Hx.out.below hbW hvl
  have hczl : curz.toList.length = c' * 10 := by rw [Array.length_toList, hczs]
  have hmin2 : Nat.min 1 (n + 1 - i) = 1 := by simp only [Nat.min_def]; split <;> omega
  have hcp := (fun ty dc => run_copy_rows (P := Try.prog) (w := W1) 25 25 ty 35 10 w.heap.size (i * 10) (n + 1 - i) dc ⟨vb, 0, none⟩ 1 c1 curz 35 x.cells Try.underlying25 (by rw [hi0]; simp [hz1]) hgW (by rw [hmin2]; rfl) (fun j u hj => by
    rw [Addr.add_lit, Nat.zero_add, hx1.cell]
    simpa using hj) (by rw [hczs]; show i * 10 + 10 ≤ c' * 10; omega) (oneW x hone))
  have hk2 : Keeps (· = w.heap.size) W1 (W1.setRow w.heap.size (putAt curz.toList (i * 10) x.cells).toArray) := setRow_keeps _ _ _
  have hg2 : Blk (W1.setRow w.heap.size (putAt curz.toList (i * 10) x.cells).toArray) w.heap.size 35 _ := setRow_blk _ hgW
  obtain ⟨cur1, hcur1⟩ : ∃ cur1, (putAt curz.toList (i * 10) x.cells).toArray = cur1 := ⟨_, rfl⟩
  rw [hcur1] at hcp hk2 hg2
  generalize W1.setRow w.heap.size cur1 = W2 at *
  have hc1l : cur1.toList.length = c' * 10 := by
    rw [← hcur1]
    show (putAt curz.toList (i * 10) x.cells).length = _
    rw [putAt_len (by rw [hczl, Wr.len]; omega), hczl]
  have hc1s : cur1.size = c' * 10 := by rw [← Array.length_toList]; exact hc1l
  have hbW2 : Below w.heap.size w W2 := hbW.trans (hk2.below (fun b hb e => by omega) hbW.size)
  have hmin3 : Nat.min (n - i) (n - i) = n - i := by simp only [Nat.min_def]; split <;> omega
  have HCP2 := Lib.hid (fun ty dc sc => run_copy_rows (P := Try.prog) (w := W2.drew) 25 25 ty 35 10 w.heap.size ((i + 1) * 10) (n - i) dc ⟨g, i * 10, none⟩ (n - i) sc cur1 35 ((L.drop i).flatMap Wr.cells) Try.underlying25 (by rw [hi0]; simp [hz1]) hg2.drew (by rw [hmin3]; exact hld) (fun j u hj => by
    have hj2 : j < ((L.drop i).flatMap Wr.cells).length := (List.getElem?_eq_some_iff.1 hj).1
    rw [Addr.add_lit, World.cell?_drew, hbW2.cell (p := ⟨g, i * 10 + j, none⟩) hgl]
    refine Hall.out _ u (by omega) ?_
    rw [hsplit, List.getElem?_append_right (by omega), hlt, Nat.add_sub_cancel_left]
    exact hj) (by rw [hc1s, hld]; omega) hone')
  have HAP2 := Lib.hid hap
  have HCZ := Lib.hid hcz
  have HC1 := Lib.hid hcur1
  have HK2 := Lib.hid hk2
  have HBW := Lib.hid hbW
  have HG2 := Lib.hid hg2
  have c1' : 0 ≤ (i : Int) + 1 ∧ (i : Int) + 1 ≤ (n : Int) + 1 := by omega
  have c2' : 0 ≤ (i : Int) ∧ (i : Int) ≤ (n : Int) := by omega
  have hwi : IntKind.i64.wrap ((i : Int) + 1) = (i : Int) + 1 := by rw [IntKind.wrap_i64]; omega
  have hti : ((i : Int) + 1).toNat = i + 1 := by omega
  have hti0 : ((i : Int)).toNat = i := by omega
  have hne2 : ¬ c' = i + 1 := by omega
  have hne3 : ¬ c' = i := by omega
  clear hap HAP hcz hcur1 hk2 hbW hg2 hgW hx1 hbW2 hone'
  go_wp2_with (at_builtin; refine Lib.wpList_append_run _ rfl (.tmp 34) (.tmp 39) 25 3 rfl _ _ rfl rfl _ _ HAP2.out ?_)
  refine wp_region_mono (fun b => b = w.heap.size) (by kernel_rfl) ?_
  -- 0 Op.move (Operand.tmp 9)
  refine wpMono_take' 0 (v := ?_) rfl (by kernel_rfl) (by kernel_rfl) (by kernel_rfl) (fun _ _ _ h => h) (by rfl) ?_ ?_
  rotate_left
  · (intro W hSw; skip
     go_simp; first | done | rfl | (rw [if_pos c1']; rfl) | (rw [if_pos c2']; rfl))
  try simp only [Act.put, List.setIfInBounds_toArray, List.set_cons_zero, List.set_cons_succ]
  (try rw [hwi]); (try rw [hti]); (try rw [hti0]); (try rw [if_neg hne2]); (try rw [if_neg hne1])
  -- 1 Op.move (Operand.tmp 1)
  refine wpMono_take' 1 (v := ?_) rfl (by kernel_rfl) (by kernel_rfl) (by kernel_rfl) (fun _ _ _ h => h) (by rfl) ?_ ?_
  rotate_left
  · (intro W hSw; skip
     go_simp; first | done | rfl | (rw [if_pos c1']; rfl) | (rw [if_pos c2']; rfl))
  try simp only [Act.put, List.setIfInBounds_toArray, List.set_cons_zero, List.set_cons_succ]
  (try rw [hwi]); (try rw [hti]); (try rw [hti0]); (try rw [if_neg hne2]); (try rw [if_neg hne1])
  -- 2 Op.move (Operand.tmp 7)
  refine wpMono_take' 2 (v := ?_) rfl (by kernel_rfl) (by kernel_rfl) (by kernel_rfl) (fun _ _ _ h => h) (by rfl) ?_ ?_
  rotate_left
  · (intro W hSw; skip
     go_simp; first | done | rfl | (rw [if_pos c1']; rfl) | (rw [if_pos c2']; rfl))
  try simp only [Act.put, List.setIfInBounds_toArray, List.set_cons_zero, List.set_cons_succ]
  (try rw [hwi]); (try rw [hti]); (try rw [hti0]); (try rw [if_neg hne2]); (try rw [if_neg hne1])
  -- 3 Op.binOp BinOp.add 3 (Operand.tmp 47) (Operand.tmp 48) 3
  refine wpMono_take' 3 (v := ?_) rfl (by kernel_rfl) (by kernel_rfl) (by kernel_rfl) (fun _ _ _ h => h) (by rfl) ?_ ?_
  rotate_left
  · (intro W hSw; skip
     go_simp; first | done | rfl | (rw [if_pos c1']; rfl) | (rw [if_pos c2']; rfl))
  try simp only [Act.put, List.setIfInBounds_toArray, List.set_cons_zero, List.set_cons_succ]
  (try rw [hwi]); (try rw [hti]); (try rw [hti0]); (try rw [if_neg hne2]); (try rw [if_neg hne1])
  -- 4 Op.slice 25 (Operand.tmp 46) (some (Operand.tmp 49)) none none
  refine wpMono_take' 4 (v := ?_) rfl (by kernel_rfl) (by kernel_rfl) (by kernel_rfl) (fun _ _ _ h => h) (by rfl) ?_ ?_
  rotate_left
  · (intro W hSw; skip
     go_simp; first | done | rfl | (rw [if_pos c1']; rfl) | (rw [if_pos c2']; rfl))
  try simp only [Act.put, List.setIfInBounds_toArray, List.set_cons_zero, List.set_cons_succ]
  (try rw [hwi]); (try rw [hti]); (try rw [hti0]); (try rw [if_neg hne2]); (try rw [if_neg hne1])
  -- 5 Op.move (Operand.tmp 0)
  refine wpMono_take' 5 (v := ?_) rfl (by kernel_rfl) (by kernel_rfl) (by kernel_rfl) (fun _ _ _ h => h) (by rfl) ?_ ?_
  rotate_left
  · (intro W hSw; skip
     go_simp; first | done | rfl | (rw [if_pos c1']; rfl) | (rw [if_pos c2']; rfl))
  try simp only [Act.put, List.setIfInBounds_toArray, List.set_cons_zero, List.set_cons_succ]
  (try rw [hwi]); (try rw [hti]); (try rw [hti0]); (try rw [if_neg hne2]); (try rw [if_neg hne1])
  -- 6 Op.move (Operand.tmp 1)
  refine wpMono_take' 6 (v := ?_) rfl (by kernel_rfl) (by kernel_rfl) (by kernel_rfl) (fun _ _ _ h => h) (by rfl) ?_ ?_
  rotate_left
  · (intro W hSw; skip
     go_simp; first | done | rfl | (rw [if_pos c1']; rfl) | (rw [if_pos c2']; rfl))
  try simp only [Act.put, List.setIfInBounds_toArray, List.set_cons_zero, List.set_cons_succ]
  (try rw [hwi]); (try rw [hti]); (try rw [hti0]); (try rw [if_neg hne2]); (try rw [if_neg hne1])
  -- 7 Op.slice 25 (Operand.tmp 51) (some (Operand.tmp 52)) none none
  refine wpMono_take' 7 (v := ?_) rfl (by kernel_rfl) (by kernel_rfl) (by kernel_rfl) (fun _ _ _ h => h) (by rfl) ?_ ?_
  rotate_left
  · (intro W hSw; skip
     go_simp; first | done | rfl | (rw [if_pos c1']; rfl) | (rw [if_pos c2']; rfl))
  try simp only [Act.put, List.setIfInBounds_toArray, List.set_cons_zero, List.set_cons_succ]
  (try rw [hwi]); (try rw [hti]); (try rw [hti0]); (try rw [if_neg hne2]); (try rw [if_neg hne1])
  -- EFFECT 8 Op.call { callee := Callee.builtin Builtin.copy, args := #[Operand.tmp 50, Operand.tmp 53], argTypes := #[25, 25] }
  refine wpMono_one' 8 (by kernel_rfl) rfl (by rfl) (fun K hK => ?_)
  refine wp_copy_run _ (.tmp 50) (.tmp 53) 25 25 rfl _ _ rfl rfl (HCP2.out _ _ _) ?_
  have hk3 : Keeps (· = w.heap.size) W2.drew (W2.drew.setRow w.heap.size (putAt cur1.toList ((i + 1) * 10) ((L.drop i).flatMap Wr.cells)).toArray) := setRow_keeps _ _ _
  have hg3 : Blk (W2.drew.setRow w.heap.size (putAt cur1.toList ((i + 1) * 10) ((L.drop i).flatMap Wr.cells)).toArray) w.heap.size 35 _ := setRow_blk _ HG2.out.drew
  generalize W2.drew.setRow w.heap.size (putAt cur1.toList ((i + 1) * 10) ((L.drop i).flatMap Wr.cells)).toArray = W3 at *
  refine hK.out _ _ ?_ ?_
  · exact hk3
  clear hK K
  try simp only [Act.put, List.setIfInBounds_toArray, List.set_cons_zero, List.set_cons_succ]
  (try rw [hwi]); (try rw [hti]); (try rw [hti0]); (try rw [if_neg hne2]); (try rw [if_neg hne1])
  refine wpMono_done (by kernel_rfl) ?_ _
  have HK3 := Lib.hid hk3
  have HG3 := Lib.hid hg3
  clear hk3 hg3
  go_wp2_with fail
  go_ret
  have hli : cur1.toList.take ((i + 1) * 10) = (L.take i).flatMap Wr.cells ++ x.cells := by
    rw [← HC1.out]
    show (putAt curz.toList (i * 10) x.cells).take ((i + 1) * 10) = _
    unfold putAt
    rw [HCZ.out, List.take_left' (by rw [List.length_append, hlt, Wr.len]; omega)]
  refine ⟨_, rfl, ⟨?_, .inr ⟨w.heap.size, c', _, rfl, hbase, HG3.out, by omega, hcm, ?_, ?_⟩⟩, ?_, .inr fun b e => ?_⟩
  · rw [len_flat Wr.cells Wr.len]
    simp
    omega
  · rw [List.size_toArray, putAt_len (by rw [hc1l, hld]; omega), hc1l]
  · show (putAt cur1.toList ((i + 1) * 10) ((L.drop i).flatMap Wr.cells)).take ((n + 1) * 10) = _
    unfold putAt
    rw [hli, List.flatMap_append, List.flatMap_cons, List.take_left' (by rw [List.length_append, List.length_append, hlt, hld, Wr.len]; omega), List.append_assoc]
  · exact (Keeps.of_below (HBW.out.trans (((HK2.out.trans (Keeps.drew (X := (· = w.heap.size)))).trans HK3.out).below (fun b hb e => by omega) HBW.out.size)))
  · exact Nat.le_of_eq (Option.some.inj (show some w.heap.size = some b from e))
/-- slices.Insert of one write -/
theorem insert_w (v : Value) (n base vb c1 i : Nat) (L : List Wr) (x : Wr) (w : World) (h : w.ownsRow base 35 10 v n (L.flatMap Wr.cells)) (hl : L.length = n) (hi : i ≤ n) (hn : n ≤ 1000000) (hbase : base ≤ w.heap.size)
    (hx : Blk w vb 35 x.cells.toArray) (hvb : v.ownBlock ≠ some vb) (hone : x.d.oneCell' = true) (hones : ∀ y ∈ L, y.d.oneCell' = true) :
    Calls Try.prog 38 #[v, .int .i64 i, .slice (some ⟨vb, 0, none⟩) 1 c1] w (InsR base i n v L x w) := by
  by_cases he : i = n
  · subst he
    exact insert_end v i base vb c1 L x w h hl hn hbase hx hone
  · obtain ⟨g, cap, rfl⟩ : ∃ g cap, v = .slice (some ⟨g, 0, none⟩) n cap := by
      rcases h.2 with ⟨rfl, h2⟩ | ⟨g, cap, _, rfl, _⟩
      · have := h.1
        rw [h2] at this
        simp at this
        omega
      · exact ⟨g, cap, rfl⟩
    have hvb' : vb ≠ g := fun e => hvb (by rw [e]; rfl)
    rcases Nat.lt_or_ge n cap with hc | hc
    · exact insert_shift g n cap base vb c1 i L x w h hl (by omega) hc hx hvb' hone hones
    · exact insert_grow g n cap base vb c1 i L x w h hl (by omega) hc hn hbase hx hone hones
end Go.Proofs.Ytedkcpncomgboaa.wire
