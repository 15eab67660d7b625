/- What StoreMakes needs: rows as a store has them (rows); the first row that can't be (Wrong). -/
import Derived.Test.YtgfamdakjcjdkaaDoorAsS
import Derived.Test.YtgfamdakjcjdkaaDoorPlayS
namespace Go.Proofs.YtgfamdakjcjdkaaDoor.store
open Go Go.RowKit Go.Proofs.YtgfamdakjcjdkaaDoor.base Go.Proofs.YtgfamdakjcjdkaaDoor.err Go.Proofs.YtgfamdakjcjdkaaDoor.cmp Go.Proofs.YtgfamdakjcjdkaaDoor.above Go.Proofs.YtgfamdakjcjdkaaDoor.law Go.Proofs.YtgfamdakjcjdkaaDoor.merge Go.Proofs.YtgfamdakjcjdkaaDoor.rows Go.Proofs.YtgfamdakjcjdkaaDoor.rowe Go.Proofs.YtgfamdakjcjdkaaDoor.monoj

theorem row_info' : (Tryd.prog.info? 60).map (fun i => (i.zero, i.size, i.bytes)) = some (some (.agg #[.string ⟨#[]⟩, .string ⟨#[]⟩, .int .i64 0, .int .i64 0, .string ⟨#[]⟩, .bool false, .int .i64 0]), 7, 80) := by kernel_rfl
def MakeR (L : List R) (w : World) (e : Ending) (w' : World) : Prop :=
  ∃ v, e = .returned v ∧ w'.ownsRow w.heap.size rowT 7 v L.length (L.flatMap rcells) ∧ Below w.heap.size w w'
set_option maxRecDepth 100000 in
set_option maxHeartbeats 2000000 in
theorem make_any (A : Option Addr) (n c : Nat) (L : List R) (w : World) (hl : L.length = n) (hn : n ≤ 1000000) (hr : Reads w w.heap.size 7 A n (L.flatMap rcells)) :
    Calls Tryd.prog 7 #[.slice A n c] w (MakeR L w) := by
  obtain ⟨i0, hi0, hz0, hz1, hz2⟩ := info_parts row_info'
  have Hi0 := Lib.hid hi0
  have Hz0 := Lib.hid hz0
  have Hz1 := Lib.hid hz1
  have Hz2 := Lib.hid hz2
  have Hl := Lib.hid hl
  have Hr := Lib.hid hr
  clear hl hr
  clear hi0 hz0 hz1 hz2
  generalize hB : w.heap.size = B
  go_enter Tryd.func7, Tryd.ntmps7
  go_wp2
  go_loopw [3, 9] (fun s i wr => ∃ k : Nat, k ≤ n ∧ i = .int .i64 k ∧ wr.ownsRow B rowT 7 s k ((L.take k).flatMap rcells) ∧ Below B w wr ∧ B ≤ wr.heap.size) (fun _ i _ => n - (intOf i).toNat)
  case atStart => exact ⟨0, by omega, rfl, ⟨by simp, .inl ⟨rfl, rfl⟩⟩, Below.refl _ _, by omega⟩
  case round =>
    obtain ⟨k, hk, rfl, i3, i4, i5⟩ := hrel
    obtain ⟨A2, c2, rfl⟩ := ownsRow_slice i3
    by_cases hlt : k < n
    · have htk : L.take (k + 1) = L.take k ++ [L.getD k rZ] := by
        rw [List.take_succ_eq_append_getElem (by rw [Hl.out]; exact hlt), List.getD_eq_getElem?_getD, List.getElem?_eq_getElem (by rw [Hl.out]; exact hlt)]; rfl
      obtain ⟨b, off, rfl, hbb, hc⟩ := row_at (Hr.out.below (by rw [hB]; exact i4)) Hl.out hlt
      have hbl : b < wr.heap.size := by omega
      have hce := seven_of hc
      generalize L.getD k rZ = x at hce htk hc
      obtain ⟨⟨x1, x2⟩, ⟨t, r, v, g, l⟩⟩ := x
      obtain ⟨e0, e1, e2, e3, e4, e5, e6⟩ := hce
      dsimp only at e0 e1 e2 e3 e4 e5 e6
      have Htk := Lib.hid htk
      have hbx := below_new wr (.cells #[.string x1, .string x2, .int .i64 t, .int .i64 r, .string v, .bool g, .int .i64 l] refT)
      have hby := below_alloc hbx (.cells #[.string x1, .string x2, .int .i64 0, .int .i64 0, .string ⟨#[]⟩, .bool false, .int .i64 0] rowT)
      have HBX := Lib.hid ((Blk.new wr refT #[.string x1, .string x2, .int .i64 t, .int .i64 r, .string v, .bool g, .int .i64 l]).alloc (.cells #[.string x1, .string x2, .int .i64 0, .int .i64 0, .string ⟨#[]⟩, .bool false, .int .i64 0] rowT))
      have HC0 := Lib.hid (Blk.newAt (wr.alloc (.cells #[.string x1, .string x2, .int .i64 t, .int .i64 r, .string v, .bool g, .int .i64 l] refT)) rowT #[.string x1, .string x2, .int .i64 0, .int .i64 0, .string ⟨#[]⟩, .bool false, .int .i64 0] (g := wr.heap.size + 1) (by simp))
      have I3 := Lib.hid (own_below i3 hby)
      have I4 := Lib.hid (i4.trans (hby.mono i5))
      have HXA := Lib.hid (show ¬ wr.heap.size = wr.heap.size + 1 by omega)
      have HOB := Lib.hid (show ∀ q, (Value.slice A2 k c2).ownBlock = some q → ¬ q = wr.heap.size + 1 from fun q hq => by have := i3.lt q hq; omega)
      clear i3 i4 htk hc hbx hby
      go_wp2_with fail
      refine wp_region_mono (fun i => i = wr.heap.size + 1) (by kernel_rfl) ?_
      -- 0 Op.fieldAddr 35 (Operand.tmp 5) 2
      refine wpMono_take' 0 (v := ?_) rfl (by kernel_rfl) (by kernel_rfl) (by kernel_rfl) (fun _ _ _ h => h) (by rfl) ?_ ?_
      rotate_left
      · (intro W hSw; (try have hk := HBX.out.drew.keeps hSw HXA.out; try (obtain ⟨d0, d1, d2, d3, d4, d5, d6⟩ := cells7 hk); try (have dl := hk.lt))
         go_simp; first | done | rfl)
      try simp only [Act.put, List.setIfInBounds_toArray, List.set_cons_zero, List.set_cons_succ]
      -- 1 Op.fieldAddr 33 (Operand.tmp 18) 0
      refine wpMono_take' 1 (v := ?_) rfl (by kernel_rfl) (by kernel_rfl) (by kernel_rfl) (fun _ _ _ h => h) (by rfl) ?_ ?_
      rotate_left
      · (intro W hSw; (try have hk := HBX.out.drew.keeps hSw HXA.out; try (obtain ⟨d0, d1, d2, d3, d4, d5, d6⟩ := cells7 hk); try (have dl := hk.lt))
         go_simp; first | done | rfl)
      try simp only [Act.put, List.setIfInBounds_toArray, List.set_cons_zero, List.set_cons_succ]
      -- 2 Op.load 24 (Operand.tmp 19)
      refine wpMono_take' 2 (v := ?_) rfl (by kernel_rfl) (by kernel_rfl) (by kernel_rfl) (fun _ _ _ h => h) (by rfl) ?_ ?_
      rotate_left
      · (intro W hSw; (try have hk := HBX.out.drew.keeps hSw HXA.out; try (obtain ⟨d0, d1, d2, d3, d4, d5, d6⟩ := cells7 hk); try (have dl := hk.lt))
         go_simp; first | done | rfl)
      try simp only [Act.put, List.setIfInBounds_toArray, List.set_cons_zero, List.set_cons_succ]
      -- 3 Op.fieldAddr 35 (Operand.tmp 5) 2
      refine wpMono_take' 3 (v := ?_) rfl (by kernel_rfl) (by kernel_rfl) (by kernel_rfl) (fun _ _ _ h => h) (by rfl) ?_ ?_
      rotate_left
      · (intro W hSw; (try have hk := HBX.out.drew.keeps hSw HXA.out; try (obtain ⟨d0, d1, d2, d3, d4, d5, d6⟩ := cells7 hk); try (have dl := hk.lt))
         go_simp; first | done | rfl)
      try simp only [Act.put, List.setIfInBounds_toArray, List.set_cons_zero, List.set_cons_succ]
      -- 4 Op.fieldAddr 33 (Operand.tmp 21) 1
      refine wpMono_take' 4 (v := ?_) rfl (by kernel_rfl) (by kernel_rfl) (by kernel_rfl) (fun _ _ _ h => h) (by rfl) ?_ ?_
      rotate_left
      · (intro W hSw; (try have hk := HBX.out.drew.keeps hSw HXA.out; try (obtain ⟨d0, d1, d2, d3, d4, d5, d6⟩ := cells7 hk); try (have dl := hk.lt))
         go_simp; first | done | rfl)
      try simp only [Act.put, List.setIfInBounds_toArray, List.set_cons_zero, List.set_cons_succ]
      -- 5 Op.load 9 (Operand.tmp 22)
      refine wpMono_take' 5 (v := ?_) rfl (by kernel_rfl) (by kernel_rfl) (by kernel_rfl) (fun _ _ _ h => h) (by rfl) ?_ ?_
      rotate_left
      · (intro W hSw; (try have hk := HBX.out.drew.keeps hSw HXA.out; try (obtain ⟨d0, d1, d2, d3, d4, d5, d6⟩ := cells7 hk); try (have dl := hk.lt))
         go_simp; first | done | rfl)
      try simp only [Act.put, List.setIfInBounds_toArray, List.set_cons_zero, List.set_cons_succ]
      -- 6 Op.fieldAddr 35 (Operand.tmp 5) 2
      refine wpMono_take' 6 (v := ?_) rfl (by kernel_rfl) (by kernel_rfl) (by kernel_rfl) (fun _ _ _ h => h) (by rfl) ?_ ?_
      rotate_left
      · (intro W hSw; (try have hk := HBX.out.drew.keeps hSw HXA.out; try (obtain ⟨d0, d1, d2, d3, d4, d5, d6⟩ := cells7 hk); try (have dl := hk.lt))
         go_simp; first | done | rfl)
      try simp only [Act.put, List.setIfInBounds_toArray, List.set_cons_zero, List.set_cons_succ]
      -- 7 Op.fieldAddr 33 (Operand.tmp 24) 2
      refine wpMono_take' 7 (v := ?_) rfl (by kernel_rfl) (by kernel_rfl) (by kernel_rfl) (fun _ _ _ h => h) (by rfl) ?_ ?_
      rotate_left
      · (intro W hSw; (try have hk := HBX.out.drew.keeps hSw HXA.out; try (obtain ⟨d0, d1, d2, d3, d4, d5, d6⟩ := cells7 hk); try (have dl := hk.lt))
         go_simp; first | done | rfl)
      try simp only [Act.put, List.setIfInBounds_toArray, List.set_cons_zero, List.set_cons_succ]
      -- 8 Op.load 4 (Operand.tmp 25)
      refine wpMono_take' 8 (v := ?_) rfl (by kernel_rfl) (by kernel_rfl) (by kernel_rfl) (fun _ _ _ h => h) (by rfl) ?_ ?_
      rotate_left
      · (intro W hSw; (try have hk := HBX.out.drew.keeps hSw HXA.out; try (obtain ⟨d0, d1, d2, d3, d4, d5, d6⟩ := cells7 hk); try (have dl := hk.lt))
         go_simp; first | done | rfl)
      try simp only [Act.put, List.setIfInBounds_toArray, List.set_cons_zero, List.set_cons_succ]
      -- 9 Op.fieldAddr 35 (Operand.tmp 5) 2
      refine wpMono_take' 9 (v := ?_) rfl (by kernel_rfl) (by kernel_rfl) (by kernel_rfl) (fun _ _ _ h => h) (by rfl) ?_ ?_
      rotate_left
      · (intro W hSw; (try have hk := HBX.out.drew.keeps hSw HXA.out; try (obtain ⟨d0, d1, d2, d3, d4, d5, d6⟩ := cells7 hk); try (have dl := hk.lt))
         go_simp; first | done | rfl)
      try simp only [Act.put, List.setIfInBounds_toArray, List.set_cons_zero, List.set_cons_succ]
      -- 10 Op.fieldAddr 33 (Operand.tmp 27) 3
      refine wpMono_take' 10 (v := ?_) rfl (by kernel_rfl) (by kernel_rfl) (by kernel_rfl) (fun _ _ _ h => h) (by rfl) ?_ ?_
      rotate_left
      · (intro W hSw; (try have hk := HBX.out.drew.keeps hSw HXA.out; try (obtain ⟨d0, d1, d2, d3, d4, d5, d6⟩ := cells7 hk); try (have dl := hk.lt))
         go_simp; first | done | rfl)
      try simp only [Act.put, List.setIfInBounds_toArray, List.set_cons_zero, List.set_cons_succ]
      -- 11 Op.load 3 (Operand.tmp 28)
      refine wpMono_take' 11 (v := ?_) rfl (by kernel_rfl) (by kernel_rfl) (by kernel_rfl) (fun _ _ _ h => h) (by rfl) ?_ ?_
      rotate_left
      · (intro W hSw; (try have hk := HBX.out.drew.keeps hSw HXA.out; try (obtain ⟨d0, d1, d2, d3, d4, d5, d6⟩ := cells7 hk); try (have dl := hk.lt))
         go_simp; first | done | rfl)
      try simp only [Act.put, List.setIfInBounds_toArray, List.set_cons_zero, List.set_cons_succ]
      -- 12 Op.fieldAddr 60 (Operand.tmp 6) 2
      refine wpMono_take' 12 (v := ?_) rfl (by kernel_rfl) (by kernel_rfl) (by kernel_rfl) (fun _ _ _ h => h) (by rfl) ?_ ?_
      rotate_left
      · (intro W hSw; (try have hk := HBX.out.drew.keeps hSw HXA.out; try (obtain ⟨d0, d1, d2, d3, d4, d5, d6⟩ := cells7 hk); try (have dl := hk.lt))
         go_simp; first | done | rfl)
      try simp only [Act.put, List.setIfInBounds_toArray, List.set_cons_zero, List.set_cons_succ]
      -- 13 Op.fieldAddr 58 (Operand.tmp 30) 0
      refine wpMono_take' 13 (v := ?_) rfl (by kernel_rfl) (by kernel_rfl) (by kernel_rfl) (fun _ _ _ h => h) (by rfl) ?_ ?_
      rotate_left
      · (intro W hSw; (try have hk := HBX.out.drew.keeps hSw HXA.out; try (obtain ⟨d0, d1, d2, d3, d4, d5, d6⟩ := cells7 hk); try (have dl := hk.lt))
         go_simp; first | done | rfl)
      try simp only [Act.put, List.setIfInBounds_toArray, List.set_cons_zero, List.set_cons_succ]
      -- EFFECT 14 Op.store 24 (Operand.tmp 31) (Operand.tmp 20)
      refine wpMono_one' 14 (by kernel_rfl) rfl (by rfl) (fun K hK => ?_)
      refine wp_store_at 24 (.tmp 31) (.tmp 20) rfl (wr.heap.size + 1) 2 [.int .i64 t, .int .i64 r] rfl rfl HC0.out.drew rfl (by simp) rfl (fun w3 hq1 hq2 hq3 => ?_)
      have HC1 := Lib.hid (show Blk w3 (wr.heap.size + 1) rowT #[.string x1, .string x2, .int .i64 t, .int .i64 r, .string ⟨#[]⟩, .bool false, .int .i64 0] from hq1)
      have hc1 := HC1.out
      obtain ⟨k0, k1, k2, k3, k4, k5, k6⟩ := cells7 hc1
      have kl := hc1.lt
      have kf4 := hc1.frozen 4
      have kf5 := hc1.frozen 5
      have kf6 := hc1.frozen 6
      have HQ2 := Lib.hid hq2
      have hz3 := hq3
      clear hq1 hq3 hc1
      refine hK.out _ _ ?_ ?_
      · exact hq2
      clear hK K
      try simp only [Act.put]
      -- 15 Op.fieldAddr 60 (Operand.tmp 6) 2
      refine wpMono_take' 15 (v := ?_) rfl (by kernel_rfl) (by kernel_rfl) (by kernel_rfl) (fun _ _ _ h => h) (by rfl) ?_ ?_
      rotate_left
      · (intro W hSw; (try have hk := HBX.out.drew.keeps hSw HXA.out; try (obtain ⟨d0, d1, d2, d3, d4, d5, d6⟩ := cells7 hk); try (have dl := hk.lt))
         go_simp; first | done | rfl)
      try simp only [Act.put, List.setIfInBounds_toArray, List.set_cons_zero, List.set_cons_succ]
      -- 16 Op.fieldAddr 58 (Operand.tmp 32) 1
      refine wpMono_take' 16 (v := ?_) rfl (by kernel_rfl) (by kernel_rfl) (by kernel_rfl) (fun _ _ _ h => h) (by rfl) ?_ ?_
      rotate_left
      · (intro W hSw; (try have hk := HBX.out.drew.keeps hSw HXA.out; try (obtain ⟨d0, d1, d2, d3, d4, d5, d6⟩ := cells7 hk); try (have dl := hk.lt))
         go_simp; first | done | rfl)
      try simp only [Act.put, List.setIfInBounds_toArray, List.set_cons_zero, List.set_cons_succ]
      -- EFFECT 17 Op.store 9 (Operand.tmp 33) (Operand.tmp 23)
      refine wpMono_one' 17 (by kernel_rfl) rfl (by rfl) (fun K hK => ?_)
      go_simp
      refine hK.out _ _ ?_ ?_
      · exact .set1 _ _ _ _
      clear hK K
      try simp only [Act.put]
      -- 18 Op.fieldAddr 60 (Operand.tmp 6) 2
      refine wpMono_take' 18 (v := ?_) rfl (by kernel_rfl) (by kernel_rfl) (by kernel_rfl) (fun _ _ _ h => h) (by rfl) ?_ ?_
      rotate_left
      · (intro W hSw; (try have hk := HBX.out.drew.keeps hSw HXA.out; try (obtain ⟨d0, d1, d2, d3, d4, d5, d6⟩ := cells7 hk); try (have dl := hk.lt))
         go_simp; first | done | rfl)
      try simp only [Act.put, List.setIfInBounds_toArray, List.set_cons_zero, List.set_cons_succ]
      -- 19 Op.fieldAddr 58 (Operand.tmp 34) 2
      refine wpMono_take' 19 (v := ?_) rfl (by kernel_rfl) (by kernel_rfl) (by kernel_rfl) (fun _ _ _ h => h) (by rfl) ?_ ?_
      rotate_left
      · (intro W hSw; (try have hk := HBX.out.drew.keeps hSw HXA.out; try (obtain ⟨d0, d1, d2, d3, d4, d5, d6⟩ := cells7 hk); try (have dl := hk.lt))
         go_simp; first | done | rfl)
      try simp only [Act.put, List.setIfInBounds_toArray, List.set_cons_zero, List.set_cons_succ]
      -- EFFECT 20 Op.store 4 (Operand.tmp 35) (Operand.tmp 26)
      refine wpMono_one' 20 (by kernel_rfl) rfl (by rfl) (fun K hK => ?_)
      go_simp
      refine hK.out _ _ ?_ ?_
      · exact .set1 _ _ _ _
      clear hK K
      try simp only [Act.put]
      -- 21 Op.fieldAddr 60 (Operand.tmp 6) 2
      refine wpMono_take' 21 (v := ?_) rfl (by kernel_rfl) (by kernel_rfl) (by kernel_rfl) (fun _ _ _ h => h) (by rfl) ?_ ?_
      rotate_left
      · (intro W hSw; (try have hk := HBX.out.drew.keeps hSw HXA.out; try (obtain ⟨d0, d1, d2, d3, d4, d5, d6⟩ := cells7 hk); try (have dl := hk.lt))
         go_simp; first | done | rfl)
      try simp only [Act.put, List.setIfInBounds_toArray, List.set_cons_zero, List.set_cons_succ]
      -- 22 Op.fieldAddr 58 (Operand.tmp 36) 3
      refine wpMono_take' 22 (v := ?_) rfl (by kernel_rfl) (by kernel_rfl) (by kernel_rfl) (fun _ _ _ h => h) (by rfl) ?_ ?_
      rotate_left
      · (intro W hSw; (try have hk := HBX.out.drew.keeps hSw HXA.out; try (obtain ⟨d0, d1, d2, d3, d4, d5, d6⟩ := cells7 hk); try (have dl := hk.lt))
         go_simp; first | done | rfl)
      try simp only [Act.put, List.setIfInBounds_toArray, List.set_cons_zero, List.set_cons_succ]
      -- EFFECT 23 Op.store 3 (Operand.tmp 37) (Operand.tmp 29)
      refine wpMono_one' 23 (by kernel_rfl) rfl (by rfl) (fun K hK => ?_)
      go_simp
      refine hK.out _ _ ?_ ?_
      · exact .set1 _ _ _ _
      clear hK K
      try simp only [Act.put]
      refine wpMono_done (by kernel_rfl) ?_ _
      have hc2 := ((HC1.out.set_ 4 (.string v)).set_ 5 (.bool g)).set_ 6 (.int .i64 l)
      have hk2 := ((HQ2.out.trans (.set1 _ _ 4 (.string v))).trans (.set1 _ _ 5 (.bool g))).trans (.set1 _ _ 6 (.int .i64 l))
      have hi3 := own_keepR (by exact I3.out) hk2 HOB.out
      have hi4 := below_keeps I4.out.drew (by omega) hk2 (fun i hi e => by omega)
      have hz4 : B ≤ (((w3.setCell ⟨wr.heap.size + 1, 4, none⟩ (.string v)).setCell ⟨wr.heap.size + 1, 5, none⟩ (.bool g)).setCell ⟨wr.heap.size + 1, 6, none⟩ (.int .i64 l)).heap.size := by
        have := hk2.size; simp at this ⊢; omega
      generalize (((w3.setCell ⟨wr.heap.size + 1, 4, none⟩ (.string v)).setCell ⟨wr.heap.size + 1, 5, none⟩ (.bool g)).setCell ⟨wr.heap.size + 1, 6, none⟩ (.int .i64 l)) = w4 at *
      have hc3 : Blk w4 (wr.heap.size + 1) rowT #[.string x1, .string x2, .int .i64 t, .int .i64 r, .string v, .bool g, .int .i64 l] := by simpa using hc2
      obtain ⟨m0, m1, m2, m3, m4, m5, m6⟩ := cells7 hc3
      have ml := hc3.lt
      have I34 := Lib.hid hi3
      have I44 := Lib.hid hi4
      clear hc2 hk2 hi3 hi4 hc3 HQ2 HC1 k0 k1 k2 k3 k4 k5 k6 kl kf4 kf5 kf6 hz3
      go_wp2_with (at_builtin; (refine wpList_append_newAt rfl (.tmp 38) (.tmp 40) _ rfl B rowT i0 _ 7 80 Tryd.underlying41 Hi0.out Hz0.out Hz1.out Hz2.out rfl (by decide) _ _ _ rfl I34.out 1 1 w4.heap.size rfl [.string x1, .string x2, .int .i64 t, .int .i64 r, .string v, .bool g, .int .i64 l] rfl rfl (by simp [Value.oneCell']) (by unfold maxLen; omega) (by omega) (by omega) ?_; intro v1 w5 hown1 hbw1 hgr1 hwh1; obtain ⟨A', c', rfl⟩ := ownsRow_slice hown1; have Hown1 := Lib.hid hown1; have Hbw1 := Lib.hid hbw1; clear hown1 hbw1 hgr1 hwh1))
      have hz5 := Hbw1.out.size
      have hB5 := Lib.hid (I44.out.trans Hbw1.out)
      go_roundw
      case rel =>
        refine ⟨k + 1, by omega, by go_num, ?_, hB5.out, by omega⟩
        have := Hown1.out
        rw [Htk.out]
        simpa [rcells, List.flatMap_append] using this
      case measure => simp [intOf]; omega
    · obtain rfl : n = k := by omega
      have HR : Hid (MakeR L w (.returned (.slice A2 n c2)) wr) := Lib.hid (by
        refine ⟨_, rfl, ?_, by rw [hB]; exact i4⟩
        rw [List.take_of_length_le (by rw [Hl.out]; omega)] at i3
        rw [hB, Hl.out]; exact i3)
      clear i3 i4
      go_wp2
      go_ret
      exact HR.out
def WrongR (L : List R) (w : World) (e : Ending) (w' : World) : Prop :=
  (e = .returned (.int .i64 (-1)) ∧ Rising L ∨ ∃ i : Nat, wrongAt L i ∧ Rising (L.take i) ∧ e = .returned (.int .i64 i)) ∧ Below w.heap.size w w'
theorem rising_one (L : List R) : Rising (L.take 1) := by
  cases L with
  | nil => exact List.Pairwise.nil
  | cons a l => exact List.pairwise_singleton _ _
set_option maxRecDepth 100000 in
set_option maxHeartbeats 2000000 in
theorem wrong_any (A : Option Addr) (n c : Nat) (L : List R) (w : World) (hl : L.length = n) (hn : n ≤ 1000000) (hr : Reads w w.heap.size 7 A n (L.flatMap rcells)) :
    Calls Tryd.prog 8 #[.slice A n c] w (WrongR L w) := by
  have Hl := Lib.hid hl
  have Hr := Lib.hid hr
  clear hl hr
  go_enter Tryd.func8, Tryd.ntmps8
  go_wp2
  go_loopw [3] (fun i wr => ∃ k : Nat, 1 ≤ k ∧ k ≤ 1000001 ∧ i = .int .i64 k ∧ Rising (L.take k) ∧ Below w.heap.size w wr) (fun i _ => n - (intOf i).toNat)
  case atStart => exact ⟨1, by omega, by omega, rfl, rising_one L, Below.refl _ _⟩
  case round =>
    obtain ⟨k, hk, hk2, rfl, i1, i2⟩ := hrel
    by_cases hlt : k < n
    · have htk : L.take (k + 1) = L.take k ++ [L.getD k rZ] := by
        rw [List.take_succ_eq_append_getElem (by rw [Hl.out]; exact hlt), List.getD_eq_getElem?_getD, List.getElem?_eq_getElem (by rw [Hl.out]; exact hlt)]; rfl
      obtain ⟨b, off, rfl, hbb, hc⟩ := row_at (Hr.out.below i2) Hl.out hlt
      have hsz := i2.size
      have hbz : b < wr.drew.heap.size := by simp; omega
      obtain ⟨j, hj⟩ : ∃ j, k = j + 1 := ⟨k - 1, by omega⟩
      have hc2 := row_at' (Hr.out.below i2) Hl.out (show j < n by omega)
      have hup := i1
      have hll : (L.take k).length = k := by rw [List.length_take, Hl.out]; omega
      have hlast : (L.take k).getD ((L.take k).length - 1) rZ = L.getD j rZ := by
        rw [hll, hj, Nat.add_sub_cancel, List.getD_eq_getElem?_getD, List.getElem?_take, if_pos (by omega), ← List.getD_eq_getElem?_getD]
      have hwr : ltN (L.getD j rZ).1 (L.getD k rZ).1 = false → wrongAt L k := fun h => ⟨by omega, by rw [Hl.out]; exact hlt, by rw [hj, Nat.add_sub_cancel]; rw [hj] at h; exact h⟩
      have hri : ltN (L.getD j rZ).1 (L.getD k rZ).1 = true → Rising (L.take (k + 1)) := fun h => by
        rw [htk]
        exact rising_snoc hup (rising_last hup (by omega) (by rw [hlast]; exact h))
      generalize L.getD k rZ = x at hc hwr hri
      generalize L.getD j rZ = y at hc2 hwr hri
      have HC := Lib.hid hc
      have HC2 := Lib.hid hc2
      have HWR := Lib.hid hwr
      have HRI := Lib.hid hri
      have HUP := Lib.hid hup
      have I2 := Lib.hid i2
      have Hj := Lib.hid hj
      have hjx : (k : Int) - 1 = (j : Int) := by omega
      have hj0 : (j : Int) < (n : Int) := by omega
      have hwj : IntKind.i64.wrap (j : Int) = (j : Int) := IntWalk.i64_in _ (by omega)
      clear htk hc hc2 hup hll hlast hwr hri i1 i2 hj
      cases hlt2 : ltN y.1 x.1 with
      | true =>
        have HR2 := Lib.hid (HRI.out hlt2)
        go_wp2_with fail
        refine wp_region_mono nobody (by kernel_rfl) ?_
        -- 0 Op.move (Operand.tmp 0)
        refine wpMono_take' 0 (v := ?_) rfl (by kernel_rfl) (by kernel_rfl) (by kernel_rfl) (fun _ _ _ h => h) (by rfl) ?_ ?_
        rotate_left
        · (intro W hSw; skip
           go_simp; first | done | rfl)
        try simp only [Act.put, List.setIfInBounds_toArray, List.set_cons_zero, List.set_cons_succ]
        -- 1 Op.move (Operand.tmp 3)
        refine wpMono_take' 1 (v := ?_) rfl (by kernel_rfl) (by kernel_rfl) (by kernel_rfl) (fun _ _ _ h => h) (by rfl) ?_ ?_
        rotate_left
        · (intro W hSw; skip
           go_simp; first | done | rfl)
        try simp only [Act.put, List.setIfInBounds_toArray, List.set_cons_zero, List.set_cons_succ]
        -- 2 Op.binOp BinOp.sub 3 (Operand.tmp 11) (Operand.const (Value.int IntKind.i64 1)) 3
        refine wpMono_take' 2 (v := ?_) rfl (by kernel_rfl) (by kernel_rfl) (by kernel_rfl) (fun _ _ _ h => h) (by rfl) ?_ ?_
        rotate_left
        · (intro W hSw; skip
           go_simp; first | done | rfl)
        try simp only [Act.put, List.setIfInBounds_toArray, List.set_cons_zero, List.set_cons_succ]
        -- 3 Op.indexAddr 22 (Operand.tmp 10) (Operand.tmp 12)
        refine wpMono_take' 3 (v := ?_) rfl (by kernel_rfl) (by kernel_rfl) (by kernel_rfl) (fun _ _ _ h => h) (by rfl) ?_ ?_
        rotate_left
        · (intro W hSw; skip
           go_simp; first | done | rfl)
        try simp only [Act.put, List.setIfInBounds_toArray, List.set_cons_zero, List.set_cons_succ]
        -- 4 Op.load 35 (Operand.tmp 13)
        refine wpMono_take' 4 (v := ?_) rfl (by kernel_rfl) (by kernel_rfl) (by kernel_rfl) (fun _ _ _ h => h) (by rfl) ?_ ?_
        rotate_left
        · (intro W hSw; first | (((first | (refine exec_load 35 (.tmp 13) ?_ b (off + j * 7) (rcells y) ?_ Tryd.underlying35 rfl (by rw [rlen]; kernel_rfl) (fun q u hq => (hSw.cells b _ hbz).trans (HC2.out q u hq)) <;> rfl) | (refine exec_load 35 (.tmp 17) ?_ b (off + k * 7) (rcells x) ?_ Tryd.underlying35 rfl (by rw [rlen]; kernel_rfl) (fun q u hq => (hSw.cells b _ hbz).trans (HC.out q u hq)) <;> rfl)))) | (skip; go_simp; done) | (skip; go_simp; rfl))
        try simp only [Act.put, List.setIfInBounds_toArray, List.set_cons_zero, List.set_cons_succ]
        -- 5 Op.move (Operand.tmp 0)
        refine wpMono_take' 5 (v := ?_) rfl (by kernel_rfl) (by kernel_rfl) (by kernel_rfl) (fun _ _ _ h => h) (by rfl) ?_ ?_
        rotate_left
        · (intro W hSw; skip
           go_simp; first | done | rfl)
        try simp only [Act.put, List.setIfInBounds_toArray, List.set_cons_zero, List.set_cons_succ]
        -- 6 Op.move (Operand.tmp 3)
        refine wpMono_take' 6 (v := ?_) rfl (by kernel_rfl) (by kernel_rfl) (by kernel_rfl) (fun _ _ _ h => h) (by rfl) ?_ ?_
        rotate_left
        · (intro W hSw; skip
           go_simp; first | done | rfl)
        try simp only [Act.put, List.setIfInBounds_toArray, List.set_cons_zero, List.set_cons_succ]
        -- 7 Op.indexAddr 22 (Operand.tmp 15) (Operand.tmp 16)
        refine wpMono_take' 7 (v := ?_) rfl (by kernel_rfl) (by kernel_rfl) (by kernel_rfl) (fun _ _ _ h => h) (by rfl) ?_ ?_
        rotate_left
        · (intro W hSw; skip
           go_simp; first | done | rfl)
        try simp only [Act.put, List.setIfInBounds_toArray, List.set_cons_zero, List.set_cons_succ]
        -- 8 Op.load 35 (Operand.tmp 17)
        refine wpMono_take' 8 (v := ?_) rfl (by kernel_rfl) (by kernel_rfl) (by kernel_rfl) (fun _ _ _ h => h) (by rfl) ?_ ?_
        rotate_left
        · (intro W hSw; first | (((first | (refine exec_load 35 (.tmp 13) ?_ b (off + j * 7) (rcells y) ?_ Tryd.underlying35 rfl (by rw [rlen]; kernel_rfl) (fun q u hq => (hSw.cells b _ hbz).trans (HC2.out q u hq)) <;> rfl) | (refine exec_load 35 (.tmp 17) ?_ b (off + k * 7) (rcells x) ?_ Tryd.underlying35 rfl (by rw [rlen]; kernel_rfl) (fun q u hq => (hSw.cells b _ hbz).trans (HC.out q u hq)) <;> rfl)))) | (skip; go_simp; done) | (skip; go_simp; rfl))
        try simp only [Act.put, List.setIfInBounds_toArray, List.set_cons_zero, List.set_cons_succ]
        -- EFFECT 9 Op.call { callee := Callee.value (Operand.func 19), args := #[Operand.tmp 14, Operand.tmp 18], argTypes := #[35, 35] }
        refine wpMono_one' 9 (by kernel_rfl) rfl (by rfl) (fun K hK => ?_)
        go_simp
        refine (below_ref y x _).mono ?_
        rintro e w5 ⟨rfl, hb5⟩
        have HB5 := Lib.hid hb5
        clear hb5
        refine hK.out _ _ ?_ ?_
        · exact .of_below HB5.out
        clear hK K
        -- 10 Op.unOp UnOp.not 4 (Operand.tmp 19)
        refine wpMono_take' 10 (v := ?_) rfl (by kernel_rfl) (by kernel_rfl) (by kernel_rfl) (fun _ _ _ h => h) (by rfl) ?_ ?_
        rotate_left
        · (intro W hSw; skip
           go_simp; first | done | rfl)
        try simp only [Act.put, List.setIfInBounds_toArray, List.set_cons_zero, List.set_cons_succ]
        refine wpMono_done (by kernel_rfl) ?_ _
        rw [hlt2]
        have HB6 := Lib.hid (I2.out.drew.trans (HB5.out.mono hsz))
        clear hwj hjx
        go_wp2
        go_roundw
        case rel => exact ⟨k + 1, by omega, by omega, by go_num, HR2.out, HB6.out⟩
        case measure => simp [intOf]; omega
      | false =>
        have HW2 := Lib.hid (HWR.out hlt2)
        go_wp2_with fail
        refine wp_region_mono nobody (by kernel_rfl) ?_
        -- 0 Op.move (Operand.tmp 0)
        refine wpMono_take' 0 (v := ?_) rfl (by kernel_rfl) (by kernel_rfl) (by kernel_rfl) (fun _ _ _ h => h) (by rfl) ?_ ?_
        rotate_left
        · (intro W hSw; skip
           go_simp; first | done | rfl)
        try simp only [Act.put, List.setIfInBounds_toArray, List.set_cons_zero, List.set_cons_succ]
        -- 1 Op.move (Operand.tmp 3)
        refine wpMono_take' 1 (v := ?_) rfl (by kernel_rfl) (by kernel_rfl) (by kernel_rfl) (fun _ _ _ h => h) (by rfl) ?_ ?_
        rotate_left
        · (intro W hSw; skip
           go_simp; first | done | rfl)
        try simp only [Act.put, List.setIfInBounds_toArray, List.set_cons_zero, List.set_cons_succ]
        -- 2 Op.binOp BinOp.sub 3 (Operand.tmp 11) (Operand.const (Value.int IntKind.i64 1)) 3
        refine wpMono_take' 2 (v := ?_) rfl (by kernel_rfl) (by kernel_rfl) (by kernel_rfl) (fun _ _ _ h => h) (by rfl) ?_ ?_
        rotate_left
        · (intro W hSw; skip
           go_simp; first | done | rfl)
        try simp only [Act.put, List.setIfInBounds_toArray, List.set_cons_zero, List.set_cons_succ]
        -- 3 Op.indexAddr 22 (Operand.tmp 10) (Operand.tmp 12)
        refine wpMono_take' 3 (v := ?_) rfl (by kernel_rfl) (by kernel_rfl) (by kernel_rfl) (fun _ _ _ h => h) (by rfl) ?_ ?_
        rotate_left
        · (intro W hSw; skip
           go_simp; first | done | rfl)
        try simp only [Act.put, List.setIfInBounds_toArray, List.set_cons_zero, List.set_cons_succ]
        -- 4 Op.load 35 (Operand.tmp 13)
        refine wpMono_take' 4 (v := ?_) rfl (by kernel_rfl) (by kernel_rfl) (by kernel_rfl) (fun _ _ _ h => h) (by rfl) ?_ ?_
        rotate_left
        · (intro W hSw; first | (((first | (refine exec_load 35 (.tmp 13) ?_ b (off + j * 7) (rcells y) ?_ Tryd.underlying35 rfl (by rw [rlen]; kernel_rfl) (fun q u hq => (hSw.cells b _ hbz).trans (HC2.out q u hq)) <;> rfl) | (refine exec_load 35 (.tmp 17) ?_ b (off + k * 7) (rcells x) ?_ Tryd.underlying35 rfl (by rw [rlen]; kernel_rfl) (fun q u hq => (hSw.cells b _ hbz).trans (HC.out q u hq)) <;> rfl)))) | (skip; go_simp; done) | (skip; go_simp; rfl))
        try simp only [Act.put, List.setIfInBounds_toArray, List.set_cons_zero, List.set_cons_succ]
        -- 5 Op.move (Operand.tmp 0)
        refine wpMono_take' 5 (v := ?_) rfl (by kernel_rfl) (by kernel_rfl) (by kernel_rfl) (fun _ _ _ h => h) (by rfl) ?_ ?_
        rotate_left
        · (intro W hSw; skip
           go_simp; first | done | rfl)
        try simp only [Act.put, List.setIfInBounds_toArray, List.set_cons_zero, List.set_cons_succ]
        -- 6 Op.move (Operand.tmp 3)
        refine wpMono_take' 6 (v := ?_) rfl (by kernel_rfl) (by kernel_rfl) (by kernel_rfl) (fun _ _ _ h => h) (by rfl) ?_ ?_
        rotate_left
        · (intro W hSw; skip
           go_simp; first | done | rfl)
        try simp only [Act.put, List.setIfInBounds_toArray, List.set_cons_zero, List.set_cons_succ]
        -- 7 Op.indexAddr 22 (Operand.tmp 15) (Operand.tmp 16)
        refine wpMono_take' 7 (v := ?_) rfl (by kernel_rfl) (by kernel_rfl) (by kernel_rfl) (fun _ _ _ h => h) (by rfl) ?_ ?_
        rotate_left
        · (intro W hSw; skip
           go_simp; first | done | rfl)
        try simp only [Act.put, List.setIfInBounds_toArray, List.set_cons_zero, List.set_cons_succ]
        -- 8 Op.load 35 (Operand.tmp 17)
        refine wpMono_take' 8 (v := ?_) rfl (by kernel_rfl) (by kernel_rfl) (by kernel_rfl) (fun _ _ _ h => h) (by rfl) ?_ ?_
        rotate_left
        · (intro W hSw; first | (((first | (refine exec_load 35 (.tmp 13) ?_ b (off + j * 7) (rcells y) ?_ Tryd.underlying35 rfl (by rw [rlen]; kernel_rfl) (fun q u hq => (hSw.cells b _ hbz).trans (HC2.out q u hq)) <;> rfl) | (refine exec_load 35 (.tmp 17) ?_ b (off + k * 7) (rcells x) ?_ Tryd.underlying35 rfl (by rw [rlen]; kernel_rfl) (fun q u hq => (hSw.cells b _ hbz).trans (HC.out q u hq)) <;> rfl)))) | (skip; go_simp; done) | (skip; go_simp; rfl))
        try simp only [Act.put, List.setIfInBounds_toArray, List.set_cons_zero, List.set_cons_succ]
        -- EFFECT 9 Op.call { callee := Callee.value (Operand.func 19), args := #[Operand.tmp 14, Operand.tmp 18], argTypes := #[35, 35] }
        refine wpMono_one' 9 (by kernel_rfl) rfl (by rfl) (fun K hK => ?_)
        go_simp
        refine (below_ref y x _).mono ?_
        rintro e w5 ⟨rfl, hb5⟩
        have HB5 := Lib.hid hb5
        clear hb5
        refine hK.out _ _ ?_ ?_
        · exact .of_below HB5.out
        clear hK K
        -- 10 Op.unOp UnOp.not 4 (Operand.tmp 19)
        refine wpMono_take' 10 (v := ?_) rfl (by kernel_rfl) (by kernel_rfl) (by kernel_rfl) (fun _ _ _ h => h) (by rfl) ?_ ?_
        rotate_left
        · (intro W hSw; skip
           go_simp; first | done | rfl)
        try simp only [Act.put, List.setIfInBounds_toArray, List.set_cons_zero, List.set_cons_succ]
        refine wpMono_done (by kernel_rfl) ?_ _
        rw [hlt2]
        have HR := Lib.hid (show WrongR L w (.returned (.int .i64 k)) w5 from ⟨.inr ⟨k, HW2.out, HUP.out, rfl⟩, I2.out.drew.trans (HB5.out.mono hsz)⟩)
        clear hwj hjx
        go_wp2
        go_ret
        exact HR.out
    · have HR := Lib.hid (show WrongR L w (.returned (.int .i64 (-1))) wr from ⟨.inl ⟨rfl, by rw [List.take_of_length_le (by rw [Hl.out]; omega)] at i1; exact i1⟩, i2⟩)
      clear i1 i2
      go_wp2
      go_ret
      exact HR.out
end Go.Proofs.YtgfamdakjcjdkaaDoor.store
