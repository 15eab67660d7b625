/- The document's SameVec, SameWrite and SameWrites: lists that are alike are found alike. -/
import Derived.Test.YtedkcpncomgboaaOwnI
namespace Go.Proofs.Ytedkcpncomgboaa.dep
open Go Go.RowKit Go.Proofs.Ytedkcpncomgboaa.base Go.Proofs.Ytedkcpncomgboaa.rowe Go.Proofs.Ytedkcpncomgboaa.err Go.Proofs.Ytedkcpncomgboaa.wire

set_option maxRecDepth 10000 in
theorem same_vec (d1 d2 : Value) (zs : List Int) (w : World) (h1 : Nums w w.heap.size d1 zs) (h2 : Nums w w.heap.size d2 zs) :
    Calls Try.prog 19 #[d1, d2] w fun e w' => e = .returned (.bool true) ∧ Below w.heap.size w w' := by
  obtain ⟨A1, m1, c1, rfl, hl1, hm, hr1⟩ := h1
  obtain ⟨A2, m2, c2, rfl, hl2, _, hr2⟩ := h2
  obtain rfl : m1 = m2 := hl1.symm.trans hl2
  unfold maxLen at hm
  have Hr1 := Lib.hid hr1
  have Hr2 := Lib.hid hr2
  have Hl1 := Lib.hid hl1
  clear hr1 hr2 hl1
  clear hl2
  have d0 : ((m1 : Int) != (m1 : Int)) = false := by simp
  go_enter Try.func19, Try.ntmps19
  go_wp2
  go_loopw [5] (fun i wr' => ∃ k : Nat, k ≤ m1 ∧ i = .int .i64 k ∧ Below w.heap.size w wr') (fun i _ => m1 - (intOf i).toNat)
  case atStart => exact ⟨0, by omega, rfl, Below.refl _ _⟩
  case round =>
    obtain ⟨k, hk, rfl, hb⟩ := hrel
    by_cases hlt : k < m1
    · obtain ⟨b1, o1, rfl, hb1⟩ := Hr1.out.at_some (by omega)
      obtain ⟨b2, o2, rfl, hb2⟩ := Hr2.out.at_some (by omega)
      have q1 := (Hr1.out.below hb).int hlt
      have q2 := (Hr2.out.below hb).int hlt
      have hsz := hb.size
      have hb1' : b1 < wr.heap.size := by omega
      have hb2' : b2 < wr.heap.size := by omega
      have hkk : (k : Int) < (m1 : Int) := by omega
      generalize zs.getD k 0 = y at *
      have Hb := Lib.hid hb
      clear hb
      go_wp2_with fail
      refine wp_region_mono nobody (by kernel_rfl) ?_
      -- 0 Op.move (Operand.tmp 0)
      refine wpMono_take' 0 (v := ?_) rfl (by kernel_rfl) (by kernel_rfl) (by kernel_rfl) (fun _ _ _ h => h) (by rfl) ?_ ?_
      rotate_left
      · (intro W hSw; have hcW := hSw.cells; try simp only [World.size_drew, World.cell?_drew] at hcW
         go_simp; first | done | rfl)
      try simp only [Act.put, List.setIfInBounds_toArray, List.set_cons_zero, List.set_cons_succ]
      -- 1 Op.move (Operand.tmp 5)
      refine wpMono_take' 1 (v := ?_) rfl (by kernel_rfl) (by kernel_rfl) (by kernel_rfl) (fun _ _ _ h => h) (by rfl) ?_ ?_
      rotate_left
      · (intro W hSw; have hcW := hSw.cells; try simp only [World.size_drew, World.cell?_drew] at hcW
         go_simp; first | done | rfl)
      try simp only [Act.put, List.setIfInBounds_toArray, List.set_cons_zero, List.set_cons_succ]
      -- 2 Op.indexAddr 26 (Operand.tmp 17) (Operand.tmp 18)
      refine wpMono_take' 2 (v := ?_) rfl (by kernel_rfl) (by kernel_rfl) (by kernel_rfl) (fun _ _ _ h => h) (by rfl) ?_ ?_
      rotate_left
      · (intro W hSw; have hcW := hSw.cells; try simp only [World.size_drew, World.cell?_drew] at hcW
         go_simp; first | done | rfl)
      try simp only [Act.put, List.setIfInBounds_toArray, List.set_cons_zero, List.set_cons_succ]
      -- 3 Op.load 3 (Operand.tmp 19)
      refine wpMono_take' 3 (v := ?_) rfl (by kernel_rfl) (by kernel_rfl) (by kernel_rfl) (fun _ _ _ h => h) (by rfl) ?_ ?_
      rotate_left
      · (intro W hSw; have hcW := hSw.cells; try simp only [World.size_drew, World.cell?_drew] at hcW
         go_simp; first | done | rfl)
      try simp only [Act.put, List.setIfInBounds_toArray, List.set_cons_zero, List.set_cons_succ]
      -- 4 Op.move (Operand.tmp 1)
      refine wpMono_take' 4 (v := ?_) rfl (by kernel_rfl) (by kernel_rfl) (by kernel_rfl) (fun _ _ _ h => h) (by rfl) ?_ ?_
      rotate_left
      · (intro W hSw; have hcW := hSw.cells; try simp only [World.size_drew, World.cell?_drew] at hcW
         go_simp; first | done | rfl)
      try simp only [Act.put, List.setIfInBounds_toArray, List.set_cons_zero, List.set_cons_succ]
      -- 5 Op.move (Operand.tmp 5)
      refine wpMono_take' 5 (v := ?_) rfl (by kernel_rfl) (by kernel_rfl) (by kernel_rfl) (fun _ _ _ h => h) (by rfl) ?_ ?_
      rotate_left
      · (intro W hSw; have hcW := hSw.cells; try simp only [World.size_drew, World.cell?_drew] at hcW
         go_simp; first | done | rfl)
      try simp only [Act.put, List.setIfInBounds_toArray, List.set_cons_zero, List.set_cons_succ]
      -- 6 Op.indexAddr 26 (Operand.tmp 21) (Operand.tmp 22)
      refine wpMono_take' 6 (v := ?_) rfl (by kernel_rfl) (by kernel_rfl) (by kernel_rfl) (fun _ _ _ h => h) (by rfl) ?_ ?_
      rotate_left
      · (intro W hSw; have hcW := hSw.cells; try simp only [World.size_drew, World.cell?_drew] at hcW
         go_simp; first | done | rfl)
      try simp only [Act.put, List.setIfInBounds_toArray, List.set_cons_zero, List.set_cons_succ]
      -- 7 Op.load 3 (Operand.tmp 23)
      refine wpMono_take' 7 (v := ?_) rfl (by kernel_rfl) (by kernel_rfl) (by kernel_rfl) (fun _ _ _ h => h) (by rfl) ?_ ?_
      rotate_left
      · (intro W hSw; have hcW := hSw.cells; try simp only [World.size_drew, World.cell?_drew] at hcW
         go_simp; first | done | rfl)
      try simp only [Act.put, List.setIfInBounds_toArray, List.set_cons_zero, List.set_cons_succ]
      -- 8 Op.binOp BinOp.neq 3 (Operand.tmp 20) (Operand.tmp 24) 3
      refine wpMono_take' 8 (v := ?_) rfl (by kernel_rfl) (by kernel_rfl) (by kernel_rfl) (fun _ _ _ h => h) (by rfl) ?_ ?_
      rotate_left
      · (intro W hSw; have hcW := hSw.cells; try simp only [World.size_drew, World.cell?_drew] at hcW
         go_simp; first | done | rfl)
      try simp only [Act.put, List.setIfInBounds_toArray, List.set_cons_zero, List.set_cons_succ]
      refine wpMono_done (by kernel_rfl) ?_ _
      go_wp2_with fail
      go_roundw
      case rel => exact ⟨k + 1, by omega, by go_num, Hb.out.drew⟩
      case measure => simp [intOf]; omega
    · obtain rfl : m1 = k := by omega
      have d1 : decide ((m1 : Int) < (m1 : Int)) = false := by simp
      have Hb := Lib.hid hb
      clear hb
      go_wp2_with fail
      go_ret
      exact ⟨rfl, Hb.out⟩
set_option maxRecDepth 100000 in
set_option maxHeartbeats 1000000 in
theorem same_write (x y : Wr) (w : World) (hx : Nums w w.heap.size x.d x.z) (hy : Nums w w.heap.size y.d y.z) (h : x.abs = y.abs) :
    Calls Try.prog 51 #[.agg ⟨x.cells⟩, .agg ⟨y.cells⟩] w fun e w' => e = .returned (.bool true) ∧ Below w.heap.size w w' := by
  obtain ⟨r, n, t, s, d, zs, se, k, v, g, l⟩ := x
  obtain ⟨r2, n2, t2, s2, d2, zs2, se2, kk2, v2, g2, l2⟩ := y
  simp only [Wr.abs, Wr.mk.injEq] at h
  obtain ⟨rfl, rfl, rfl, rfl, _, rfl, rfl, rfl, rfl, rfl, rfl⟩ := h
  dsimp only at hx hy
  have hb := below_alloc (below_new w (.cells (Wr.cells ⟨r, n, t, s, d, zs, se, k, v, g, l⟩).toArray 35)) (.cells (Wr.cells ⟨r, n, t, s, d2, zs, se, k, v, g, l⟩).toArray 35)
  have HX := Lib.hid ((hx.below hb).more hb.size)
  have HY := Lib.hid ((hy.below hb).more hb.size)
  have HB := Lib.hid hb
  clear hx hy hb
  unfold Wr.cells at *
  dsimp only at *
  go_enter Try.func51, Try.ntmps51
  go_wp2_with (go_at_call 19; refine (same_vec d d2 zs _ HX.out HY.out).mono ?_; rintro e w1 ⟨rfl, hb1⟩; have hxw := ((Blk.new w 35 #[.int .i64 r, .int .i64 n, .int .i64 t, .int .i64 s, d, .string se, .string k, .string v, .bool g, .int .i64 l]).alloc (.cells #[.int .i64 r, .int .i64 n, .int .i64 t, .int .i64 s, d2, .string se, .string k, .string v, .bool g, .int .i64 l] 35)).below hb1 (by simp <;> omega); have hyw := (Blk.newAt (w.alloc (.cells #[.int .i64 r, .int .i64 n, .int .i64 t, .int .i64 s, d, .string se, .string k, .string v, .bool g, .int .i64 l] 35)) 35 #[.int .i64 r, .int .i64 n, .int .i64 t, .int .i64 s, d2, .string se, .string k, .string v, .bool g, .int .i64 l] (g := w.heap.size + 1) (by simp)).below hb1 (by simp); have e5 := hxw.cell 5; have e6 := hxw.cell 6; have e7 := hxw.cell 7; have e8 := hxw.cell 8; have e9 := hxw.cell 9; have j5 := hyw.cell 5; have j6 := hyw.cell 6; have j7 := hyw.cell 7; have j8 := hyw.cell 8; have j9 := hyw.cell 9; have HBB := Lib.hid (HB.out.trans (hb1.mono HB.out.size)); clear hxw hyw hb1; simp at e5 e6 e7 e8 e9 j5 j6 j7 j8 j9)
  go_ret
  exact ⟨rfl, HBB.out⟩
theorem elem_at {w : World} {B b off m : Nat} {L : List Wr} (h : Reads w B 10 (some ⟨b, off, none⟩) m (L.flatMap Wr.cells)) {k : Nat} (hk : k < m) (hl : L.length = m) : ∀ i v, (L[k]'(by omega)).cells[i]? = some v → w.cell? ⟨b, off + k * 10 + i, none⟩ = some v := fun i v hi => by
  have hi2 : i < 10 := by
    rcases Nat.lt_or_ge i 10 with h | h
    · exact h
    · rw [List.getElem?_eq_none (by rw [Wr.len]; exact h)] at hi; cases hi
  exact (Reads.thing Wr.cells Wr.len h (k := k) (x := L[k]'(by omega)) hk (List.getElem?_eq_getElem (by omega)) i hi2).trans hi
theorem ten_at {w : World} {b o : Nat} {x : Wr} (h : ∀ i v, x.cells[i]? = some v → w.cell? ⟨b, o + i, none⟩ = some v) :
    w.cell? ⟨b, o, none⟩ = some (.int .i64 x.r) ∧ w.cell? ⟨b, o + 1, none⟩ = some (.int .i64 x.n) ∧ w.cell? ⟨b, o + 2, none⟩ = some (.int .i64 x.t) ∧ w.cell? ⟨b, o + 3, none⟩ = some (.int .i64 x.s) ∧ w.cell? ⟨b, o + 4, none⟩ = some x.d ∧
    w.cell? ⟨b, o + 5, none⟩ = some (.string x.se) ∧ w.cell? ⟨b, o + 6, none⟩ = some (.string x.k) ∧ w.cell? ⟨b, o + 7, none⟩ = some (.string x.v) ∧ w.cell? ⟨b, o + 8, none⟩ = some (.bool x.g) ∧ w.cell? ⟨b, o + 9, none⟩ = some (.int .i64 x.l) :=
  ⟨h 0 _ rfl, h 1 _ rfl, h 2 _ rfl, h 3 _ rfl, h 4 _ rfl, h 5 _ rfl, h 6 _ rfl, h 7 _ rfl, h 8 _ rfl, h 9 _ rfl⟩
set_option maxRecDepth 100000 in
set_option maxHeartbeats 2000000 in
theorem same_writes (v1 v2 : Value) (L1 L2 : List Wr) (w : World) (h1 : RW w v1 L1) (h2 : RW w v2 L2) (h : L1.map Wr.abs = L2.map Wr.abs) :
    Calls Try.prog 26 #[v1, v2] w fun e w' => e = .returned (.bool true) ∧ Below w.heap.size w w' := by
  obtain ⟨A1, c1, rfl, hm, _, hr1, hn1⟩ := h1
  obtain ⟨A2, c2, rfl, _, _, hr2, hn2⟩ := h2
  have hll : L2.length = L1.length := by have := congrArg List.length h; simpa using this.symm
  obtain ⟨m, hml⟩ : ∃ m, L1.length = m := ⟨_, rfl⟩
  rw [hml] at hll hr1 hm ⊢
  rw [hll] at hr2 ⊢
  have Hl1 := Lib.hid hml
  have Hl2 := Lib.hid hll
  have Hh := Lib.hid h
  have Hr1 := Lib.hid hr1
  have Hr2 := Lib.hid hr2
  clear hr1 hr2
  have Hn1 := Lib.hid hn1
  have Hn2 := Lib.hid hn2
  clear hn1 hn2 hml hll h
  have d0 : ((m : Int) != (m : Int)) = false := by simp
  go_enter Try.func26, Try.ntmps26
  go_wp2
  go_loopw [5] (fun i wr' => ∃ k : Nat, k ≤ m ∧ i = .int .i64 k ∧ Below w.heap.size w wr') (fun i _ => m - (intOf i).toNat)
  case atStart => exact ⟨0, by omega, rfl, Below.refl _ _⟩
  case round =>
    obtain ⟨k, hk, rfl, hb⟩ := hrel
    by_cases hlt : k < m
    · obtain ⟨b1, o1, rfl, hb1⟩ := Hr1.out.at_some (by omega)
      obtain ⟨b2, o2, rfl, hb2⟩ := Hr2.out.at_some (by omega)
      have hk1 : k < L1.length := by rw [Hl1.out]; exact hlt
      have hk2 : k < L2.length := by rw [Hl2.out]; exact hlt
      obtain ⟨e0, e1, e2, e3, e4, e5, e6, e7, e8, e9⟩ := ten_at (elem_at (Hr1.out.below hb) hlt Hl1.out)
      obtain ⟨j0, j1, j2, j3, j4, j5, j6, j7, j8, j9⟩ := ten_at (elem_at (Hr2.out.below hb) hlt Hl2.out)
      have hx1 := (Hn1.out _ (List.getElem_mem hk1)).1
      have hx2 := (Hn2.out _ (List.getElem_mem hk2)).1
      have hab : (L1[k]).abs = (L2[k]).abs := by
        have h1 := congrArg (fun l => l[k]?) Hh.out
        simp only [List.getElem?_map, List.getElem?_eq_getElem hk1, List.getElem?_eq_getElem hk2, Option.map_some] at h1
        injection h1
      generalize L1[k] = x at *
      generalize L2[k] = y at *
      have hsz := hb.size
      have hb1' : b1 < wr.heap.size := by omega
      have hb2' : b2 < wr.heap.size := by omega
      have hkk : (k : Int) < (m : Int) := by omega
      have Hb := Lib.hid hb
      have HX1 := Lib.hid (show Nums wr.drew wr.drew.heap.size x.d x.z from (hx1.below hb).more hsz)
      have HX2 := Lib.hid (show Nums wr.drew wr.drew.heap.size y.d y.z from (hx2.below hb).more hsz)
      have Hab := Lib.hid hab
      clear hb hx1 hx2 hab
      obtain ⟨r, n, t, s, d, zs, se, kk, v, g, l⟩ := x
      obtain ⟨r2, n2, t2, s2, d2, zs2, se2, kk2, v2, g2, l2⟩ := y
      dsimp only at e0 e1 e2 e3 e4 e5 e6 e7 e8 e9 j0 j1 j2 j3 j4 j5 j6 j7 j8 j9
      go_wp2_with fail
      refine wp_region_mono nobody (by kernel_rfl) ?_
      -- 0 Op.move (Operand.tmp 0)
      refine wpMono_take' 0 (v := ?_) rfl (by kernel_rfl) (by kernel_rfl) (by kernel_rfl) (fun _ _ _ h => h) (by rfl) ?_ ?_
      rotate_left
      · (intro W hSw; have hcW := hSw.cells; try simp only [World.size_drew, World.cell?_drew] at hcW
         go_simp; first | done | rfl)
      try simp only [Act.put, List.setIfInBounds_toArray, List.set_cons_zero, List.set_cons_succ]
      -- 1 Op.move (Operand.tmp 5)
      refine wpMono_take' 1 (v := ?_) rfl (by kernel_rfl) (by kernel_rfl) (by kernel_rfl) (fun _ _ _ h => h) (by rfl) ?_ ?_
      rotate_left
      · (intro W hSw; have hcW := hSw.cells; try simp only [World.size_drew, World.cell?_drew] at hcW
         go_simp; first | done | rfl)
      try simp only [Act.put, List.setIfInBounds_toArray, List.set_cons_zero, List.set_cons_succ]
      -- 2 Op.indexAddr 25 (Operand.tmp 17) (Operand.tmp 18)
      refine wpMono_take' 2 (v := ?_) rfl (by kernel_rfl) (by kernel_rfl) (by kernel_rfl) (fun _ _ _ h => h) (by rfl) ?_ ?_
      rotate_left
      · (intro W hSw; have hcW := hSw.cells; try simp only [World.size_drew, World.cell?_drew] at hcW
         go_simp; first | done | rfl)
      try simp only [Act.put, List.setIfInBounds_toArray, List.set_cons_zero, List.set_cons_succ]
      -- 3 Op.load 35 (Operand.tmp 19)
      refine wpMono_take' 3 (v := ?_) rfl (by kernel_rfl) (by kernel_rfl) (by kernel_rfl) (fun _ _ _ h => h) (by rfl) ?_ ?_
      rotate_left
      · (intro W hSw; have hcW := hSw.cells; try simp only [World.size_drew, World.cell?_drew] at hcW
         go_simp; first | done | rfl)
      try simp only [Act.put, List.setIfInBounds_toArray, List.set_cons_zero, List.set_cons_succ]
      -- 4 Op.move (Operand.tmp 1)
      refine wpMono_take' 4 (v := ?_) rfl (by kernel_rfl) (by kernel_rfl) (by kernel_rfl) (fun _ _ _ h => h) (by rfl) ?_ ?_
      rotate_left
      · (intro W hSw; have hcW := hSw.cells; try simp only [World.size_drew, World.cell?_drew] at hcW
         go_simp; first | done | rfl)
      try simp only [Act.put, List.setIfInBounds_toArray, List.set_cons_zero, List.set_cons_succ]
      -- 5 Op.move (Operand.tmp 5)
      refine wpMono_take' 5 (v := ?_) rfl (by kernel_rfl) (by kernel_rfl) (by kernel_rfl) (fun _ _ _ h => h) (by rfl) ?_ ?_
      rotate_left
      · (intro W hSw; have hcW := hSw.cells; try simp only [World.size_drew, World.cell?_drew] at hcW
         go_simp; first | done | rfl)
      try simp only [Act.put, List.setIfInBounds_toArray, List.set_cons_zero, List.set_cons_succ]
      -- 6 Op.indexAddr 25 (Operand.tmp 21) (Operand.tmp 22)
      refine wpMono_take' 6 (v := ?_) rfl (by kernel_rfl) (by kernel_rfl) (by kernel_rfl) (fun _ _ _ h => h) (by rfl) ?_ ?_
      rotate_left
      · (intro W hSw; have hcW := hSw.cells; try simp only [World.size_drew, World.cell?_drew] at hcW
         go_simp; first | done | rfl)
      try simp only [Act.put, List.setIfInBounds_toArray, List.set_cons_zero, List.set_cons_succ]
      -- 7 Op.load 35 (Operand.tmp 23)
      refine wpMono_take' 7 (v := ?_) rfl (by kernel_rfl) (by kernel_rfl) (by kernel_rfl) (fun _ _ _ h => h) (by rfl) ?_ ?_
      rotate_left
      · (intro W hSw; have hcW := hSw.cells; try simp only [World.size_drew, World.cell?_drew] at hcW
         go_simp; first | done | rfl)
      try simp only [Act.put, List.setIfInBounds_toArray, List.set_cons_zero, List.set_cons_succ]
      -- EFFECT 8 Op.call { callee := Callee.value (Operand.func 51), args := #[Operand.tmp 20, Operand.tmp 24], argTypes := #[35, 35] }
      refine wpMono_one' 8 (by kernel_rfl) rfl (by rfl) (fun K hK => ?_)
      go_simp
      refine (same_write ⟨r, n, t, s, d, zs, se, kk, v, g, l⟩ ⟨r2, n2, t2, s2, d2, zs2, se2, kk2, v2, g2, l2⟩ _ HX1.out HX2.out Hab.out).mono ?_
      rintro e w5 ⟨rfl, hb5⟩
      have HB5 := Lib.hid (Hb.out.drew.trans (hb5.mono Hb.out.size))
      refine hK.out _ _ ?_ ?_
      · exact .of_below hb5
      clear hK K
      try simp only [Act.put, List.setIfInBounds_toArray, List.set_cons_zero, List.set_cons_succ]
      -- 9 Op.unOp UnOp.not 4 (Operand.tmp 25)
      refine wpMono_take' 9 (v := ?_) rfl (by kernel_rfl) (by kernel_rfl) (by kernel_rfl) (fun _ _ _ h => h) (by rfl) ?_ ?_
      rotate_left
      · (intro W hSw; have hcW := hSw.cells; try simp only [World.size_drew, World.cell?_drew] at hcW
         go_simp; first | done | rfl)
      try simp only [Act.put, List.setIfInBounds_toArray, List.set_cons_zero, List.set_cons_succ]
      refine wpMono_done (by kernel_rfl) ?_ _
      clear hb5
      go_wp2_with fail
      go_roundw
      case rel => exact ⟨k + 1, by omega, by go_num, HB5.out⟩
      case measure => simp [intOf]; omega
    · obtain rfl : m = k := by omega
      have d1 : decide ((m : Int) < (m : Int)) = false := by simp
      have Hb := Lib.hid hb
      clear hb
      go_wp2_with fail
      go_ret
      exact ⟨rfl, Hb.out⟩
end Go.Proofs.Ytedkcpncomgboaa.dep
