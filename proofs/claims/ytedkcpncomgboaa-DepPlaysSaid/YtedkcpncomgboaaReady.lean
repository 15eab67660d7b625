/- Inbox.ready: can a write be shown? -/
import Derived.Test.YtedkcpncomgboaaSearchW
import Derived.Test.YtedkcpncomgboaaVec
namespace Go.Proofs.Ytedkcpncomgboaa.dep
open Go Go.RowKit Go.Proofs.Ytedkcpncomgboaa.base Go.Proofs.Ytedkcpncomgboaa.rowe Go.Proofs.Ytedkcpncomgboaa.wire Go.Proofs.Ytedkcpncomgboaa.vec

def readyB (ap : List Int) (x : Wr) : Bool := decide (atV ap x.r = x.n - 1) && coversB ap x.z
set_option maxRecDepth 100000 in
set_option maxHeartbeats 1600000 in
theorem ready_any (g : Nat) (rg : Int) (A : Option Addr) (n c : Nat) (ap : List Int) (vw : Value) (x : Wr) (A2 : Option Addr) (n2 c2 : Nat) (w : World) (hb : Blk w g 76 #[.int .i64 rg, .slice A n c, vw])
    (ha : Vec w w.heap.size A n c ap) (hd : x.d = .slice A2 n2 c2) (hx : Vec w w.heap.size A2 n2 c2 x.z) (h1 : n ≤ 1000000) (h2 : n2 ≤ 1000000) (hr : 1 ≤ x.r ∧ x.r ≤ 16) (hn : 1 ≤ x.n ∧ x.n ≤ 1099511627776) :
    Calls Try.prog 37 #[.pointer (some ⟨g, 0, none⟩), .agg ⟨x.cells⟩] w fun e w' => e = .returned (.bool (readyB ap x)) ∧ Below w.heap.size w w' := by
  obtain ⟨r, nn, t, s, d, zs, se, k, v, gn, l⟩ := x
  dsimp only at hd hx hr hn
  subst hd
  unfold readyB Wr.cells
  dsimp only
  have hb0 := below_new w (.cells #[.int .i64 r, .int .i64 nn, .int .i64 t, .int .i64 s, .slice A2 n2 c2, .string se, .string k, .string v, .bool gn, .int .i64 l] 35)
  have HB := Lib.hid (hb.below hb0 hb.lt)
  have HXX := Lib.hid (Blk.new w 35 #[.int .i64 r, .int .i64 nn, .int .i64 t, .int .i64 s, .slice A2 n2 c2, .string se, .string k, .string v, .bool gn, .int .i64 l])
  have HA := Lib.hid ((ha.below hb0).more hb0.size)
  have HX := Lib.hid ((hx.below hb0).more hb0.size)
  have HB0 := Lib.hid hb0
  clear hb ha hx hb0
  go_enter Try.func37, Try.ntmps37
  go_wp2_with fail
  generalize w.alloc (.cells #[.int .i64 r, .int .i64 nn, .int .i64 t, .int .i64 s, .slice A2 n2 c2, .string se, .string k, .string v, .bool gn, .int .i64 l] 35) = V at *
  have hw1 : IntKind.i64.wrap (nn - 1) = nn - 1 := by rw [IntKind.wrap_i64]; omega
  by_cases hq : atV ap r = nn - 1
  · have dq : (atV ap r == nn - 1) = true := by simpa using hq
    refine wp_region_mono nobody (by kernel_rfl) ?_
    -- 0 Op.move (Operand.tmp 0)
    refine wpMono_take' 0 (v := ?_) rfl (by kernel_rfl) (by kernel_rfl) (by kernel_rfl) (fun _ _ _ h => h) (by rfl) ?_ ?_
    rotate_left
    · (intro W hSw; try (have hg := HB.out.drew.keeps hSw (fun h => h); have hx := HXX.out.drew.keeps hSw (fun h => h); have k1 := hg.cell 1; have x0 := hx.cell 0; have x1 := hx.cell 1; have x4 := hx.cell 4; have hl := hg.lt; have hl2 := hx.lt; simp at k1 x0 x1 x4)
       go_simp; first | done | rfl)
    try simp only [Act.put, List.setIfInBounds_toArray, List.set_cons_zero, List.set_cons_succ]
    (try rw [hw1]); (try rw [dq])
    -- 1 Op.nilCheck (Operand.tmp 5)
    refine wpMono_take' 1 (v := ?_) rfl (by kernel_rfl) (by kernel_rfl) (by kernel_rfl) (fun _ _ _ h => h) (by rfl) ?_ ?_
    rotate_left
    · (intro W hSw; try (have hg := HB.out.drew.keeps hSw (fun h => h); have hx := HXX.out.drew.keeps hSw (fun h => h); have k1 := hg.cell 1; have x0 := hx.cell 0; have x1 := hx.cell 1; have x4 := hx.cell 4; have hl := hg.lt; have hl2 := hx.lt; simp at k1 x0 x1 x4)
       go_simp; first | done | rfl)
    try simp only [Act.put, List.setIfInBounds_toArray, List.set_cons_zero, List.set_cons_succ]
    (try rw [hw1]); (try rw [dq])
    -- 2 Op.fieldAddr 76 (Operand.tmp 6) 1
    refine wpMono_take' 2 (v := ?_) rfl (by kernel_rfl) (by kernel_rfl) (by kernel_rfl) (fun _ _ _ h => h) (by rfl) ?_ ?_
    rotate_left
    · (intro W hSw; try (have hg := HB.out.drew.keeps hSw (fun h => h); have hx := HXX.out.drew.keeps hSw (fun h => h); have k1 := hg.cell 1; have x0 := hx.cell 0; have x1 := hx.cell 1; have x4 := hx.cell 4; have hl := hg.lt; have hl2 := hx.lt; simp at k1 x0 x1 x4)
       go_simp; first | done | rfl)
    try simp only [Act.put, List.setIfInBounds_toArray, List.set_cons_zero, List.set_cons_succ]
    (try rw [hw1]); (try rw [dq])
    -- 3 Op.load 33 (Operand.tmp 7)
    refine wpMono_take' 3 (v := ?_) rfl (by kernel_rfl) (by kernel_rfl) (by kernel_rfl) (fun _ _ _ h => h) (by rfl) ?_ ?_
    rotate_left
    · (intro W hSw; try (have hg := HB.out.drew.keeps hSw (fun h => h); have hx := HXX.out.drew.keeps hSw (fun h => h); have k1 := hg.cell 1; have x0 := hx.cell 0; have x1 := hx.cell 1; have x4 := hx.cell 4; have hl := hg.lt; have hl2 := hx.lt; simp at k1 x0 x1 x4)
       go_simp; first | done | rfl)
    try simp only [Act.put, List.setIfInBounds_toArray, List.set_cons_zero, List.set_cons_succ]
    (try rw [hw1]); (try rw [dq])
    -- 4 Op.fieldAddr 35 (Operand.tmp 3) 0
    refine wpMono_take' 4 (v := ?_) rfl (by kernel_rfl) (by kernel_rfl) (by kernel_rfl) (fun _ _ _ h => h) (by rfl) ?_ ?_
    rotate_left
    · (intro W hSw; try (have hg := HB.out.drew.keeps hSw (fun h => h); have hx := HXX.out.drew.keeps hSw (fun h => h); have k1 := hg.cell 1; have x0 := hx.cell 0; have x1 := hx.cell 1; have x4 := hx.cell 4; have hl := hg.lt; have hl2 := hx.lt; simp at k1 x0 x1 x4)
       go_simp; first | done | rfl)
    try simp only [Act.put, List.setIfInBounds_toArray, List.set_cons_zero, List.set_cons_succ]
    (try rw [hw1]); (try rw [dq])
    -- 5 Op.load 3 (Operand.tmp 9)
    refine wpMono_take' 5 (v := ?_) rfl (by kernel_rfl) (by kernel_rfl) (by kernel_rfl) (fun _ _ _ h => h) (by rfl) ?_ ?_
    rotate_left
    · (intro W hSw; try (have hg := HB.out.drew.keeps hSw (fun h => h); have hx := HXX.out.drew.keeps hSw (fun h => h); have k1 := hg.cell 1; have x0 := hx.cell 0; have x1 := hx.cell 1; have x4 := hx.cell 4; have hl := hg.lt; have hl2 := hx.lt; simp at k1 x0 x1 x4)
       go_simp; first | done | rfl)
    try simp only [Act.put, List.setIfInBounds_toArray, List.set_cons_zero, List.set_cons_succ]
    (try rw [hw1]); (try rw [dq])
    -- 7 Op.fieldAddr 35 (Operand.tmp 3) 1
    refine wpMono_take' 7 (v := ?_) rfl (by kernel_rfl) (by kernel_rfl) (by kernel_rfl) (fun _ _ _ h => h) (by rfl) ?_ ?_
    rotate_left
    · (intro W hSw; try (have hg := HB.out.drew.keeps hSw (fun h => h); have hx := HXX.out.drew.keeps hSw (fun h => h); have k1 := hg.cell 1; have x0 := hx.cell 0; have x1 := hx.cell 1; have x4 := hx.cell 4; have hl := hg.lt; have hl2 := hx.lt; simp at k1 x0 x1 x4)
       go_simp; first | done | rfl)
    try simp only [Act.put, List.setIfInBounds_toArray, List.set_cons_zero, List.set_cons_succ]
    (try rw [hw1]); (try rw [dq])
    -- 8 Op.load 3 (Operand.tmp 12)
    refine wpMono_take' 8 (v := ?_) rfl (by kernel_rfl) (by kernel_rfl) (by kernel_rfl) (fun _ _ _ h => h) (by rfl) ?_ ?_
    rotate_left
    · (intro W hSw; try (have hg := HB.out.drew.keeps hSw (fun h => h); have hx := HXX.out.drew.keeps hSw (fun h => h); have k1 := hg.cell 1; have x0 := hx.cell 0; have x1 := hx.cell 1; have x4 := hx.cell 4; have hl := hg.lt; have hl2 := hx.lt; simp at k1 x0 x1 x4)
       go_simp; first | done | rfl)
    try simp only [Act.put, List.setIfInBounds_toArray, List.set_cons_zero, List.set_cons_succ]
    (try rw [hw1]); (try rw [dq])
    -- 9 Op.binOp BinOp.sub 3 (Operand.tmp 13) (Operand.const (Value.int IntKind.i64 1)) 3
    refine wpMono_take' 9 (v := ?_) rfl (by kernel_rfl) (by kernel_rfl) (by kernel_rfl) (fun _ _ _ h => h) (by rfl) ?_ ?_
    rotate_left
    · (intro W hSw; try (have hg := HB.out.drew.keeps hSw (fun h => h); have hx := HXX.out.drew.keeps hSw (fun h => h); have k1 := hg.cell 1; have x0 := hx.cell 0; have x1 := hx.cell 1; have x4 := hx.cell 4; have hl := hg.lt; have hl2 := hx.lt; simp at k1 x0 x1 x4)
       go_simp; first | done | rfl)
    try simp only [Act.put, List.setIfInBounds_toArray, List.set_cons_zero, List.set_cons_succ]
    (try rw [hw1]); (try rw [dq])
    -- EFFECT 6 Op.call { callee := Callee.value (Operand.func 36), args := #[Operand.tmp 8, Operand.tmp 10], argTypes := #[33, 3] }
    refine wpMono_one' 6 (by kernel_rfl) rfl (by rfl) (fun K hK => ?_)
    go_simp
    refine (at_any A n c ap r _ _ (HA.out.below (Below.refl _ _).drew) (by omega)).mono ?_
    rintro e w1 ⟨rfl, rfl⟩
    refine hK.out _ _ ?_ ?_
    · exact Keeps.refl _ _
    clear hK K
    try simp only [Act.put, List.setIfInBounds_toArray, List.set_cons_zero, List.set_cons_succ]
    (try rw [hw1]); (try rw [dq])
    -- 10 Op.binOp BinOp.eql 3 (Operand.tmp 11) (Operand.tmp 14) 3
    refine wpMono_take' 10 (v := ?_) rfl (by kernel_rfl) (by kernel_rfl) (by kernel_rfl) (fun _ _ _ h => h) (by rfl) ?_ ?_
    rotate_left
    · (intro W hSw; try (have hg := HB.out.drew.keeps hSw (fun h => h); have hx := HXX.out.drew.keeps hSw (fun h => h); have k1 := hg.cell 1; have x0 := hx.cell 0; have x1 := hx.cell 1; have x4 := hx.cell 4; have hl := hg.lt; have hl2 := hx.lt; simp at k1 x0 x1 x4)
       go_simp; first | done | rfl)
    try simp only [Act.put, List.setIfInBounds_toArray, List.set_cons_zero, List.set_cons_succ]
    (try rw [hw1]); (try rw [dq])
    -- 11 Op.move (Operand.tmp 15)
    refine wpMono_take' 11 (v := ?_) rfl (by kernel_rfl) (by kernel_rfl) (by kernel_rfl) (fun _ _ _ h => h) (by rfl) ?_ ?_
    rotate_left
    · (intro W hSw; try (have hg := HB.out.drew.keeps hSw (fun h => h); have hx := HXX.out.drew.keeps hSw (fun h => h); have k1 := hg.cell 1; have x0 := hx.cell 0; have x1 := hx.cell 1; have x4 := hx.cell 4; have hl := hg.lt; have hl2 := hx.lt; simp at k1 x0 x1 x4)
       go_simp; first | done | rfl)
    try simp only [Act.put, List.setIfInBounds_toArray, List.set_cons_zero, List.set_cons_succ]
    (try rw [hw1]); (try rw [dq])
    -- 12 Op.move (Operand.tmp 0)
    refine wpMono_take' 12 (v := ?_) rfl (by kernel_rfl) (by kernel_rfl) (by kernel_rfl) (fun _ _ _ h => h) (by rfl) ?_ ?_
    rotate_left
    · (intro W hSw; try (have hg := HB.out.drew.keeps hSw (fun h => h); have hx := HXX.out.drew.keeps hSw (fun h => h); have k1 := hg.cell 1; have x0 := hx.cell 0; have x1 := hx.cell 1; have x4 := hx.cell 4; have hl := hg.lt; have hl2 := hx.lt; simp at k1 x0 x1 x4)
       go_simp; first | done | rfl)
    try simp only [Act.put, List.setIfInBounds_toArray, List.set_cons_zero, List.set_cons_succ]
    (try rw [hw1]); (try rw [dq])
    -- 13 Op.nilCheck (Operand.tmp 17)
    refine wpMono_take' 13 (v := ?_) rfl (by kernel_rfl) (by kernel_rfl) (by kernel_rfl) (fun _ _ _ h => h) (by rfl) ?_ ?_
    rotate_left
    · (intro W hSw; try (have hg := HB.out.drew.keeps hSw (fun h => h); have hx := HXX.out.drew.keeps hSw (fun h => h); have k1 := hg.cell 1; have x0 := hx.cell 0; have x1 := hx.cell 1; have x4 := hx.cell 4; have hl := hg.lt; have hl2 := hx.lt; simp at k1 x0 x1 x4)
       go_simp; first | done | rfl)
    try simp only [Act.put, List.setIfInBounds_toArray, List.set_cons_zero, List.set_cons_succ]
    (try rw [hw1]); (try rw [dq])
    -- 14 Op.fieldAddr 76 (Operand.tmp 18) 1
    refine wpMono_take' 14 (v := ?_) rfl (by kernel_rfl) (by kernel_rfl) (by kernel_rfl) (fun _ _ _ h => h) (by rfl) ?_ ?_
    rotate_left
    · (intro W hSw; try (have hg := HB.out.drew.keeps hSw (fun h => h); have hx := HXX.out.drew.keeps hSw (fun h => h); have k1 := hg.cell 1; have x0 := hx.cell 0; have x1 := hx.cell 1; have x4 := hx.cell 4; have hl := hg.lt; have hl2 := hx.lt; simp at k1 x0 x1 x4)
       go_simp; first | done | rfl)
    try simp only [Act.put, List.setIfInBounds_toArray, List.set_cons_zero, List.set_cons_succ]
    (try rw [hw1]); (try rw [dq])
    -- 15 Op.load 33 (Operand.tmp 19)
    refine wpMono_take' 15 (v := ?_) rfl (by kernel_rfl) (by kernel_rfl) (by kernel_rfl) (fun _ _ _ h => h) (by rfl) ?_ ?_
    rotate_left
    · (intro W hSw; try (have hg := HB.out.drew.keeps hSw (fun h => h); have hx := HXX.out.drew.keeps hSw (fun h => h); have k1 := hg.cell 1; have x0 := hx.cell 0; have x1 := hx.cell 1; have x4 := hx.cell 4; have hl := hg.lt; have hl2 := hx.lt; simp at k1 x0 x1 x4)
       go_simp; first | done | rfl)
    try simp only [Act.put, List.setIfInBounds_toArray, List.set_cons_zero, List.set_cons_succ]
    (try rw [hw1]); (try rw [dq])
    -- 16 Op.fieldAddr 35 (Operand.tmp 3) 3
    refine wpMono_take' 16 (v := ?_) rfl (by kernel_rfl) (by kernel_rfl) (by kernel_rfl) (fun _ _ _ h => h) (by rfl) ?_ ?_
    rotate_left
    · (intro W hSw; try (have hg := HB.out.drew.keeps hSw (fun h => h); have hx := HXX.out.drew.keeps hSw (fun h => h); have k1 := hg.cell 1; have x0 := hx.cell 0; have x1 := hx.cell 1; have x4 := hx.cell 4; have hl := hg.lt; have hl2 := hx.lt; simp at k1 x0 x1 x4)
       go_simp; first | done | rfl)
    try simp only [Act.put, List.setIfInBounds_toArray, List.set_cons_zero, List.set_cons_succ]
    (try rw [hw1]); (try rw [dq])
    -- 17 Op.load 33 (Operand.tmp 21)
    refine wpMono_take' 17 (v := ?_) rfl (by kernel_rfl) (by kernel_rfl) (by kernel_rfl) (fun _ _ _ h => h) (by rfl) ?_ ?_
    rotate_left
    · (intro W hSw; try (have hg := HB.out.drew.keeps hSw (fun h => h); have hx := HXX.out.drew.keeps hSw (fun h => h); have k1 := hg.cell 1; have x0 := hx.cell 0; have x1 := hx.cell 1; have x4 := hx.cell 4; have hl := hg.lt; have hl2 := hx.lt; simp at k1 x0 x1 x4)
       go_simp; first | done | rfl)
    try simp only [Act.put, List.setIfInBounds_toArray, List.set_cons_zero, List.set_cons_succ]
    (try rw [hw1]); (try rw [dq])
    -- EFFECT 18 Op.call { callee := Callee.value (Operand.func 43), args := #[Operand.tmp 20, Operand.tmp 22], argTypes := #[33, 33] }
    refine wpMono_one' 18 (by kernel_rfl) rfl (by rfl) (fun K hK => ?_)
    go_simp
    refine (covers_any A n c ap A2 n2 c2 zs _ _ (HA.out.below (Below.refl _ _).drew) (HX.out.below (Below.refl _ _).drew) h1 h2).mono ?_
    rintro e w1 ⟨rfl, rfl⟩
    refine hK.out _ _ ?_ ?_
    · exact Keeps.refl _ _
    clear hK K
    try simp only [Act.put, List.setIfInBounds_toArray, List.set_cons_zero, List.set_cons_succ]
    (try rw [hw1]); (try rw [dq])
    -- 19 Op.pick (Operand.tmp 16) (Operand.tmp 23) (Operand.const (Value.bool false))
    refine wpMono_take' 19 (v := ?_) rfl (by kernel_rfl) (by kernel_rfl) (by kernel_rfl) (fun _ _ _ h => h) (by rfl) ?_ ?_
    rotate_left
    · (intro W hSw; try (have hg := HB.out.drew.keeps hSw (fun h => h); have hx := HXX.out.drew.keeps hSw (fun h => h); have k1 := hg.cell 1; have x0 := hx.cell 0; have x1 := hx.cell 1; have x4 := hx.cell 4; have hl := hg.lt; have hl2 := hx.lt; simp at k1 x0 x1 x4)
       go_simp; first | done | rfl)
    try simp only [Act.put, List.setIfInBounds_toArray, List.set_cons_zero, List.set_cons_succ]
    (try rw [hw1]); (try rw [dq])
    -- 20 Op.assign (Operand.tmp 24)
    refine wpMono_take' 20 (v := ?_) rfl (by kernel_rfl) (by kernel_rfl) (by kernel_rfl) (fun _ _ _ h => h) (by rfl) ?_ ?_
    rotate_left
    · (intro W hSw; try (have hg := HB.out.drew.keeps hSw (fun h => h); have hx := HXX.out.drew.keeps hSw (fun h => h); have k1 := hg.cell 1; have x0 := hx.cell 0; have x1 := hx.cell 1; have x4 := hx.cell 4; have hl := hg.lt; have hl2 := hx.lt; simp at k1 x0 x1 x4)
       go_simp; first | done | rfl)
    try simp only [Act.put, List.setIfInBounds_toArray, List.set_cons_zero, List.set_cons_succ]
    (try rw [hw1]); (try rw [dq])
    refine wpMono_done (by kernel_rfl) ?_ _
    go_wp2_with fail
    go_ret
    exact ⟨by rw [decide_eq_true hq, Bool.true_and]; rfl, HB0.out.trans (((Below.refl _ V).drew).mono HB0.out.size)⟩
  · have dq : (atV ap r == nn - 1) = false := by simpa using hq
    refine wp_region_mono nobody (by kernel_rfl) ?_
    -- 0 Op.move (Operand.tmp 0)
    refine wpMono_take' 0 (v := ?_) rfl (by kernel_rfl) (by kernel_rfl) (by kernel_rfl) (fun _ _ _ h => h) (by rfl) ?_ ?_
    rotate_left
    · (intro W hSw; try (have hg := HB.out.drew.keeps hSw (fun h => h); have hx := HXX.out.drew.keeps hSw (fun h => h); have k1 := hg.cell 1; have x0 := hx.cell 0; have x1 := hx.cell 1; have x4 := hx.cell 4; have hl := hg.lt; have hl2 := hx.lt; simp at k1 x0 x1 x4)
       go_simp; first | done | rfl)
    try simp only [Act.put, List.setIfInBounds_toArray, List.set_cons_zero, List.set_cons_succ]
    (try rw [hw1]); (try rw [dq])
    -- 1 Op.nilCheck (Operand.tmp 5)
    refine wpMono_take' 1 (v := ?_) rfl (by kernel_rfl) (by kernel_rfl) (by kernel_rfl) (fun _ _ _ h => h) (by rfl) ?_ ?_
    rotate_left
    · (intro W hSw; try (have hg := HB.out.drew.keeps hSw (fun h => h); have hx := HXX.out.drew.keeps hSw (fun h => h); have k1 := hg.cell 1; have x0 := hx.cell 0; have x1 := hx.cell 1; have x4 := hx.cell 4; have hl := hg.lt; have hl2 := hx.lt; simp at k1 x0 x1 x4)
       go_simp; first | done | rfl)
    try simp only [Act.put, List.setIfInBounds_toArray, List.set_cons_zero, List.set_cons_succ]
    (try rw [hw1]); (try rw [dq])
    -- 2 Op.fieldAddr 76 (Operand.tmp 6) 1
    refine wpMono_take' 2 (v := ?_) rfl (by kernel_rfl) (by kernel_rfl) (by kernel_rfl) (fun _ _ _ h => h) (by rfl) ?_ ?_
    rotate_left
    · (intro W hSw; try (have hg := HB.out.drew.keeps hSw (fun h => h); have hx := HXX.out.drew.keeps hSw (fun h => h); have k1 := hg.cell 1; have x0 := hx.cell 0; have x1 := hx.cell 1; have x4 := hx.cell 4; have hl := hg.lt; have hl2 := hx.lt; simp at k1 x0 x1 x4)
       go_simp; first | done | rfl)
    try simp only [Act.put, List.setIfInBounds_toArray, List.set_cons_zero, List.set_cons_succ]
    (try rw [hw1]); (try rw [dq])
    -- 3 Op.load 33 (Operand.tmp 7)
    refine wpMono_take' 3 (v := ?_) rfl (by kernel_rfl) (by kernel_rfl) (by kernel_rfl) (fun _ _ _ h => h) (by rfl) ?_ ?_
    rotate_left
    · (intro W hSw; try (have hg := HB.out.drew.keeps hSw (fun h => h); have hx := HXX.out.drew.keeps hSw (fun h => h); have k1 := hg.cell 1; have x0 := hx.cell 0; have x1 := hx.cell 1; have x4 := hx.cell 4; have hl := hg.lt; have hl2 := hx.lt; simp at k1 x0 x1 x4)
       go_simp; first | done | rfl)
    try simp only [Act.put, List.setIfInBounds_toArray, List.set_cons_zero, List.set_cons_succ]
    (try rw [hw1]); (try rw [dq])
    -- 4 Op.fieldAddr 35 (Operand.tmp 3) 0
    refine wpMono_take' 4 (v := ?_) rfl (by kernel_rfl) (by kernel_rfl) (by kernel_rfl) (fun _ _ _ h => h) (by rfl) ?_ ?_
    rotate_left
    · (intro W hSw; try (have hg := HB.out.drew.keeps hSw (fun h => h); have hx := HXX.out.drew.keeps hSw (fun h => h); have k1 := hg.cell 1; have x0 := hx.cell 0; have x1 := hx.cell 1; have x4 := hx.cell 4; have hl := hg.lt; have hl2 := hx.lt; simp at k1 x0 x1 x4)
       go_simp; first | done | rfl)
    try simp only [Act.put, List.setIfInBounds_toArray, List.set_cons_zero, List.set_cons_succ]
    (try rw [hw1]); (try rw [dq])
    -- 5 Op.load 3 (Operand.tmp 9)
    refine wpMono_take' 5 (v := ?_) rfl (by kernel_rfl) (by kernel_rfl) (by kernel_rfl) (fun _ _ _ h => h) (by rfl) ?_ ?_
    rotate_left
    · (intro W hSw; try (have hg := HB.out.drew.keeps hSw (fun h => h); have hx := HXX.out.drew.keeps hSw (fun h => h); have k1 := hg.cell 1; have x0 := hx.cell 0; have x1 := hx.cell 1; have x4 := hx.cell 4; have hl := hg.lt; have hl2 := hx.lt; simp at k1 x0 x1 x4)
       go_simp; first | done | rfl)
    try simp only [Act.put, List.setIfInBounds_toArray, List.set_cons_zero, List.set_cons_succ]
    (try rw [hw1]); (try rw [dq])
    -- 7 Op.fieldAddr 35 (Operand.tmp 3) 1
    refine wpMono_take' 7 (v := ?_) rfl (by kernel_rfl) (by kernel_rfl) (by kernel_rfl) (fun _ _ _ h => h) (by rfl) ?_ ?_
    rotate_left
    · (intro W hSw; try (have hg := HB.out.drew.keeps hSw (fun h => h); have hx := HXX.out.drew.keeps hSw (fun h => h); have k1 := hg.cell 1; have x0 := hx.cell 0; have x1 := hx.cell 1; have x4 := hx.cell 4; have hl := hg.lt; have hl2 := hx.lt; simp at k1 x0 x1 x4)
       go_simp; first | done | rfl)
    try simp only [Act.put, List.setIfInBounds_toArray, List.set_cons_zero, List.set_cons_succ]
    (try rw [hw1]); (try rw [dq])
    -- 8 Op.load 3 (Operand.tmp 12)
    refine wpMono_take' 8 (v := ?_) rfl (by kernel_rfl) (by kernel_rfl) (by kernel_rfl) (fun _ _ _ h => h) (by rfl) ?_ ?_
    rotate_left
    · (intro W hSw; try (have hg := HB.out.drew.keeps hSw (fun h => h); have hx := HXX.out.drew.keeps hSw (fun h => h); have k1 := hg.cell 1; have x0 := hx.cell 0; have x1 := hx.cell 1; have x4 := hx.cell 4; have hl := hg.lt; have hl2 := hx.lt; simp at k1 x0 x1 x4)
       go_simp; first | done | rfl)
    try simp only [Act.put, List.setIfInBounds_toArray, List.set_cons_zero, List.set_cons_succ]
    (try rw [hw1]); (try rw [dq])
    -- 9 Op.binOp BinOp.sub 3 (Operand.tmp 13) (Operand.const (Value.int IntKind.i64 1)) 3
    refine wpMono_take' 9 (v := ?_) rfl (by kernel_rfl) (by kernel_rfl) (by kernel_rfl) (fun _ _ _ h => h) (by rfl) ?_ ?_
    rotate_left
    · (intro W hSw; try (have hg := HB.out.drew.keeps hSw (fun h => h); have hx := HXX.out.drew.keeps hSw (fun h => h); have k1 := hg.cell 1; have x0 := hx.cell 0; have x1 := hx.cell 1; have x4 := hx.cell 4; have hl := hg.lt; have hl2 := hx.lt; simp at k1 x0 x1 x4)
       go_simp; first | done | rfl)
    try simp only [Act.put, List.setIfInBounds_toArray, List.set_cons_zero, List.set_cons_succ]
    (try rw [hw1]); (try rw [dq])
    -- EFFECT 6 Op.call { callee := Callee.value (Operand.func 36), args := #[Operand.tmp 8, Operand.tmp 10], argTypes := #[33, 3] }
    refine wpMono_one' 6 (by kernel_rfl) rfl (by rfl) (fun K hK => ?_)
    go_simp
    refine (at_any A n c ap r _ _ (HA.out.below (Below.refl _ _).drew) (by omega)).mono ?_
    rintro e w1 ⟨rfl, rfl⟩
    refine hK.out _ _ ?_ ?_
    · exact Keeps.refl _ _
    clear hK K
    try simp only [Act.put, List.setIfInBounds_toArray, List.set_cons_zero, List.set_cons_succ]
    (try rw [hw1]); (try rw [dq])
    -- 10 Op.binOp BinOp.eql 3 (Operand.tmp 11) (Operand.tmp 14) 3
    refine wpMono_take' 10 (v := ?_) rfl (by kernel_rfl) (by kernel_rfl) (by kernel_rfl) (fun _ _ _ h => h) (by rfl) ?_ ?_
    rotate_left
    · (intro W hSw; try (have hg := HB.out.drew.keeps hSw (fun h => h); have hx := HXX.out.drew.keeps hSw (fun h => h); have k1 := hg.cell 1; have x0 := hx.cell 0; have x1 := hx.cell 1; have x4 := hx.cell 4; have hl := hg.lt; have hl2 := hx.lt; simp at k1 x0 x1 x4)
       go_simp; first | done | rfl)
    try simp only [Act.put, List.setIfInBounds_toArray, List.set_cons_zero, List.set_cons_succ]
    (try rw [hw1]); (try rw [dq])
    -- 11 Op.move (Operand.tmp 15)
    refine wpMono_take' 11 (v := ?_) rfl (by kernel_rfl) (by kernel_rfl) (by kernel_rfl) (fun _ _ _ h => h) (by rfl) ?_ ?_
    rotate_left
    · (intro W hSw; try (have hg := HB.out.drew.keeps hSw (fun h => h); have hx := HXX.out.drew.keeps hSw (fun h => h); have k1 := hg.cell 1; have x0 := hx.cell 0; have x1 := hx.cell 1; have x4 := hx.cell 4; have hl := hg.lt; have hl2 := hx.lt; simp at k1 x0 x1 x4)
       go_simp; first | done | rfl)
    try simp only [Act.put, List.setIfInBounds_toArray, List.set_cons_zero, List.set_cons_succ]
    (try rw [hw1]); (try rw [dq])
    -- 12 Op.move (Operand.tmp 0)
    refine wpMono_skip' 12 rfl (by kernel_rfl) (by kernel_rfl) (by kernel_rfl) (fun _ _ _ h => h) (by rfl) ?_
    try simp only [Act.put, List.setIfInBounds_toArray, List.set_cons_zero, List.set_cons_succ]
    (try rw [hw1]); (try rw [dq])
    -- 13 Op.nilCheck (Operand.tmp 17)
    refine wpMono_skip' 13 rfl (by kernel_rfl) (by kernel_rfl) (by kernel_rfl) (fun _ _ _ h => h) (by rfl) ?_
    try simp only [Act.put, List.setIfInBounds_toArray, List.set_cons_zero, List.set_cons_succ]
    (try rw [hw1]); (try rw [dq])
    -- 14 Op.fieldAddr 76 (Operand.tmp 18) 1
    refine wpMono_skip' 14 rfl (by kernel_rfl) (by kernel_rfl) (by kernel_rfl) (fun _ _ _ h => h) (by rfl) ?_
    try simp only [Act.put, List.setIfInBounds_toArray, List.set_cons_zero, List.set_cons_succ]
    (try rw [hw1]); (try rw [dq])
    -- 15 Op.load 33 (Operand.tmp 19)
    refine wpMono_skip' 15 rfl (by kernel_rfl) (by kernel_rfl) (by kernel_rfl) (fun _ _ _ h => h) (by rfl) ?_
    try simp only [Act.put, List.setIfInBounds_toArray, List.set_cons_zero, List.set_cons_succ]
    (try rw [hw1]); (try rw [dq])
    -- 16 Op.fieldAddr 35 (Operand.tmp 3) 3
    refine wpMono_skip' 16 rfl (by kernel_rfl) (by kernel_rfl) (by kernel_rfl) (fun _ _ _ h => h) (by rfl) ?_
    try simp only [Act.put, List.setIfInBounds_toArray, List.set_cons_zero, List.set_cons_succ]
    (try rw [hw1]); (try rw [dq])
    -- 17 Op.load 33 (Operand.tmp 21)
    refine wpMono_skip' 17 rfl (by kernel_rfl) (by kernel_rfl) (by kernel_rfl) (fun _ _ _ h => h) (by rfl) ?_
    try simp only [Act.put, List.setIfInBounds_toArray, List.set_cons_zero, List.set_cons_succ]
    (try rw [hw1]); (try rw [dq])
    -- 18 Op.call { callee := Callee.value (Operand.func 43), args := #[Operand.tmp 20, Operand.tmp 
    refine wpMono_skip' 18 rfl (by kernel_rfl) (by kernel_rfl) (by kernel_rfl) (fun _ _ _ h => h) (by rfl) ?_
    try simp only [Act.put, List.setIfInBounds_toArray, List.set_cons_zero, List.set_cons_succ]
    (try rw [hw1]); (try rw [dq])
    -- 19 Op.pick (Operand.tmp 16) (Operand.tmp 23) (Operand.const (Value.bool false))
    refine wpMono_take' 19 (v := ?_) rfl (by kernel_rfl) (by kernel_rfl) (by kernel_rfl) (fun _ _ _ h => h) (by rfl) ?_ ?_
    rotate_left
    · (intro W hSw; try (have hg := HB.out.drew.keeps hSw (fun h => h); have hx := HXX.out.drew.keeps hSw (fun h => h); have k1 := hg.cell 1; have x0 := hx.cell 0; have x1 := hx.cell 1; have x4 := hx.cell 4; have hl := hg.lt; have hl2 := hx.lt; simp at k1 x0 x1 x4)
       go_simp; first | done | rfl)
    try simp only [Act.put, List.setIfInBounds_toArray, List.set_cons_zero, List.set_cons_succ]
    (try rw [hw1]); (try rw [dq])
    -- 20 Op.assign (Operand.tmp 24)
    refine wpMono_take' 20 (v := ?_) rfl (by kernel_rfl) (by kernel_rfl) (by kernel_rfl) (fun _ _ _ h => h) (by rfl) ?_ ?_
    rotate_left
    · (intro W hSw; try (have hg := HB.out.drew.keeps hSw (fun h => h); have hx := HXX.out.drew.keeps hSw (fun h => h); have k1 := hg.cell 1; have x0 := hx.cell 0; have x1 := hx.cell 1; have x4 := hx.cell 4; have hl := hg.lt; have hl2 := hx.lt; simp at k1 x0 x1 x4)
       go_simp; first | done | rfl)
    try simp only [Act.put, List.setIfInBounds_toArray, List.set_cons_zero, List.set_cons_succ]
    (try rw [hw1]); (try rw [dq])
    refine wpMono_done (by kernel_rfl) ?_ _
    go_wp2_with fail
    go_ret
    exact ⟨by rw [decide_eq_false hq, Bool.false_and]; rfl, HB0.out.trans (((Below.refl _ V).drew).mono HB0.out.size)⟩
end Go.Proofs.Ytedkcpncomgboaa.dep
