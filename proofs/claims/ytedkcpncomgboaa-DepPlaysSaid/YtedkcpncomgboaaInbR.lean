/- The document's inbox in memory; its ready. -/
import Derived.Test.YtedkcpncomgboaaClonesI
namespace Go.Proofs.Ytedkcpncomgboaa.dep
open Go Go.RowKit Go.Proofs.Ytedkcpncomgboaa.base Go.Proofs.Ytedkcpncomgboaa.rowe Go.Proofs.Ytedkcpncomgboaa.wire Go.Proofs.Ytedkcpncomgboaa.vec Go.Proofs.Ytedkcpncomgboaa.cmp Go.Proofs.Ytedkcpncomgboaa.with_ Go.Proofs.Ytedkcpncomgboaa.monoj Go.Proofs.Ytedkcpncomgboaa.ref

abbrev rinT : TypeId := 68
/-- its block, its applied vector, the list of what waits, and their numbers: all in R -/
structure RIn (w : World) (R : Nat → Prop) (g : Nat) (rg : Int) (ap : List Int) (L : List Wr) (va vl : Value) : Prop where
  blk : Blk w g rinT #[.int .i64 rg, va, vl]
  app : w.ownsRow 0 3 1 va ap.length (enc ap)
  afew : ap.length ≤ 16
  row : w.ownsRow 0 35 10 vl L.length (L.flatMap Wr.cells)
  wfew : L.length ≤ 1000
  num : ∀ x ∈ L, NumsO w 0 x.d x.z
  rng : ∀ x ∈ L, (1 ≤ x.r ∧ x.r ≤ 16) ∧ (1 ≤ x.n ∧ x.n ≤ 1099511627776)
  apb : ∀ r, 0 ≤ atV ap r ∧ atV ap r ≤ 1099511627776
  inG : R g
  inA : ∀ i, va.ownBlock = some i → R i
  inW : ∀ i, vl.ownBlock = some i → R i
  inN : ∀ x ∈ L, ∀ i, x.d.ownBlock = some i → R i
  small : ∀ i, R i → i < w.heap.size
section
variable {w w' : World} {R X : Nat → Prop} {g : Nat} {rg : Int} {ap : List Int} {L : List Wr} {va vl : Value}
theorem RIn.keepsO (h : RIn w R g rg ap L va vl) (hk : Keeps X w w') (hg : ¬ X g) (ha : ∀ i, va.ownBlock = some i → ¬ X i) (hw : ∀ i, vl.ownBlock = some i → ¬ X i) (hn : ∀ x ∈ L, ∀ i, x.d.ownBlock = some i → ¬ X i) : RIn w' R g rg ap L va vl :=
  { h with
    blk := h.blk.keeps hk hg
    app := own_keeps h.app hk ha
    row := own_keeps h.row hk hw
    num := fun x hm => (h.num x hm).keeps hk (hn x hm)
    small := fun i hi => Nat.lt_of_lt_of_le (h.small i hi) hk.size }
theorem RIn.keeps (h : RIn w R g rg ap L va vl) (hk : Keeps X w w') (hx : ∀ i, R i → ¬ X i) : RIn w' R g rg ap L va vl :=
  h.keepsO hk (hx g h.inG) (fun i hi => hx i (h.inA i hi)) (fun i hi => hx i (h.inW i hi)) (fun x hm i hi => hx i (h.inN x hm i hi))
theorem RIn.below (h : RIn w R g rg ap L va vl) (hb : Below w.heap.size w w') : RIn w' R g rg ap L va vl := h.keeps (X := nobody) (.of_below hb) (fun _ _ h => h)
theorem RIn.vec (h : RIn w R g rg ap L va vl) : ∃ A c, va = .slice A ap.length c ∧ Vec w w.heap.size A ap.length c ap := by
  obtain ⟨A, c, e, hv⟩ := Vec.of_own (n := ap.length) h.app
  exact ⟨A, c, e, hv⟩
theorem RIn.reads (h : RIn w R g rg ap L va vl) : ∃ A c, vl = .slice A L.length c ∧ Reads w w.heap.size 10 A L.length (L.flatMap Wr.cells) := by
  obtain ⟨A, c, e⟩ := ownsRow_slice h.row
  have hr := h.row
  subst e
  exact ⟨A, c, rfl, Reads.of_own hr⟩
theorem RIn.vecs (h : RIn w R g rg ap L va vl) {x : Wr} (hx : x ∈ L) : ∃ A c, x.d = .slice A x.z.length c ∧ Vec w w.heap.size A x.z.length c x.z ∧ x.z.length ≤ 1000000 := by
  obtain ⟨hn, hf⟩ := h.num x hx
  obtain ⟨A, c, e, hv⟩ := Vec.of_own (n := x.z.length) (zs := x.z) hn
  exact ⟨A, c, e, hv, hf⟩
end
set_option maxRecDepth 100000 in
set_option maxHeartbeats 1600000 in
theorem ready_ref (g : Nat) (rg : Int) (A : Option Addr) (n c : Nat) (ap : List Int) (vl : Value) (x : Wr) (A2 : Option Addr) (n2 c2 : Nat) (w : World) (hb : Blk w g rinT #[.int .i64 rg, .slice A n c, vl])
    (ha : Vec w w.heap.size A n c ap) (hd : x.d = .slice A2 n2 c2) (hx : Vec w w.heap.size A2 n2 c2 x.z) (h1 : n ≤ 1000000) (h2 : n2 ≤ 1000000) (hap : 0 ≤ atV ap x.r ∧ atV ap x.r ≤ 1099511627776) :
    Calls Try.prog 50 #[.pointer (some ⟨g, 0, none⟩), .agg ⟨x.cells⟩] w fun e w' => e = .returned (.bool (readyB ap x)) ∧ Below w.heap.size w w' := by
  obtain ⟨r, nn, t, s, d, zs, se, k, v, gn, l⟩ := x
  dsimp only at hd hx hap
  subst hd
  unfold readyB Wr.cells
  dsimp only
  have hb0 := below_new w (.cells #[.int .i64 r, .int .i64 nn, .int .i64 t, .int .i64 s, .slice A2 n2 c2, .string se, .string k, .string v, .bool gn, .int .i64 l] 35)
  have HB := Lib.hid (hb.below hb0 hb.lt)
  have HXX := Lib.hid (Blk.new w 35 #[.int .i64 r, .int .i64 nn, .int .i64 t, .int .i64 s, .slice A2 n2 c2, .string se, .string k, .string v, .bool gn, .int .i64 l])
  have HA := Lib.hid ((ha.below hb0).more hb0.size)
  have HX := Lib.hid ((hx.below hb0).more hb0.size)
  have HB0 := Lib.hid hb0
  clear hb ha hx hb0
  go_enter Try.func50, Try.ntmps50
  go_wp2_with fail
  generalize w.alloc (.cells #[.int .i64 r, .int .i64 nn, .int .i64 t, .int .i64 s, .slice A2 n2 c2, .string se, .string k, .string v, .bool gn, .int .i64 l] 35) = V at *
  have hw1 : IntKind.i64.wrap (atV ap r + 1) = atV ap r + 1 := by rw [IntKind.wrap_i64]; omega
  by_cases hq : atV ap r = nn - 1
  · have dq : (nn == atV ap r + 1) = true := by simp; omega
    have HQ := Lib.hid hq
    clear hq
    refine wp_region_mono nobody (by kernel_rfl) ?_
    -- 0 Op.fieldAddr 35 (Operand.tmp 3) 1
    refine wpMono_take' 0 (v := ?_) rfl (by kernel_rfl) (by kernel_rfl) (by kernel_rfl) (fun _ _ _ h => h) (by rfl) ?_ ?_
    rotate_left
    · (intro W hSw; try (have hg := HB.out.drew.keeps hSw (fun h => h); have hx := HXX.out.drew.keeps hSw (fun h => h); have k1 := hg.cell 1; have x0 := hx.cell 0; have x1 := hx.cell 1; have x4 := hx.cell 4; have hl := hg.lt; have hl2 := hx.lt; simp at k1 x0 x1 x4)
       go_simp; first | done | rfl)
    try simp only [Act.put, List.setIfInBounds_toArray, List.set_cons_zero, List.set_cons_succ]
    (try rw [hw1]); (try rw [dq])
    -- 1 Op.load 3 (Operand.tmp 5)
    refine wpMono_take' 1 (v := ?_) rfl (by kernel_rfl) (by kernel_rfl) (by kernel_rfl) (fun _ _ _ h => h) (by rfl) ?_ ?_
    rotate_left
    · (intro W hSw; try (have hg := HB.out.drew.keeps hSw (fun h => h); have hx := HXX.out.drew.keeps hSw (fun h => h); have k1 := hg.cell 1; have x0 := hx.cell 0; have x1 := hx.cell 1; have x4 := hx.cell 4; have hl := hg.lt; have hl2 := hx.lt; simp at k1 x0 x1 x4)
       go_simp; first | done | rfl)
    try simp only [Act.put, List.setIfInBounds_toArray, List.set_cons_zero, List.set_cons_succ]
    (try rw [hw1]); (try rw [dq])
    -- 2 Op.move (Operand.tmp 0)
    refine wpMono_take' 2 (v := ?_) rfl (by kernel_rfl) (by kernel_rfl) (by kernel_rfl) (fun _ _ _ h => h) (by rfl) ?_ ?_
    rotate_left
    · (intro W hSw; try (have hg := HB.out.drew.keeps hSw (fun h => h); have hx := HXX.out.drew.keeps hSw (fun h => h); have k1 := hg.cell 1; have x0 := hx.cell 0; have x1 := hx.cell 1; have x4 := hx.cell 4; have hl := hg.lt; have hl2 := hx.lt; simp at k1 x0 x1 x4)
       go_simp; first | done | rfl)
    try simp only [Act.put, List.setIfInBounds_toArray, List.set_cons_zero, List.set_cons_succ]
    (try rw [hw1]); (try rw [dq])
    -- 3 Op.nilCheck (Operand.tmp 7)
    refine wpMono_take' 3 (v := ?_) rfl (by kernel_rfl) (by kernel_rfl) (by kernel_rfl) (fun _ _ _ h => h) (by rfl) ?_ ?_
    rotate_left
    · (intro W hSw; try (have hg := HB.out.drew.keeps hSw (fun h => h); have hx := HXX.out.drew.keeps hSw (fun h => h); have k1 := hg.cell 1; have x0 := hx.cell 0; have x1 := hx.cell 1; have x4 := hx.cell 4; have hl := hg.lt; have hl2 := hx.lt; simp at k1 x0 x1 x4)
       go_simp; first | done | rfl)
    try simp only [Act.put, List.setIfInBounds_toArray, List.set_cons_zero, List.set_cons_succ]
    (try rw [hw1]); (try rw [dq])
    -- 4 Op.fieldAddr 68 (Operand.tmp 8) 1
    refine wpMono_take' 4 (v := ?_) rfl (by kernel_rfl) (by kernel_rfl) (by kernel_rfl) (fun _ _ _ h => h) (by rfl) ?_ ?_
    rotate_left
    · (intro W hSw; try (have hg := HB.out.drew.keeps hSw (fun h => h); have hx := HXX.out.drew.keeps hSw (fun h => h); have k1 := hg.cell 1; have x0 := hx.cell 0; have x1 := hx.cell 1; have x4 := hx.cell 4; have hl := hg.lt; have hl2 := hx.lt; simp at k1 x0 x1 x4)
       go_simp; first | done | rfl)
    try simp only [Act.put, List.setIfInBounds_toArray, List.set_cons_zero, List.set_cons_succ]
    (try rw [hw1]); (try rw [dq])
    -- 5 Op.load 26 (Operand.tmp 9)
    refine wpMono_take' 5 (v := ?_) rfl (by kernel_rfl) (by kernel_rfl) (by kernel_rfl) (fun _ _ _ h => h) (by rfl) ?_ ?_
    rotate_left
    · (intro W hSw; try (have hg := HB.out.drew.keeps hSw (fun h => h); have hx := HXX.out.drew.keeps hSw (fun h => h); have k1 := hg.cell 1; have x0 := hx.cell 0; have x1 := hx.cell 1; have x4 := hx.cell 4; have hl := hg.lt; have hl2 := hx.lt; simp at k1 x0 x1 x4)
       go_simp; first | done | rfl)
    try simp only [Act.put, List.setIfInBounds_toArray, List.set_cons_zero, List.set_cons_succ]
    (try rw [hw1]); (try rw [dq])
    -- 6 Op.fieldAddr 35 (Operand.tmp 3) 0
    refine wpMono_take' 6 (v := ?_) rfl (by kernel_rfl) (by kernel_rfl) (by kernel_rfl) (fun _ _ _ h => h) (by rfl) ?_ ?_
    rotate_left
    · (intro W hSw; try (have hg := HB.out.drew.keeps hSw (fun h => h); have hx := HXX.out.drew.keeps hSw (fun h => h); have k1 := hg.cell 1; have x0 := hx.cell 0; have x1 := hx.cell 1; have x4 := hx.cell 4; have hl := hg.lt; have hl2 := hx.lt; simp at k1 x0 x1 x4)
       go_simp; first | done | rfl)
    try simp only [Act.put, List.setIfInBounds_toArray, List.set_cons_zero, List.set_cons_succ]
    (try rw [hw1]); (try rw [dq])
    -- 7 Op.load 3 (Operand.tmp 11)
    refine wpMono_take' 7 (v := ?_) rfl (by kernel_rfl) (by kernel_rfl) (by kernel_rfl) (fun _ _ _ h => h) (by rfl) ?_ ?_
    rotate_left
    · (intro W hSw; try (have hg := HB.out.drew.keeps hSw (fun h => h); have hx := HXX.out.drew.keeps hSw (fun h => h); have k1 := hg.cell 1; have x0 := hx.cell 0; have x1 := hx.cell 1; have x4 := hx.cell 4; have hl := hg.lt; have hl2 := hx.lt; simp at k1 x0 x1 x4)
       go_simp; first | done | rfl)
    try simp only [Act.put, List.setIfInBounds_toArray, List.set_cons_zero, List.set_cons_succ]
    (try rw [hw1]); (try rw [dq])
    -- EFFECT 8 Op.call { callee := Callee.value (Operand.func 8), args := #[Operand.tmp 10, Operand.tmp 12], argTypes := #[26, 3] }
    refine wpMono_one' 8 (by kernel_rfl) rfl (by rfl) (fun K hK => ?_)
    go_simp
    refine (at_ref A n c ap r _ _ (HA.out.below (Below.refl _ _).drew)).mono ?_
    rintro e w1 ⟨rfl, rfl⟩
    refine hK.out _ _ ?_ ?_
    · exact Keeps.refl _ _
    clear hK K
    try simp only [Act.put, List.setIfInBounds_toArray, List.set_cons_zero, List.set_cons_succ]
    (try rw [hw1]); (try rw [dq])
    -- 9 Op.binOp BinOp.add 3 (Operand.tmp 13) (Operand.const (Value.int IntKind.i64 1)) 3
    refine wpMono_take' 9 (v := ?_) rfl (by kernel_rfl) (by kernel_rfl) (by kernel_rfl) (fun _ _ _ h => h) (by rfl) ?_ ?_
    rotate_left
    · (intro W hSw; try (have hg := HB.out.drew.keeps hSw (fun h => h); have hx := HXX.out.drew.keeps hSw (fun h => h); have k1 := hg.cell 1; have x0 := hx.cell 0; have x1 := hx.cell 1; have x4 := hx.cell 4; have hl := hg.lt; have hl2 := hx.lt; simp at k1 x0 x1 x4)
       go_simp; first | done | rfl)
    try simp only [Act.put, List.setIfInBounds_toArray, List.set_cons_zero, List.set_cons_succ]
    (try rw [hw1]); (try rw [dq])
    -- 10 Op.binOp BinOp.eql 3 (Operand.tmp 6) (Operand.tmp 14) 3
    refine wpMono_take' 10 (v := ?_) rfl (by kernel_rfl) (by kernel_rfl) (by kernel_rfl) (fun _ _ _ h => h) (by rfl) ?_ ?_
    rotate_left
    · (intro W hSw; try (have hg := HB.out.drew.keeps hSw (fun h => h); have hx := HXX.out.drew.keeps hSw (fun h => h); have k1 := hg.cell 1; have x0 := hx.cell 0; have x1 := hx.cell 1; have x4 := hx.cell 4; have hl := hg.lt; have hl2 := hx.lt; simp at k1 x0 x1 x4)
       go_simp; first | done | rfl)
    try simp only [Act.put, List.setIfInBounds_toArray, List.set_cons_zero, List.set_cons_succ]
    (try rw [hw1]); (try rw [dq])
    -- 11 Op.move (Operand.tmp 15)
    refine wpMono_take' 11 (v := ?_) rfl (by kernel_rfl) (by kernel_rfl) (by kernel_rfl) (fun _ _ _ h => h) (by rfl) ?_ ?_
    rotate_left
    · (intro W hSw; try (have hg := HB.out.drew.keeps hSw (fun h => h); have hx := HXX.out.drew.keeps hSw (fun h => h); have k1 := hg.cell 1; have x0 := hx.cell 0; have x1 := hx.cell 1; have x4 := hx.cell 4; have hl := hg.lt; have hl2 := hx.lt; simp at k1 x0 x1 x4)
       go_simp; first | done | rfl)
    try simp only [Act.put, List.setIfInBounds_toArray, List.set_cons_zero, List.set_cons_succ]
    (try rw [hw1]); (try rw [dq])
    -- 12 Op.move (Operand.tmp 0)
    refine wpMono_take' 12 (v := ?_) rfl (by kernel_rfl) (by kernel_rfl) (by kernel_rfl) (fun _ _ _ h => h) (by rfl) ?_ ?_
    rotate_left
    · (intro W hSw; try (have hg := HB.out.drew.keeps hSw (fun h => h); have hx := HXX.out.drew.keeps hSw (fun h => h); have k1 := hg.cell 1; have x0 := hx.cell 0; have x1 := hx.cell 1; have x4 := hx.cell 4; have hl := hg.lt; have hl2 := hx.lt; simp at k1 x0 x1 x4)
       go_simp; first | done | rfl)
    try simp only [Act.put, List.setIfInBounds_toArray, List.set_cons_zero, List.set_cons_succ]
    (try rw [hw1]); (try rw [dq])
    -- 13 Op.nilCheck (Operand.tmp 17)
    refine wpMono_take' 13 (v := ?_) rfl (by kernel_rfl) (by kernel_rfl) (by kernel_rfl) (fun _ _ _ h => h) (by rfl) ?_ ?_
    rotate_left
    · (intro W hSw; try (have hg := HB.out.drew.keeps hSw (fun h => h); have hx := HXX.out.drew.keeps hSw (fun h => h); have k1 := hg.cell 1; have x0 := hx.cell 0; have x1 := hx.cell 1; have x4 := hx.cell 4; have hl := hg.lt; have hl2 := hx.lt; simp at k1 x0 x1 x4)
       go_simp; first | done | rfl)
    try simp only [Act.put, List.setIfInBounds_toArray, List.set_cons_zero, List.set_cons_succ]
    (try rw [hw1]); (try rw [dq])
    -- 14 Op.fieldAddr 68 (Operand.tmp 18) 1
    refine wpMono_take' 14 (v := ?_) rfl (by kernel_rfl) (by kernel_rfl) (by kernel_rfl) (fun _ _ _ h => h) (by rfl) ?_ ?_
    rotate_left
    · (intro W hSw; try (have hg := HB.out.drew.keeps hSw (fun h => h); have hx := HXX.out.drew.keeps hSw (fun h => h); have k1 := hg.cell 1; have x0 := hx.cell 0; have x1 := hx.cell 1; have x4 := hx.cell 4; have hl := hg.lt; have hl2 := hx.lt; simp at k1 x0 x1 x4)
       go_simp; first | done | rfl)
    try simp only [Act.put, List.setIfInBounds_toArray, List.set_cons_zero, List.set_cons_succ]
    (try rw [hw1]); (try rw [dq])
    -- 15 Op.load 26 (Operand.tmp 19)
    refine wpMono_take' 15 (v := ?_) rfl (by kernel_rfl) (by kernel_rfl) (by kernel_rfl) (fun _ _ _ h => h) (by rfl) ?_ ?_
    rotate_left
    · (intro W hSw; try (have hg := HB.out.drew.keeps hSw (fun h => h); have hx := HXX.out.drew.keeps hSw (fun h => h); have k1 := hg.cell 1; have x0 := hx.cell 0; have x1 := hx.cell 1; have x4 := hx.cell 4; have hl := hg.lt; have hl2 := hx.lt; simp at k1 x0 x1 x4)
       go_simp; first | done | rfl)
    try simp only [Act.put, List.setIfInBounds_toArray, List.set_cons_zero, List.set_cons_succ]
    (try rw [hw1]); (try rw [dq])
    -- 16 Op.fieldAddr 35 (Operand.tmp 3) 3
    refine wpMono_take' 16 (v := ?_) rfl (by kernel_rfl) (by kernel_rfl) (by kernel_rfl) (fun _ _ _ h => h) (by rfl) ?_ ?_
    rotate_left
    · (intro W hSw; try (have hg := HB.out.drew.keeps hSw (fun h => h); have hx := HXX.out.drew.keeps hSw (fun h => h); have k1 := hg.cell 1; have x0 := hx.cell 0; have x1 := hx.cell 1; have x4 := hx.cell 4; have hl := hg.lt; have hl2 := hx.lt; simp at k1 x0 x1 x4)
       go_simp; first | done | rfl)
    try simp only [Act.put, List.setIfInBounds_toArray, List.set_cons_zero, List.set_cons_succ]
    (try rw [hw1]); (try rw [dq])
    -- 17 Op.load 33 (Operand.tmp 21)
    refine wpMono_take' 17 (v := ?_) rfl (by kernel_rfl) (by kernel_rfl) (by kernel_rfl) (fun _ _ _ h => h) (by rfl) ?_ ?_
    rotate_left
    · (intro W hSw; try (have hg := HB.out.drew.keeps hSw (fun h => h); have hx := HXX.out.drew.keeps hSw (fun h => h); have k1 := hg.cell 1; have x0 := hx.cell 0; have x1 := hx.cell 1; have x4 := hx.cell 4; have hl := hg.lt; have hl2 := hx.lt; simp at k1 x0 x1 x4)
       go_simp; first | done | rfl)
    try simp only [Act.put, List.setIfInBounds_toArray, List.set_cons_zero, List.set_cons_succ]
    (try rw [hw1]); (try rw [dq])
    -- EFFECT 18 Op.call { callee := Callee.value (Operand.func 18), args := #[Operand.tmp 20, Operand.tmp 22], argTypes := #[26, 26] }
    refine wpMono_one' 18 (by kernel_rfl) rfl (by rfl) (fun K hK => ?_)
    go_simp
    refine (covers_ref A n c ap A2 n2 c2 zs _ _ (HA.out.below (Below.refl _ _).drew) (HX.out.below (Below.refl _ _).drew) h1 h2).mono ?_
    rintro e w1 ⟨rfl, rfl⟩
    refine hK.out _ _ ?_ ?_
    · exact Keeps.refl _ _
    clear hK K
    try simp only [Act.put, List.setIfInBounds_toArray, List.set_cons_zero, List.set_cons_succ]
    (try rw [hw1]); (try rw [dq])
    -- 19 Op.pick (Operand.tmp 16) (Operand.tmp 23) (Operand.const (Value.bool false))
    refine wpMono_take' 19 (v := ?_) rfl (by kernel_rfl) (by kernel_rfl) (by kernel_rfl) (fun _ _ _ h => h) (by rfl) ?_ ?_
    rotate_left
    · (intro W hSw; try (have hg := HB.out.drew.keeps hSw (fun h => h); have hx := HXX.out.drew.keeps hSw (fun h => h); have k1 := hg.cell 1; have x0 := hx.cell 0; have x1 := hx.cell 1; have x4 := hx.cell 4; have hl := hg.lt; have hl2 := hx.lt; simp at k1 x0 x1 x4)
       go_simp; first | done | rfl)
    try simp only [Act.put, List.setIfInBounds_toArray, List.set_cons_zero, List.set_cons_succ]
    (try rw [hw1]); (try rw [dq])
    -- 20 Op.assign (Operand.tmp 24)
    refine wpMono_take' 20 (v := ?_) rfl (by kernel_rfl) (by kernel_rfl) (by kernel_rfl) (fun _ _ _ h => h) (by rfl) ?_ ?_
    rotate_left
    · (intro W hSw; try (have hg := HB.out.drew.keeps hSw (fun h => h); have hx := HXX.out.drew.keeps hSw (fun h => h); have k1 := hg.cell 1; have x0 := hx.cell 0; have x1 := hx.cell 1; have x4 := hx.cell 4; have hl := hg.lt; have hl2 := hx.lt; simp at k1 x0 x1 x4)
       go_simp; first | done | rfl)
    try simp only [Act.put, List.setIfInBounds_toArray, List.set_cons_zero, List.set_cons_succ]
    (try rw [hw1]); (try rw [dq])
    refine wpMono_done (by kernel_rfl) ?_ _
    go_wp2_with fail
    go_ret
    exact ⟨by rw [decide_eq_true HQ.out, Bool.true_and]; rfl, HB0.out.trans (((Below.refl _ V).drew).mono HB0.out.size)⟩
  · have dq : (nn == atV ap r + 1) = false := by simp; omega
    have HQ := Lib.hid hq
    clear hq
    refine wp_region_mono nobody (by kernel_rfl) ?_
    -- 0 Op.fieldAddr 35 (Operand.tmp 3) 1
    refine wpMono_take' 0 (v := ?_) rfl (by kernel_rfl) (by kernel_rfl) (by kernel_rfl) (fun _ _ _ h => h) (by rfl) ?_ ?_
    rotate_left
    · (intro W hSw; try (have hg := HB.out.drew.keeps hSw (fun h => h); have hx := HXX.out.drew.keeps hSw (fun h => h); have k1 := hg.cell 1; have x0 := hx.cell 0; have x1 := hx.cell 1; have x4 := hx.cell 4; have hl := hg.lt; have hl2 := hx.lt; simp at k1 x0 x1 x4)
       go_simp; first | done | rfl)
    try simp only [Act.put, List.setIfInBounds_toArray, List.set_cons_zero, List.set_cons_succ]
    (try rw [hw1]); (try rw [dq])
    -- 1 Op.load 3 (Operand.tmp 5)
    refine wpMono_take' 1 (v := ?_) rfl (by kernel_rfl) (by kernel_rfl) (by kernel_rfl) (fun _ _ _ h => h) (by rfl) ?_ ?_
    rotate_left
    · (intro W hSw; try (have hg := HB.out.drew.keeps hSw (fun h => h); have hx := HXX.out.drew.keeps hSw (fun h => h); have k1 := hg.cell 1; have x0 := hx.cell 0; have x1 := hx.cell 1; have x4 := hx.cell 4; have hl := hg.lt; have hl2 := hx.lt; simp at k1 x0 x1 x4)
       go_simp; first | done | rfl)
    try simp only [Act.put, List.setIfInBounds_toArray, List.set_cons_zero, List.set_cons_succ]
    (try rw [hw1]); (try rw [dq])
    -- 2 Op.move (Operand.tmp 0)
    refine wpMono_take' 2 (v := ?_) rfl (by kernel_rfl) (by kernel_rfl) (by kernel_rfl) (fun _ _ _ h => h) (by rfl) ?_ ?_
    rotate_left
    · (intro W hSw; try (have hg := HB.out.drew.keeps hSw (fun h => h); have hx := HXX.out.drew.keeps hSw (fun h => h); have k1 := hg.cell 1; have x0 := hx.cell 0; have x1 := hx.cell 1; have x4 := hx.cell 4; have hl := hg.lt; have hl2 := hx.lt; simp at k1 x0 x1 x4)
       go_simp; first | done | rfl)
    try simp only [Act.put, List.setIfInBounds_toArray, List.set_cons_zero, List.set_cons_succ]
    (try rw [hw1]); (try rw [dq])
    -- 3 Op.nilCheck (Operand.tmp 7)
    refine wpMono_take' 3 (v := ?_) rfl (by kernel_rfl) (by kernel_rfl) (by kernel_rfl) (fun _ _ _ h => h) (by rfl) ?_ ?_
    rotate_left
    · (intro W hSw; try (have hg := HB.out.drew.keeps hSw (fun h => h); have hx := HXX.out.drew.keeps hSw (fun h => h); have k1 := hg.cell 1; have x0 := hx.cell 0; have x1 := hx.cell 1; have x4 := hx.cell 4; have hl := hg.lt; have hl2 := hx.lt; simp at k1 x0 x1 x4)
       go_simp; first | done | rfl)
    try simp only [Act.put, List.setIfInBounds_toArray, List.set_cons_zero, List.set_cons_succ]
    (try rw [hw1]); (try rw [dq])
    -- 4 Op.fieldAddr 68 (Operand.tmp 8) 1
    refine wpMono_take' 4 (v := ?_) rfl (by kernel_rfl) (by kernel_rfl) (by kernel_rfl) (fun _ _ _ h => h) (by rfl) ?_ ?_
    rotate_left
    · (intro W hSw; try (have hg := HB.out.drew.keeps hSw (fun h => h); have hx := HXX.out.drew.keeps hSw (fun h => h); have k1 := hg.cell 1; have x0 := hx.cell 0; have x1 := hx.cell 1; have x4 := hx.cell 4; have hl := hg.lt; have hl2 := hx.lt; simp at k1 x0 x1 x4)
       go_simp; first | done | rfl)
    try simp only [Act.put, List.setIfInBounds_toArray, List.set_cons_zero, List.set_cons_succ]
    (try rw [hw1]); (try rw [dq])
    -- 5 Op.load 26 (Operand.tmp 9)
    refine wpMono_take' 5 (v := ?_) rfl (by kernel_rfl) (by kernel_rfl) (by kernel_rfl) (fun _ _ _ h => h) (by rfl) ?_ ?_
    rotate_left
    · (intro W hSw; try (have hg := HB.out.drew.keeps hSw (fun h => h); have hx := HXX.out.drew.keeps hSw (fun h => h); have k1 := hg.cell 1; have x0 := hx.cell 0; have x1 := hx.cell 1; have x4 := hx.cell 4; have hl := hg.lt; have hl2 := hx.lt; simp at k1 x0 x1 x4)
       go_simp; first | done | rfl)
    try simp only [Act.put, List.setIfInBounds_toArray, List.set_cons_zero, List.set_cons_succ]
    (try rw [hw1]); (try rw [dq])
    -- 6 Op.fieldAddr 35 (Operand.tmp 3) 0
    refine wpMono_take' 6 (v := ?_) rfl (by kernel_rfl) (by kernel_rfl) (by kernel_rfl) (fun _ _ _ h => h) (by rfl) ?_ ?_
    rotate_left
    · (intro W hSw; try (have hg := HB.out.drew.keeps hSw (fun h => h); have hx := HXX.out.drew.keeps hSw (fun h => h); have k1 := hg.cell 1; have x0 := hx.cell 0; have x1 := hx.cell 1; have x4 := hx.cell 4; have hl := hg.lt; have hl2 := hx.lt; simp at k1 x0 x1 x4)
       go_simp; first | done | rfl)
    try simp only [Act.put, List.setIfInBounds_toArray, List.set_cons_zero, List.set_cons_succ]
    (try rw [hw1]); (try rw [dq])
    -- 7 Op.load 3 (Operand.tmp 11)
    refine wpMono_take' 7 (v := ?_) rfl (by kernel_rfl) (by kernel_rfl) (by kernel_rfl) (fun _ _ _ h => h) (by rfl) ?_ ?_
    rotate_left
    · (intro W hSw; try (have hg := HB.out.drew.keeps hSw (fun h => h); have hx := HXX.out.drew.keeps hSw (fun h => h); have k1 := hg.cell 1; have x0 := hx.cell 0; have x1 := hx.cell 1; have x4 := hx.cell 4; have hl := hg.lt; have hl2 := hx.lt; simp at k1 x0 x1 x4)
       go_simp; first | done | rfl)
    try simp only [Act.put, List.setIfInBounds_toArray, List.set_cons_zero, List.set_cons_succ]
    (try rw [hw1]); (try rw [dq])
    -- EFFECT 8 Op.call { callee := Callee.value (Operand.func 8), args := #[Operand.tmp 10, Operand.tmp 12], argTypes := #[26, 3] }
    refine wpMono_one' 8 (by kernel_rfl) rfl (by rfl) (fun K hK => ?_)
    go_simp
    refine (at_ref A n c ap r _ _ (HA.out.below (Below.refl _ _).drew)).mono ?_
    rintro e w1 ⟨rfl, rfl⟩
    refine hK.out _ _ ?_ ?_
    · exact Keeps.refl _ _
    clear hK K
    try simp only [Act.put, List.setIfInBounds_toArray, List.set_cons_zero, List.set_cons_succ]
    (try rw [hw1]); (try rw [dq])
    -- 9 Op.binOp BinOp.add 3 (Operand.tmp 13) (Operand.const (Value.int IntKind.i64 1)) 3
    refine wpMono_take' 9 (v := ?_) rfl (by kernel_rfl) (by kernel_rfl) (by kernel_rfl) (fun _ _ _ h => h) (by rfl) ?_ ?_
    rotate_left
    · (intro W hSw; try (have hg := HB.out.drew.keeps hSw (fun h => h); have hx := HXX.out.drew.keeps hSw (fun h => h); have k1 := hg.cell 1; have x0 := hx.cell 0; have x1 := hx.cell 1; have x4 := hx.cell 4; have hl := hg.lt; have hl2 := hx.lt; simp at k1 x0 x1 x4)
       go_simp; first | done | rfl)
    try simp only [Act.put, List.setIfInBounds_toArray, List.set_cons_zero, List.set_cons_succ]
    (try rw [hw1]); (try rw [dq])
    -- 10 Op.binOp BinOp.eql 3 (Operand.tmp 6) (Operand.tmp 14) 3
    refine wpMono_take' 10 (v := ?_) rfl (by kernel_rfl) (by kernel_rfl) (by kernel_rfl) (fun _ _ _ h => h) (by rfl) ?_ ?_
    rotate_left
    · (intro W hSw; try (have hg := HB.out.drew.keeps hSw (fun h => h); have hx := HXX.out.drew.keeps hSw (fun h => h); have k1 := hg.cell 1; have x0 := hx.cell 0; have x1 := hx.cell 1; have x4 := hx.cell 4; have hl := hg.lt; have hl2 := hx.lt; simp at k1 x0 x1 x4)
       go_simp; first | done | rfl)
    try simp only [Act.put, List.setIfInBounds_toArray, List.set_cons_zero, List.set_cons_succ]
    (try rw [hw1]); (try rw [dq])
    -- 11 Op.move (Operand.tmp 15)
    refine wpMono_take' 11 (v := ?_) rfl (by kernel_rfl) (by kernel_rfl) (by kernel_rfl) (fun _ _ _ h => h) (by rfl) ?_ ?_
    rotate_left
    · (intro W hSw; try (have hg := HB.out.drew.keeps hSw (fun h => h); have hx := HXX.out.drew.keeps hSw (fun h => h); have k1 := hg.cell 1; have x0 := hx.cell 0; have x1 := hx.cell 1; have x4 := hx.cell 4; have hl := hg.lt; have hl2 := hx.lt; simp at k1 x0 x1 x4)
       go_simp; first | done | rfl)
    try simp only [Act.put, List.setIfInBounds_toArray, List.set_cons_zero, List.set_cons_succ]
    (try rw [hw1]); (try rw [dq])
    -- 12 Op.move (Operand.tmp 0)
    refine wpMono_skip' 12 rfl (by kernel_rfl) (by kernel_rfl) (by kernel_rfl) (fun _ _ _ h => h) (by rfl) ?_
    try simp only [Act.put, List.setIfInBounds_toArray, List.set_cons_zero, List.set_cons_succ]
    (try rw [hw1]); (try rw [dq])
    -- 13 Op.nilCheck (Operand.tmp 17)
    refine wpMono_skip' 13 rfl (by kernel_rfl) (by kernel_rfl) (by kernel_rfl) (fun _ _ _ h => h) (by rfl) ?_
    try simp only [Act.put, List.setIfInBounds_toArray, List.set_cons_zero, List.set_cons_succ]
    (try rw [hw1]); (try rw [dq])
    -- 14 Op.fieldAddr 68 (Operand.tmp 18) 1
    refine wpMono_skip' 14 rfl (by kernel_rfl) (by kernel_rfl) (by kernel_rfl) (fun _ _ _ h => h) (by rfl) ?_
    try simp only [Act.put, List.setIfInBounds_toArray, List.set_cons_zero, List.set_cons_succ]
    (try rw [hw1]); (try rw [dq])
    -- 15 Op.load 26 (Operand.tmp 19)
    refine wpMono_skip' 15 rfl (by kernel_rfl) (by kernel_rfl) (by kernel_rfl) (fun _ _ _ h => h) (by rfl) ?_
    try simp only [Act.put, List.setIfInBounds_toArray, List.set_cons_zero, List.set_cons_succ]
    (try rw [hw1]); (try rw [dq])
    -- 16 Op.fieldAddr 35 (Operand.tmp 3) 3
    refine wpMono_skip' 16 rfl (by kernel_rfl) (by kernel_rfl) (by kernel_rfl) (fun _ _ _ h => h) (by rfl) ?_
    try simp only [Act.put, List.setIfInBounds_toArray, List.set_cons_zero, List.set_cons_succ]
    (try rw [hw1]); (try rw [dq])
    -- 17 Op.load 33 (Operand.tmp 21)
    refine wpMono_skip' 17 rfl (by kernel_rfl) (by kernel_rfl) (by kernel_rfl) (fun _ _ _ h => h) (by rfl) ?_
    try simp only [Act.put, List.setIfInBounds_toArray, List.set_cons_zero, List.set_cons_succ]
    (try rw [hw1]); (try rw [dq])
    -- 18 Op.call { callee := Callee.value (Operand.func 18), args := #[Operand.tmp 20, Operand.tmp 
    refine wpMono_skip' 18 rfl (by kernel_rfl) (by kernel_rfl) (by kernel_rfl) (fun _ _ _ h => h) (by rfl) ?_
    try simp only [Act.put, List.setIfInBounds_toArray, List.set_cons_zero, List.set_cons_succ]
    (try rw [hw1]); (try rw [dq])
    -- 19 Op.pick (Operand.tmp 16) (Operand.tmp 23) (Operand.const (Value.bool false))
    refine wpMono_take' 19 (v := ?_) rfl (by kernel_rfl) (by kernel_rfl) (by kernel_rfl) (fun _ _ _ h => h) (by rfl) ?_ ?_
    rotate_left
    · (intro W hSw; try (have hg := HB.out.drew.keeps hSw (fun h => h); have hx := HXX.out.drew.keeps hSw (fun h => h); have k1 := hg.cell 1; have x0 := hx.cell 0; have x1 := hx.cell 1; have x4 := hx.cell 4; have hl := hg.lt; have hl2 := hx.lt; simp at k1 x0 x1 x4)
       go_simp; first | done | rfl)
    try simp only [Act.put, List.setIfInBounds_toArray, List.set_cons_zero, List.set_cons_succ]
    (try rw [hw1]); (try rw [dq])
    -- 20 Op.assign (Operand.tmp 24)
    refine wpMono_take' 20 (v := ?_) rfl (by kernel_rfl) (by kernel_rfl) (by kernel_rfl) (fun _ _ _ h => h) (by rfl) ?_ ?_
    rotate_left
    · (intro W hSw; try (have hg := HB.out.drew.keeps hSw (fun h => h); have hx := HXX.out.drew.keeps hSw (fun h => h); have k1 := hg.cell 1; have x0 := hx.cell 0; have x1 := hx.cell 1; have x4 := hx.cell 4; have hl := hg.lt; have hl2 := hx.lt; simp at k1 x0 x1 x4)
       go_simp; first | done | rfl)
    try simp only [Act.put, List.setIfInBounds_toArray, List.set_cons_zero, List.set_cons_succ]
    (try rw [hw1]); (try rw [dq])
    refine wpMono_done (by kernel_rfl) ?_ _
    go_wp2_with fail
    go_ret
    exact ⟨by rw [decide_eq_false HQ.out, Bool.false_and]; rfl, HB0.out.trans (((Below.refl _ V).drew).mono HB0.out.size)⟩
end Go.Proofs.Ytedkcpncomgboaa.dep
