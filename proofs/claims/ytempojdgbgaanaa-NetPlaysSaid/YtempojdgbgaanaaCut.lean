/- Ways are cut and joined; how many messages a bag has. -/
import Derived.Test.YtempojdgbgaanaaNil
namespace Go.Proofs.Ytempojdgbgaanaa.cut
open Go.RowKit Go.Proofs.Ytempojdgbgaanaa.base Go.Proofs.Ytempojdgbgaanaa.map_ Go.Proofs.Ytempojdgbgaanaa.err Go.Proofs.Ytempojdgbgaanaa.net Go.Proofs.Ytempojdgbgaanaa.state Go.Proofs.Ytempojdgbgaanaa.at_ Go.Maps

theorem count_any (S : Nat → Prop) (g bb cb k : Nat) (n a b : Int) (F : W2 → List ByteArray) (C : W2 → Bool) (w : World) (h : NetS w S g bb cb k n F C) (hx : okW (a, b)) :
    Calls Try.prog 13 #[.pointer (some ⟨g, 0, none⟩), .int .i64 a, .int .i64 b] w fun e w' => e = .returned (.int .i64 (F (a, b)).length) ∧ w' = w := by
  have q5 : w.cell? ⟨g, 1, none⟩ = _ := h.net.cell 1
  obtain ⟨fA, fc, hlk, _, _⟩ := h.bags.look hx
  simp at q5
  have hlk : (Instr.lookup _ (.map (some bb)) (.agg #[.int .i64 a, .int .i64 b]) false).run _ _ = _ := hlk
  clear h hx
  go_enter Try.func13, Try.ntmps13
  go_wp2
  go_ret
  exact ⟨rfl, rfl⟩
theorem getD_put (m : List (W2 × Value)) (x y : W2) (v z : Value) : (getM (putM m x v) y).getD z = if y = x then v else (getM m y).getD z := by
  rw [get_put]
  split <;> rfl
theorem cut_put {m : List (W2 × Value)} {C : W2 → Bool} (h : ∀ x, (getM m x).getD (.bool false) = .bool (C x)) (x : W2) (v : Bool) : ∀ y, (getM (putM m x (.bool v)) y).getD (.bool false) = .bool (upd C x v y) := by
  intro y
  rw [getD_put]
  unfold upd
  split
  · rfl
  · exact h y
theorem cut_del {m : List (W2 × Value)} {C : W2 → Bool} (h : ∀ x, (getM m x).getD (.bool false) = .bool (C x)) (x : W2) : ∀ y, (getM (delM m x) y).getD (.bool false) = .bool (upd C x false y) := by
  intro y
  rw [get_del]
  unfold upd
  split
  · rfl
  · exact h y
/-- Other ways are cut now. -/
theorem NetS.cutTo {w w' : World} {S : Nat → Prop} {g bb cb k : Nat} {n : Int} {F : W2 → List ByteArray} {C C' : W2 → Bool} (h : NetS w S g bb cb k n F C) (hk : Keeps (· = cb) w w') {m : List (W2 × Value)}
    (hm : MapM wayE w' cb m) (hC : ∀ x, (getM m x).getD (.bool false) = .bool (C' x)) {k' : Nat} (hkk : k ≤ k') (hl : m.length ≤ k') : NetS w' S g bb cb k' n F C' := by
  obtain ⟨mc, c1, _, _⟩ := h.cuts
  obtain ⟨mb, b1, b2, b3, b4, b5⟩ := h.bags
  exact ⟨h.net.keeps hk (c1.not_blk h.net), ⟨mb, b1.keeps hk h.ne, fun p hp => ⟨(b2 p hp).1.keeps hk fun i hi he => (b2 p hp).1.ne_map c1 (by rw [hi, he]), (b2 p hp).2⟩, b3, b4, by omega⟩, ⟨m, hm, hC, hl⟩, h.ne⟩
def HealR (S : Nat → Prop) (g bb cb k : Nat) (n : Int) (F : W2 → List ByteArray) (w : World) (e : Ending) (w' : World) : Prop :=
  e = .returned (.tuple #[]) ∧ NetS w' S g bb cb k n F (fun _ => false) ∧ Keeps (· = cb) w w'
set_option maxRecDepth 100000 in
theorem heal_any (S : Nat → Prop) (g bb cb k : Nat) (n : Int) (F : W2 → List ByteArray) (C : W2 → Bool) (w : World) (h : NetS w S g bb cb k n F C) :
    Calls Try.prog 15 #[.pointer (some ⟨g, 0, none⟩)] w (HealR S g bb cb k n F w) := by
  have q0 : w.cell? ⟨g, 2, none⟩ = _ := h.net.cell 2
  obtain ⟨mc, c1, _, _⟩ := h.cuts
  simp at q0
  obtain ⟨w1, e1, e2, e3⟩ := c1.clear Try.underlying52 0
  have hR : HealR S g bb cb k n F w (.returned (.tuple #[])) w1 := ⟨rfl, NetS.cutTo h e3 e2 (fun _ => rfl) (Nat.le_refl _) (by simp), e3⟩
  have HR := Lib.hid hR
  clear h c1 e2 e3 hR
  go_enter Try.func15, Try.ntmps15
  go_wp2
  exact bodyPost_end (v := .tuple #[]) (by simp [results, Try.results15, go_sem]) rfl HR.out
theorem del_len (m : List (W2 × Value)) (x : W2) : (delM m x).length ≤ m.length := List.length_filter_le _ _
def joinC (n : Int) (a b : Int) (C : W2 → Bool) : W2 → Bool := if isW n a b then upd (upd C (a, b) false) (b, a) false else C
def cutC (n : Int) (a b : Int) (C : W2 → Bool) : W2 → Bool := if isW n a b then upd (upd C (a, b) true) (b, a) true else C
def JoinR (S : Nat → Prop) (g bb cb k : Nat) (n : Int) (F : W2 → List ByteArray) (C' : W2 → Bool) (w : World) (e : Ending) (w' : World) : Prop :=
  e = .returned (.tuple #[]) ∧ NetS w' S g bb cb k n F C' ∧ Keeps (· = cb) w w'
set_option maxRecDepth 100000 in
theorem join_any (S : Nat → Prop) (g bb cb k : Nat) (n a b : Int) (F : W2 → List ByteArray) (C : W2 → Bool) (w : World) (h : NetS w S g bb cb k n F C) (hx : okW (a, b)) (hy : okW (b, a)) :
    Calls Try.prog 16 #[.pointer (some ⟨g, 0, none⟩), .int .i64 a, .int .i64 b] w (JoinR S g bb cb k n F (joinC n a b C) w) := by
  have H := Lib.hid h
  have Hx := Lib.hid hx
  have Hy := Lib.hid hy
  clear h hx hy
  cases hi : isW n a b
  · go_enter Try.func16, Try.ntmps16
    go_wp2_with fail
    refine (is_any g bb cb n a b _ H.out.net).mono ?_
    rintro e w2 ⟨rfl, hb2⟩
    rw [hi]
    have hR : JoinR S g bb cb k n F (joinC n a b C) w (.returned (.tuple #[])) w2 := ⟨rfl, by unfold joinC; rw [hi]; exact H.out.below hb2, .of_below hb2⟩
    have HR := Lib.hid hR
    clear hR
    go_wp2
    exact bodyPost_end (v := .tuple #[]) (by simp [results, Try.results16, go_sem]) rfl HR.out
  · go_enter Try.func16, Try.ntmps16
    go_wp2_with fail
    refine (is_any g bb cb n a b _ H.out.net).mono ?_
    rintro e w2 ⟨rfl, hb2⟩
    rw [hi]
    have H2 := Lib.hid (H.out.below hb2)
    obtain ⟨mc, c1, c2, c3⟩ := H2.out.cuts
    obtain ⟨w3, e1, e2, e3⟩ := c1.del keyed Try.underlying52 Hx.out 0
    obtain ⟨w4, f1, f2, f3⟩ := e2.del keyed Try.underlying52 Hy.out 0
    have hR : JoinR S g bb cb k n F (joinC n a b C) w (.returned (.tuple #[])) w4 := by
      refine ⟨rfl, NetS.cutTo H2.out (e3.trans f3) f2 ?_ (Nat.le_refl _) (Nat.le_trans (del_len _ _) (Nat.le_trans (del_len _ _) c3)), (Keeps.of_below hb2).trans (e3.trans f3)⟩
      unfold joinC
      rw [hi]
      exact cut_del (cut_del c2 (a, b)) (b, a)
    have HR := Lib.hid hR
    have q0 : w2.cell? ⟨g, 2, none⟩ = _ := H2.out.net.cell 2
    have q1 : w3.cell? ⟨g, 2, none⟩ = _ := (e3.cell 2 H2.out.net.lt (c1.not_blk H2.out.net)).trans q0
    simp at q0 q1
    have e1 : (Builtin.delete_ _ 0 #[.map (some cb), .agg #[.int .i64 a, .int .i64 b]]).run _ _ = _ := e1
    have f1 : (Builtin.delete_ _ 0 #[.map (some cb), .agg #[.int .i64 b, .int .i64 a]]).run _ _ = _ := f1
    clear hR e2 e3 f2 f3 c1 c2 c3
    go_wp2
    exact bodyPost_end (v := .tuple #[]) (by simp [results, Try.results16, go_sem]) rfl HR.out
set_option maxRecDepth 100000 in
theorem cut_any (S : Nat → Prop) (g bb cb k : Nat) (n a b : Int) (F : W2 → List ByteArray) (C : W2 → Bool) (w : World) (h : NetS w S g bb cb k n F C) (hx : okW (a, b)) (hy : okW (b, a)) (hk : k ≤ 100000) :
    Calls Try.prog 14 #[.pointer (some ⟨g, 0, none⟩), .int .i64 a, .int .i64 b] w (JoinR S g bb cb (k + 2) n F (cutC n a b C) w) := by
  have H := Lib.hid h
  have Hx := Lib.hid hx
  have Hy := Lib.hid hy
  clear h hx hy
  cases hi : isW n a b
  · go_enter Try.func14, Try.ntmps14
    go_wp2_with fail
    refine (is_any g bb cb n a b _ H.out.net).mono ?_
    rintro e w2 ⟨rfl, hb2⟩
    rw [hi]
    have hR : JoinR S g bb cb (k + 2) n F (cutC n a b C) w (.returned (.tuple #[])) w2 := ⟨rfl, by unfold cutC; rw [hi]; exact NetS.more (H.out.below hb2) (by omega), .of_below hb2⟩
    have HR := Lib.hid hR
    clear hR
    go_wp2
    exact bodyPost_end (v := .tuple #[]) (by simp [results, Try.results14, go_sem]) rfl HR.out
  · go_enter Try.func14, Try.ntmps14
    go_wp2_with fail
    refine (is_any g bb cb n a b _ H.out.net).mono ?_
    rintro e w2 ⟨rfl, hb2⟩
    rw [hi]
    have H2 := Lib.hid (H.out.below hb2)
    obtain ⟨mc, c1, c2, c3⟩ := H2.out.cuts
    have q0 : w2.cell? ⟨g, 2, none⟩ = _ := H2.out.net.cell 2
    have q3 := H2.out.net.lt
    have hxg := c1.not_blk H2.out.net
    simp at q0
    have C1 := Lib.hid c1
    have C2 := Lib.hid c2
    have Hxg := Lib.hid hxg
    have Hq3 := Lib.hid q3
    clear c1 c2 hxg
    go_wp2_with fail
    refine wp_region_mono ((· = cb)) (by kernel_rfl) ?_
    -- 0 Op.move (Operand.tmp 0)
    refine wpMono_take' 0 (v := ?_) rfl (by kernel_rfl) (by kernel_rfl) (by kernel_rfl) (fun _ _ _ h => h) (by rfl) ?_ ?_
    rotate_left
    · (intro W hSw; try (have e1 := (hSw.cell 2 Hq3.out Hxg.out).trans q0)
       go_simp; first | done | rfl)
    try simp only [Act.put, List.setIfInBounds_toArray, List.set_cons_zero, List.set_cons_succ]
    -- 1 Op.nilCheck (Operand.tmp 11)
    refine wpMono_take' 1 (v := ?_) rfl (by kernel_rfl) (by kernel_rfl) (by kernel_rfl) (fun _ _ _ h => h) (by rfl) ?_ ?_
    rotate_left
    · (intro W hSw; try (have e1 := (hSw.cell 2 Hq3.out Hxg.out).trans q0)
       go_simp; first | done | rfl)
    try simp only [Act.put, List.setIfInBounds_toArray, List.set_cons_zero, List.set_cons_succ]
    -- 2 Op.fieldAddr 54 (Operand.tmp 12) 2
    refine wpMono_take' 2 (v := ?_) rfl (by kernel_rfl) (by kernel_rfl) (by kernel_rfl) (fun _ _ _ h => h) (by rfl) ?_ ?_
    rotate_left
    · (intro W hSw; try (have e1 := (hSw.cell 2 Hq3.out Hxg.out).trans q0)
       go_simp; first | done | rfl)
    try simp only [Act.put, List.setIfInBounds_toArray, List.set_cons_zero, List.set_cons_succ]
    -- 3 Op.load 52 (Operand.tmp 13)
    refine wpMono_take' 3 (v := ?_) rfl (by kernel_rfl) (by kernel_rfl) (by kernel_rfl) (fun _ _ _ h => h) (by rfl) ?_ ?_
    rotate_left
    · (intro W hSw; try (have e1 := (hSw.cell 2 Hq3.out Hxg.out).trans q0)
       go_simp; first | done | rfl)
    try simp only [Act.put, List.setIfInBounds_toArray, List.set_cons_zero, List.set_cons_succ]
    -- 4 Op.move (Operand.tmp 1)
    refine wpMono_take' 4 (v := ?_) rfl (by kernel_rfl) (by kernel_rfl) (by kernel_rfl) (fun _ _ _ h => h) (by rfl) ?_ ?_
    rotate_left
    · (intro W hSw; try (have e1 := (hSw.cell 2 Hq3.out Hxg.out).trans q0)
       go_simp; first | done | rfl)
    try simp only [Act.put, List.setIfInBounds_toArray, List.set_cons_zero, List.set_cons_succ]
    -- 5 Op.move (Operand.tmp 2)
    refine wpMono_take' 5 (v := ?_) rfl (by kernel_rfl) (by kernel_rfl) (by kernel_rfl) (fun _ _ _ h => h) (by rfl) ?_ ?_
    rotate_left
    · (intro W hSw; try (have e1 := (hSw.cell 2 Hq3.out Hxg.out).trans q0)
       go_simp; first | done | rfl)
    try simp only [Act.put, List.setIfInBounds_toArray, List.set_cons_zero, List.set_cons_succ]
    -- 6 Op.build 56 #[(0, Operand.tmp 15), (1, Operand.tmp 16)]
    refine wpMono_take' 6 (v := ?_) rfl (by kernel_rfl) (by kernel_rfl) (by kernel_rfl) (fun _ _ _ h => h) (by rfl) ?_ ?_
    rotate_left
    · (intro W hSw; try (have e1 := (hSw.cell 2 Hq3.out Hxg.out).trans q0)
       go_simp; first | done | rfl)
    try simp only [Act.put, List.setIfInBounds_toArray, List.set_cons_zero, List.set_cons_succ]
    -- 7 Op.move (Operand.tmp 0)
    refine wpMono_take' 7 (v := ?_) rfl (by kernel_rfl) (by kernel_rfl) (by kernel_rfl) (fun _ _ _ h => h) (by rfl) ?_ ?_
    rotate_left
    · (intro W hSw; try (have e1 := (hSw.cell 2 Hq3.out Hxg.out).trans q0)
       go_simp; first | done | rfl)
    try simp only [Act.put, List.setIfInBounds_toArray, List.set_cons_zero, List.set_cons_succ]
    -- 8 Op.nilCheck (Operand.tmp 18)
    refine wpMono_take' 8 (v := ?_) rfl (by kernel_rfl) (by kernel_rfl) (by kernel_rfl) (fun _ _ _ h => h) (by rfl) ?_ ?_
    rotate_left
    · (intro W hSw; try (have e1 := (hSw.cell 2 Hq3.out Hxg.out).trans q0)
       go_simp; first | done | rfl)
    try simp only [Act.put, List.setIfInBounds_toArray, List.set_cons_zero, List.set_cons_succ]
    -- 9 Op.fieldAddr 54 (Operand.tmp 19) 2
    refine wpMono_take' 9 (v := ?_) rfl (by kernel_rfl) (by kernel_rfl) (by kernel_rfl) (fun _ _ _ h => h) (by rfl) ?_ ?_
    rotate_left
    · (intro W hSw; try (have e1 := (hSw.cell 2 Hq3.out Hxg.out).trans q0)
       go_simp; first | done | rfl)
    try simp only [Act.put, List.setIfInBounds_toArray, List.set_cons_zero, List.set_cons_succ]
    -- 10 Op.load 52 (Operand.tmp 20)
    refine wpMono_take' 10 (v := ?_) rfl (by kernel_rfl) (by kernel_rfl) (by kernel_rfl) (fun _ _ _ h => h) (by rfl) ?_ ?_
    rotate_left
    · (intro W hSw; try (have e1 := (hSw.cell 2 Hq3.out Hxg.out).trans q0)
       go_simp; first | done | rfl)
    try simp only [Act.put, List.setIfInBounds_toArray, List.set_cons_zero, List.set_cons_succ]
    -- 11 Op.move (Operand.tmp 2)
    refine wpMono_take' 11 (v := ?_) rfl (by kernel_rfl) (by kernel_rfl) (by kernel_rfl) (fun _ _ _ h => h) (by rfl) ?_ ?_
    rotate_left
    · (intro W hSw; try (have e1 := (hSw.cell 2 Hq3.out Hxg.out).trans q0)
       go_simp; first | done | rfl)
    try simp only [Act.put, List.setIfInBounds_toArray, List.set_cons_zero, List.set_cons_succ]
    -- 12 Op.move (Operand.tmp 1)
    refine wpMono_take' 12 (v := ?_) rfl (by kernel_rfl) (by kernel_rfl) (by kernel_rfl) (fun _ _ _ h => h) (by rfl) ?_ ?_
    rotate_left
    · (intro W hSw; try (have e1 := (hSw.cell 2 Hq3.out Hxg.out).trans q0)
       go_simp; first | done | rfl)
    try simp only [Act.put, List.setIfInBounds_toArray, List.set_cons_zero, List.set_cons_succ]
    -- 13 Op.build 56 #[(0, Operand.tmp 22), (1, Operand.tmp 23)]
    refine wpMono_take' 13 (v := ?_) rfl (by kernel_rfl) (by kernel_rfl) (by kernel_rfl) (fun _ _ _ h => h) (by rfl) ?_ ?_
    rotate_left
    · (intro W hSw; try (have e1 := (hSw.cell 2 Hq3.out Hxg.out).trans q0)
       go_simp; first | done | rfl)
    try simp only [Act.put, List.setIfInBounds_toArray, List.set_cons_zero, List.set_cons_succ]
    -- EFFECT 14 Op.mapEntry 52 (Operand.tmp 14) (Operand.tmp 17)
    refine wpMono_one' 14 (by kernel_rfl) rfl (by rfl) (fun K hK => ?_)
    obtain ⟨st, w3, he1, he2, he3, he4⟩ := (C1.out.keeps (X := nobody) .drew (fun h => h)).entry way_law Try.underlying52 (z := .bool false) zero_bool Hx.out (by omega)
    obtain ⟨w4, hf1, hf2, hf3⟩ := he4 w3 (.bool true) rfl
    have He2 := Lib.hid he2
    have Hf2 := Lib.hid hf2
    have Hf3 := Lib.hid hf3
    have he1 : (Instr.mapEntry _ (.map (some cb)) (.agg #[.int .i64 a, .int .i64 b])).run _ _ = _ := he1
    clear he4 hf2 hf3 he2
    go_simp
    refine hK.out _ _ ?_ ?_
    · exact He2.out
    clear hK K
    try simp only [Act.put, List.setIfInBounds_toArray, List.set_cons_zero, List.set_cons_succ]
    -- 15 Op.extract (Operand.tmp 25) 1
    refine wpMono_take' 15 (v := ?_) rfl (by kernel_rfl) (by kernel_rfl) (by kernel_rfl) (fun _ _ _ h => h) (by rfl) ?_ ?_
    rotate_left
    · (intro W hSw; try (have e1 := (hSw.cell 2 Hq3.out Hxg.out).trans q0)
       go_simp; first | done | rfl)
    try simp only [Act.put, List.setIfInBounds_toArray, List.set_cons_zero, List.set_cons_succ]
    -- EFFECT 16 Op.entryStore 52 (Operand.tmp 14) (Operand.tmp 26) (Operand.const (Value.bool true))
    refine wpMono_one' 16 (by kernel_rfl) rfl (by rfl) (fun K hK => ?_)
    go_simp
    refine hK.out _ _ ?_ ?_
    · exact Hf3.out
    clear hK K
    try simp only [Act.put]
    -- EFFECT 17 Op.mapEntry 52 (Operand.tmp 21) (Operand.tmp 24)
    refine wpMono_one' 17 (by kernel_rfl) rfl (by rfl) (fun K hK => ?_)
    have hlen := putM_len mc (a, b) (.bool true)
    obtain ⟨st2, w5, hg1, hg2, hg3, hg4⟩ := Hf2.out.entry way_law Try.underlying52 (z := .bool false) zero_bool Hy.out (by omega)
    obtain ⟨w6, hh1, hh2, hh3⟩ := hg4 w5 (.bool true) rfl
    have Hg2 := Lib.hid hg2
    have Hh2 := Lib.hid hh2
    have Hh3 := Lib.hid hh3
    have hg1 : (Instr.mapEntry _ (.map (some cb)) (.agg #[.int .i64 b, .int .i64 a])).run _ _ = _ := hg1
    clear hg4 hh2 hh3 hg2
    go_simp
    refine hK.out _ _ ?_ ?_
    · exact Hg2.out
    clear hK K
    try simp only [Act.put, List.setIfInBounds_toArray, List.set_cons_zero, List.set_cons_succ]
    -- 18 Op.extract (Operand.tmp 27) 1
    refine wpMono_take' 18 (v := ?_) rfl (by kernel_rfl) (by kernel_rfl) (by kernel_rfl) (fun _ _ _ h => h) (by rfl) ?_ ?_
    rotate_left
    · (intro W hSw; try (have e1 := (hSw.cell 2 Hq3.out Hxg.out).trans q0)
       go_simp; first | done | rfl)
    try simp only [Act.put, List.setIfInBounds_toArray, List.set_cons_zero, List.set_cons_succ]
    -- EFFECT 19 Op.entryStore 52 (Operand.tmp 21) (Operand.tmp 28) (Operand.const (Value.bool true))
    refine wpMono_one' 19 (by kernel_rfl) rfl (by rfl) (fun K hK => ?_)
    go_simp
    refine hK.out _ _ ?_ ?_
    · exact Hh3.out
    clear hK K
    try simp only [Act.put]
    refine wpMono_done (by kernel_rfl) ?_ _
    have hk6 : Keeps (· = cb) w2 w6 := (((Keeps.drew.trans He2.out).trans Hf3.out).trans Hg2.out).trans Hh3.out
    have hR : JoinR S g bb cb (k + 2) n F (cutC n a b C) w (.returned (.tuple #[])) w6 := by
      refine ⟨rfl, NetS.cutTo H2.out hk6 Hh2.out ?_ (by omega) ?_, (Keeps.of_below hb2).trans hk6⟩
      · unfold cutC
        rw [hi]
        exact cut_put (cut_put C2.out (a, b) true) (b, a) true
      · have := putM_len (putM mc (a, b) (.bool true)) (b, a) (.bool true)
        omega
    have HR := Lib.hid hR
    clear hR hk6
    go_wp2
    exact bodyPost_end (v := .tuple #[]) (by simp [results, Try.results14, go_sem]) rfl HR.out
end Go.Proofs.Ytempojdgbgaanaa.cut
