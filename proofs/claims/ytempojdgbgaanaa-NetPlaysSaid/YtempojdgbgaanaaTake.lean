/- A message is taken. -/
import Derived.Test.YtempojdgbgaanaaDrop
namespace Go.Proofs.Ytempojdgbgaanaa.take
open Go.RowKit Go.Proofs.Ytempojdgbgaanaa.base Go.Proofs.Ytempojdgbgaanaa.map_ Go.Proofs.Ytempojdgbgaanaa.err Go.Proofs.Ytempojdgbgaanaa.net Go.Proofs.Ytempojdgbgaanaa.state Go.Proofs.Ytempojdgbgaanaa.at_ Go.Proofs.Ytempojdgbgaanaa.drop Go.Maps

def takeB (n : Int) (F : W2 → List ByteArray) (C : W2 → Bool) (x : W2) : Bool := atOk n F x && !C x
def msg (F : W2 → List ByteArray) (x : W2) (i : Int) : ByteArray := (F x).getD (idx i (F x).length) ⟨#[]⟩
def TakeR (S : Nat → Prop) (g bb cb k : Nat) (n : Int) (F : W2 → List ByteArray) (C : W2 → Bool) (x : W2) (i : Int) (w : World) (e : Ending) (w' : World) : Prop :=
  ∃ S', e = .returned (.tuple #[.string (if takeB n F C x then msg F x i else ⟨#[]⟩), .bool (takeB n F C x)]) ∧ (∀ i, S' i → S i ∨ w.heap.size ≤ i) ∧
    NetS w' S' g bb cb (k + 1) n (if takeB n F C x then upd F x ((F x).eraseIdx (idx i (F x).length)) else F) C ∧ Keeps (fun i => S i ∨ i = bb) w w'
section
variable {S : Nat → Prop} {g bb cb k : Nat} {n : Int} {F : W2 → List ByteArray} {C : W2 → Bool} {x : W2} {i : Int} {w w2 w' : World}
theorem take_no (h : NetS w S g bb cb k n F C) (hs : takeB n F C x = false) (hb : Below w.heap.size w w') :
    TakeR S g bb cb k n F C x i w (.returned (.tuple #[.string ⟨#[]⟩, .bool false])) w' := by
  refine ⟨S, by rw [hs]; rfl, fun i hi => .inl hi, ?_, .of_below hb⟩
  rw [hs]
  exact NetS.more (h.below hb) (by omega)
theorem take_ok (hs : takeB n F C x = true) (ha : atOk n F x = true) (hb : Below w.heap.size w w2) {s : ByteArray} (hm : s = msg F x i) {b : Bool} (hd : DropR S g bb cb k n F C x (idx i (F x).length : Nat) w2 (.returned (.bool b)) w') :
    TakeR S g bb cb k n F C x i w (.returned (.tuple #[.string s, .bool b])) w' := by
  obtain ⟨S', h1, h2, h3, h4⟩ := hd
  have hl : (F x).length ≠ 0 := by intro h0; simp [atOk, h0] at ha
  rw [ha] at h1 h3
  injection h1 with h1
  injection h1 with h1
  subst h1 hm
  rw [idx_same _ (idx_lt i (by omega))] at h3
  have := hb.size
  exact ⟨S', by rw [hs]; rfl, fun i hi => (h2 i hi).imp id fun h => by omega, by rw [hs]; exact h3, (Keeps.of_below hb).trans h4⟩
end
set_option maxRecDepth 100000 in
theorem take_nil (a b i : Int) (w : World) : Calls Try.prog 10 #[.pointer none, .int .i64 a, .int .i64 b, .int .i64 i] w fun e w' => e = .returned (.tuple #[.string ⟨#[]⟩, .bool false]) ∧ Below w.heap.size w w' := by
  have hwa := below_new w (.cells #[.int .i64 a, .int .i64 b] 56)
  have Hwa := Lib.hid hwa
  clear hwa
  go_enter Try.func10, Try.ntmps10
  go_wp2_with fail
  refine (at_nil a b i _).mono ?_
  rintro e w2 ⟨rfl, hb2⟩
  have HB := Lib.hid (below_step Hwa.out hb2)
  go_wp2_with fail
  refine wp_region_mono nobody (by kernel_rfl) ?_
  -- 0 Op.move (Operand.tmp 12)
  refine wpMono_take' 0 (v := ?_) rfl (by kernel_rfl) (by kernel_rfl) (by kernel_rfl) (fun _ _ _ h => h) (by rfl) ?_ ?_
  rotate_left
  · (intro W hSw; have hcW := hSw.cells; try simp only [World.size_drew, World.cell?_drew] at hcW
     go_simp; first | done | rfl)
  try simp only [Act.put, List.setIfInBounds_toArray, List.set_cons_zero, List.set_cons_succ]
  -- 1 Op.unOp UnOp.not 4 (Operand.tmp 24)
  refine wpMono_take' 1 (v := ?_) rfl (by kernel_rfl) (by kernel_rfl) (by kernel_rfl) (fun _ _ _ h => h) (by rfl) ?_ ?_
  rotate_left
  · (intro W hSw; have hcW := hSw.cells; try simp only [World.size_drew, World.cell?_drew] at hcW
     go_simp; first | done | rfl)
  try simp only [Act.put, List.setIfInBounds_toArray, List.set_cons_zero, List.set_cons_succ]
  -- 2 Op.move (Operand.tmp 25)
  refine wpMono_take' 2 (v := ?_) rfl (by kernel_rfl) (by kernel_rfl) (by kernel_rfl) (fun _ _ _ h => h) (by rfl) ?_ ?_
  rotate_left
  · (intro W hSw; have hcW := hSw.cells; try simp only [World.size_drew, World.cell?_drew] at hcW
     go_simp; first | done | rfl)
  try simp only [Act.put, List.setIfInBounds_toArray, List.set_cons_zero, List.set_cons_succ]
  -- 3 Op.move (Operand.tmp 0)
  refine wpMono_skip' 3 rfl (by kernel_rfl) (by kernel_rfl) (by kernel_rfl) (fun _ _ _ h => h) (by rfl) ?_
  try simp only [Act.put, List.setIfInBounds_toArray, List.set_cons_zero, List.set_cons_succ]
  -- 4 Op.nilCheck (Operand.tmp 27)
  refine wpMono_skip' 4 rfl (by kernel_rfl) (by kernel_rfl) (by kernel_rfl) (fun _ _ _ h => h) (by rfl) ?_
  try simp only [Act.put, List.setIfInBounds_toArray, List.set_cons_zero, List.set_cons_succ]
  -- 5 Op.fieldAddr 54 (Operand.tmp 28) 2
  refine wpMono_skip' 5 rfl (by kernel_rfl) (by kernel_rfl) (by kernel_rfl) (fun _ _ _ h => h) (by rfl) ?_
  try simp only [Act.put, List.setIfInBounds_toArray, List.set_cons_zero, List.set_cons_succ]
  -- 6 Op.load 52 (Operand.tmp 29)
  refine wpMono_skip' 6 rfl (by kernel_rfl) (by kernel_rfl) (by kernel_rfl) (fun _ _ _ h => h) (by rfl) ?_
  try simp only [Act.put, List.setIfInBounds_toArray, List.set_cons_zero, List.set_cons_succ]
  -- 7 Op.load 56 (Operand.tmp 10)
  refine wpMono_skip' 7 rfl (by kernel_rfl) (by kernel_rfl) (by kernel_rfl) (fun _ _ _ h => h) (by rfl) ?_
  try simp only [Act.put, List.setIfInBounds_toArray, List.set_cons_zero, List.set_cons_succ]
  -- 8 Op.lookup 52 (Operand.tmp 30) (Operand.tmp 31) false
  refine wpMono_skip' 8 rfl (by kernel_rfl) (by kernel_rfl) (by kernel_rfl) (fun _ _ _ h => h) (by rfl) ?_
  try simp only [Act.put, List.setIfInBounds_toArray, List.set_cons_zero, List.set_cons_succ]
  -- 9 Op.pick (Operand.tmp 26) (Operand.const (Value.bool true)) (Operand.tmp 32)
  refine wpMono_take' 9 (v := ?_) rfl (by kernel_rfl) (by kernel_rfl) (by kernel_rfl) (fun _ _ _ h => h) (by rfl) ?_ ?_
  rotate_left
  · (intro W hSw; have hcW := hSw.cells; try simp only [World.size_drew, World.cell?_drew] at hcW
     go_simp; first | done | rfl)
  try simp only [Act.put, List.setIfInBounds_toArray, List.set_cons_zero, List.set_cons_succ]
  refine wpMono_done (by kernel_rfl) ?_ _
  go_wp2
  go_ret2
  exact ⟨rfl, below_drewN HB.out 1⟩
set_option maxRecDepth 100000 in
set_option maxHeartbeats 3200000 in
theorem take_any (S : Nat → Prop) (g bb cb k : Nat) (n a b i : Int) (F : W2 → List ByteArray) (C : W2 → Bool) (w : World) (h : NetS w S g bb cb k n F C) (hx : okW (a, b)) (hl : (F (a, b)).length ≤ 64) :
    Calls Try.prog 10 #[.pointer (some ⟨g, 0, none⟩), .int .i64 a, .int .i64 b, .int .i64 i] w (TakeR S g bb cb k n F C (a, b) i w) := by
  have hwa := below_new w (.cells #[.int .i64 a, .int .i64 b] 56)
  have hW := Blk.new w 56 #[.int .i64 a, .int .i64 b]
  have h1 := h.below hwa
  have Hx := Lib.hid hx
  have H := Lib.hid h
  have Hwa := Lib.hid hwa
  have HW := Lib.hid hW
  have H1 := Lib.hid h1
  clear hwa hW h1
  clear hx h
  cases hs : atOk n F (a, b)
  · have Hno := Lib.hid (show takeB n F C (a, b) = false by simp [takeB, hs])
    go_enter Try.func10, Try.ntmps10
    go_wp2_with fail
    refine (at_any S g bb cb k n a b i F C _ H1.out Hx.out hl).mono ?_
    rintro e w2 ⟨rfl, hb2⟩
    rw [hs]
    have HB := Lib.hid (below_step Hwa.out hb2)
    go_wp2_with fail
    refine wp_region_mono nobody (by kernel_rfl) ?_
    -- 0 Op.move (Operand.tmp 12)
    refine wpMono_take' 0 (v := ?_) rfl (by kernel_rfl) (by kernel_rfl) (by kernel_rfl) (fun _ _ _ h => h) (by rfl) ?_ ?_
    rotate_left
    · (intro W hSw; have hcW := hSw.cells; try simp only [World.size_drew, World.cell?_drew] at hcW
       go_simp; first | done | rfl)
    try simp only [Act.put, List.setIfInBounds_toArray, List.set_cons_zero, List.set_cons_succ]
    -- 1 Op.unOp UnOp.not 4 (Operand.tmp 24)
    refine wpMono_take' 1 (v := ?_) rfl (by kernel_rfl) (by kernel_rfl) (by kernel_rfl) (fun _ _ _ h => h) (by rfl) ?_ ?_
    rotate_left
    · (intro W hSw; have hcW := hSw.cells; try simp only [World.size_drew, World.cell?_drew] at hcW
       go_simp; first | done | rfl)
    try simp only [Act.put, List.setIfInBounds_toArray, List.set_cons_zero, List.set_cons_succ]
    -- 2 Op.move (Operand.tmp 25)
    refine wpMono_take' 2 (v := ?_) rfl (by kernel_rfl) (by kernel_rfl) (by kernel_rfl) (fun _ _ _ h => h) (by rfl) ?_ ?_
    rotate_left
    · (intro W hSw; have hcW := hSw.cells; try simp only [World.size_drew, World.cell?_drew] at hcW
       go_simp; first | done | rfl)
    try simp only [Act.put, List.setIfInBounds_toArray, List.set_cons_zero, List.set_cons_succ]
    -- 3 Op.move (Operand.tmp 0)
    refine wpMono_skip' 3 rfl (by kernel_rfl) (by kernel_rfl) (by kernel_rfl) (fun _ _ _ h => h) (by rfl) ?_
    try simp only [Act.put, List.setIfInBounds_toArray, List.set_cons_zero, List.set_cons_succ]
    -- 4 Op.nilCheck (Operand.tmp 27)
    refine wpMono_skip' 4 rfl (by kernel_rfl) (by kernel_rfl) (by kernel_rfl) (fun _ _ _ h => h) (by rfl) ?_
    try simp only [Act.put, List.setIfInBounds_toArray, List.set_cons_zero, List.set_cons_succ]
    -- 5 Op.fieldAddr 54 (Operand.tmp 28) 2
    refine wpMono_skip' 5 rfl (by kernel_rfl) (by kernel_rfl) (by kernel_rfl) (fun _ _ _ h => h) (by rfl) ?_
    try simp only [Act.put, List.setIfInBounds_toArray, List.set_cons_zero, List.set_cons_succ]
    -- 6 Op.load 52 (Operand.tmp 29)
    refine wpMono_skip' 6 rfl (by kernel_rfl) (by kernel_rfl) (by kernel_rfl) (fun _ _ _ h => h) (by rfl) ?_
    try simp only [Act.put, List.setIfInBounds_toArray, List.set_cons_zero, List.set_cons_succ]
    -- 7 Op.load 56 (Operand.tmp 10)
    refine wpMono_skip' 7 rfl (by kernel_rfl) (by kernel_rfl) (by kernel_rfl) (fun _ _ _ h => h) (by rfl) ?_
    try simp only [Act.put, List.setIfInBounds_toArray, List.set_cons_zero, List.set_cons_succ]
    -- 8 Op.lookup 52 (Operand.tmp 30) (Operand.tmp 31) false
    refine wpMono_skip' 8 rfl (by kernel_rfl) (by kernel_rfl) (by kernel_rfl) (fun _ _ _ h => h) (by rfl) ?_
    try simp only [Act.put, List.setIfInBounds_toArray, List.set_cons_zero, List.set_cons_succ]
    -- 9 Op.pick (Operand.tmp 26) (Operand.const (Value.bool true)) (Operand.tmp 32)
    refine wpMono_take' 9 (v := ?_) rfl (by kernel_rfl) (by kernel_rfl) (by kernel_rfl) (fun _ _ _ h => h) (by rfl) ?_ ?_
    rotate_left
    · (intro W hSw; have hcW := hSw.cells; try simp only [World.size_drew, World.cell?_drew] at hcW
       go_simp; first | done | rfl)
    try simp only [Act.put, List.setIfInBounds_toArray, List.set_cons_zero, List.set_cons_succ]
    refine wpMono_done (by kernel_rfl) ?_ _
    go_wp2
    go_ret2
    exact take_no H.out Hno.out (below_drewN HB.out 1)
  · have Hs := Lib.hid hs
    have hne : (F (a, b)).length ≠ 0 := by intro h0; simp [atOk, h0] at hs
    have hil : idx i (F (a, b)).length < (F (a, b)).length := idx_lt i (by omega)
    go_enter Try.func10, Try.ntmps10
    go_wp2_with fail
    refine (at_any S g bb cb k n a b i F C _ H1.out Hx.out hl).mono ?_
    rintro e w2 ⟨rfl, hb2⟩
    rw [hs, if_pos rfl]
    have HB := Lib.hid (below_step Hwa.out hb2)
    have H3 := Lib.hid (H1.out.below hb2)
    have HW3 := Lib.hid (HW.out.below hb2 HW.out.lt)
    have q0 : w2.cell? ⟨g, 2, none⟩ = _ := H3.out.net.cell 2
    have q1 : w2.cell? ⟨w.heap.size, 0, none⟩ = _ := HW3.out.cell 0
    have q2 : w2.cell? ⟨w.heap.size, 1, none⟩ = _ := HW3.out.cell 1
    have q5 : w2.cell? ⟨g, 1, none⟩ = _ := H3.out.net.cell 1
    have q3 := H3.out.net.lt
    have q4 := HW3.out.lt
    simp at q0 q1 q2 q5
    go_wp2_with fail
    cases hC : C (a, b)
    · have Hyes := Lib.hid (show takeB n F C (a, b) = true by simp [takeB, hs, hC])
      have HC := Lib.hid hC
      clear hC
      refine wp_region_mono nobody (by kernel_rfl) ?_
      -- 0 Op.move (Operand.tmp 12)
      refine wpMono_take' 0 (v := ?_) rfl (by kernel_rfl) (by kernel_rfl) (by kernel_rfl) (fun _ _ _ h => h) (by rfl) ?_ ?_
      rotate_left
      · (intro W hSw; have hcW := hSw.cells; try simp only [World.size_drew, World.cell?_drew] at hcW
         go_simp; first | done | rfl)
      try simp only [Act.put, List.setIfInBounds_toArray, List.set_cons_zero, List.set_cons_succ]
      -- 1 Op.unOp UnOp.not 4 (Operand.tmp 24)
      refine wpMono_take' 1 (v := ?_) rfl (by kernel_rfl) (by kernel_rfl) (by kernel_rfl) (fun _ _ _ h => h) (by rfl) ?_ ?_
      rotate_left
      · (intro W hSw; have hcW := hSw.cells; try simp only [World.size_drew, World.cell?_drew] at hcW
         go_simp; first | done | rfl)
      try simp only [Act.put, List.setIfInBounds_toArray, List.set_cons_zero, List.set_cons_succ]
      -- 2 Op.move (Operand.tmp 25)
      refine wpMono_take' 2 (v := ?_) rfl (by kernel_rfl) (by kernel_rfl) (by kernel_rfl) (fun _ _ _ h => h) (by rfl) ?_ ?_
      rotate_left
      · (intro W hSw; have hcW := hSw.cells; try simp only [World.size_drew, World.cell?_drew] at hcW
         go_simp; first | done | rfl)
      try simp only [Act.put, List.setIfInBounds_toArray, List.set_cons_zero, List.set_cons_succ]
      -- 3 Op.move (Operand.tmp 0)
      refine wpMono_take' 3 (v := ?_) rfl (by kernel_rfl) (by kernel_rfl) (by kernel_rfl) (fun _ _ _ h => h) (by rfl) ?_ ?_
      rotate_left
      · (intro W hSw; have hcW := hSw.cells; try simp only [World.size_drew, World.cell?_drew] at hcW
         go_simp; first | done | rfl)
      try simp only [Act.put, List.setIfInBounds_toArray, List.set_cons_zero, List.set_cons_succ]
      -- 4 Op.nilCheck (Operand.tmp 27)
      refine wpMono_take' 4 (v := ?_) rfl (by kernel_rfl) (by kernel_rfl) (by kernel_rfl) (fun _ _ _ h => h) (by rfl) ?_ ?_
      rotate_left
      · (intro W hSw; have hcW := hSw.cells; try simp only [World.size_drew, World.cell?_drew] at hcW
         go_simp; first | done | rfl)
      try simp only [Act.put, List.setIfInBounds_toArray, List.set_cons_zero, List.set_cons_succ]
      -- 5 Op.fieldAddr 54 (Operand.tmp 28) 2
      refine wpMono_take' 5 (v := ?_) rfl (by kernel_rfl) (by kernel_rfl) (by kernel_rfl) (fun _ _ _ h => h) (by rfl) ?_ ?_
      rotate_left
      · (intro W hSw; have hcW := hSw.cells; try simp only [World.size_drew, World.cell?_drew] at hcW
         go_simp; first | done | rfl)
      try simp only [Act.put, List.setIfInBounds_toArray, List.set_cons_zero, List.set_cons_succ]
      -- 6 Op.load 52 (Operand.tmp 29)
      refine wpMono_take' 6 (v := ?_) rfl (by kernel_rfl) (by kernel_rfl) (by kernel_rfl) (fun _ _ _ h => h) (by rfl) ?_ ?_
      rotate_left
      · (intro W hSw; have hcW := hSw.cells; try simp only [World.size_drew, World.cell?_drew] at hcW
         go_simp; first | done | rfl)
      try simp only [Act.put, List.setIfInBounds_toArray, List.set_cons_zero, List.set_cons_succ]
      -- 7 Op.load 56 (Operand.tmp 10)
      refine wpMono_take' 7 (v := ?_) rfl (by kernel_rfl) (by kernel_rfl) (by kernel_rfl) (fun _ _ _ h => h) (by rfl) ?_ ?_
      rotate_left
      · (intro W hSw; have hcW := hSw.cells; try simp only [World.size_drew, World.cell?_drew] at hcW
         go_simp; first | done | rfl)
      try simp only [Act.put, List.setIfInBounds_toArray, List.set_cons_zero, List.set_cons_succ]
      -- EFFECT 8 Op.lookup 52 (Operand.tmp 30) (Operand.tmp 31) false
      refine wpMono_one' 8 (by kernel_rfl) rfl (by rfl) (fun K hK => ?_)
      have hlk := H3.out.drew.cuts.look Hx.out
      rw [HC.out] at hlk
      unfold way at hlk
      go_simp
      refine hK.out _ _ ?_ ?_
      · exact .refl _ _
      clear hK K
      try simp only [Act.put, List.setIfInBounds_toArray, List.set_cons_zero, List.set_cons_succ]
      -- 9 Op.pick (Operand.tmp 26) (Operand.const (Value.bool true)) (Operand.tmp 32)
      refine wpMono_take' 9 (v := ?_) rfl (by kernel_rfl) (by kernel_rfl) (by kernel_rfl) (fun _ _ _ h => h) (by rfl) ?_ ?_
      rotate_left
      · (intro W hSw; have hcW := hSw.cells; try simp only [World.size_drew, World.cell?_drew] at hcW
         go_simp; first | done | rfl)
      try simp only [Act.put, List.setIfInBounds_toArray, List.set_cons_zero, List.set_cons_succ]
      refine wpMono_done (by kernel_rfl) ?_ _
      go_wp2_with fail
      obtain ⟨fA, fc, hlk2, hbag, hS⟩ := H3.out.drew.drew.bags.look Hx.out
      unfold way at hlk2
      obtain ⟨h4, ⟨_, h5⟩ | ⟨gb, cap, cur, he, _, h6, _, _, _, h7⟩⟩ := hbag
      · exact absurd h5 hne
      injection he with he _ he2
      subst he he2
      have h8 : w2.cell? ⟨gb, idx i (F (a, b)).length, none⟩ = some (.string (msg F (a, b) i)) := by
        have hb : Blk w2 gb 9 cur := h6
        rw [hb.cell, ← Array.getElem?_toList]
        have h9 : cur.toList[idx i (F (a, b)).length]? = ((F (a, b)).map Value.string)[idx i (F (a, b)).length]? := by
          rw [← h7, List.getElem?_take_of_lt (by omega)]
        rw [h9]
        unfold msg
        rw [List.getElem?_map, List.getElem?_eq_getElem hil, List.getD_eq_getElem?_getD, List.getElem?_eq_getElem hil]
        rfl
      have q6 : gb < w2.heap.size := heap_lt h6
      have hfin : ∀ w' (o : Bool), DropR S g bb cb (k) n F C (a, b) ((idx i (F (a, b)).length : Nat) : Int) w2.drew.drew (.returned (.bool o)) w' → TakeR S g bb cb k n F C (a, b) i w (.returned (.tuple #[.string (msg F (a, b) i), .bool o])) w' := fun w' o hd => take_ok Hyes.out Hs.out (below_drewN HB.out 2) rfl hd
      have Hfin := Lib.hid hfin
      clear hS h4 h6 h7 hfin
      generalize idx i (F (a, b)).length = j at h8 Hfin hil
      generalize msg F (a, b) i = sm at h8 Hfin
      have hlk3 : (Instr.lookup _ (.map (some bb)) (.agg #[.int .i64 a, .int .i64 b]) false).run _ _ = _ := hlk2
      clear hlk2
      refine wp_region_mono nobody (by kernel_rfl) ?_
      -- 0 Op.move (Operand.tmp 0)
      refine wpMono_take' 0 (v := ?_) rfl (by kernel_rfl) (by kernel_rfl) (by kernel_rfl) (fun _ _ _ h => h) (by rfl) ?_ ?_
      rotate_left
      · (intro W hSw; have hcW := hSw.cells; try simp only [World.size_drew, World.cell?_drew] at hcW
         go_simp; first | done | rfl)
      try simp only [Act.put, List.setIfInBounds_toArray, List.set_cons_zero, List.set_cons_succ]
      -- 1 Op.nilCheck (Operand.tmp 34)
      refine wpMono_take' 1 (v := ?_) rfl (by kernel_rfl) (by kernel_rfl) (by kernel_rfl) (fun _ _ _ h => h) (by rfl) ?_ ?_
      rotate_left
      · (intro W hSw; have hcW := hSw.cells; try simp only [World.size_drew, World.cell?_drew] at hcW
         go_simp; first | done | rfl)
      try simp only [Act.put, List.setIfInBounds_toArray, List.set_cons_zero, List.set_cons_succ]
      -- 2 Op.fieldAddr 54 (Operand.tmp 35) 1
      refine wpMono_take' 2 (v := ?_) rfl (by kernel_rfl) (by kernel_rfl) (by kernel_rfl) (fun _ _ _ h => h) (by rfl) ?_ ?_
      rotate_left
      · (intro W hSw; have hcW := hSw.cells; try simp only [World.size_drew, World.cell?_drew] at hcW
         go_simp; first | done | rfl)
      try simp only [Act.put, List.setIfInBounds_toArray, List.set_cons_zero, List.set_cons_succ]
      -- 3 Op.load 51 (Operand.tmp 36)
      refine wpMono_take' 3 (v := ?_) rfl (by kernel_rfl) (by kernel_rfl) (by kernel_rfl) (fun _ _ _ h => h) (by rfl) ?_ ?_
      rotate_left
      · (intro W hSw; have hcW := hSw.cells; try simp only [World.size_drew, World.cell?_drew] at hcW
         go_simp; first | done | rfl)
      try simp only [Act.put, List.setIfInBounds_toArray, List.set_cons_zero, List.set_cons_succ]
      -- 4 Op.load 56 (Operand.tmp 10)
      refine wpMono_take' 4 (v := ?_) rfl (by kernel_rfl) (by kernel_rfl) (by kernel_rfl) (fun _ _ _ h => h) (by rfl) ?_ ?_
      rotate_left
      · (intro W hSw; have hcW := hSw.cells; try simp only [World.size_drew, World.cell?_drew] at hcW
         go_simp; first | done | rfl)
      try simp only [Act.put, List.setIfInBounds_toArray, List.set_cons_zero, List.set_cons_succ]
      -- 6 Op.move (Operand.tmp 11)
      refine wpMono_take' 6 (v := ?_) rfl (by kernel_rfl) (by kernel_rfl) (by kernel_rfl) (fun _ _ _ h => h) (by rfl) ?_ ?_
      rotate_left
      · (intro W hSw; have hcW := hSw.cells; try simp only [World.size_drew, World.cell?_drew] at hcW
         go_simp; first | done | rfl)
      try simp only [Act.put, List.setIfInBounds_toArray, List.set_cons_zero, List.set_cons_succ]
      -- EFFECT 5 Op.lookup 51 (Operand.tmp 37) (Operand.tmp 38) false
      refine wpMono_one' 5 (by kernel_rfl) rfl (by rfl) (fun K hK => ?_)
      go_simp
      go_simp
      refine hK.out _ _ ?_ ?_
      · exact .refl _ _
      clear hK K
      try simp only [Act.put, List.setIfInBounds_toArray, List.set_cons_zero, List.set_cons_succ]
      -- 7 Op.indexAddr 37 (Operand.tmp 39) (Operand.tmp 40)
      refine wpMono_take' 7 (v := ?_) rfl (by kernel_rfl) (by kernel_rfl) (by kernel_rfl) (fun _ _ _ h => h) (by rfl) ?_ ?_
      rotate_left
      · (intro W hSw; have hcW := hSw.cells; try simp only [World.size_drew, World.cell?_drew] at hcW
         go_simp; first | done | rfl)
      try simp only [Act.put, List.setIfInBounds_toArray, List.set_cons_zero, List.set_cons_succ]
      -- 8 Op.load 9 (Operand.tmp 41)
      refine wpMono_take' 8 (v := ?_) rfl (by kernel_rfl) (by kernel_rfl) (by kernel_rfl) (fun _ _ _ h => h) (by rfl) ?_ ?_
      rotate_left
      · (intro W hSw; have hcW := hSw.cells; try simp only [World.size_drew, World.cell?_drew] at hcW
         go_simp; first | done | rfl)
      try simp only [Act.put, List.setIfInBounds_toArray, List.set_cons_zero, List.set_cons_succ]
      -- 9 Op.assign (Operand.tmp 42)
      refine wpMono_take' 9 (v := ?_) rfl (by kernel_rfl) (by kernel_rfl) (by kernel_rfl) (fun _ _ _ h => h) (by rfl) ?_ ?_
      rotate_left
      · (intro W hSw; have hcW := hSw.cells; try simp only [World.size_drew, World.cell?_drew] at hcW
         go_simp; first | done | rfl)
      try simp only [Act.put, List.setIfInBounds_toArray, List.set_cons_zero, List.set_cons_succ]
      refine wpMono_done (by kernel_rfl) ?_ _
      go_wp2_with fail
      refine (drop_any S g bb cb k n a b j F C _ H3.out.drew.drew Hx.out hl).mono ?_
      rintro e w3 ⟨S', rfl, hd2, hd3, hd4⟩
      have hR := Hfin.out w3 _ ⟨S', rfl, hd2, hd3, hd4⟩
      rw [Hs.out] at hR
      have HR := Lib.hid hR
      clear hR hd2 hd3 hd4
      go_wp2
      go_ret2
      exact HR.out
    · have Hno := Lib.hid (show takeB n F C (a, b) = false by simp [takeB, hC])
      have HC := Lib.hid hC
      clear hC
      refine wp_region_mono nobody (by kernel_rfl) ?_
      -- 0 Op.move (Operand.tmp 12)
      refine wpMono_take' 0 (v := ?_) rfl (by kernel_rfl) (by kernel_rfl) (by kernel_rfl) (fun _ _ _ h => h) (by rfl) ?_ ?_
      rotate_left
      · (intro W hSw; have hcW := hSw.cells; try simp only [World.size_drew, World.cell?_drew] at hcW
         go_simp; first | done | rfl)
      try simp only [Act.put, List.setIfInBounds_toArray, List.set_cons_zero, List.set_cons_succ]
      -- 1 Op.unOp UnOp.not 4 (Operand.tmp 24)
      refine wpMono_take' 1 (v := ?_) rfl (by kernel_rfl) (by kernel_rfl) (by kernel_rfl) (fun _ _ _ h => h) (by rfl) ?_ ?_
      rotate_left
      · (intro W hSw; have hcW := hSw.cells; try simp only [World.size_drew, World.cell?_drew] at hcW
         go_simp; first | done | rfl)
      try simp only [Act.put, List.setIfInBounds_toArray, List.set_cons_zero, List.set_cons_succ]
      -- 2 Op.move (Operand.tmp 25)
      refine wpMono_take' 2 (v := ?_) rfl (by kernel_rfl) (by kernel_rfl) (by kernel_rfl) (fun _ _ _ h => h) (by rfl) ?_ ?_
      rotate_left
      · (intro W hSw; have hcW := hSw.cells; try simp only [World.size_drew, World.cell?_drew] at hcW
         go_simp; first | done | rfl)
      try simp only [Act.put, List.setIfInBounds_toArray, List.set_cons_zero, List.set_cons_succ]
      -- 3 Op.move (Operand.tmp 0)
      refine wpMono_take' 3 (v := ?_) rfl (by kernel_rfl) (by kernel_rfl) (by kernel_rfl) (fun _ _ _ h => h) (by rfl) ?_ ?_
      rotate_left
      · (intro W hSw; have hcW := hSw.cells; try simp only [World.size_drew, World.cell?_drew] at hcW
         go_simp; first | done | rfl)
      try simp only [Act.put, List.setIfInBounds_toArray, List.set_cons_zero, List.set_cons_succ]
      -- 4 Op.nilCheck (Operand.tmp 27)
      refine wpMono_take' 4 (v := ?_) rfl (by kernel_rfl) (by kernel_rfl) (by kernel_rfl) (fun _ _ _ h => h) (by rfl) ?_ ?_
      rotate_left
      · (intro W hSw; have hcW := hSw.cells; try simp only [World.size_drew, World.cell?_drew] at hcW
         go_simp; first | done | rfl)
      try simp only [Act.put, List.setIfInBounds_toArray, List.set_cons_zero, List.set_cons_succ]
      -- 5 Op.fieldAddr 54 (Operand.tmp 28) 2
      refine wpMono_take' 5 (v := ?_) rfl (by kernel_rfl) (by kernel_rfl) (by kernel_rfl) (fun _ _ _ h => h) (by rfl) ?_ ?_
      rotate_left
      · (intro W hSw; have hcW := hSw.cells; try simp only [World.size_drew, World.cell?_drew] at hcW
         go_simp; first | done | rfl)
      try simp only [Act.put, List.setIfInBounds_toArray, List.set_cons_zero, List.set_cons_succ]
      -- 6 Op.load 52 (Operand.tmp 29)
      refine wpMono_take' 6 (v := ?_) rfl (by kernel_rfl) (by kernel_rfl) (by kernel_rfl) (fun _ _ _ h => h) (by rfl) ?_ ?_
      rotate_left
      · (intro W hSw; have hcW := hSw.cells; try simp only [World.size_drew, World.cell?_drew] at hcW
         go_simp; first | done | rfl)
      try simp only [Act.put, List.setIfInBounds_toArray, List.set_cons_zero, List.set_cons_succ]
      -- 7 Op.load 56 (Operand.tmp 10)
      refine wpMono_take' 7 (v := ?_) rfl (by kernel_rfl) (by kernel_rfl) (by kernel_rfl) (fun _ _ _ h => h) (by rfl) ?_ ?_
      rotate_left
      · (intro W hSw; have hcW := hSw.cells; try simp only [World.size_drew, World.cell?_drew] at hcW
         go_simp; first | done | rfl)
      try simp only [Act.put, List.setIfInBounds_toArray, List.set_cons_zero, List.set_cons_succ]
      -- EFFECT 8 Op.lookup 52 (Operand.tmp 30) (Operand.tmp 31) false
      refine wpMono_one' 8 (by kernel_rfl) rfl (by rfl) (fun K hK => ?_)
      have hlk := H3.out.drew.cuts.look Hx.out
      rw [HC.out] at hlk
      unfold way at hlk
      go_simp
      refine hK.out _ _ ?_ ?_
      · exact .refl _ _
      clear hK K
      try simp only [Act.put, List.setIfInBounds_toArray, List.set_cons_zero, List.set_cons_succ]
      -- 9 Op.pick (Operand.tmp 26) (Operand.const (Value.bool true)) (Operand.tmp 32)
      refine wpMono_take' 9 (v := ?_) rfl (by kernel_rfl) (by kernel_rfl) (by kernel_rfl) (fun _ _ _ h => h) (by rfl) ?_ ?_
      rotate_left
      · (intro W hSw; have hcW := hSw.cells; try simp only [World.size_drew, World.cell?_drew] at hcW
         go_simp; first | done | rfl)
      try simp only [Act.put, List.setIfInBounds_toArray, List.set_cons_zero, List.set_cons_succ]
      refine wpMono_done (by kernel_rfl) ?_ _
      go_wp2
      go_ret2
      exact take_no H.out Hno.out (below_drewN HB.out 1)
end Go.Proofs.Ytempojdgbgaanaa.take
