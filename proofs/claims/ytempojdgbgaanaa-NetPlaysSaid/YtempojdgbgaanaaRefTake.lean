/- The document's net: take and double. -/
import Derived.Test.YtempojdgbgaanaaRefSend
import Derived.Test.YtempojdgbgaanaaMonoJ
namespace Go.Proofs.Ytempojdgbgaanaa.reftake
open Go.RowKit Go.Proofs.Ytempojdgbgaanaa.base Go.Proofs.Ytempojdgbgaanaa.net Go.Proofs.Ytempojdgbgaanaa.state Go.Proofs.Ytempojdgbgaanaa.at_ Go.Proofs.Ytempojdgbgaanaa.keepo Go.Proofs.Ytempojdgbgaanaa.refnet Go.Proofs.Ytempojdgbgaanaa.refat Go.Proofs.Ytempojdgbgaanaa.refcnt Go.Proofs.Ytempojdgbgaanaa.refsend Go.Proofs.Ytempojdgbgaanaa.monoj

def takeD (L : List M) (Ws : List W2) (x : W2) : Bool := hasB L x && !isC Ws x
def takeS (L : List M) (Ws : List W2) (x : W2) (i : Int) : ByteArray := if takeD L Ws x then (msgM L x i).s else ⟨#[]⟩
def takeL (L : List M) (Ws : List W2) (x : W2) (i : Int) : List M := if takeD L Ws x then dropD L x i else L
set_option maxRecDepth 100000 in
set_option maxHeartbeats 1600000 in
theorem take_ref (B g : Nat) (n a b i : Int) (A1 A2 : Option Addr) (c1 c2 : Nat) (L : List M) (Ws : List W2) (w : World) (h : RefT w B g n A1 c1 A2 c2 L Ws) (hl : L.length ≤ 10000) (hl2 : Ws.length ≤ 10000) :
    Calls Try.prog 20 #[.pointer (some ⟨g, 0, none⟩), .int .i64 a, .int .i64 b, .int .i64 i] w fun e w' => e = .returned (.tuple #[.string (takeS L Ws (a, b) i), .bool (takeD L Ws (a, b))]) ∧ RefR B g n (takeL L Ws (a, b) i) Ws w w' := by
  have H := Lib.hid h
  have hsz := RefT.size h
  clear h
  cases t1 : hasB L (a, b)
  · have hp : posI L (a, b) i = -1 := by unfold posI; rw [t1]; rfl
    have hd : takeD L Ws (a, b) = false := by unfold takeD; rw [t1]; rfl
    have Hd := Lib.hid hd
    clear hd
    go_enter Try.func20, Try.ntmps20
    go_wp2_with fail
    refine (at_ref B g n a b i A1 A2 c1 c2 L Ws w H.out (by omega)).mono ?_
    rintro e w2 ⟨rfl, rfl⟩
    rw [hp]
    clear hp
    go_wp2
    go_ret2
    exact ⟨by unfold takeS; rw [Hd.out]; rfl, by unfold takeL; rw [Hd.out]; exact RefR.same H.out (Below.refl _ _)⟩
  · have hp : posI L (a, b) i = (posN L (a, b) i : Nat) := by unfold posI; rw [t1]; rfl
    obtain ⟨hP, hm, _, _⟩ := posN_spec i t1
    have hdr := drop_ref B g n a b i A1 A2 c1 c2 L Ws
    cases t2 : isC Ws (a, b)
    · have hd : takeD L Ws (a, b) = true := by unfold takeD; rw [t1, t2]; rfl
      have Hd := Lib.hid hd
      have Hdr := Lib.hid hdr
      have Hm := Lib.hid hm
      clear hd hdr hm
      go_enter Try.func20, Try.ntmps20
      go_wp2_with fail
      refine (at_ref B g n a b i A1 A2 c1 c2 L Ws w H.out (by omega)).mono ?_
      rintro e w2 ⟨rfl, rfl⟩
      rw [hp]
      clear hp
      generalize posN L (a, b) i = P at *
      have hdP : decide ((P : Int) < 0) = false := by simp
      go_wp2_with fail
      refine (is_ref B g n a b A1 A2 c1 c2 L Ws w2 H.out (by omega)).mono ?_
      rintro e w3 ⟨rfl, hb3⟩
      rw [t2]
      have hR3 := H.out.below hb3
      have q1 : w3.cell? ⟨g, 1, none⟩ = some (.slice A1 L.length c1) := hR3.blk.cell 1
      have q2 := hR3.blk.lt
      have hrow := hR3.row1
      obtain ⟨sb, so, rfl, hsb⟩ := hrow.at_some (by omega)
      have g2 := hrow.thing mc mc_len hP Hm.out 2 (by omega)
      have H3 := Lib.hid hR3
      have Hb3 := Lib.hid hb3
      obtain ⟨m, hmm⟩ : ∃ m, m = msgM L (a, b) i := ⟨_, rfl⟩
      rw [← hmm] at g2
      have Hmm := Lib.hid hmm
      obtain ⟨mf, mt, ms⟩ := m
      simp [mc] at g2
      clear hR3 hb3 hrow hmm
      go_wp2_with fail
      refine (Hdr.out w3 H3.out hl).mono ?_
      rintro e w4 ⟨rfl, hr4⟩
      have Hr4 := Lib.hid hr4
      clear hr4
      rw [t1]
      go_wp2
      go_ret2
      exact ⟨by unfold takeS; rw [if_pos Hd.out, ← Hmm.out, Hd.out]; rfl, by unfold takeL; rw [if_pos Hd.out]; exact RefR.from Hb3.out hsz Hr4.out⟩
    · have hd : takeD L Ws (a, b) = false := by unfold takeD; rw [t1, t2]; rfl
      have Hd := Lib.hid hd
      clear hd hdr hm
      go_enter Try.func20, Try.ntmps20
      go_wp2_with fail
      refine (at_ref B g n a b i A1 A2 c1 c2 L Ws w H.out (by omega)).mono ?_
      rintro e w2 ⟨rfl, rfl⟩
      rw [hp]
      clear hp
      generalize posN L (a, b) i = P at *
      have hdP : decide ((P : Int) < 0) = false := by simp
      go_wp2_with fail
      refine (is_ref B g n a b A1 A2 c1 c2 L Ws w2 H.out (by omega)).mono ?_
      rintro e w3 ⟨rfl, hb3⟩
      rw [t2]
      have Hb3 := Lib.hid hb3
      clear hb3
      go_wp2
      go_ret2
      exact ⟨by unfold takeS; rw [Hd.out]; rfl, by unfold takeL; rw [Hd.out]; exact RefR.same H.out Hb3.out⟩
/-! ### double -/
def doubleD (L : List M) (x : W2) : Bool := hasB L x && decide ((bag L x).length < 64)
def doubleL (L : List M) (x : W2) (i : Int) : List M := if doubleD L x then L ++ [msgM L x i] else L
theorem grown_new {w w' : World} {B : Nat} {e : TypeId} {size m : Nat} {v : Value} {xs : List Value} {o : Obj} (h : w.ownsRow B e size v m xs) (hB : B ≤ w.heap.size) (hg : (w.drew.alloc o).grownBy w' v.ownBlock) : w.grownBy w' v.ownBlock ∧ Below B w w' := by
  have h1 : w.grownBy w' v.ownBlock := ⟨hg.os, hg.tape, hg.output, Nat.le_trans (by simp) hg.size, fun i hi hne => (hg.block i (by simp; omega) hne).trans (Below.heap_alloc w.drew _ i hi)⟩
  refine ⟨h1, h1.os, h1.tape, h1.output, h1.size, fun i hi => h1.block i (by omega) fun e => ?_⟩
  have := (h.lt i e.symm).1
  omega
set_option maxRecDepth 100000 in
set_option maxHeartbeats 1600000 in
theorem double_ref (B g : Nat) (n a b i : Int) (A1 A2 : Option Addr) (c1 c2 : Nat) (L : List M) (Ws : List W2) (w : World) (h : RefT w B g n A1 c1 A2 c2 L Ws) (hl : L.length ≤ 10000) :
    Calls Try.prog 22 #[.pointer (some ⟨g, 0, none⟩), .int .i64 a, .int .i64 b, .int .i64 i] w fun e w' => e = .returned (.bool (doubleD L (a, b))) ∧ RefR B g n (doubleL L (a, b) i) Ws w w' := by
  obtain ⟨i0, hi0, hz0, hz1, hz2⟩ := info_parts m_info
  have H := Lib.hid h
  have hsz := RefT.size h
  clear h
  cases t1 : hasB L (a, b)
  · have hp : posI L (a, b) i = -1 := by unfold posI; rw [t1]; rfl
    have hd : doubleD L (a, b) = false := by unfold doubleD; rw [t1]; rfl
    have Hd := Lib.hid hd
    clear hd
    go_enter Try.func22, Try.ntmps22
    go_wp2_with fail
    refine (at_ref B g n a b i A1 A2 c1 c2 L Ws w H.out (by omega)).mono ?_
    rintro e w2 ⟨rfl, rfl⟩
    rw [hp]
    clear hp
    go_wp2
    go_ret
    exact ⟨by rw [Hd.out]; rfl, by unfold doubleL; rw [Hd.out]; exact RefR.same H.out (Below.refl _ _)⟩
  · have hp : posI L (a, b) i = (posN L (a, b) i : Nat) := by unfold posI; rw [t1]; rfl
    obtain ⟨hP, hm, _, _⟩ := posN_spec i t1
    by_cases t2 : (bag L (a, b)).length < 64
    · have hd : doubleD L (a, b) = true := by unfold doubleD; rw [t1]; simpa using t2
      have hd64 : decide (64 ≤ ((bag L (a, b)).length : Int)) = false := by simp; omega
      have Hd := Lib.hid hd
      have Hm := Lib.hid hm
      clear hd hm
      go_enter Try.func22, Try.ntmps22
      go_wp2_with fail
      refine (at_ref B g n a b i A1 A2 c1 c2 L Ws w H.out (by omega)).mono ?_
      rintro e w2 ⟨rfl, rfl⟩
      rw [hp]
      clear hp
      generalize posN L (a, b) i = P at *
      have hdP : decide ((P : Int) < 0) = false := by simp
      go_wp2_with fail
      refine (count_ref B g n a b A1 A2 c1 c2 L Ws w2 H.out (by omega)).mono ?_
      rintro e w3 ⟨rfl, rfl⟩
      have hR3 := H.out
      have q1 : w3.cell? ⟨g, 1, none⟩ = some (.slice A1 L.length c1) := hR3.blk.cell 1
      have q2 := hR3.blk.lt
      have hrow := hR3.row1
      obtain ⟨sb, so, rfl, hsb⟩ := hrow.at_some (by omega)
      have g0 := hrow.thing mc mc_len hP Hm.out 0 (by omega)
      have g1 := hrow.thing mc mc_len hP Hm.out 1 (by omega)
      have g2 := hrow.thing mc mc_len hP Hm.out 2 (by omega)
      obtain ⟨m, hmm⟩ : ∃ m, m = msgM L (a, b) i := ⟨_, rfl⟩
      rw [← hmm] at g0 g1 g2
      have Hmm := Lib.hid hmm
      obtain ⟨mf, mt, ms⟩ := m
      simp [mc] at g0 g1 g2
      clear hR3 hrow hmm
      go_wp2_with fail
      refine wp_region_monoJ (fun _ => True) [13, 16] (by kernel_rfl) ?_
      -- 0 Op.move (Operand.tmp 0)
      refine wpMonoJ_take' 0 (v := ?_) rfl (by kernel_rfl) (by kernel_rfl) (by kernel_rfl) (by rfl) (fun _ _ _ h => h) (by rfl) ?_ ?_
      rotate_left
      · (intro W hSw; try (have hcW := hSw.cells; try simp only [World.size_drew, World.cell?_drew] at hcW)
         go_simp; first | done | rfl)
      try simp only [Act.put, List.setIfInBounds_toArray, List.set_cons_zero, List.set_cons_succ]
      -- 1 Op.move (Operand.tmp 0)
      refine wpMonoJ_take' 1 (v := ?_) rfl (by kernel_rfl) (by kernel_rfl) (by kernel_rfl) (by rfl) (fun _ _ _ h => h) (by rfl) ?_ ?_
      rotate_left
      · (intro W hSw; try (have hcW := hSw.cells; try simp only [World.size_drew, World.cell?_drew] at hcW)
         go_simp; first | done | rfl)
      try simp only [Act.put, List.setIfInBounds_toArray, List.set_cons_zero, List.set_cons_succ]
      -- 2 Op.nilCheck (Operand.tmp 25)
      refine wpMonoJ_take' 2 (v := ?_) rfl (by kernel_rfl) (by kernel_rfl) (by kernel_rfl) (by rfl) (fun _ _ _ h => h) (by rfl) ?_ ?_
      rotate_left
      · (intro W hSw; try (have hcW := hSw.cells; try simp only [World.size_drew, World.cell?_drew] at hcW)
         go_simp; first | done | rfl)
      try simp only [Act.put, List.setIfInBounds_toArray, List.set_cons_zero, List.set_cons_succ]
      -- 3 Op.fieldAddr 48 (Operand.tmp 26) 1
      refine wpMonoJ_take' 3 (v := ?_) rfl (by kernel_rfl) (by kernel_rfl) (by kernel_rfl) (by rfl) (fun _ _ _ h => h) (by rfl) ?_ ?_
      rotate_left
      · (intro W hSw; try (have hcW := hSw.cells; try simp only [World.size_drew, World.cell?_drew] at hcW)
         go_simp; first | done | rfl)
      try simp only [Act.put, List.setIfInBounds_toArray, List.set_cons_zero, List.set_cons_succ]
      -- 4 Op.load 45 (Operand.tmp 27)
      refine wpMonoJ_read' 4 [13, 14, 15, 16] (v := ?_) rfl (by kernel_rfl) (by kernel_rfl) (by kernel_rfl) (by rfl) (by kernel_rfl) (by rfl) (fun _ _ _ h => h) (by rfl) ?_ ?_
      rotate_left
      · (intro W hSw; try (have hcW := hSw.cells; try simp only [World.size_drew, World.cell?_drew] at hcW)
         go_simp; first | done | rfl)
      try simp only [Act.put, List.setIfInBounds_toArray, List.set_cons_zero, List.set_cons_succ]
      -- 5 Op.move (Operand.tmp 0)
      refine wpMonoJ_take' 5 (v := ?_) rfl (by kernel_rfl) (by kernel_rfl) (by kernel_rfl) (by rfl) (fun _ _ _ h => h) (by rfl) ?_ ?_
      rotate_left
      · (intro W hSw; try (have hcW := hSw.cells; try simp only [World.size_drew, World.cell?_drew] at hcW)
         go_simp; first | done | rfl)
      try simp only [Act.put, List.setIfInBounds_toArray, List.set_cons_zero, List.set_cons_succ]
      -- 6 Op.nilCheck (Operand.tmp 29)
      refine wpMonoJ_take' 6 (v := ?_) rfl (by kernel_rfl) (by kernel_rfl) (by kernel_rfl) (by rfl) (fun _ _ _ h => h) (by rfl) ?_ ?_
      rotate_left
      · (intro W hSw; try (have hcW := hSw.cells; try simp only [World.size_drew, World.cell?_drew] at hcW)
         go_simp; first | done | rfl)
      try simp only [Act.put, List.setIfInBounds_toArray, List.set_cons_zero, List.set_cons_succ]
      -- 7 Op.fieldAddr 48 (Operand.tmp 30) 1
      refine wpMonoJ_take' 7 (v := ?_) rfl (by kernel_rfl) (by kernel_rfl) (by kernel_rfl) (by rfl) (fun _ _ _ h => h) (by rfl) ?_ ?_
      rotate_left
      · (intro W hSw; try (have hcW := hSw.cells; try simp only [World.size_drew, World.cell?_drew] at hcW)
         go_simp; first | done | rfl)
      try simp only [Act.put, List.setIfInBounds_toArray, List.set_cons_zero, List.set_cons_succ]
      -- 8 Op.load 45 (Operand.tmp 31)
      refine wpMonoJ_read' 8 [10, 11, 12, 13, 14, 15, 16] (v := ?_) rfl (by kernel_rfl) (by kernel_rfl) (by kernel_rfl) (by rfl) (by kernel_rfl) (by rfl) (fun _ _ _ h => h) (by rfl) ?_ ?_
      rotate_left
      · (intro W hSw; try (have hcW := hSw.cells; try simp only [World.size_drew, World.cell?_drew] at hcW)
         go_simp; first | done | rfl)
      try simp only [Act.put, List.setIfInBounds_toArray, List.set_cons_zero, List.set_cons_succ]
      -- 9 Op.move (Operand.tmp 9)
      refine wpMonoJ_take' 9 (v := ?_) rfl (by kernel_rfl) (by kernel_rfl) (by kernel_rfl) (by rfl) (fun _ _ _ h => h) (by rfl) ?_ ?_
      rotate_left
      · (intro W hSw; try (have hcW := hSw.cells; try simp only [World.size_drew, World.cell?_drew] at hcW)
         go_simp; first | done | rfl)
      try simp only [Act.put, List.setIfInBounds_toArray, List.set_cons_zero, List.set_cons_succ]
      -- 10 Op.indexAddr 45 (Operand.tmp 32) (Operand.tmp 33)
      refine wpMonoJ_take' 10 (v := ?_) rfl (by kernel_rfl) (by kernel_rfl) (by kernel_rfl) (by rfl) (fun _ _ _ h => h) (by rfl) ?_ ?_
      rotate_left
      · (intro W hSw; try (have hcW := hSw.cells; try simp only [World.size_drew, World.cell?_drew] at hcW)
         go_simp; first | done | rfl)
      try simp only [Act.put, List.setIfInBounds_toArray, List.set_cons_zero, List.set_cons_succ]
      -- 11 Op.load 67 (Operand.tmp 34)
      refine wpMonoJ_read' 11 [12, 13, 14, 15, 16] (v := ?_) rfl (by kernel_rfl) (by kernel_rfl) (by kernel_rfl) (by rfl) (by kernel_rfl) (by rfl) (fun _ _ _ h => h) (by rfl) ?_ ?_
      rotate_left
      · (intro W hSw; try (have hcW := hSw.cells; try simp only [World.size_drew, World.cell?_drew] at hcW)
         go_simp; first | done | rfl)
      try simp only [Act.put, List.setIfInBounds_toArray, List.set_cons_zero, List.set_cons_succ]
      -- EFFECT 12 Op.buildSlice 45 1 #[(0, Operand.tmp 35)]
      refine wpMonoJ_one' 12 (by kernel_rfl) rfl (by rfl) (fun K hK => ?_)
      go_simp
      refine hK.out _ _ ?_ ?_
      · exact .alloc _
      clear hK K
      try simp only [Act.put, List.setIfInBounds_toArray, List.set_cons_zero, List.set_cons_succ]
      -- EFFECT 13 Op.call { callee := Callee.builtin Builtin.append, args := #[Operand.tmp 28, Operand.tmp 36], argTypes := #[45, 45] }
      refine wpMonoJ_one' 13 (by kernel_rfl) rfl (by rfl) (fun K hK => ?_)
      have hold := (show w3.drew.ownsRow B 67 3 _ L.length (L.flatMap mc) from H.out.own1).alloc (.cells #[.int .i64 mf, .int .i64 mt, .string ms] 67)
      have hr := Reads.new w3.drew #[.int .i64 mf, .int .i64 mt, .string ms] 67 (0, 0) (n := 1) (size := 3) (by simp)
      refine wp_append_any _ (.tmp 28) (.tmp 36) _ (by rfl) B 67 i0 _ 3 32 Try.underlying45 hi0 hz0 hz1 hz2 rfl (by omega) (.slice (some ⟨sb, so, none⟩) L.length c1) L.length _ (by rfl) hold _ _ 1 1 [.int .i64 mf, .int .i64 mt, .string ms] (by rfl) hr (by simp [Value.oneCell']) (by unfold maxLen; omega) (by omega) (by simp; omega) fun v' w4 hv' hg4 ho4 => ?_
      refine hK.out _ _ ?_ ?_
      · exact moved (.grown hg4 fun i hi => .inl trivial) (by decide)
      clear hK K
      try simp only [Act.put, List.setIfInBounds_toArray, List.set_cons_zero, List.set_cons_succ]
      -- 14 Op.nilCheck (Operand.tmp 24)
      refine wpMonoJ_take' 14 (v := ?_) rfl (by kernel_rfl) (by kernel_rfl) (by kernel_rfl) (by rfl) (fun _ _ _ h => h) (by rfl) ?_ ?_
      rotate_left
      · (intro W hSw; try (have hcW := hSw.cells; try simp only [World.size_drew, World.cell?_drew] at hcW)
         go_simp; first | done | rfl)
      try simp only [Act.put, List.setIfInBounds_toArray, List.set_cons_zero, List.set_cons_succ]
      -- 15 Op.fieldAddr 48 (Operand.tmp 38) 1
      refine wpMonoJ_take' 15 (v := ?_) rfl (by kernel_rfl) (by kernel_rfl) (by kernel_rfl) (by rfl) (fun _ _ _ h => h) (by rfl) ?_ ?_
      rotate_left
      · (intro W hSw; try (have hcW := hSw.cells; try simp only [World.size_drew, World.cell?_drew] at hcW)
         go_simp; first | done | rfl)
      try simp only [Act.put, List.setIfInBounds_toArray, List.set_cons_zero, List.set_cons_succ]
      -- EFFECT 16 Op.store 45 (Operand.tmp 39) (Operand.tmp 37)
      refine wpMonoJ_one' 16 (by kernel_rfl) rfl (by rfl) (fun K hK => ?_)
      obtain ⟨hgr, hB4⟩ := grown_new H.out.own1 hsz hg4
      obtain ⟨A', c', rfl, hbk, hRR⟩ := RefT.more1 H.out (m := ⟨mf, mt, ms⟩) hv' hB4 hgr
      have HRR := Lib.hid hRR
      have q1 : w4.cell? ⟨g, 1, none⟩ = some (.slice (some ⟨sb, so, none⟩) L.length c1) := hbk.cell 1
      have q2 := hbk.lt
      have qf := hbk.frozen 1
      clear hgr hB4 hRR hbk hv' hg4 ho4
      go_simp
      refine hK.out _ _ ?_ ?_
      · exact moved (.setCell (.inl trivial) _) (by decide)
      clear hK K
      try simp only [Act.put]
      refine wpMonoJ_done (by kernel_rfl) ?_ _
      go_wp2
      go_ret
      exact ⟨by rw [Hd.out]; rfl, by unfold doubleL; rw [if_pos Hd.out, ← Hmm.out]; have h := HRR.out; simp only [List.length_append, List.length_cons, List.length_nil] at h; exact h⟩
    · have hd : doubleD L (a, b) = false := by unfold doubleD; simp [t2]
      have hd64 : decide (64 ≤ ((bag L (a, b)).length : Int)) = true := by simp; omega
      have Hd := Lib.hid hd
      clear hd hm
      go_enter Try.func22, Try.ntmps22
      go_wp2_with fail
      refine (at_ref B g n a b i A1 A2 c1 c2 L Ws w H.out (by omega)).mono ?_
      rintro e w2 ⟨rfl, rfl⟩
      rw [hp]
      clear hp
      generalize posN L (a, b) i = P at *
      have hdP : decide ((P : Int) < 0) = false := by simp
      go_wp2_with fail
      refine (count_ref B g n a b A1 A2 c1 c2 L Ws w2 H.out (by omega)).mono ?_
      rintro e w3 ⟨rfl, rfl⟩
      go_wp2
      go_ret
      exact ⟨by rw [Hd.out]; rfl, by unfold doubleL; rw [Hd.out]; exact RefR.same H.out (Below.refl _ _)⟩
end Go.Proofs.Ytempojdgbgaanaa.reftake
