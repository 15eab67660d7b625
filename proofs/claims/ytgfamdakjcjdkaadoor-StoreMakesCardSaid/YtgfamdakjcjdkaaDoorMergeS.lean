/- The walks of reg.Merge and reg.Of: what each returns; nothing that was there is written. -/
import Derived.Test.YtgfamdakjcjdkaaDoorAbove
namespace Go.Proofs.YtgfamdakjcjdkaaDoor.merge
open Go.RowKit Go.Proofs.YtgfamdakjcjdkaaDoor.base Go.Proofs.YtgfamdakjcjdkaaDoor.cmp Go.Proofs.YtgfamdakjcjdkaaDoor.above

theorem C.len (c : C) : c.cells.length = 5 := rfl
theorem cells_at {w : World} {b off : Nat} {l : List C} (hc : ∀ j, j < (l.flatMap C.cells).length → w.cell? ⟨b, off + j, none⟩ = (l.flatMap C.cells)[j]?) {n : Nat} (hn : n < l.length) :
    w.cell? ⟨b, off + n * 5, none⟩ = some (.int .i64 l[n].t) ∧ w.cell? ⟨b, off + n * 5 + 1, none⟩ = some (.int .i64 l[n].r) ∧ w.cell? ⟨b, off + n * 5 + 2, none⟩ = some (.string l[n].v) ∧
    w.cell? ⟨b, off + n * 5 + 3, none⟩ = some (.bool l[n].g) ∧ w.cell? ⟨b, off + n * 5 + 4, none⟩ = some (.int .i64 l[n].l) :=
  ⟨Reads.row_at C.cells C.len hc hn 0 (by decide), Reads.row_at C.cells C.len hc hn 1 (by decide), Reads.row_at C.cells C.len hc hn 2 (by decide), Reads.row_at C.cells C.len hc hn 3 (by decide), Reads.row_at C.cells C.len hc hn 4 (by decide)⟩
def zeroC : C := ⟨0, 0, ⟨#[]⟩, false, 0⟩
def mg (cs : List C) : Nat → C
  | 0 => zeroC
  | n + 1 => if n = 0 ∨ above (cs.getD n zeroC) (mg cs n) = true then cs.getD n zeroC else mg cs n
def cval (c : C) : Value := .agg #[.int .i64 c.t, .int .i64 c.r, .string c.v, .bool c.g, .int .i64 c.l]
theorem set5 {w : World} {g : Nat} {a0 a1 a2 a3 a4 b0 b1 b2 b3 b4 : Value} {t : TypeId} (h : Blk w g t #[a0, a1, a2, a3, a4]) :
    Blk (((((w.setCell ⟨g, 0, none⟩ b0).setCell ⟨g, 1, none⟩ b1).setCell ⟨g, 2, none⟩ b2).setCell ⟨g, 3, none⟩ b3).setCell ⟨g, 4, none⟩ b4) g t #[b0, b1, b2, b3, b4] := by
  have := ((((h.set_ 0 b0).set_ 1 b1).set_ 2 b2).set_ 3 b3).set_ 4 b4
  simpa using this
theorem far5 {w : World} {g g' : Nat} {cs : Array Value} {t : TypeId} (h : Blk w g t cs) (hne : g ≠ g') (b0 b1 b2 b3 b4 : Value) :
    Blk (((((w.setCell ⟨g', 0, none⟩ b0).setCell ⟨g', 1, none⟩ b1).setCell ⟨g', 2, none⟩ b2).setCell ⟨g', 3, none⟩ b3).setCell ⟨g', 4, none⟩ b4) g t cs :=
  ((((h.far (p := ⟨g', 0, none⟩) hne b0).far (p := ⟨g', 1, none⟩) hne b1).far (p := ⟨g', 2, none⟩) hne b2).far (p := ⟨g', 3, none⟩) hne b3).far (p := ⟨g', 4, none⟩) hne b4
theorem below5 {B : Nat} {a w : World} {g' : Nat} (h : Below B a w) (hB : B ≤ g') (b0 b1 b2 b3 b4 : Value) :
    Below B a (((((w.setCell ⟨g', 0, none⟩ b0).setCell ⟨g', 1, none⟩ b1).setCell ⟨g', 2, none⟩ b2).setCell ⟨g', 3, none⟩ b3).setCell ⟨g', 4, none⟩ b4) :=
  ((((h.setCell (p := ⟨g', 0, none⟩) hB b0).setCell (p := ⟨g', 1, none⟩) hB b1).setCell (p := ⟨g', 2, none⟩) hB b2).setCell (p := ⟨g', 3, none⟩) hB b3).setCell (p := ⟨g', 4, none⟩) hB b4
theorem Blk.cells5 {w : World} {g : Nat} {a0 a1 a2 a3 a4 : Value} {t : TypeId} (h : Blk w g t #[a0, a1, a2, a3, a4]) :
    w.cell? ⟨g, 0, none⟩ = some a0 ∧ w.cell? ⟨g, 1, none⟩ = some a1 ∧ w.cell? ⟨g, 2, none⟩ = some a2 ∧ w.cell? ⟨g, 3, none⟩ = some a3 ∧ w.cell? ⟨g, 4, none⟩ = some a4 :=
  ⟨h.cell 0, h.cell 1, h.cell 2, h.cell 3, h.cell 4⟩
set_option maxRecDepth 10000 in
set_option maxHeartbeats 2000000 in
theorem merge_any (A : Option Addr) (len cap : Nat) (cs : List C) (w : World) (hl : cs.length = len) (hm : len ≤ maxLen) (hr : Reads w w.heap.size 5 A len (cs.flatMap C.cells)) :
    Calls Tryd.prog 37 #[.slice A len cap] w fun e w' => e = .returned (cval (mg cs len)) ∧ Below w.heap.size w w' := by
  unfold maxLen at hm
  have Hl := Lib.hid hl; clear hl
  have Hr := Lib.hid hr; clear hr
  go_enter Tryd.func37, Tryd.ntmps37
  go_wp2
  go_loopw [4, 5, 8] (fun _ _ i wr => ∃ n : Nat, n ≤ len ∧ i = .int .i64 n ∧ Blk wr w.heap.size 58 #[.int .i64 0, .int .i64 0, .string ⟨#[]⟩, .bool false, .int .i64 0] ∧
    Blk wr (w.heap.size + 1) 58 (mg cs n).cells.toArray ∧ Below w.heap.size w wr) (fun _ _ i _ => len - (intOf i).toNat)
  case atStart => exact ⟨0, by omega, rfl, (Blk.new w 58 _).alloc _, Blk.newAt _ 58 _ (by simp), ((Below.refl _ _).alloc (Nat.le_refl _) _).alloc (by simp) _⟩
  case round =>
    obtain ⟨n, hn, rfl, hres, hbest, hb⟩ := hrel
    have hsz : w.heap.size + 1 < wr.heap.size := hbest.lt
    by_cases hlt : n < len
    · obtain ⟨b, off, rfl, hblt, hc⟩ := (Hr.out.below hb).2 (by omega)
      have hnc : n < cs.length := by rw [Hl.out]; exact hlt
      obtain ⟨c0, c1, c2, c3, c4⟩ := cells_at hc hnc
      have hmg : mg cs (n + 1) = if n = 0 ∨ above cs[n] (mg cs n) = true then cs[n] else mg cs n := by
        show (if n = 0 ∨ above (cs.getD n zeroC) (mg cs n) = true then cs.getD n zeroC else mg cs n) = _
        rw [List.getD_eq_getElem?_getD, List.getElem?_eq_getElem hnc]; rfl
      generalize cs[n] = c at *
      obtain ⟨t, r, v, g, l⟩ := c
      dsimp only at c0 c1 c2 c3 c4
      generalize mg cs n = best at *
      obtain ⟨bt, br, bv, bg, bl⟩ := best
      obtain ⟨k0, k1, k2, k3, k4⟩ := Blk.cells5 hbest
      have f0 := hbest.frozen 0
      have f1 := hbest.frozen 1
      have f2 := hbest.frozen 2
      have f3 := hbest.frozen 3
      have f4 := hbest.frozen 4
      have Hres := Lib.hid hres; clear hres
      have Hbest := Lib.hid hbest; clear hbest
      have Hb := Lib.hid hb; clear hb hc
      by_cases hn0 : n = 0
      · rw [if_pos (.inl hn0)] at hmg
        have Hmg := Lib.hid hmg; clear hmg
        have h0 : ((n : Int) == 0) = true := by simp [hn0]
        have Hn0 := Lib.hid hn0; clear hn0
        go_wp2
        go_roundw
        case rel => exact ⟨n + 1, by omega, by go_num, (far5 Hres.out (by omega) _ _ _ _ _).alloc _, by rw [Hmg.out]; exact (set5 Hbest.out).alloc _, (below5 Hb.out (by omega) _ _ _ _ _).alloc (by simp; omega) _⟩
        case measure => simp [intOf]; omega
      · have h0 : ((n : Int) == 0) = false := by simp [hn0]
        clear f0 f1 f2 f3 f4
        by_cases hab : above ⟨t, r, v, g, l⟩ ⟨bt, br, bv, bg, bl⟩ = true
        · rw [if_pos (.inr hab)] at hmg
          have Hmg := Lib.hid hmg; clear hmg hn0
          have Hab := Lib.hid hab; clear hab
          go_wp2_with fail
          refine (above_any t r v g l bt br bv bg bl _).mono ?_
          rintro e w1 ⟨rfl, hb1⟩
          rw [Hab.out]
          have hz1 := hb1.size
          simp at hz1
          have hbest1 := (Hbest.out.alloc (.cells #[.int .i64 t, .int .i64 r, .string v, .bool g, .int .i64 l] 58)).below hb1 (by simp; omega)
          have Hres1 := Lib.hid ((Hres.out.alloc (.cells #[.int .i64 t, .int .i64 r, .string v, .bool g, .int .i64 l] 58)).below hb1 (by simp; omega))
          have Hb1 := Lib.hid ((Hb.out.alloc (by omega) (.cells #[.int .i64 t, .int .i64 r, .string v, .bool g, .int .i64 l] 58)).trans (hb1.mono (by simp; omega)))
          have e0 := hb1.cell (p := ⟨wr.heap.size, 0, none⟩) (by simp)
          have e1 := hb1.cell (p := ⟨wr.heap.size, 1, none⟩) (by simp)
          have e2 := hb1.cell (p := ⟨wr.heap.size, 2, none⟩) (by simp)
          have e3 := hb1.cell (p := ⟨wr.heap.size, 3, none⟩) (by simp)
          have e4 := hb1.cell (p := ⟨wr.heap.size, 4, none⟩) (by simp)
          rw [cell_new] at e0 e1 e2 e3 e4
          have f0 := hbest1.frozen 0
          have f1 := hbest1.frozen 1
          have f2 := hbest1.frozen 2
          have f3 := hbest1.frozen 3
          have f4 := hbest1.frozen 4
          obtain ⟨m0, m1, m2, m3, m4⟩ := Blk.cells5 hbest1
          have Hbest1 := Lib.hid hbest1; clear hbest1 hb1
          go_wp2
          go_roundw
          case rel => exact ⟨n + 1, by omega, by go_num, far5 Hres1.out (by omega) _ _ _ _ _, by rw [Hmg.out]; exact set5 Hbest1.out, below5 Hb1.out (by omega) _ _ _ _ _⟩
          case measure => simp [intOf]; omega
        · have hab : above ⟨t, r, v, g, l⟩ ⟨bt, br, bv, bg, bl⟩ = false := by simpa using hab
          rw [if_neg (by rw [hab]; simp [hn0])] at hmg
          have Hmg := Lib.hid hmg; clear hmg hn0
          have Hab := Lib.hid hab; clear hab
          go_wp2_with fail
          refine (above_any t r v g l bt br bv bg bl _).mono ?_
          rintro e w1 ⟨rfl, hb1⟩
          rw [Hab.out]
          have hz1 := hb1.size
          simp at hz1
          have Hbest1 := Lib.hid ((Hbest.out.alloc (.cells #[.int .i64 t, .int .i64 r, .string v, .bool g, .int .i64 l] 58)).below hb1 (by simp; omega))
          have Hres1 := Lib.hid ((Hres.out.alloc (.cells #[.int .i64 t, .int .i64 r, .string v, .bool g, .int .i64 l] 58)).below hb1 (by simp; omega))
          have Hb1 := Lib.hid ((Hb.out.alloc (by omega) (.cells #[.int .i64 t, .int .i64 r, .string v, .bool g, .int .i64 l] 58)).trans (hb1.mono (by simp; omega)))
          clear hb1
          go_wp2
          go_roundw
          case rel => exact ⟨n + 1, by omega, by go_num, Hres1.out, by rw [Hmg.out]; exact Hbest1.out, Hb1.out⟩
          case measure => simp [intOf]; omega
    · obtain rfl : n = len := by omega
      generalize hbe : mg cs n = best at *
      have Hbe := Lib.hid hbe; clear hbe
      obtain ⟨bt, br, bv, bg, bl⟩ := best
      obtain ⟨k0, k1, k2, k3, k4⟩ := Blk.cells5 hbest
      obtain ⟨j0, j1, j2, j3, j4⟩ := Blk.cells5 hres
      have f0 := hres.frozen 0
      have f1 := hres.frozen 1
      have f2 := hres.frozen 2
      have f3 := hres.frozen 3
      have f4 := hres.frozen 4
      have Hres := Lib.hid hres; clear hres
      have Hb := Lib.hid hb; clear hb hbest
      go_wp2
      obtain ⟨q0, q1, q2, q3, q4⟩ := Blk.cells5 (set5 (b0 := .int .i64 bt) (b1 := .int .i64 br) (b2 := .string bv) (b3 := .bool bg) (b4 := .int .i64 bl) Hres.out)
      refine bodyPost_ret (v := .agg #[.int .i64 bt, .int .i64 br, .string bv, .bool bg, .int .i64 bl]) (by simp [results, Tryd.results37, go_sem, q0, q1, q2, q3, q4]) rfl ⟨by rw [Hbe.out]; rfl, below5 Hb.out (Nat.le_refl _) _ _ _ _ _⟩
abbrev wcells (rg nm t r : Int) (A : Option Addr) (n c : Nat) (ss ky v : ByteArray) (g : Bool) (l : Int) : Array Value :=
  #[.int .i64 rg, .int .i64 nm, .int .i64 t, .int .i64 r, .slice A n c, .string ss, .string ky, .string v, .bool g, .int .i64 l]
set_option maxHeartbeats 1000000 in
theorem of_any (rg nm t r : Int) (A : Option Addr) (n c : Nat) (ss ky v : ByteArray) (g : Bool) (l : Int) (w : World) :
    Calls Tryd.prog 36 #[.agg (wcells rg nm t r A n c ss ky v g l)] w fun e w' => e = .returned (.agg #[.int .i64 t, .int .i64 r, .string v, .bool g, .int .i64 l]) ∧ Below w.heap.size w w' := by
  go_enter Tryd.func36, Tryd.ntmps36
  go_wp2
  exact bodyPost_ret (v := .agg #[.int .i64 t, .int .i64 r, .string v, .bool g, .int .i64 l]) (by simp [results, Tryd.results36, go_sem]) rfl ⟨rfl, below_one w _ _⟩
end Go.Proofs.YtgfamdakjcjdkaaDoor.merge
