/- What the store laws' arguments read as; the law's own great. -/
import Derived.Test.YtgfamdakjcjdkaaDoorNilS
namespace Go.Proofs.YtgfamdakjcjdkaaDoor.store
open Go Go.RowKit Go.Proofs.YtgfamdakjcjdkaaDoor.base Go.Proofs.YtgfamdakjcjdkaaDoor.err Go.Proofs.YtgfamdakjcjdkaaDoor.cmp Go.Proofs.YtgfamdakjcjdkaaDoor.above Go.Proofs.YtgfamdakjcjdkaaDoor.law Go.Proofs.YtgfamdakjcjdkaaDoor.merge Go.Proofs.YtgfamdakjcjdkaaDoor.rows Go.Proofs.YtgfamdakjcjdkaaDoor.rowe

/-- a write as it lies in memory -/
structure Wt where
  rg : Int
  nm : Int
  t : Int
  r : Int
  A : Option Addr
  n : Nat
  c : Nat
  ss : ByteArray
  ky : ByteArray
  v : ByteArray
  gn : Bool
  l : Int
def Wt.cells (x : Wt) : List Value := [.int .i64 x.rg, .int .i64 x.nm, .int .i64 x.t, .int .i64 x.r, .slice x.A x.n x.c, .string x.ss, .string x.ky, .string x.v, .bool x.gn, .int .i64 x.l]
theorem Wt.len (x : Wt) : x.cells.length = 10 := rfl
def Wt.cell (x : Wt) : C := ⟨x.t, x.r, x.v, x.gn, x.l⟩
def Wt.name (x : Wt) : Nm := (x.ss, x.ky)
theorem Wt.one (x : Wt) : x.cells.all (·.oneCell') = true := rfl
theorem write_cells : Tryd.prog.cellsOf 28 = 10 := by kernel_rfl
set_option maxRecDepth 100000 in
theorem write_sees {w : World} (cs : List Value) (hl : cs.length = Tryd.prog.cellsOf 28) (h : Sees Tryd.prog w 28 cs) : ∃ x : Wt, cs = x.cells ∧ x.ss.size ≤ maxLen ∧ x.ky.size ≤ maxLen := by
  rw [write_cells] at hl
  obtain ⟨_, hf⟩ := h.struct Tryd.underlying28
  have e3 : Tryd.prog.cellsOf 3 = 1 := by kernel_rfl
  have e4 : Tryd.prog.cellsOf 4 = 1 := by kernel_rfl
  have e9 : Tryd.prog.cellsOf 9 = 1 := by kernel_rfl
  have e31 : Tryd.prog.cellsOf 24 = 2 := by kernel_rfl
  have e33 : Tryd.prog.cellsOf 26 = 1 := by kernel_rfl
  match cs, hl with
  | [x0, x1, x2, x3, x4, x5, x6, x7, x8, x9], _ =>
    simp [e3, e4, e9, e31, e33] at hf
    obtain ⟨h0, h1, h2, h4, h5, h6, h7, h8, h9⟩ := hf
    obtain ⟨_, hg⟩ := h2.struct Tryd.underlying24
    simp [e3] at hg
    obtain ⟨n0, q0, _⟩ := h0.int Tryd.underlying3
    obtain ⟨n1, q1, _⟩ := h1.int Tryd.underlying3
    obtain ⟨n2, q2, _⟩ := hg.1.int Tryd.underlying3
    obtain ⟨n3, q3, _⟩ := hg.2.int Tryd.underlying3
    obtain ⟨s5, q5, z5⟩ := h5.string Tryd.underlying9
    obtain ⟨s6, q6, z6⟩ := h6.string Tryd.underlying9
    obtain ⟨s7, q7, _⟩ := h7.string Tryd.underlying9
    obtain ⟨b8, q8⟩ := h8.bool Tryd.underlying4
    obtain ⟨n9, q9, _⟩ := h9.int Tryd.underlying3
    have hx4 : ∃ A n c, x4 = .slice A n c := by
      rcases h4.slice Tryd.underlying26 with h | ⟨a, len, cap, h, r⟩
      · injection h with h; exact ⟨_, _, _, h⟩
      · injection h with h; exact ⟨_, _, _, h⟩
    obtain ⟨A, n, c, rfl⟩ := hx4
    simp at q0 q1 q2 q3 q5 q6 q7 q8 q9
    subst q0 q1 q2 q3 q5 q6 q7 q8 q9
    exact ⟨⟨n0, n1, n2, n3, A, n, c, s5, s6, s7, b8, n9⟩, rfl, z5, z6⟩
/-- a list of writes -/
def WtsR (w : World) (v : Value) (L : List Wt) : Prop := ∃ A c, v = .slice A L.length c ∧ L.length ≤ maxLen ∧ Reads w w.heap.size 10 A L.length (L.flatMap Wt.cells) ∧ ∀ x ∈ L, x.ss.size ≤ maxLen ∧ x.ky.size ≤ maxLen
theorem WtsR.below {w w' : World} {v : Value} {L : List Wt} (h : WtsR w v L) (hb : Below w.heap.size w w') : WtsR w' v L := by
  obtain ⟨A, c, h1, h2, h3, h4⟩ := h
  exact ⟨A, c, h1, h2, (h3.below hb).more hb.size, h4⟩
theorem wts_of {w : World} {v : Value} (h : Arg Tryd.prog w 31 v) : ∃ L, WtsR w v L := by
  obtain ⟨A, len, cap, l, rfl, h1, h2, h3, h4, _, h5⟩ := h.things (fun x : {x : Wt // x.ss.size ≤ maxLen ∧ x.ky.size ≤ maxLen} => x.1.cells) Tryd.underlying31 (by rw [write_cells]; omega) (fun cs hl hs => by
    obtain ⟨x, e, hx⟩ := write_sees cs hl hs
    exact ⟨⟨x, hx⟩, e⟩)
  rw [write_cells] at h4
  have hl : (l.map (·.1)).length = len := by simpa using h3
  refine ⟨l.map (·.1), A, cap, by rw [hl], by omega, ?_, fun x hx => ?_⟩
  · rw [hl, List.flatMap_map]; exact h4
  · obtain ⟨y, _, rfl⟩ := List.mem_map.1 hx
    exact y.2
def wtZ : Wt := ⟨0, 0, 0, 0, none, 0, 0, ⟨#[]⟩, ⟨#[]⟩, ⟨#[]⟩, false, 0⟩
theorem wt_at {w : World} {A : Option Addr} {m B : Nat} {L : List Wt} (h : Reads w B 10 A m (L.flatMap Wt.cells)) (hl : L.length = m) {k : Nat} (hk : k < m) : ∃ b off, A = some ⟨b, off, none⟩ ∧ b < B ∧ ∀ q v, (L.getD k wtZ).cells[q]? = some v → w.cell? ⟨b, off + k * 10 + q, none⟩ = some v := by
  obtain ⟨b, off, rfl, hb⟩ := h.at_some (by omega)
  refine ⟨b, off, rfl, hb, fun q v hq => ?_⟩
  have hq2 : q < 10 := by
    have := (List.getElem?_eq_some_iff.1 hq).1
    rwa [Wt.len] at this
  have h5 := Reads.thing Wt.cells Wt.len h (k := k) (x := L.getD k wtZ) (by omega) (by rw [List.getD_eq_getElem?_getD, List.getElem?_eq_getElem (by omega)]; rfl) q hq2
  rw [h5, hq]
theorem ten_of {w : World} {b off : Nat} {x : Wt} (h : ∀ q v, x.cells[q]? = some v → w.cell? ⟨b, off + q, none⟩ = some v) :
    w.cell? ⟨b, off, none⟩ = some (.int .i64 x.rg) ∧ w.cell? ⟨b, off + 1, none⟩ = some (.int .i64 x.nm) ∧ w.cell? ⟨b, off + 2, none⟩ = some (.int .i64 x.t) ∧ w.cell? ⟨b, off + 3, none⟩ = some (.int .i64 x.r) ∧ w.cell? ⟨b, off + 4, none⟩ = some (.slice x.A x.n x.c) ∧
      w.cell? ⟨b, off + 5, none⟩ = some (.string x.ss) ∧ w.cell? ⟨b, off + 6, none⟩ = some (.string x.ky) ∧ w.cell? ⟨b, off + 7, none⟩ = some (.string x.v) ∧ w.cell? ⟨b, off + 8, none⟩ = some (.bool x.gn) ∧ w.cell? ⟨b, off + 9, none⟩ = some (.int .i64 x.l) :=
  ⟨h 0 _ rfl, h 1 _ rfl, h 2 _ rfl, h 3 _ rfl, h 4 _ rfl, h 5 _ rfl, h 6 _ rfl, h 7 _ rfl, h 8 _ rfl, h 9 _ rfl⟩
def bigW (x : Wt) : Bool := decide (1000 < x.ss.size) || (decide (1000 < x.ky.size) || decide (1000 < x.v.size))
def greatW (L : List Wt) : Bool := decide (80 < L.length) || L.any bigW
set_option maxRecDepth 100000 in
set_option maxHeartbeats 1000000 in
theorem great_any (v : Value) (L : List Wt) (w : World) (h : WtsR w v L) : Calls Tryd.prog 5 #[v] w fun e w' => e = .returned (.bool (greatW L)) ∧ Below w.heap.size w w' := by
  obtain ⟨A, c, rfl, hm, hr, hn⟩ := h
  obtain ⟨m, hml⟩ : ∃ m, L.length = m := ⟨_, rfl⟩
  rw [hml] at hm hr ⊢
  unfold maxLen at hm
  have Hr := Lib.hid hr
  have Hml := Lib.hid hml
  clear hr hml
  clear hn
  by_cases hbig : 80 < m
  · have d1 : decide ((80 : Int) < (m : Int)) = true := by simp; omega
    have HF := Lib.hid (show greatW L = true by unfold greatW; rw [Hml.out, decide_eq_true hbig]; rfl)
    go_enter Tryd.func5, Tryd.ntmps5
    go_wp2
    go_ret
    exact ⟨ret_bool HF.out.symm, Below.refl _ _⟩
  · have d1 : decide ((80 : Int) < (m : Int)) = false := by simp; omega
    have HG := Lib.hid (show greatW L = (L.drop 0).any bigW by unfold greatW; rw [Hml.out, decide_eq_false hbig]; rfl)
    go_enter Tryd.func5, Tryd.ntmps5
    go_wp2
    go_loopw [4, 10] (fun _ i wr' => ∃ k : Nat, k ≤ m ∧ i = .int .i64 k ∧ greatW L = (L.drop k).any bigW ∧ Below w.heap.size w wr') (fun _ i _ => m - (intOf i).toNat)
    case atStart => exact ⟨0, by omega, rfl, HG.out, Below.refl _ _⟩
    case round =>
      clear HG
      obtain ⟨k, hk, rfl, hg, hb⟩ := hrel
      have hsz := hb.size
      by_cases hlt : k < m
      · obtain ⟨b, off, rfl, hbb, hc⟩ := wt_at (Hr.out.below hb) Hml.out hlt
        obtain ⟨e0, e1, e2, e3, e4, e5, e6, e7, e8, e9⟩ := ten_of hc
        have hkl : k < L.length := by rw [Hml.out]; exact hlt
        rw [List.drop_eq_getElem_cons hkl, List.any_cons, show L[k] = L.getD k wtZ by rw [List.getD_eq_getElem?_getD, List.getElem?_eq_getElem hkl]; rfl] at hg
        clear hc
        generalize L.getD k wtZ = x at *
        obtain ⟨rg, nm, t, r, dA, dn, dc, se, kk, v, g, l⟩ := x
        dsimp only at e0 e1 e2 e3 e4 e5 e6 e7 e8 e9
        have hb2 := Lib.hid (hb.alloc hsz (.cells #[.int .i64 rg, .int .i64 nm, .int .i64 t, .int .i64 r, .slice dA dn dc, .string se, .string kk, .string v, .bool g, .int .i64 l] 28))
        unfold bigW at hg
        dsimp only at hg
        have Hg := Lib.hid hg
        clear hg hb
        by_cases g2 : 1000 < se.size
        · have HT := Lib.hid (show greatW L = true by rw [Hg.out, decide_eq_true g2]; simp)
          go_wp2
          go_ret
          exact ⟨ret_bool HT.out.symm, hb2.out⟩
        · by_cases g3 : 1000 < kk.size
          · have HT := Lib.hid (show greatW L = true by rw [Hg.out, decide_eq_true g3]; simp)
            go_wp2
            go_ret
            exact ⟨ret_bool HT.out.symm, hb2.out⟩
          · by_cases g4 : 1000 < v.size
            · have HT := Lib.hid (show greatW L = true by rw [Hg.out, decide_eq_true g4]; simp)
              go_wp2
              go_ret
              exact ⟨ret_bool HT.out.symm, hb2.out⟩
            · have HT := Lib.hid (show greatW L = (L.drop (k + 1)).any bigW by rw [Hg.out, decide_eq_false g2, decide_eq_false g3, decide_eq_false g4]; rfl)
              go_wp2
              go_roundw
              case rel => exact ⟨k + 1, by omega, by go_num, HT.out, hb2.out⟩
              case measure => simp [intOf]; omega
      · obtain rfl : m = k := by omega
        have d2 : decide ((m : Int) < (m : Int)) = false := by simp
        have HT := Lib.hid (show greatW L = false by rw [hg, List.drop_eq_nil_of_le (by rw [Hml.out]; omega)]; rfl)
        have Hb := Lib.hid hb
        clear hb hg
        go_wp2
        go_ret
        exact ⟨ret_bool HT.out.symm, Hb.out⟩
end Go.Proofs.YtgfamdakjcjdkaaDoor.store
