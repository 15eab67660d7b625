/- A store in memory: a map of cells by session and key. -/
import Derived.Test.YtgfamdakjcjdkaaDoorPlainS
import Derived.Test.YtgfamdakjcjdkaaDoorMap
import Derived.Test.YtgfamdakjcjdkaaDoorErr
import Derived.Test.YtgfamdakjcjdkaaDoorRowE
import Derived.Test.YtgfamdakjcjdkaaDoorMonoJ
import Derived.DeepKeys4
namespace Go.Proofs.YtgfamdakjcjdkaaDoor.store
open Go Go.RowKit Go.Proofs.YtgfamdakjcjdkaaDoor.base Go.Proofs.YtgfamdakjcjdkaaDoor.map_ Go.Proofs.YtgfamdakjcjdkaaDoor.err Go.Proofs.YtgfamdakjcjdkaaDoor.cmp Go.Proofs.YtgfamdakjcjdkaaDoor.above Go.Proofs.YtgfamdakjcjdkaaDoor.merge Go.Proofs.YtgfamdakjcjdkaaDoor.rows Go.Maps

def nameV (x : Nm) : Value := .agg #[.string x.1, .string x.2]
theorem nameCells : Tryd.prog.cellsOf 67 = 2 := by kernel_rfl
theorem laidOut : laidOutB Tryd.prog = true := by kernel_rfl
theorem name_law : WideMaps.KeyLaw Tryd.prog 67 := deep_law_laid laidOut (m := 2) (by omega) (by decide +kernel) (by kernel_rfl) (by kernel_rfl)
def okName (x : Nm) : Prop := x.1.size ≤ maxLen ∧ x.2.size ≤ maxLen
theorem name_key (x : Nm) (h : okName x) : ∃ l, keyOf Tryd.prog 67 (nameV x) = some l := by
  obtain ⟨a, b⟩ := x
  obtain ⟨h1, h2⟩ := h
  simp only at h1 h2
  have hk : Tryd.prog.keyType 67 = true := by kernel_rfl
  have e3 : Tryd.prog.cellsOf 9 = 1 := by kernel_rfl
  have hl : ∀ d, Tryd.prog.keyLits (d + 2) 67 [.string a, .string b] = some [.string a.data.toList, .string b.data.toList] := fun d => by
    simp [Program.keyLits, Tryd.underlying67, Tryd.underlying9, nameCells, e3, h1, h2]
  have hpos : 0 < Tryd.prog.types.size := by decide +kernel
  have hsz : ∃ d, Tryd.prog.types.size + 1 = d + 2 := ⟨Tryd.prog.types.size - 1, by omega⟩
  obtain ⟨d, hd⟩ := hsz
  unfold nameV keyOf
  simp only [Tryd.underlying67]
  rw [hk, hd]
  simp [Value.formed, Tryd.underlying67, nameCells, Value.cells, hl]
def nameE : Emb Tryd.prog 67 Nm where
  en := nameV
  inj := fun {x y} h => by
    obtain ⟨a, b⟩ := x
    obtain ⟨c, d⟩ := y
    simp [nameV] at h
    simp [h]
  ok := okName
  key := name_key
theorem keyed : Keyed Tryd.prog 67 := Keyed.of_law name_law
theorem zero_cell (w : World) : (zeroValue 58).run Tryd.prog w = .ok (cval zeroC) w := by kernel_rfl
abbrev mapT : TypeId := 63
/-- a store at block g, its map at block bm: the rows L -/
structure StI (w : World) (g bm : Nat) (L : List R) : Prop where
  blk : Blk w g 65 #[.map (some bm)]
  map : ∃ m, MapM nameE w bm m ∧ ∀ x, getM m x = (getL L x).map cval
  up : Rising L
section
variable {X : Nat → Prop} {w w' : World} {g bm : Nat} {L : List R}
theorem StI.keeps (h : StI w g bm L) (hk : Keeps X w w') (h1 : ¬ X g) (h2 : ¬ X bm) : StI w' g bm L :=
  ⟨h.blk.keeps hk h1, by obtain ⟨m, hm, he⟩ := h.map; exact ⟨m, hm.keeps hk h2, he⟩, h.up⟩
theorem StI.below (h : StI w g bm L) (hb : Below w.heap.size w w') : StI w' g bm L := h.keeps (X := nobody) (.of_below hb) (fun h => h) (fun h => h)
theorem StI.ne (h : StI w g bm L) : g ≠ bm := by obtain ⟨m, hm, _⟩ := h.map; exact hm.not_blk h.blk
theorem StI.lt (h : StI w g bm L) : g < w.heap.size := h.blk.lt
theorem StI.ltm (h : StI w g bm L) : bm < w.heap.size := by obtain ⟨m, hm, _⟩ := h.map; exact hm.lt
theorem StI.ok (h : StI w g bm L) : ∀ p ∈ L, okName p.1 := by
  obtain ⟨m, hm, he⟩ := h.map
  intro p hp
  have h1 := getL_of h.up (x := p.1) (c := p.2) hp
  have h2 := get_mem (m := m) (x := p.1) (v := cval p.2) (by rw [he, h1]; rfl)
  obtain ⟨_, _, _, _, _, hok⟩ := hm
  exact hok _ h2
/-- what stands at x, or the zero cell -/
def atL (L : List R) (x : Nm) : C := (getL L x).getD zeroC
theorem getD_at (L : List R) (x : Nm) : ((getL L x).map cval).getD (cval zeroC) = cval (atL L x) := by
  unfold atL
  cases getL L x <;> rfl
theorem StI.look (h : StI w g bm L) {x : Nm} (hx : okName x) : (Instr.lookup mapT (.map (some bm)) (nameV x) false).run Tryd.prog w = .ok (cval (atL L x)) w := by
  obtain ⟨m, hm, he⟩ := h.map
  have := hm.look keyed Tryd.underlying63 (zero_cell w) (x := x) hx
  rw [he, getD_at] at this
  exact this
theorem StI.look_ok (h : StI w g bm L) {x : Nm} (hx : okName x) : (Instr.lookup mapT (.map (some bm)) (nameV x) true).run Tryd.prog w = .ok (.tuple #[cval (atL L x), .bool (getL L x).isSome]) w := by
  obtain ⟨m, hm, he⟩ := h.map
  have := hm.look_ok keyed Tryd.underlying63 (zero_cell w) (x := x) hx
  rw [he, getD_at] at this
  rw [show (getL L x).isSome = ((getL L x).map cval).isSome by cases getL L x <;> rfl]
  exact this
theorem StI.put (h : StI w g bm L) {x : Nm} (hx : okName x) (c : C) :
    ∃ w', (Instr.mapUpdate mapT (.map (some bm)) (nameV x) (cval c)).run Tryd.prog w = .ok () w' ∧ StI w' g bm (putL L x c) ∧ Keeps (· = bm) w w' := by
  obtain ⟨m, hm, he⟩ := h.map
  obtain ⟨w', h1, h2, h3⟩ := hm.put keyed Tryd.underlying63 (x := x) hx (cval c)
  refine ⟨w', h1, ⟨h.blk.keeps h3 h.ne, ⟨_, h2, fun y => ?_⟩, rising_put h.up x c⟩, h3⟩
  rw [get_put, getL_put L h.up, he]
  by_cases e : y = x
  · rw [if_pos e, if_pos e]; rfl
  · rw [if_neg e, if_neg e]
end
theorem new_any (w : World) : Calls Tryd.prog 14 #[] w fun e w' => e = .returned (.pointer (some ⟨(w.heap.size + 1), 0, none⟩)) ∧ StI w' (w.heap.size + 1) w.heap.size [] ∧ Below w.heap.size w w' := by
  have hmm := @run_makeMap Tryd.prog
  have hN : StI ((w.alloc (.map #[] 0)).alloc (.cells #[.map (some w.heap.size)] 65)) (w.heap.size + 1) w.heap.size [] :=
    ⟨Blk.newAt _ _ _ (by simp), ⟨[], (MapM.new nameE w).below (below_new _ _), fun _ => rfl⟩, rising_nil⟩
  have hb := below_alloc (below_new w (.map #[] 0)) (.cells #[.map (some w.heap.size)] 65)
  have HN := Lib.hid hN
  have Hb := Lib.hid hb
  clear hN hb
  go_enter Tryd.func14, Tryd.ntmps14
  go_wp2
  go_ret
  exact ⟨rfl, HN.out, Hb.out⟩
end Go.Proofs.YtgfamdakjcjdkaaDoor.store
