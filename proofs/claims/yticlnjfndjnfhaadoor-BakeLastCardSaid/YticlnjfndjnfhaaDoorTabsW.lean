/- What the library's functions ask of the memory. -/
import Derived.Test.YticlnjfndjnfhaaDoorHeadP
import Derived.Test.YticlnjfndjnfhaaDoorShelfC
namespace Go.Proofs.YticlnjfndjnfhaaDoor.bake
open Go Go.RowKit Go.Proofs.YticlnjfndjnfhaaDoor.base Go.Proofs.YticlnjfndjnfhaaDoor.dec
open Go.Lib (decDigits)

/-- what the library's functions ask of the memory -/
structure Tabs (w : World) : Prop where
  m : ∃ m, w.cell? ⟨0, 0, none⟩ = some (.int .i64 m)
  t : Lib.TabIs Tryd.prog w "internal/strconv.uint64pow10" .u64 Lib.pow10Tab
  s : 2 ≤ w.heap.size
theorem pow_at : Tryd.prog.globalNamed "internal/strconv.uint64pow10" = some 1 := by kernel_rfl
theorem Tabs.below {w w' : World} (h : Tabs w) (hb : Below w.heap.size w w') : Tabs w' := by
  have hs := h.s
  refine ⟨?_, ?_, by have := hb.size; omega⟩
  · obtain ⟨m, hm⟩ := h.m
    exact ⟨m, (hb.cell (p := ⟨0, 0, none⟩) (by show 0 < w.heap.size; omega)).trans hm⟩
  · have ht := h.t
    unfold Lib.TabIs World.var? at ht ⊢
    rw [pow_at] at ht ⊢
    simp only [Option.bind_some] at ht ⊢
    rw [hb.block 1 (by omega)]
    exact ht
theorem below_grow (w : World) (k : Nat) (os : Array Obj) : Below w.heap.size w (Sort.grow (w.drewN k) os) :=
  ⟨rfl, rfl, rfl, by simp [Sort.grow], fun i hi => by
    unfold Sort.grow
    exact Array.getElem?_append_left hi⟩
theorem itoa_nat (a : Nat) : Lib.itoa (a : Int) = decDigits a := by
  unfold Lib.itoa
  rw [if_neg (by omega)]
  rfl
theorem str_info : (Tryd.prog.info? 9).map (fun i => (i.zero, i.size, i.bytes)) = some (some (.string ⟨#[]⟩), 1, 16) := by kernel_rfl
def strs (l : List (List UInt8)) : List Value := l.map fun x => Value.string (mkB x)
theorem strs_app (a b : List (List UInt8)) : strs (a ++ b) = strs a ++ strs b := by simp [strs]
/-- A list of texts of one's own. -/
def WrH (w : World) (cs : Array Value) (l : List (List UInt8)) (s : Value) (wx : World) : Prop :=
  wx.ownsRow (w.heap.size + 1) 9 1 s l.length (strs l) ∧ Blk wx w.heap.size 25 cs ∧ Below w.heap.size w wx ∧ w.heap.size + 1 ≤ wx.heap.size
theorem own_below {w w' : World} {base : Nat} {e : TypeId} {size n : Nat} {v : Value} {xs : List Value} (h : w.ownsRow base e size v n xs) (hb : Below w.heap.size w w') : w'.ownsRow base e size v n xs :=
  ⟨h.1, h.2.imp id fun ⟨g, cap, cur, h1, h2, h3, h4⟩ => ⟨g, cap, cur, h1, h2, (hb.block g (by
    rcases Nat.lt_or_ge g w.heap.size with hlt | hge
    · exact hlt
    · rw [Array.getElem?_eq_none hge] at h3; cases h3)).trans h3, h4⟩⟩
theorem WrH.below {w wx w' : World} {cs : Array Value} {l : List (List UInt8)} {s : Value} (h : WrH w cs l s wx) (hb : Below wx.heap.size wx w') : WrH w cs l s w' :=
  ⟨own_below h.1 hb, h.2.1.below hb h.2.1.lt, h.2.2.1.trans (hb.mono h.2.2.1.size), Nat.le_trans h.2.2.2 hb.size⟩
/-- Join of such a list. -/
theorem join_own {w wx : World} {cs : Array Value} {x : List UInt8} {l : List (List UInt8)} {s : Value} (h : WrH w cs (x :: l) s wx) (hl : l.length ≤ 10) (hlen : ∀ y ∈ x :: l, y.length ≤ 3000000) :
    Calls Tryd.prog 24 #[s, .string ⟨#[59, 32]⟩] wx fun e w' => e = .returned (.string (mkB (Lib.join (x :: l) [59, 32]))) ∧ Below wx.heap.size wx w' := by
  obtain ⟨A, c, rfl⟩ := ownsRow_slice h.1
  have hr := Reads.of_own h.1
  obtain ⟨b, off, rfl, hb, hc⟩ := hr.2 (by simp)
  have hcap : (x :: l).length ≤ c := by
    rcases h.1.2 with ⟨h', _⟩ | ⟨g', cap', cur, h', _, _, hnc, _⟩
    · simp at h'
    · simp only [Value.slice.injEq, Option.some.injEq, Addr.mk.injEq, and_true, true_and] at h'
      omega
  have e1 : ((x :: l).map mkB).map (·.data.toList) = x :: l := by
    rw [List.map_map]
    conv => rhs; rw [← List.map_id (x :: l)]
    exact List.map_congr_left fun a _ => mkB_data a
  have e2 : ((x :: l).map mkB).length = (x :: l).length := by simp
  have hbound : ∀ (y : List (List UInt8)), (∀ z ∈ y, z.length ≤ 3000000) → Lib.lens y ≤ y.length * 3000000 := by
    intro y
    induction y with
    | nil => intro _; simp [Lib.lens]
    | cons a y ih =>
      intro hy
      have h1 := ih (fun z hz => hy z (by simp [hz]))
      have h2 := hy a (by simp)
      simp [Lib.lens] at h1 ⊢
      omega
  have hj := Tryd.strings_Join b off c ((x :: l).map mkB) ⟨#[59, 32]⟩ wx (fun j y hy => by
      rw [hc j (by
        have := (List.getElem?_eq_some_iff.1 hy).1
        simpa [strs] using this)]
      have h1 : (strs (x :: l)) = ((x :: l).map mkB).map Value.string := by simp [strs]
      rw [h1, List.getElem?_map, hy]
      rfl) hb (by rw [e2]; simp; omega) (by rw [e2]; exact hcap) (by
        rw [e1]
        show (Lib.join (x :: l) [59, 32]).length ≤ _
        rw [Lib.join_length]
        have := hbound (x :: l) hlen
        simp at this ⊢
        omega)
  rw [e2, e1] at hj
  exact hj
end Go.Proofs.YticlnjfndjnfhaaDoor.bake
