/- The frame of a law whose row lists the library's tables, a pinned one among them, and the handle of the type error: what the row's condition gives the walks; a world that meets it. -/
import Derived.Test.YthlahcnglacekaaGreatDoorB07
import Derived.Test.YthlahcnglacekaaGreatDoorB36
import Derived.LaidHandle
import Derived.Test.YthlahcnglacekaaGreatDoorRows
import Derived.ProofKit
import Derived.LaidMore
import Derived.Lay
import Derived.LaidSub
import Derived.LaidLaws
import Derived.Handed
import Derived.HandedShaped
import Derived.Lib.LaidTab
import Derived.Shelf.Vars
import Derived.Stop.LaidErr
import Derived.Stop.Joined
import Derived.MakeChecks
namespace Go.Proofs.YthlahcnglacekaaGreatDoor.frame
open Go Go.ChangeShapes Go.WideShapes Go.ChangeAt Go.RowKit Go.Proofs.YthlahcnglacekaaGreatDoor.base Go.Proofs.YthlahcnglacekaaGreatDoor.quota

section
variable {H : Type} {enc : TypeId × Value → H}
/-- the frame with both: the row's own condition, and the world's shape -/
theorem handed_both {a : Assume} {C : Checked} {os : Os} {f : FuncId} {fn : Func} {s : ChangeSpec} {conds : List PathCond} {apart fresh handsOn again : Bool} {X : World → Array Value → Prop}
    (hX : ∀ (w w' : World) (args : Array Value), w.heap = w'.heap → X w args → X w' args)
    (own : ownKnob C.prog.godebug = none) (started : os.Started) (noInit : C.prog.inits.idxOf? f = none) (hfn : C.prog.funcs[f]? = some fn)
    (witness : ∃ (w : World) (tape : Tape) (i : Input), w.os = os ∧ (w.forCall tape i).Shaped C.prog ∧ i.vars = [] ∧ Input.okWide C.prog (w.forCall tape i) .any w.heap.size f i ∧
      ((s.pre enc C.prog fn conds apart (w.forCall tape i).memory i.args ∧ X (w.forCall tape i).memory i.args) ∧ sizedMet enc C.prog fn (OpenSpec.ofChange s) apart (w.forCall tape i).memory i.args) ∧ a.holds C.prog (lone (Frame.enter C.prog f i.args .normal) [] (w.forCall tape i)))
    (contract : ∀ (W : World) (base : Nat) (args : Array Value) (ds gs : List (DataW H)) (before : List MemPlace),
      (∀ (j : Nat) t v, fn.params[j]? = some t → args[j]? = some v → Value.okWide C.prog W .any base t v) →
      DataW.Whole enc C.prog fn.params.toList s.vars apart W args.toList ds gs before → X W args → W.ShapedOpen C.prog →
      Calls C.prog f args W fun e W' => ∃ v, e = .returned v ∧ s.post enc C.prog fn apart fresh handsOn again W args v W') :
    ReturnsInHanded a C os f .any (fun w args => (s.pre enc C.prog fn conds apart w args ∧ X w args) ∧ sizedMet enc C.prog fn (OpenSpec.ofChange s) apart w args) (s.post enc C.prog fn apart fresh handsOn again) := by
  refine returnsInHanded_of_calls own started noInit witness ?_
  intro w tape i _ hsh _ hok hpre _
  obtain ⟨_, _, _, fn', hfn', _, _, _, _, hval⟩ := hok
  have e : fn' = fn := Option.some.inj (hfn'.symm.trans hfn)
  subst e
  obtain ⟨⟨⟨ds, gs, before, hw, _⟩, hx⟩, _⟩ := hpre
  have hw' := DataW.Whole.of_heap (w' := w.forCall tape i) (by rfl) hw
  refine (contract (w.forCall tape i) w.heap.size i.args ds gs before hval hw' (hX _ _ _ (by rfl) hx) hsh).mono fun e W' ⟨v, he, hp⟩ => ?_
  subst he
  exact ChangeSpec.post_blind hp
end
/-- what the rows list -/
abbrev laid3 : List (String × DataW Unit) := [("math/bits.deBruijn32tab", Rows.laid_math_bits_deBruijn32tab), ("math/bits.deBruijn64tab", Rows.laid_math_bits_deBruijn64tab), ("internal/strconv.uint64pow10", Rows.laid_internal_strconv_uint64pow10), ("unicode/utf8.acceptRanges", Rows.laid_unicode_utf8_acceptRanges), ("errors.errorType", Rows.laid_errors_errorType), ("unicode/utf8.first", Rows.laid_unicode_utf8_first)]
/-- those that are no handles -/
abbrev laid5 : List (String × DataW Unit) := [("math/bits.deBruijn32tab", Rows.laid_math_bits_deBruijn32tab), ("math/bits.deBruijn64tab", Rows.laid_math_bits_deBruijn64tab), ("internal/strconv.uint64pow10", Rows.laid_internal_strconv_uint64pow10), ("unicode/utf8.acceptRanges", Rows.laid_unicode_utf8_acceptRanges), ("unicode/utf8.first", Rows.laid_unicode_utf8_first)]
theorem pow_data : Rows.laid_internal_strconv_uint64pow10 = (Lib.tabData .u64 Lib.pow10Tab : DataW Unit) := by rfl
theorem plain5 : (laid3.filter fun x => x.2.handleName?.isNone) = laid5 := by rfl
theorem tabs_of {W : World} (h : laidMetH Tryz.prog laid3 W) (hs : W.ShapedOpen Tryz.prog) : quota.Tabs W ∧ bake.Tabs W := by
  have h1 := (laidMetH_iff.1 h).1
  rw [plain5] at h1
  have h2 := (h1.tail).tail
  rw [pow_data] at h2
  have ht : Lib.TabIs Tryz.prog W "internal/strconv.uint64pow10" .u64 Lib.pow10Tab :=
    Lib.tabIs_of_head (g := 2) (t := 387) (e := 350) (n := 20) (by kernel_rfl) (by kernel_rfl) Tryz.underlying387 Tryz.underlying350 (by kernel_rfl) (by kernel_rfl) h2
  have hm : ∃ m, W.cell? ⟨1, 0, none⟩ = some (.int .i64 m) := cell_of_shapedOpen_int hs (t := 3) (zero := #[.int .i64 0]) (of_decide_eq_true (by kernel_rfl)) (by kernel_rfl) rfl (by kernel_rfl) (by kernel_rfl) Tryz.underlying3
  have hz : max 1 2 < W.heap.size := by
    obtain ⟨m, hm⟩ := hm
    have h5 := cell_lt hm
    have h6 := ht
    unfold Lib.TabIs World.var? at h6
    rw [quota.pow_at] at h6
    simp only [Option.bind_some] at h6
    have h7 : 2 < W.heap.size := by
      rcases Nat.lt_or_ge 2 W.heap.size with h1 | h1
      · exact h1
      · rw [Array.getElem?_eq_none h1] at h6
        cases h6
    have h5 : 1 < W.heap.size := h5
    omega
  exact ⟨⟨hm, ht, hz⟩, ⟨hm, ht, hz⟩⟩
/-- a start that fits -/
noncomputable def startW (os : Os) : World := (World.doorLaid Tryz.prog 60 os).layVars Tryz.prog laid5
theorem startW_os (os : Os) : (startW os).os = os := World.layVars_os _ _ _
theorem startW_shaped (os : Os) (args : Array Value) : ((startW os).forCall (fun _ _ => 0) ⟨#[], args, []⟩).Shaped Tryz.prog := World.shaped_of_ZipB (by kernel_rfl) (by kernel_rfl)
theorem great5 : (laid5.filter fun x => (laid5.map (·.1)).contains x.1) = laid5 := by rfl
theorem small5 : (laid5.filter fun x => !(laid5.map (·.1)).contains x.1) = [] := by rfl
theorem laid_start (os : Os) : laidMet Tryz.prog laid5 (startW os) :=
  laidMet_layVars (w0 := World.doorLaid Tryz.prog 60 os) (laid5.map (·.1)) [] (by rw [great5]; rfl) (by rw [great5]; kernel_rfl) (by rw [great5]; kernel_rfl) (by rw [small5]; exact LaidIn.none)
theorem door_met (os : Os) (args : Array Value) : laidMetH Tryz.prog laid3 ((startW os).forCall (fun _ _ => 0) ⟨#[], args, []⟩).memory :=
  laidMetH_of_parts (by rw [plain5]; exact (laid_start os).of_heap (by simp [World.memory, World.forCall, Input.heap])) (by kernel_rfl)
end Go.Proofs.YthlahcnglacekaaGreatDoor.frame
