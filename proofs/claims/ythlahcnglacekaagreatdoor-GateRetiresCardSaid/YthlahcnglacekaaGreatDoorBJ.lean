/- What the row of GateRetires asks of the program, part by part. -/
import Derived.Test.YthlahcnglacekaaGreatDoorRows
import Derived.JoinedOf
import Derived.SevenTiedAt
import Derived.KernelRfl
namespace Go.Proofs.YthlahcnglacekaaGreatDoor.jfacts
open Go
theorem k0 : (Rows.gateRetiresRow.wf (OpenSpec.ofChange Rows.gateRetiresSpec)) = true := by kernel_rfl
theorem k1 : (laidOutB Tryz.checked.prog) = true := by kernel_rfl
theorem k2 : (mapsRowed Tryz.checked.prog) = true := by kernel_rfl
theorem k3 : (Tryz.f4.params.all (Tryz.checked.prog.readableRec ·)) = true := by kernel_rfl
theorem k4 : (namedTie Tryz.checked.prog Rows.gateRetiresRow.named Rows.gateRetiresSpec.vars) = true := by kernel_rfl
theorem k5 : ((Rows.gateRetiresRow.stops == [])) = true := by kernel_rfl
theorem k6 : ((Tryz.checked.prog.stops == [])) = true := by kernel_rfl
theorem k7 : ((Rows.gateRetiresRow.knobs == [])) = true := by kernel_rfl
theorem k8 : ((Tryz.checked.prog.stopKnobs == [])) = true := by kernel_rfl
theorem k9 : ((Rows.gateRetiresRow.inPlace == Tryz.checked.prog.inPlace 4)) = true := by kernel_rfl
theorem k10 : ((Rows.gateRetiresRow.unfollowed == Tryz.checked.prog.unfollowed 4)) = true := by kernel_rfl
theorem k11 : ((Rows.gateRetiresRow.recurses == Tryz.checked.prog.recurses 4)) = true := by kernel_rfl
theorem k12 : ((Rows.gateRetiresRow.named == Tryz.checked.prog.varsNamed 4)) = true := by kernel_rfl
theorem k13 : ((Rows.gateRetiresRow.maps == (Tryz.f4.params.toList ++ Rows.gateRetiresSpec.plain.varTypes Tryz.checked.prog).any (Tryz.checked.prog.mapsRec ·))) = true := by kernel_rfl
theorem k14 : ((Rows.gateRetiresRow.ifaces == (Tryz.f4.params.toList ++ Rows.gateRetiresSpec.plain.varTypes Tryz.checked.prog).any (Tryz.checked.prog.ifacesRec ·))) = true := by kernel_rfl
theorem k15 : ((Rows.gateRetiresRow.mapsOut == Tryz.checked.prog.mapsAmong Tryz.f4.resultTypes.toList)) = true := by kernel_rfl
theorem k16 : ((Rows.gateRetiresRow.loops == (Tryz.f4.params.toList ++ Rows.gateRetiresSpec.plain.varTypes Tryz.checked.prog).any (Tryz.checked.prog.loopsFrom ·))) = true := by kernel_rfl
theorem k17 : ((Rows.gateRetiresRow.wideKeys == (Tryz.f4.params.toList ++ Rows.gateRetiresSpec.plain.varTypes Tryz.checked.prog ++ Tryz.f4.resultTypes.toList).any (Tryz.checked.prog.wideKeysFrom ·))) = true := by kernel_rfl
theorem k18 : (Rows.gateRetiresSpec.vars.all (Tryz.checked.prog.varReadable ·)) = true := by kernel_rfl
theorem k19 : (Tryz.f4.resultTypes.all (fun t => Tryz.checked.prog.readableRec t && decide (t < Tryz.checked.prog.types.size))) = true := by kernel_rfl
theorem k20 : ((Rows.gateRetiresRow.ifacesOut == Tryz.f4.resultTypes.toList.any (Tryz.checked.prog.ifacesRec ·))) = true := by kernel_rfl
theorem k21 : ((Rows.gateRetiresRow.loopsOut == Tryz.f4.resultTypes.toList.any (Tryz.checked.prog.loopsFrom ·))) = true := by kernel_rfl
theorem k22 : ((Rows.gateRetiresRow.plainKeys == Tryz.checked.prog.plainKeys)) = true := by kernel_rfl
theorem k23 : (Rows.gateRetiresRow.shortTexts.isNone) = true := by kernel_rfl
theorem k24 : (Tryz.checked.prog.stopsHeard) = true := by kernel_rfl
theorem k25 : (Tryz.checked.prog.mayEnter) = true := by kernel_rfl
theorem k26 : ((Rows.gateRetiresRow.lifted == Tryz.checked.prog.liftsFinal)) = true := by kernel_rfl
theorem k27 : ((Tryz.checked.prog.make == some Rows.gateRetiresRow.make)) = true := by kernel_rfl
theorem k28 : ((Rows.gateRetiresRow.kinds == (if Rows.gateRetiresRow.domain.isEmpty then [] else Tryz.f4.params.toList.map fun t => match Tryz.checked.prog.underlying t with | some (.int k) => some k | _ => none))) = true := by kernel_rfl
theorem k29 : ((Rows.gateRetiresRow.pinned == Rows.gateRetiresRow.pinnedBy)) = true := by kernel_rfl
theorem k30 : ((Rows.gateRetiresRow.veiled == (Tryz.f4.params.toList ++ Rows.gateRetiresSpec.plain.varTypes Tryz.checked.prog ++ Tryz.f4.resultTypes.toList).any (Tryz.checked.prog.veiledRec ·))) = true := by kernel_rfl
theorem k31 : (Rows.gateRetiresRow.veiledFits Tryz.checked.prog Tryz.f4.params.toList (Tryz.f4.params.toList ++ Rows.gateRetiresSpec.plain.varTypes Tryz.checked.prog ++ Tryz.f4.resultTypes.toList)) = true := by kernel_rfl
set_option maxRecDepth 100000 in
theorem all : joinedFacts Tryz.checked.prog 4 Tryz.f4 Rows.gateRetiresSpec Rows.gateRetiresRow = true := by
  simp only [joinedFacts, Bool.and_eq_true]
  exact ⟨⟨⟨⟨⟨⟨⟨⟨⟨⟨⟨⟨⟨⟨⟨⟨⟨⟨⟨⟨⟨⟨⟨⟨⟨⟨⟨⟨⟨⟨⟨k0, k1⟩, k2⟩, k3⟩, k4⟩, k5⟩, k6⟩, k7⟩, k8⟩, k9⟩, k10⟩, k11⟩, k12⟩, k13⟩, k14⟩, k15⟩, k16⟩, k17⟩, k18⟩, k19⟩, k20⟩, k21⟩, k22⟩, k23⟩, k24⟩, k25⟩, k26⟩, k27⟩, k28⟩, k29⟩, k30⟩, k31⟩
/-- no goroutine is started: no function of the program has a go statement -/
theorem gone : Tryz.checked.prog.funcs.any Func.goes = false := by kernel_rfl
theorem goes_none {P : Program} (h : P.funcs.any Func.goes = false) (f : FuncId) : P.goes f = false := by
  unfold Program.goes
  rw [h, Bool.and_false, Bool.or_false, List.any_eq_false]
  intro g _
  cases hg : P.funcs[g]? with
  | none => simp
  | some fn =>
    have h2 := Array.any_eq_false.1 h
    obtain ⟨hlt, rfl⟩ := Array.getElem?_eq_some_iff.1 hg
    simpa using h2 g hlt
theorem goesBy_none {P : Program} {c : OpenClaim} (h : P.funcs.any Func.goes = false) (hs : c.start = .entering) : false = c.goesBy P := by
  unfold OpenClaim.goesBy Program.goesAt Program.goesFrom
  rw [hs, Bool.or_false]
  cases P.funcNamed c.func with
  | none => rfl
  | some f => exact (goes_none h f).symm
theorem goes : false = Rows.gateRetiresRow.goesBy Tryz.checked.prog := goesBy_none gone rfl
end Go.Proofs.YthlahcnglacekaaGreatDoor.jfacts
