/-
  No cell of these rows narrows 'for every input' (looked for: loops, veiled, ifaces, maps, wideKeys, modest, calm, conditions, laid).
  DERIVED. THE GIVEN ROWS OF THIS SEAT. 4 by the template 'for every input the law returns true; each argument reads behind the call as it read before'; 0 by the template 'total and deterministic' (their statements: YthnbglfgcijnoaaTotals.lean).
  GIVEN WITH THE SEED: the statements are not yours to turn. If you find one false, say at which input.
  Laid BY PROGRAM, IN A SANDBOX (cutbox-rows.mjs): the forced cells as the released guide's own fill.sh prints them over the translation 8609ce4f7ffcd5f9… (all of the seat's roots in one cut). By AI agents, Wed Nov 11 2026. No macro, syntax, notation, axiom, sorry.
-/
import Derived.Test.YthnbglfgcijnoaaChecked
import GoSem.Claim
import GoSem.ClaimJoined
import GoSem.ClaimMapViews
import Derived.JoinedTies
import Derived.KernelRfl
namespace Go.Proofs.Ythnbglfgcijnoaa
/- THE CELL 'sum', in the pinned program and in every row, IS THE sha256 OF THE DUMP (.gsa) THAT YthnbglfgcijnoaaProg.lean LOADS. Nothing in Lean hashes anything: it is a label: what it is worth is what the hold of that sum in a sandbox is worth. -/
noncomputable def Try.pinned : Pinned := { name := "ythnbglfgcijnoaa", sum := "8609ce4f7ffcd5f9ae4f363f1fe5d961a127d8dc0d282e8a7e5f29a6b347a87d", checked := Try.checked }
namespace Rows
def none {H : Type} : Left H := { results := [], args := [] }

/-- 'sojournlaw02.CrcDivides': WHATEVER THE INPUT: true; the input reads as it did. -/
def crcDividesSpec : ChangeSpec := { name := "crcDivides", fn := fun _ => fun
  | [d] => { results := [.lit (.bool true)], args := [d] }
  | _ => none }
def crcDividesRow : OpenClaim := { program := "ythnbglfgcijnoaa", sum := "8609ce4f7ffcd5f9ae4f363f1fe5d961a127d8dc0d282e8a7e5f29a6b347a87d", func := "sojourn/sojournlaw02.CrcDivides", spec := "crcDivides", apart := false }
def CrcDividesSaid : Prop := crcDividesRow.holds Try.pinned (OpenSpec.ofChange crcDividesSpec)

/-- ITS FALSE NEIGHBOUR: 'it returns false'. Refute it at one input. -/
def crcDividesWrong : ChangeSpec := { name := "crcDivides", fn := fun _ => fun
  | [d] => { results := [.lit (.bool false)], args := [d] }
  | _ => none }
def CrcDividesWrongFalsely : Prop := crcDividesRow.holds Try.pinned (OpenSpec.ofChange crcDividesWrong)

/-- 'sojournlaw02.CrcSteps': WHATEVER THE INPUT: true; the input reads as it did. -/
def crcStepsSpec : ChangeSpec := { name := "crcSteps", fn := fun _ => fun
  | [d1, d2, d3] => { results := [.lit (.bool true)], args := [d1, d2, d3] }
  | _ => none }
def crcStepsRow : OpenClaim := { program := "ythnbglfgcijnoaa", sum := "8609ce4f7ffcd5f9ae4f363f1fe5d961a127d8dc0d282e8a7e5f29a6b347a87d", func := "sojourn/sojournlaw02.CrcSteps", spec := "crcSteps", apart := false }
def CrcStepsSaid : Prop := crcStepsRow.holds Try.pinned (OpenSpec.ofChange crcStepsSpec)

/-- ITS FALSE NEIGHBOUR: 'it returns false'. Refute it at one input. -/
def crcStepsWrong : ChangeSpec := { name := "crcSteps", fn := fun _ => fun
  | [d1, d2, d3] => { results := [.lit (.bool false)], args := [d1, d2, d3] }
  | _ => none }
def CrcStepsWrongFalsely : Prop := crcStepsRow.holds Try.pinned (OpenSpec.ofChange crcStepsWrong)

/-- 'sojournlaw02.CrcTells': WHATEVER THE INPUT: true; the input reads as it did. -/
def crcTellsSpec : ChangeSpec := { name := "crcTells", fn := fun _ => fun
  | [d1, d2, d3] => { results := [.lit (.bool true)], args := [d1, d2, d3] }
  | _ => none }
def crcTellsRow : OpenClaim := { program := "ythnbglfgcijnoaa", sum := "8609ce4f7ffcd5f9ae4f363f1fe5d961a127d8dc0d282e8a7e5f29a6b347a87d", func := "sojourn/sojournlaw02.CrcTells", spec := "crcTells", apart := false }
def CrcTellsSaid : Prop := crcTellsRow.holds Try.pinned (OpenSpec.ofChange crcTellsSpec)

/-- ITS FALSE NEIGHBOUR: 'it returns false'. Refute it at one input. -/
def crcTellsWrong : ChangeSpec := { name := "crcTells", fn := fun _ => fun
  | [d1, d2, d3] => { results := [.lit (.bool false)], args := [d1, d2, d3] }
  | _ => none }
def CrcTellsWrongFalsely : Prop := crcTellsRow.holds Try.pinned (OpenSpec.ofChange crcTellsWrong)

/-- 'sojournlaw02.CrcFours': WHATEVER THE INPUT: true; the input reads as it did. -/
def crcFoursSpec : ChangeSpec := { name := "crcFours", fn := fun _ => fun
  | [d1, d2] => { results := [.lit (.bool true)], args := [d1, d2] }
  | _ => none }
def crcFoursRow : OpenClaim := { program := "ythnbglfgcijnoaa", sum := "8609ce4f7ffcd5f9ae4f363f1fe5d961a127d8dc0d282e8a7e5f29a6b347a87d", func := "sojourn/sojournlaw02.CrcFours", spec := "crcFours", apart := false }
def CrcFoursSaid : Prop := crcFoursRow.holds Try.pinned (OpenSpec.ofChange crcFoursSpec)

/-- ITS FALSE NEIGHBOUR: 'it returns false'. Refute it at one input. -/
def crcFoursWrong : ChangeSpec := { name := "crcFours", fn := fun _ => fun
  | [d1, d2] => { results := [.lit (.bool false)], args := [d1, d2] }
  | _ => none }
def CrcFoursWrongFalsely : Prop := crcFoursRow.holds Try.pinned (OpenSpec.ofChange crcFoursWrong)

/- THE SECOND FORM. 'bulk': how many values and letters a reading holds, each counted each time it is reached (what is shared counts as often as it is met; a slice's spare places count too). A statement '..UptoSaid' is the law's where the arguments, and the package variables that the reading takes, are together of bulk at most 1048576: NARROWER than '..Said'. Prove '..Said' where nothing that the law and all that it calls make is longer than what came in: it says more and counts as full. Else prove '..UptoSaid'. A law counts once. -/
mutual
def uptoBulk {H : Type} : DataW H → Nat
  | .lit (.string bytes) => bytes.length + 1
  | .lit _ => 1
  | .nil => 1
  | .ptr d => uptoBulk d + 1
  | .slice elems spare => uptoBulkAll elems + uptoBulkAll spare + 1
  | .agg parts => uptoBulkAll parts + 1
  | .iface _ d => uptoBulk d + 1
  | .map entries => uptoBulkEntries entries + 1
  | .held _ => 1
def uptoBulkAll {H : Type} : List (DataW H) → Nat
  | [] => 0
  | d :: r => uptoBulk d + uptoBulkAll r
def uptoBulkEntries {H : Type} : List (Lit × DataW H) → Nat
  | [] => 0
  | x :: r => uptoBulkEntry x + uptoBulkEntries r
def uptoBulkEntry {H : Type} : Lit × DataW H → Nat
  | (.string bytes, d) => bytes.length + uptoBulk d + 1
  | (_, d) => uptoBulk d + 1
 end
def uptoSmall : (H : Type) → List (DataW H) → Bool := fun _ ds => decide (uptoBulkAll ds ≤ 1048576)
def OpenSpec.upto (s : _root_.Go.ChangeSpec) : _root_.Go.OpenSpec := { _root_.Go.OpenSpec.ofChange s with cond := some uptoSmall }

/-- 'sojournlaw02.CrcDivides', WHERE WHAT IT READS IS OF BULK AT MOST 1048576: true; the input reads as it did. -/
def crcDividesUptoRow : OpenClaim := { program := "ythnbglfgcijnoaa", sum := "8609ce4f7ffcd5f9ae4f363f1fe5d961a127d8dc0d282e8a7e5f29a6b347a87d", func := "sojourn/sojournlaw02.CrcDivides", spec := "crcDivides", apart := false, narrowed := true }
def CrcDividesUptoSaid : Prop := crcDividesUptoRow.holds Try.pinned (OpenSpec.upto crcDividesSpec)

/-- 'sojournlaw02.CrcSteps', WHERE WHAT IT READS IS OF BULK AT MOST 1048576: true; the input reads as it did. -/
def crcStepsUptoRow : OpenClaim := { program := "ythnbglfgcijnoaa", sum := "8609ce4f7ffcd5f9ae4f363f1fe5d961a127d8dc0d282e8a7e5f29a6b347a87d", func := "sojourn/sojournlaw02.CrcSteps", spec := "crcSteps", apart := false, narrowed := true }
def CrcStepsUptoSaid : Prop := crcStepsUptoRow.holds Try.pinned (OpenSpec.upto crcStepsSpec)

/-- 'sojournlaw02.CrcTells', WHERE WHAT IT READS IS OF BULK AT MOST 1048576: true; the input reads as it did. -/
def crcTellsUptoRow : OpenClaim := { program := "ythnbglfgcijnoaa", sum := "8609ce4f7ffcd5f9ae4f363f1fe5d961a127d8dc0d282e8a7e5f29a6b347a87d", func := "sojourn/sojournlaw02.CrcTells", spec := "crcTells", apart := false, narrowed := true }
def CrcTellsUptoSaid : Prop := crcTellsUptoRow.holds Try.pinned (OpenSpec.upto crcTellsSpec)

/-- 'sojournlaw02.CrcFours', WHERE WHAT IT READS IS OF BULK AT MOST 1048576: true; the input reads as it did. -/
def crcFoursUptoRow : OpenClaim := { program := "ythnbglfgcijnoaa", sum := "8609ce4f7ffcd5f9ae4f363f1fe5d961a127d8dc0d282e8a7e5f29a6b347a87d", func := "sojourn/sojournlaw02.CrcFours", spec := "crcFours", apart := false, narrowed := true }
def CrcFoursUptoSaid : Prop := crcFoursUptoRow.holds Try.pinned (OpenSpec.upto crcFoursSpec)

end Rows
end Go.Proofs.Ythnbglfgcijnoaa
