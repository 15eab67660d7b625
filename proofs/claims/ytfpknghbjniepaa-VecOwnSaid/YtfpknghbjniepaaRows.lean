/-
  No cell of these rows narrows 'for every input' (looked for: loops, veiled, ifaces, maps, wideKeys, modest, calm, conditions, laid).
  DERIVED. THE GIVEN ROWS OF THIS SEAT. 5 by the template 'for every input the law returns true; each argument reads behind the call as it read before'; 0 by the template 'total and deterministic' (their statements: YtfpknghbjniepaaTotals.lean).
  GIVEN WITH THE SEED: the statements are not yours to turn. If you find one false, say at which input.
  Laid BY PROGRAM, IN A SANDBOX (cutbox-rows.mjs): the forced cells as the released guide's own fill.sh prints them over the translation 5d2de0129678c5fa… (all of the seat's roots in one cut). By AI agents, Wed Nov 11 2026. No macro, syntax, notation, axiom, sorry.
-/
import Derived.Test.YtfpknghbjniepaaChecked
import GoSem.Claim
import GoSem.ClaimJoined
import GoSem.ClaimMapViews
import Derived.JoinedTies
import Derived.KernelRfl
namespace Go.Proofs.Ytfpknghbjniepaa
/- THE CELL 'sum', in the pinned program and in every row, IS THE sha256 OF THE DUMP (.gsa) THAT YtfpknghbjniepaaProg.lean LOADS. Nothing in Lean hashes anything: it is a label: what it is worth is what the hold of that sum in a sandbox is worth. -/
noncomputable def Try.pinned : Pinned := { name := "ytfpknghbjniepaa", sum := "5d2de0129678c5fad88846a535e8a0f22842e3707d32ea046c0086c0fa9f1375", checked := Try.checked }
namespace Rows
def none {H : Type} : Left H := { results := [], args := [] }

/-- 'sojournlaw06.VecOrders': WHATEVER THE INPUT: true; the input reads as it did. -/
def vecOrdersSpec : ChangeSpec := { name := "vecOrders", fn := fun _ => fun
  | [d1, d2, d3] => { results := [.lit (.bool true)], args := [d1, d2, d3] }
  | _ => none }
def vecOrdersRow : OpenClaim := { program := "ytfpknghbjniepaa", sum := "5d2de0129678c5fad88846a535e8a0f22842e3707d32ea046c0086c0fa9f1375", func := "sojourn/sojournlaw06.VecOrders", spec := "vecOrders", unfollowed := true, recurses := true, apart := false }
def VecOrdersSaid : Prop := vecOrdersRow.holds Try.pinned (OpenSpec.ofChange vecOrdersSpec)

/-- ITS FALSE NEIGHBOUR: 'it returns false'. Refute it at one input. -/
def vecOrdersWrong : ChangeSpec := { name := "vecOrders", fn := fun _ => fun
  | [d1, d2, d3] => { results := [.lit (.bool false)], args := [d1, d2, d3] }
  | _ => none }
def VecOrdersWrongFalsely : Prop := vecOrdersRow.holds Try.pinned (OpenSpec.ofChange vecOrdersWrong)

/-- 'sojournlaw06.VecJoins': WHATEVER THE INPUT: true; the input reads as it did. -/
def vecJoinsSpec : ChangeSpec := { name := "vecJoins", fn := fun _ => fun
  | [d] => { results := [.lit (.bool true)], args := [d] }
  | _ => none }
def vecJoinsRow : OpenClaim := { program := "ytfpknghbjniepaa", sum := "5d2de0129678c5fad88846a535e8a0f22842e3707d32ea046c0086c0fa9f1375", func := "sojourn/sojournlaw06.VecJoins", spec := "vecJoins", unfollowed := true, recurses := true, apart := false }
def VecJoinsSaid : Prop := vecJoinsRow.holds Try.pinned (OpenSpec.ofChange vecJoinsSpec)

/-- ITS FALSE NEIGHBOUR: 'it returns false'. Refute it at one input. -/
def vecJoinsWrong : ChangeSpec := { name := "vecJoins", fn := fun _ => fun
  | [d] => { results := [.lit (.bool false)], args := [d] }
  | _ => none }
def VecJoinsWrongFalsely : Prop := vecJoinsRow.holds Try.pinned (OpenSpec.ofChange vecJoinsWrong)

/-- 'sojournlaw06.VecLeast': WHATEVER THE INPUT: true; the input reads as it did. -/
def vecLeastSpec : ChangeSpec := { name := "vecLeast", fn := fun _ => fun
  | [d1, d2, d3] => { results := [.lit (.bool true)], args := [d1, d2, d3] }
  | _ => none }
def vecLeastRow : OpenClaim := { program := "ytfpknghbjniepaa", sum := "5d2de0129678c5fad88846a535e8a0f22842e3707d32ea046c0086c0fa9f1375", func := "sojourn/sojournlaw06.VecLeast", spec := "vecLeast", unfollowed := true, recurses := true, apart := false }
def VecLeastSaid : Prop := vecLeastRow.holds Try.pinned (OpenSpec.ofChange vecLeastSpec)

/-- ITS FALSE NEIGHBOUR: 'it returns false'. Refute it at one input. -/
def vecLeastWrong : ChangeSpec := { name := "vecLeast", fn := fun _ => fun
  | [d1, d2, d3] => { results := [.lit (.bool false)], args := [d1, d2, d3] }
  | _ => none }
def VecLeastWrongFalsely : Prop := vecLeastRow.holds Try.pinned (OpenSpec.ofChange vecLeastWrong)

/-- 'sojournlaw06.VecCounts': WHATEVER THE INPUT: true; the input reads as it did. -/
def vecCountsSpec : ChangeSpec := { name := "vecCounts", fn := fun _ => fun
  | [d1, d2, d3] => { results := [.lit (.bool true)], args := [d1, d2, d3] }
  | _ => none }
def vecCountsRow : OpenClaim := { program := "ytfpknghbjniepaa", sum := "5d2de0129678c5fad88846a535e8a0f22842e3707d32ea046c0086c0fa9f1375", func := "sojourn/sojournlaw06.VecCounts", spec := "vecCounts", unfollowed := true, recurses := true, apart := false }
def VecCountsSaid : Prop := vecCountsRow.holds Try.pinned (OpenSpec.ofChange vecCountsSpec)

/-- ITS FALSE NEIGHBOUR: 'it returns false'. Refute it at one input. -/
def vecCountsWrong : ChangeSpec := { name := "vecCounts", fn := fun _ => fun
  | [d1, d2, d3] => { results := [.lit (.bool false)], args := [d1, d2, d3] }
  | _ => none }
def VecCountsWrongFalsely : Prop := vecCountsRow.holds Try.pinned (OpenSpec.ofChange vecCountsWrong)

/-- 'sojournlaw06.VecOwn': WHATEVER THE INPUT: true; the input reads as it did. -/
def vecOwnSpec : ChangeSpec := { name := "vecOwn", fn := fun _ => fun
  | [d1, d2, d3] => { results := [.lit (.bool true)], args := [d1, d2, d3] }
  | _ => none }
def vecOwnRow : OpenClaim := { program := "ytfpknghbjniepaa", sum := "5d2de0129678c5fad88846a535e8a0f22842e3707d32ea046c0086c0fa9f1375", func := "sojourn/sojournlaw06.VecOwn", spec := "vecOwn", unfollowed := true, recurses := true, apart := false }
def VecOwnSaid : Prop := vecOwnRow.holds Try.pinned (OpenSpec.ofChange vecOwnSpec)

/-- ITS FALSE NEIGHBOUR: 'it returns false'. Refute it at one input. -/
def vecOwnWrong : ChangeSpec := { name := "vecOwn", fn := fun _ => fun
  | [d1, d2, d3] => { results := [.lit (.bool false)], args := [d1, d2, d3] }
  | _ => none }
def VecOwnWrongFalsely : Prop := vecOwnRow.holds Try.pinned (OpenSpec.ofChange vecOwnWrong)

/- THE SECOND FORM. 'bulk': how many values and letters a reading holds, each counted each time it is reached (what is shared counts as often as it is met; a slice's spare places count too). A statement '..UptoSaid' is the law's where the arguments, and the package variables that the reading takes, are together of bulk at most 1048576: NARROWER than '..Said'. Prove '..Said' where nothing that the law and all that it calls make is longer than what came in: it says more and counts as full. Else prove '..UptoSaid'. A law counts once. -/
mutual
def uptoBulk {H : Type} : DataW H → Nat
  | .lit (.string bytes) => bytes.length + 1
  | .lit _ => 1
  | .nil => 1
  | .ptr d => uptoBulk d + 1
  | .slice elems spare => uptoBulkAll elems + uptoBulkAll spare + 1
  | .agg parts => uptoBulkAll parts + 1
  | .iface _ d => uptoBulk d + 1
  | .map entries => uptoBulkEntries entries + 1
  | .held _ => 1
def uptoBulkAll {H : Type} : List (DataW H) → Nat
  | [] => 0
  | d :: r => uptoBulk d + uptoBulkAll r
def uptoBulkEntries {H : Type} : List (Lit × DataW H) → Nat
  | [] => 0
  | x :: r => uptoBulkEntry x + uptoBulkEntries r
def uptoBulkEntry {H : Type} : Lit × DataW H → Nat
  | (.string bytes, d) => bytes.length + uptoBulk d + 1
  | (_, d) => uptoBulk d + 1
 end
def uptoSmall : (H : Type) → List (DataW H) → Bool := fun _ ds => decide (uptoBulkAll ds ≤ 1048576)
def OpenSpec.upto (s : _root_.Go.ChangeSpec) : _root_.Go.OpenSpec := { _root_.Go.OpenSpec.ofChange s with cond := some uptoSmall }

/-- 'sojournlaw06.VecOrders', WHERE WHAT IT READS IS OF BULK AT MOST 1048576: true; the input reads as it did. -/
def vecOrdersUptoRow : OpenClaim := { program := "ytfpknghbjniepaa", sum := "5d2de0129678c5fad88846a535e8a0f22842e3707d32ea046c0086c0fa9f1375", func := "sojourn/sojournlaw06.VecOrders", spec := "vecOrders", unfollowed := true, recurses := true, apart := false, narrowed := true }
def VecOrdersUptoSaid : Prop := vecOrdersUptoRow.holds Try.pinned (OpenSpec.upto vecOrdersSpec)

/-- 'sojournlaw06.VecJoins', WHERE WHAT IT READS IS OF BULK AT MOST 1048576: true; the input reads as it did. -/
def vecJoinsUptoRow : OpenClaim := { program := "ytfpknghbjniepaa", sum := "5d2de0129678c5fad88846a535e8a0f22842e3707d32ea046c0086c0fa9f1375", func := "sojourn/sojournlaw06.VecJoins", spec := "vecJoins", unfollowed := true, recurses := true, apart := false, narrowed := true }
def VecJoinsUptoSaid : Prop := vecJoinsUptoRow.holds Try.pinned (OpenSpec.upto vecJoinsSpec)

/-- 'sojournlaw06.VecLeast', WHERE WHAT IT READS IS OF BULK AT MOST 1048576: true; the input reads as it did. -/
def vecLeastUptoRow : OpenClaim := { program := "ytfpknghbjniepaa", sum := "5d2de0129678c5fad88846a535e8a0f22842e3707d32ea046c0086c0fa9f1375", func := "sojourn/sojournlaw06.VecLeast", spec := "vecLeast", unfollowed := true, recurses := true, apart := false, narrowed := true }
def VecLeastUptoSaid : Prop := vecLeastUptoRow.holds Try.pinned (OpenSpec.upto vecLeastSpec)

/-- 'sojournlaw06.VecCounts', WHERE WHAT IT READS IS OF BULK AT MOST 1048576: true; the input reads as it did. -/
def vecCountsUptoRow : OpenClaim := { program := "ytfpknghbjniepaa", sum := "5d2de0129678c5fad88846a535e8a0f22842e3707d32ea046c0086c0fa9f1375", func := "sojourn/sojournlaw06.VecCounts", spec := "vecCounts", unfollowed := true, recurses := true, apart := false, narrowed := true }
def VecCountsUptoSaid : Prop := vecCountsUptoRow.holds Try.pinned (OpenSpec.upto vecCountsSpec)

/-- 'sojournlaw06.VecOwn', WHERE WHAT IT READS IS OF BULK AT MOST 1048576: true; the input reads as it did. -/
def vecOwnUptoRow : OpenClaim := { program := "ytfpknghbjniepaa", sum := "5d2de0129678c5fad88846a535e8a0f22842e3707d32ea046c0086c0fa9f1375", func := "sojourn/sojournlaw06.VecOwn", spec := "vecOwn", unfollowed := true, recurses := true, apart := false, narrowed := true }
def VecOwnUptoSaid : Prop := vecOwnUptoRow.holds Try.pinned (OpenSpec.upto vecOwnSpec)

end Rows
end Go.Proofs.Ytfpknghbjniepaa
