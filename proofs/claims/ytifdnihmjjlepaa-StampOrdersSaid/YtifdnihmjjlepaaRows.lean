/-
  No cell of these rows narrows 'for every input' (looked for: loops, veiled, ifaces, maps, wideKeys, modest, calm, conditions, laid).
  DERIVED. THE GIVEN ROWS OF THIS SEAT. 4 by the template 'for every input the law returns true; each argument reads behind the call as it read before'; 0 by the template 'total and deterministic' (their statements: YtifdnihmjjlepaaTotals.lean).
  GIVEN WITH THE SEED: the statements are not yours to turn. If you find one false, say at which input.
  Laid BY PROGRAM, IN A SANDBOX (cutbox-rows.mjs): the forced cells as the released guide's own fill.sh prints them over the translation 57adc8a2894d2867… (all of the seat's roots in one cut). By AI agents, Wed Nov 11 2026. No macro, syntax, notation, axiom, sorry.
-/
import Derived.Test.YtifdnihmjjlepaaChecked
import GoSem.Claim
import GoSem.ClaimJoined
import GoSem.ClaimMapViews
import Derived.JoinedTies
import Derived.KernelRfl
namespace Go.Proofs.Ytifdnihmjjlepaa
/- THE CELL 'sum', in the pinned program and in every row, IS THE sha256 OF THE DUMP (.gsa) THAT YtifdnihmjjlepaaProg.lean LOADS. Nothing in Lean hashes anything: it is a label: what it is worth is what the hold of that sum in a sandbox is worth. -/
noncomputable def Try.pinned : Pinned := { name := "ytifdnihmjjlepaa", sum := "57adc8a2894d28671391bfd73255ccf0b876298c15ea5de3dcb016851bfd7a76", checked := Try.checked }
namespace Rows
def none {H : Type} : Left H := { results := [], args := [] }

/-- 'sojournlaw07.StampAbove': WHATEVER THE INPUT: true; the input reads as it did. -/
def stampAboveSpec : ChangeSpec := { name := "stampAbove", fn := fun _ => fun
  | [d1, d2] => { results := [.lit (.bool true)], args := [d1, d2] }
  | _ => none }
def stampAboveRow : OpenClaim := { program := "ytifdnihmjjlepaa", sum := "57adc8a2894d28671391bfd73255ccf0b876298c15ea5de3dcb016851bfd7a76", func := "sojourn/sojournlaw07.StampAbove", spec := "stampAbove", apart := false }
def StampAboveSaid : Prop := stampAboveRow.holds Try.pinned (OpenSpec.ofChange stampAboveSpec)

/-- ITS FALSE NEIGHBOUR: 'it returns false'. Refute it at one input. -/
def stampAboveWrong : ChangeSpec := { name := "stampAbove", fn := fun _ => fun
  | [d1, d2] => { results := [.lit (.bool false)], args := [d1, d2] }
  | _ => none }
def StampAboveWrongFalsely : Prop := stampAboveRow.holds Try.pinned (OpenSpec.ofChange stampAboveWrong)

/-- 'sojournlaw07.StampClocks': WHATEVER THE INPUT: true; the input reads as it did. -/
def stampClocksSpec : ChangeSpec := { name := "stampClocks", fn := fun _ => fun
  | [d1, d2, d3] => { results := [.lit (.bool true)], args := [d1, d2, d3] }
  | _ => none }
def stampClocksRow : OpenClaim := { program := "ytifdnihmjjlepaa", sum := "57adc8a2894d28671391bfd73255ccf0b876298c15ea5de3dcb016851bfd7a76", func := "sojourn/sojournlaw07.StampClocks", spec := "stampClocks", inPlace := ["internal/reflectlite.TypeOf"], unfollowed := true, recurses := true, apart := false }
def StampClocksSaid : Prop := stampClocksRow.holds Try.pinned (OpenSpec.ofChange stampClocksSpec)

/-- ITS FALSE NEIGHBOUR: 'it returns false'. Refute it at one input. -/
def stampClocksWrong : ChangeSpec := { name := "stampClocks", fn := fun _ => fun
  | [d1, d2, d3] => { results := [.lit (.bool false)], args := [d1, d2, d3] }
  | _ => none }
def StampClocksWrongFalsely : Prop := stampClocksRow.holds Try.pinned (OpenSpec.ofChange stampClocksWrong)

/-- 'sojournlaw07.StampNone': WHATEVER THE INPUT: true; the input reads as it did. -/
def stampNoneSpec : ChangeSpec := { name := "stampNone", fn := fun _ => fun
  | [d] => { results := [.lit (.bool true)], args := [d] }
  | _ => none }
def stampNoneRow : OpenClaim := { program := "ytifdnihmjjlepaa", sum := "57adc8a2894d28671391bfd73255ccf0b876298c15ea5de3dcb016851bfd7a76", func := "sojourn/sojournlaw07.StampNone", spec := "stampNone", inPlace := ["internal/reflectlite.TypeOf"], unfollowed := true, recurses := true, apart := false }
def StampNoneSaid : Prop := stampNoneRow.holds Try.pinned (OpenSpec.ofChange stampNoneSpec)

/-- ITS FALSE NEIGHBOUR: 'it returns false'. Refute it at one input. -/
def stampNoneWrong : ChangeSpec := { name := "stampNone", fn := fun _ => fun
  | [d] => { results := [.lit (.bool false)], args := [d] }
  | _ => none }
def StampNoneWrongFalsely : Prop := stampNoneRow.holds Try.pinned (OpenSpec.ofChange stampNoneWrong)

/-- 'sojournlaw07.StampOrders': WHATEVER THE INPUT: true; the input reads as it did. -/
def stampOrdersSpec : ChangeSpec := { name := "stampOrders", fn := fun _ => fun
  | [d] => { results := [.lit (.bool true)], args := [d] }
  | _ => none }
def stampOrdersRow : OpenClaim := { program := "ytifdnihmjjlepaa", sum := "57adc8a2894d28671391bfd73255ccf0b876298c15ea5de3dcb016851bfd7a76", func := "sojourn/sojournlaw07.StampOrders", spec := "stampOrders", unfollowed := true, recurses := true, apart := false }
def StampOrdersSaid : Prop := stampOrdersRow.holds Try.pinned (OpenSpec.ofChange stampOrdersSpec)

/-- ITS FALSE NEIGHBOUR: 'it returns false'. Refute it at one input. -/
def stampOrdersWrong : ChangeSpec := { name := "stampOrders", fn := fun _ => fun
  | [d] => { results := [.lit (.bool false)], args := [d] }
  | _ => none }
def StampOrdersWrongFalsely : Prop := stampOrdersRow.holds Try.pinned (OpenSpec.ofChange stampOrdersWrong)

/- THE SECOND FORM. 'bulk': how many values and letters a reading holds, each counted each time it is reached (what is shared counts as often as it is met; a slice's spare places count too). A statement '..UptoSaid' is the law's where the arguments, and the package variables that the reading takes, are together of bulk at most 1048576: NARROWER than '..Said'. Prove '..Said' where nothing that the law and all that it calls make is longer than what came in: it says more and counts as full. Else prove '..UptoSaid'. A law counts once. -/
mutual
def uptoBulk {H : Type} : DataW H → Nat
  | .lit (.string bytes) => bytes.length + 1
  | .lit _ => 1
  | .nil => 1
  | .ptr d => uptoBulk d + 1
  | .slice elems spare => uptoBulkAll elems + uptoBulkAll spare + 1
  | .agg parts => uptoBulkAll parts + 1
  | .iface _ d => uptoBulk d + 1
  | .map entries => uptoBulkEntries entries + 1
  | .held _ => 1
def uptoBulkAll {H : Type} : List (DataW H) → Nat
  | [] => 0
  | d :: r => uptoBulk d + uptoBulkAll r
def uptoBulkEntries {H : Type} : List (Lit × DataW H) → Nat
  | [] => 0
  | x :: r => uptoBulkEntry x + uptoBulkEntries r
def uptoBulkEntry {H : Type} : Lit × DataW H → Nat
  | (.string bytes, d) => bytes.length + uptoBulk d + 1
  | (_, d) => uptoBulk d + 1
 end
def uptoSmall : (H : Type) → List (DataW H) → Bool := fun _ ds => decide (uptoBulkAll ds ≤ 1048576)
def OpenSpec.upto (s : _root_.Go.ChangeSpec) : _root_.Go.OpenSpec := { _root_.Go.OpenSpec.ofChange s with cond := some uptoSmall }

/-- 'sojournlaw07.StampAbove', WHERE WHAT IT READS IS OF BULK AT MOST 1048576: true; the input reads as it did. -/
def stampAboveUptoRow : OpenClaim := { program := "ytifdnihmjjlepaa", sum := "57adc8a2894d28671391bfd73255ccf0b876298c15ea5de3dcb016851bfd7a76", func := "sojourn/sojournlaw07.StampAbove", spec := "stampAbove", apart := false, narrowed := true }
def StampAboveUptoSaid : Prop := stampAboveUptoRow.holds Try.pinned (OpenSpec.upto stampAboveSpec)

/-- 'sojournlaw07.StampClocks', WHERE WHAT IT READS IS OF BULK AT MOST 1048576: true; the input reads as it did. -/
def stampClocksUptoRow : OpenClaim := { program := "ytifdnihmjjlepaa", sum := "57adc8a2894d28671391bfd73255ccf0b876298c15ea5de3dcb016851bfd7a76", func := "sojourn/sojournlaw07.StampClocks", spec := "stampClocks", inPlace := ["internal/reflectlite.TypeOf"], unfollowed := true, recurses := true, apart := false, narrowed := true }
def StampClocksUptoSaid : Prop := stampClocksUptoRow.holds Try.pinned (OpenSpec.upto stampClocksSpec)

/-- 'sojournlaw07.StampNone', WHERE WHAT IT READS IS OF BULK AT MOST 1048576: true; the input reads as it did. -/
def stampNoneUptoRow : OpenClaim := { program := "ytifdnihmjjlepaa", sum := "57adc8a2894d28671391bfd73255ccf0b876298c15ea5de3dcb016851bfd7a76", func := "sojourn/sojournlaw07.StampNone", spec := "stampNone", inPlace := ["internal/reflectlite.TypeOf"], unfollowed := true, recurses := true, apart := false, narrowed := true }
def StampNoneUptoSaid : Prop := stampNoneUptoRow.holds Try.pinned (OpenSpec.upto stampNoneSpec)

/-- 'sojournlaw07.StampOrders', WHERE WHAT IT READS IS OF BULK AT MOST 1048576: true; the input reads as it did. -/
def stampOrdersUptoRow : OpenClaim := { program := "ytifdnihmjjlepaa", sum := "57adc8a2894d28671391bfd73255ccf0b876298c15ea5de3dcb016851bfd7a76", func := "sojourn/sojournlaw07.StampOrders", spec := "stampOrders", unfollowed := true, recurses := true, apart := false, narrowed := true }
def StampOrdersUptoSaid : Prop := stampOrdersUptoRow.holds Try.pinned (OpenSpec.upto stampOrdersSpec)

end Rows
end Go.Proofs.Ytifdnihmjjlepaa
