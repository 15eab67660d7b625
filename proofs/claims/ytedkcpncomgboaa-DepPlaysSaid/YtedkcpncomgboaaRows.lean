/-
  No cell of these rows narrows 'for every input' (looked for: loops, veiled, ifaces, maps, wideKeys, modest, calm, conditions, laid).
  DERIVED. THE GIVEN ROWS OF THIS SEAT. 4 by the template 'for every input the law returns true; each argument reads behind the call as it read before'; 0 by the template 'total and deterministic' (their statements: YtedkcpncomgboaaTotals.lean).
  GIVEN WITH THE SEED: the statements are not yours to turn. If you find one false, say at which input.
  Laid BY PROGRAM, IN A SANDBOX (cutbox-rows.mjs): the forced cells as the released guide's own fill.sh prints them over the translation 1e16c4e4b27eaaa8… (all of the seat's roots in one cut). By AI agents, Wed Nov 11 2026. No macro, syntax, notation, axiom, sorry.
-/
import Derived.Test.YtedkcpncomgboaaChecked
import GoSem.Claim
import GoSem.ClaimJoined
import GoSem.ClaimMapViews
import Derived.JoinedTies
import Derived.KernelRfl
namespace Go.Proofs.Ytedkcpncomgboaa
/- THE CELL 'sum', in the pinned program and in every row, IS THE sha256 OF THE DUMP (.gsa) THAT YtedkcpncomgboaaProg.lean LOADS. Nothing in Lean hashes anything: it is a label: what it is worth is what the hold of that sum in a sandbox is worth. -/
noncomputable def Try.pinned : Pinned := { name := "ytedkcpncomgboaa", sum := "1e16c4e4b27eaaa8c2f80606749046c93404efdbe5ea0a1b1e5fa3dc23605958", checked := Try.checked }
namespace Rows
def none {H : Type} : Left H := { results := [], args := [] }

/-- 'sojournlaw19.DepAll': WHATEVER THE INPUT: true; the input reads as it did. -/
def depAllSpec : ChangeSpec := { name := "depAll", fn := fun _ => fun
  | [d1, d2] => { results := [.lit (.bool true)], args := [d1, d2] }
  | _ => none }
def depAllRow : OpenClaim := { program := "ytedkcpncomgboaa", sum := "1e16c4e4b27eaaa8c2f80606749046c93404efdbe5ea0a1b1e5fa3dc23605958", func := "sojourn/sojournlaw19.DepAll", spec := "depAll", inPlace := ["slices.overlaps[sojourn/api.Write]"], unfollowed := true, recurses := true, apart := false }
def DepAllSaid : Prop := depAllRow.holds Try.pinned (OpenSpec.ofChange depAllSpec)

/-- ITS FALSE NEIGHBOUR: 'it returns false'. Refute it at one input. -/
def depAllWrong : ChangeSpec := { name := "depAll", fn := fun _ => fun
  | [d1, d2] => { results := [.lit (.bool false)], args := [d1, d2] }
  | _ => none }
def DepAllWrongFalsely : Prop := depAllRow.holds Try.pinned (OpenSpec.ofChange depAllWrong)

/-- 'sojournlaw19.DepOrders': WHATEVER THE INPUT: true; the input reads as it did. -/
def depOrdersSpec : ChangeSpec := { name := "depOrders", fn := fun _ => fun
  | [d1, d2] => { results := [.lit (.bool true)], args := [d1, d2] }
  | _ => none }
def depOrdersRow : OpenClaim := { program := "ytedkcpncomgboaa", sum := "1e16c4e4b27eaaa8c2f80606749046c93404efdbe5ea0a1b1e5fa3dc23605958", func := "sojourn/sojournlaw19.DepOrders", spec := "depOrders", inPlace := ["slices.overlaps[sojourn/api.Write]"], unfollowed := true, recurses := true, apart := false }
def DepOrdersSaid : Prop := depOrdersRow.holds Try.pinned (OpenSpec.ofChange depOrdersSpec)

/-- ITS FALSE NEIGHBOUR: 'it returns false'. Refute it at one input. -/
def depOrdersWrong : ChangeSpec := { name := "depOrders", fn := fun _ => fun
  | [d1, d2] => { results := [.lit (.bool false)], args := [d1, d2] }
  | _ => none }
def DepOrdersWrongFalsely : Prop := depOrdersRow.holds Try.pinned (OpenSpec.ofChange depOrdersWrong)

/-- 'sojournlaw19.DepPlays': WHATEVER THE INPUT: true; the input reads as it did. -/
def depPlaysSpec : ChangeSpec := { name := "depPlays", fn := fun _ => fun
  | [d1, d2, d3] => { results := [.lit (.bool true)], args := [d1, d2, d3] }
  | _ => none }
def depPlaysRow : OpenClaim := { program := "ytedkcpncomgboaa", sum := "1e16c4e4b27eaaa8c2f80606749046c93404efdbe5ea0a1b1e5fa3dc23605958", func := "sojourn/sojournlaw19.DepPlays", spec := "depPlays", inPlace := ["slices.overlaps[sojourn/api.Write]", "internal/reflectlite.TypeOf"], unfollowed := true, recurses := true, apart := false }
def DepPlaysSaid : Prop := depPlaysRow.holds Try.pinned (OpenSpec.ofChange depPlaysSpec)

/-- ITS FALSE NEIGHBOUR: 'it returns false'. Refute it at one input. -/
def depPlaysWrong : ChangeSpec := { name := "depPlays", fn := fun _ => fun
  | [d1, d2, d3] => { results := [.lit (.bool false)], args := [d1, d2, d3] }
  | _ => none }
def DepPlaysWrongFalsely : Prop := depPlaysRow.holds Try.pinned (OpenSpec.ofChange depPlaysWrong)

/-- 'sojournlaw19.DepNone': WHATEVER THE INPUT: true; the input reads as it did. -/
def depNoneSpec : ChangeSpec := { name := "depNone", fn := fun _ => fun
  | [d] => { results := [.lit (.bool true)], args := [d] }
  | _ => none }
def depNoneRow : OpenClaim := { program := "ytedkcpncomgboaa", sum := "1e16c4e4b27eaaa8c2f80606749046c93404efdbe5ea0a1b1e5fa3dc23605958", func := "sojourn/sojournlaw19.DepNone", spec := "depNone", inPlace := ["slices.overlaps[sojourn/api.Write]", "internal/reflectlite.TypeOf"], unfollowed := true, recurses := true, apart := false }
def DepNoneSaid : Prop := depNoneRow.holds Try.pinned (OpenSpec.ofChange depNoneSpec)

/-- ITS FALSE NEIGHBOUR: 'it returns false'. Refute it at one input. -/
def depNoneWrong : ChangeSpec := { name := "depNone", fn := fun _ => fun
  | [d] => { results := [.lit (.bool false)], args := [d] }
  | _ => none }
def DepNoneWrongFalsely : Prop := depNoneRow.holds Try.pinned (OpenSpec.ofChange depNoneWrong)

/- THE SECOND FORM. 'bulk': how many values and letters a reading holds, each counted each time it is reached (what is shared counts as often as it is met; a slice's spare places count too). A statement '..UptoSaid' is the law's where the arguments, and the package variables that the reading takes, are together of bulk at most 1048576: NARROWER than '..Said'. Prove '..Said' where nothing that the law and all that it calls make is longer than what came in: it says more and counts as full. Else prove '..UptoSaid'. A law counts once. -/
mutual
def uptoBulk {H : Type} : DataW H → Nat
  | .lit (.string bytes) => bytes.length + 1
  | .lit _ => 1
  | .nil => 1
  | .ptr d => uptoBulk d + 1
  | .slice elems spare => uptoBulkAll elems + uptoBulkAll spare + 1
  | .agg parts => uptoBulkAll parts + 1
  | .iface _ d => uptoBulk d + 1
  | .map entries => uptoBulkEntries entries + 1
  | .held _ => 1
def uptoBulkAll {H : Type} : List (DataW H) → Nat
  | [] => 0
  | d :: r => uptoBulk d + uptoBulkAll r
def uptoBulkEntries {H : Type} : List (Lit × DataW H) → Nat
  | [] => 0
  | x :: r => uptoBulkEntry x + uptoBulkEntries r
def uptoBulkEntry {H : Type} : Lit × DataW H → Nat
  | (.string bytes, d) => bytes.length + uptoBulk d + 1
  | (_, d) => uptoBulk d + 1
 end
def uptoSmall : (H : Type) → List (DataW H) → Bool := fun _ ds => decide (uptoBulkAll ds ≤ 1048576)
def OpenSpec.upto (s : _root_.Go.ChangeSpec) : _root_.Go.OpenSpec := { _root_.Go.OpenSpec.ofChange s with cond := some uptoSmall }

/-- 'sojournlaw19.DepAll', WHERE WHAT IT READS IS OF BULK AT MOST 1048576: true; the input reads as it did. -/
def depAllUptoRow : OpenClaim := { program := "ytedkcpncomgboaa", sum := "1e16c4e4b27eaaa8c2f80606749046c93404efdbe5ea0a1b1e5fa3dc23605958", func := "sojourn/sojournlaw19.DepAll", spec := "depAll", inPlace := ["slices.overlaps[sojourn/api.Write]"], unfollowed := true, recurses := true, apart := false, narrowed := true }
def DepAllUptoSaid : Prop := depAllUptoRow.holds Try.pinned (OpenSpec.upto depAllSpec)

/-- 'sojournlaw19.DepOrders', WHERE WHAT IT READS IS OF BULK AT MOST 1048576: true; the input reads as it did. -/
def depOrdersUptoRow : OpenClaim := { program := "ytedkcpncomgboaa", sum := "1e16c4e4b27eaaa8c2f80606749046c93404efdbe5ea0a1b1e5fa3dc23605958", func := "sojourn/sojournlaw19.DepOrders", spec := "depOrders", inPlace := ["slices.overlaps[sojourn/api.Write]"], unfollowed := true, recurses := true, apart := false, narrowed := true }
def DepOrdersUptoSaid : Prop := depOrdersUptoRow.holds Try.pinned (OpenSpec.upto depOrdersSpec)

/-- 'sojournlaw19.DepPlays', WHERE WHAT IT READS IS OF BULK AT MOST 1048576: true; the input reads as it did. -/
def depPlaysUptoRow : OpenClaim := { program := "ytedkcpncomgboaa", sum := "1e16c4e4b27eaaa8c2f80606749046c93404efdbe5ea0a1b1e5fa3dc23605958", func := "sojourn/sojournlaw19.DepPlays", spec := "depPlays", inPlace := ["slices.overlaps[sojourn/api.Write]", "internal/reflectlite.TypeOf"], unfollowed := true, recurses := true, apart := false, narrowed := true }
def DepPlaysUptoSaid : Prop := depPlaysUptoRow.holds Try.pinned (OpenSpec.upto depPlaysSpec)

/-- 'sojournlaw19.DepNone', WHERE WHAT IT READS IS OF BULK AT MOST 1048576: true; the input reads as it did. -/
def depNoneUptoRow : OpenClaim := { program := "ytedkcpncomgboaa", sum := "1e16c4e4b27eaaa8c2f80606749046c93404efdbe5ea0a1b1e5fa3dc23605958", func := "sojourn/sojournlaw19.DepNone", spec := "depNone", inPlace := ["slices.overlaps[sojourn/api.Write]", "internal/reflectlite.TypeOf"], unfollowed := true, recurses := true, apart := false, narrowed := true }
def DepNoneUptoSaid : Prop := depNoneUptoRow.holds Try.pinned (OpenSpec.upto depNoneSpec)

end Rows
end Go.Proofs.Ytedkcpncomgboaa
