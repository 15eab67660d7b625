/-
  No cell of these rows narrows 'for every input' (looked for: loops, veiled, ifaces, maps, wideKeys, modest, calm, conditions, laid).
  DERIVED. THE GIVEN ROWS OF THIS SEAT. 4 by the template 'for every input the law returns true; each argument reads behind the call as it read before'; 0 by the template 'total and deterministic' (their statements: YtmclmefgddomfaaTotals.lean).
  GIVEN WITH THE SEED: the statements are not yours to turn. If you find one false, say at which input.
  Laid BY PROGRAM, IN A SANDBOX (cutbox-rows.mjs): the forced cells as the released guide's own fill.sh prints them over the translation 32c7638e5321d4d7… (all of the seat's roots in one cut). By AI agents, Wed Nov 11 2026. No macro, syntax, notation, axiom, sorry.
-/
import Derived.Test.YtmclmefgddomfaaChecked
import GoSem.Claim
import GoSem.ClaimJoined
import GoSem.ClaimMapViews
import Derived.JoinedTies
import Derived.KernelRfl
namespace Go.Proofs.Ytmclmefgddomfaa
/- THE CELL 'sum', in the pinned program and in every row, IS THE sha256 OF THE DUMP (.gsa) THAT YtmclmefgddomfaaProg.lean LOADS. Nothing in Lean hashes anything: it is a label: what it is worth is what the hold of that sum in a sandbox is worth. -/
noncomputable def Try.pinned : Pinned := { name := "ytmclmefgddomfaa", sum := "32c7638e5321d4d7ea34640670d3242956546dac287a817aa601a1900df7581e", checked := Try.checked }
namespace Rows
def none {H : Type} : Left H := { results := [], args := [] }

/-- 'sojournlaw20.FeedAll': WHATEVER THE INPUT: true; the input reads as it did. -/
def feedAllSpec : ChangeSpec := { name := "feedAll", fn := fun _ => fun
  | [d1, d2, d3] => { results := [.lit (.bool true)], args := [d1, d2, d3] }
  | _ => none }
def feedAllRow : OpenClaim := { program := "ytmclmefgddomfaa", sum := "32c7638e5321d4d7ea34640670d3242956546dac287a817aa601a1900df7581e", func := "sojourn/sojournlaw20.FeedAll", spec := "feedAll", apart := false }
def FeedAllSaid : Prop := feedAllRow.holds Try.pinned (OpenSpec.ofChange feedAllSpec)

/-- ITS FALSE NEIGHBOUR: 'it returns false'. Refute it at one input. -/
def feedAllWrong : ChangeSpec := { name := "feedAll", fn := fun _ => fun
  | [d1, d2, d3] => { results := [.lit (.bool false)], args := [d1, d2, d3] }
  | _ => none }
def FeedAllWrongFalsely : Prop := feedAllRow.holds Try.pinned (OpenSpec.ofChange feedAllWrong)

/-- 'sojournlaw20.FeedTrims': WHATEVER THE INPUT: true; the input reads as it did. -/
def feedTrimsSpec : ChangeSpec := { name := "feedTrims", fn := fun _ => fun
  | [d1, d2] => { results := [.lit (.bool true)], args := [d1, d2] }
  | _ => none }
def feedTrimsRow : OpenClaim := { program := "ytmclmefgddomfaa", sum := "32c7638e5321d4d7ea34640670d3242956546dac287a817aa601a1900df7581e", func := "sojourn/sojournlaw20.FeedTrims", spec := "feedTrims", apart := false }
def FeedTrimsSaid : Prop := feedTrimsRow.holds Try.pinned (OpenSpec.ofChange feedTrimsSpec)

/-- ITS FALSE NEIGHBOUR: 'it returns false'. Refute it at one input. -/
def feedTrimsWrong : ChangeSpec := { name := "feedTrims", fn := fun _ => fun
  | [d1, d2] => { results := [.lit (.bool false)], args := [d1, d2] }
  | _ => none }
def FeedTrimsWrongFalsely : Prop := feedTrimsRow.holds Try.pinned (OpenSpec.ofChange feedTrimsWrong)

/-- 'sojournlaw20.FeedPlays': WHATEVER THE INPUT: true; the input reads as it did. -/
def feedPlaysSpec : ChangeSpec := { name := "feedPlays", fn := fun _ => fun
  | [d1, d2] => { results := [.lit (.bool true)], args := [d1, d2] }
  | _ => none }
def feedPlaysRow : OpenClaim := { program := "ytmclmefgddomfaa", sum := "32c7638e5321d4d7ea34640670d3242956546dac287a817aa601a1900df7581e", func := "sojourn/sojournlaw20.FeedPlays", spec := "feedPlays", inPlace := ["internal/reflectlite.TypeOf"], unfollowed := true, recurses := true, apart := false }
def FeedPlaysSaid : Prop := feedPlaysRow.holds Try.pinned (OpenSpec.ofChange feedPlaysSpec)

/-- ITS FALSE NEIGHBOUR: 'it returns false'. Refute it at one input. -/
def feedPlaysWrong : ChangeSpec := { name := "feedPlays", fn := fun _ => fun
  | [d1, d2] => { results := [.lit (.bool false)], args := [d1, d2] }
  | _ => none }
def FeedPlaysWrongFalsely : Prop := feedPlaysRow.holds Try.pinned (OpenSpec.ofChange feedPlaysWrong)

/-- 'sojournlaw20.FeedNone': WHATEVER THE INPUT: true; the input reads as it did. -/
def feedNoneSpec : ChangeSpec := { name := "feedNone", fn := fun _ => fun
  | [d] => { results := [.lit (.bool true)], args := [d] }
  | _ => none }
def feedNoneRow : OpenClaim := { program := "ytmclmefgddomfaa", sum := "32c7638e5321d4d7ea34640670d3242956546dac287a817aa601a1900df7581e", func := "sojourn/sojournlaw20.FeedNone", spec := "feedNone", inPlace := ["internal/reflectlite.TypeOf"], unfollowed := true, recurses := true, apart := false }
def FeedNoneSaid : Prop := feedNoneRow.holds Try.pinned (OpenSpec.ofChange feedNoneSpec)

/-- ITS FALSE NEIGHBOUR: 'it returns false'. Refute it at one input. -/
def feedNoneWrong : ChangeSpec := { name := "feedNone", fn := fun _ => fun
  | [d] => { results := [.lit (.bool false)], args := [d] }
  | _ => none }
def FeedNoneWrongFalsely : Prop := feedNoneRow.holds Try.pinned (OpenSpec.ofChange feedNoneWrong)

/- THE SECOND FORM. 'bulk': how many values and letters a reading holds, each counted each time it is reached (what is shared counts as often as it is met; a slice's spare places count too). A statement '..UptoSaid' is the law's where the arguments, and the package variables that the reading takes, are together of bulk at most 1048576: NARROWER than '..Said'. Prove '..Said' where nothing that the law and all that it calls make is longer than what came in: it says more and counts as full. Else prove '..UptoSaid'. A law counts once. -/
mutual
def uptoBulk {H : Type} : DataW H → Nat
  | .lit (.string bytes) => bytes.length + 1
  | .lit _ => 1
  | .nil => 1
  | .ptr d => uptoBulk d + 1
  | .slice elems spare => uptoBulkAll elems + uptoBulkAll spare + 1
  | .agg parts => uptoBulkAll parts + 1
  | .iface _ d => uptoBulk d + 1
  | .map entries => uptoBulkEntries entries + 1
  | .held _ => 1
def uptoBulkAll {H : Type} : List (DataW H) → Nat
  | [] => 0
  | d :: r => uptoBulk d + uptoBulkAll r
def uptoBulkEntries {H : Type} : List (Lit × DataW H) → Nat
  | [] => 0
  | x :: r => uptoBulkEntry x + uptoBulkEntries r
def uptoBulkEntry {H : Type} : Lit × DataW H → Nat
  | (.string bytes, d) => bytes.length + uptoBulk d + 1
  | (_, d) => uptoBulk d + 1
 end
def uptoSmall : (H : Type) → List (DataW H) → Bool := fun _ ds => decide (uptoBulkAll ds ≤ 1048576)
def OpenSpec.upto (s : _root_.Go.ChangeSpec) : _root_.Go.OpenSpec := { _root_.Go.OpenSpec.ofChange s with cond := some uptoSmall }

/-- 'sojournlaw20.FeedAll', WHERE WHAT IT READS IS OF BULK AT MOST 1048576: true; the input reads as it did. -/
def feedAllUptoRow : OpenClaim := { program := "ytmclmefgddomfaa", sum := "32c7638e5321d4d7ea34640670d3242956546dac287a817aa601a1900df7581e", func := "sojourn/sojournlaw20.FeedAll", spec := "feedAll", apart := false, narrowed := true }
def FeedAllUptoSaid : Prop := feedAllUptoRow.holds Try.pinned (OpenSpec.upto feedAllSpec)

/-- 'sojournlaw20.FeedTrims', WHERE WHAT IT READS IS OF BULK AT MOST 1048576: true; the input reads as it did. -/
def feedTrimsUptoRow : OpenClaim := { program := "ytmclmefgddomfaa", sum := "32c7638e5321d4d7ea34640670d3242956546dac287a817aa601a1900df7581e", func := "sojourn/sojournlaw20.FeedTrims", spec := "feedTrims", apart := false, narrowed := true }
def FeedTrimsUptoSaid : Prop := feedTrimsUptoRow.holds Try.pinned (OpenSpec.upto feedTrimsSpec)

/-- 'sojournlaw20.FeedPlays', WHERE WHAT IT READS IS OF BULK AT MOST 1048576: true; the input reads as it did. -/
def feedPlaysUptoRow : OpenClaim := { program := "ytmclmefgddomfaa", sum := "32c7638e5321d4d7ea34640670d3242956546dac287a817aa601a1900df7581e", func := "sojourn/sojournlaw20.FeedPlays", spec := "feedPlays", inPlace := ["internal/reflectlite.TypeOf"], unfollowed := true, recurses := true, apart := false, narrowed := true }
def FeedPlaysUptoSaid : Prop := feedPlaysUptoRow.holds Try.pinned (OpenSpec.upto feedPlaysSpec)

/-- 'sojournlaw20.FeedNone', WHERE WHAT IT READS IS OF BULK AT MOST 1048576: true; the input reads as it did. -/
def feedNoneUptoRow : OpenClaim := { program := "ytmclmefgddomfaa", sum := "32c7638e5321d4d7ea34640670d3242956546dac287a817aa601a1900df7581e", func := "sojourn/sojournlaw20.FeedNone", spec := "feedNone", inPlace := ["internal/reflectlite.TypeOf"], unfollowed := true, recurses := true, apart := false, narrowed := true }
def FeedNoneUptoSaid : Prop := feedNoneUptoRow.holds Try.pinned (OpenSpec.upto feedNoneSpec)

end Rows
end Go.Proofs.Ytmclmefgddomfaa
