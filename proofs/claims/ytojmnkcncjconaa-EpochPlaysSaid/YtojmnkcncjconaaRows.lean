/-
  No cell of these rows narrows 'for every input' (looked for: loops, veiled, ifaces, maps, wideKeys, modest, calm, conditions, laid).
  DERIVED. THE GIVEN ROWS OF THIS SEAT. 5 by the template 'for every input the law returns true; each argument reads behind the call as it read before'; 0 by the template 'total and deterministic' (their statements: YtojmnkcncjconaaTotals.lean).
  GIVEN WITH THE SEED: the statements are not yours to turn. If you find one false, say at which input.
  Laid BY PROGRAM, IN A SANDBOX (cutbox-rows.mjs): the forced cells as the released guide's own fill.sh prints them over the translation 1e5b94c2480a4fec… (all of the seat's roots in one cut). By AI agents, Wed Nov 11 2026. No macro, syntax, notation, axiom, sorry.
-/
import Derived.Test.YtojmnkcncjconaaChecked
import GoSem.Claim
import GoSem.ClaimJoined
import GoSem.ClaimMapViews
import Derived.JoinedTies
import Derived.KernelRfl
namespace Go.Proofs.Ytojmnkcncjconaa
/- THE CELL 'sum', in the pinned program and in every row, IS THE sha256 OF THE DUMP (.gsa) THAT YtojmnkcncjconaaProg.lean LOADS. Nothing in Lean hashes anything: it is a label: what it is worth is what the hold of that sum in a sandbox is worth. -/
noncomputable def Try.pinned : Pinned := { name := "ytojmnkcncjconaa", sum := "1e5b94c2480a4fec3f6782ea6e76ae088d055251c60c303795d057770f1404d0", checked := Try.checked }
namespace Rows
def none {H : Type} : Left H := { results := [], args := [] }

/-- 'sojournlaw21.EpochHomes': WHATEVER THE INPUT: true; the input reads as it did. -/
def epochHomesSpec : ChangeSpec := { name := "epochHomes", fn := fun _ => fun
  | [d1, d2] => { results := [.lit (.bool true)], args := [d1, d2] }
  | _ => none }
def epochHomesRow : OpenClaim := { program := "ytojmnkcncjconaa", sum := "1e5b94c2480a4fec3f6782ea6e76ae088d055251c60c303795d057770f1404d0", func := "sojourn/sojournlaw21.EpochHomes", spec := "epochHomes", apart := false }
def EpochHomesSaid : Prop := epochHomesRow.holds Try.pinned (OpenSpec.ofChange epochHomesSpec)

/-- ITS FALSE NEIGHBOUR: 'it returns false'. Refute it at one input. -/
def epochHomesWrong : ChangeSpec := { name := "epochHomes", fn := fun _ => fun
  | [d1, d2] => { results := [.lit (.bool false)], args := [d1, d2] }
  | _ => none }
def EpochHomesWrongFalsely : Prop := epochHomesRow.holds Try.pinned (OpenSpec.ofChange epochHomesWrong)

/-- 'sojournlaw21.EpochLearns': WHATEVER THE INPUT: true; the input reads as it did. -/
def epochLearnsSpec : ChangeSpec := { name := "epochLearns", fn := fun _ => fun
  | [d1, d2] => { results := [.lit (.bool true)], args := [d1, d2] }
  | _ => none }
def epochLearnsRow : OpenClaim := { program := "ytojmnkcncjconaa", sum := "1e5b94c2480a4fec3f6782ea6e76ae088d055251c60c303795d057770f1404d0", func := "sojourn/sojournlaw21.EpochLearns", spec := "epochLearns", unfollowed := true, recurses := true, apart := false }
def EpochLearnsSaid : Prop := epochLearnsRow.holds Try.pinned (OpenSpec.ofChange epochLearnsSpec)

/-- ITS FALSE NEIGHBOUR: 'it returns false'. Refute it at one input. -/
def epochLearnsWrong : ChangeSpec := { name := "epochLearns", fn := fun _ => fun
  | [d1, d2] => { results := [.lit (.bool false)], args := [d1, d2] }
  | _ => none }
def EpochLearnsWrongFalsely : Prop := epochLearnsRow.holds Try.pinned (OpenSpec.ofChange epochLearnsWrong)

/-- 'sojournlaw21.EpochBack': WHATEVER THE INPUT: true; the input reads as it did. -/
def epochBackSpec : ChangeSpec := { name := "epochBack", fn := fun _ => fun
  | [d1, d2] => { results := [.lit (.bool true)], args := [d1, d2] }
  | _ => none }
def epochBackRow : OpenClaim := { program := "ytojmnkcncjconaa", sum := "1e5b94c2480a4fec3f6782ea6e76ae088d055251c60c303795d057770f1404d0", func := "sojourn/sojournlaw21.EpochBack", spec := "epochBack", unfollowed := true, recurses := true, apart := false }
def EpochBackSaid : Prop := epochBackRow.holds Try.pinned (OpenSpec.ofChange epochBackSpec)

/-- ITS FALSE NEIGHBOUR: 'it returns false'. Refute it at one input. -/
def epochBackWrong : ChangeSpec := { name := "epochBack", fn := fun _ => fun
  | [d1, d2] => { results := [.lit (.bool false)], args := [d1, d2] }
  | _ => none }
def EpochBackWrongFalsely : Prop := epochBackRow.holds Try.pinned (OpenSpec.ofChange epochBackWrong)

/-- 'sojournlaw21.EpochPlays': WHATEVER THE INPUT: true; the input reads as it did. -/
def epochPlaysSpec : ChangeSpec := { name := "epochPlays", fn := fun _ => fun
  | [d1, d2] => { results := [.lit (.bool true)], args := [d1, d2] }
  | _ => none }
def epochPlaysRow : OpenClaim := { program := "ytojmnkcncjconaa", sum := "1e5b94c2480a4fec3f6782ea6e76ae088d055251c60c303795d057770f1404d0", func := "sojourn/sojournlaw21.EpochPlays", spec := "epochPlays", inPlace := ["internal/reflectlite.TypeOf"], unfollowed := true, recurses := true, apart := false }
def EpochPlaysSaid : Prop := epochPlaysRow.holds Try.pinned (OpenSpec.ofChange epochPlaysSpec)

/-- ITS FALSE NEIGHBOUR: 'it returns false'. Refute it at one input. -/
def epochPlaysWrong : ChangeSpec := { name := "epochPlays", fn := fun _ => fun
  | [d1, d2] => { results := [.lit (.bool false)], args := [d1, d2] }
  | _ => none }
def EpochPlaysWrongFalsely : Prop := epochPlaysRow.holds Try.pinned (OpenSpec.ofChange epochPlaysWrong)

/-- 'sojournlaw21.EpochNone': WHATEVER THE INPUT: true; the input reads as it did. -/
def epochNoneSpec : ChangeSpec := { name := "epochNone", fn := fun _ => fun
  | [d] => { results := [.lit (.bool true)], args := [d] }
  | _ => none }
def epochNoneRow : OpenClaim := { program := "ytojmnkcncjconaa", sum := "1e5b94c2480a4fec3f6782ea6e76ae088d055251c60c303795d057770f1404d0", func := "sojourn/sojournlaw21.EpochNone", spec := "epochNone", inPlace := ["internal/reflectlite.TypeOf"], unfollowed := true, recurses := true, apart := false }
def EpochNoneSaid : Prop := epochNoneRow.holds Try.pinned (OpenSpec.ofChange epochNoneSpec)

/-- ITS FALSE NEIGHBOUR: 'it returns false'. Refute it at one input. -/
def epochNoneWrong : ChangeSpec := { name := "epochNone", fn := fun _ => fun
  | [d] => { results := [.lit (.bool false)], args := [d] }
  | _ => none }
def EpochNoneWrongFalsely : Prop := epochNoneRow.holds Try.pinned (OpenSpec.ofChange epochNoneWrong)

/- THE SECOND FORM. 'bulk': how many values and letters a reading holds, each counted each time it is reached (what is shared counts as often as it is met; a slice's spare places count too). A statement '..UptoSaid' is the law's where the arguments, and the package variables that the reading takes, are together of bulk at most 1048576: NARROWER than '..Said'. Prove '..Said' where nothing that the law and all that it calls make is longer than what came in: it says more and counts as full. Else prove '..UptoSaid'. A law counts once. -/
mutual
def uptoBulk {H : Type} : DataW H → Nat
  | .lit (.string bytes) => bytes.length + 1
  | .lit _ => 1
  | .nil => 1
  | .ptr d => uptoBulk d + 1
  | .slice elems spare => uptoBulkAll elems + uptoBulkAll spare + 1
  | .agg parts => uptoBulkAll parts + 1
  | .iface _ d => uptoBulk d + 1
  | .map entries => uptoBulkEntries entries + 1
  | .held _ => 1
def uptoBulkAll {H : Type} : List (DataW H) → Nat
  | [] => 0
  | d :: r => uptoBulk d + uptoBulkAll r
def uptoBulkEntries {H : Type} : List (Lit × DataW H) → Nat
  | [] => 0
  | x :: r => uptoBulkEntry x + uptoBulkEntries r
def uptoBulkEntry {H : Type} : Lit × DataW H → Nat
  | (.string bytes, d) => bytes.length + uptoBulk d + 1
  | (_, d) => uptoBulk d + 1
 end
def uptoSmall : (H : Type) → List (DataW H) → Bool := fun _ ds => decide (uptoBulkAll ds ≤ 1048576)
def OpenSpec.upto (s : _root_.Go.ChangeSpec) : _root_.Go.OpenSpec := { _root_.Go.OpenSpec.ofChange s with cond := some uptoSmall }

/-- 'sojournlaw21.EpochHomes', WHERE WHAT IT READS IS OF BULK AT MOST 1048576: true; the input reads as it did. -/
def epochHomesUptoRow : OpenClaim := { program := "ytojmnkcncjconaa", sum := "1e5b94c2480a4fec3f6782ea6e76ae088d055251c60c303795d057770f1404d0", func := "sojourn/sojournlaw21.EpochHomes", spec := "epochHomes", apart := false, narrowed := true }
def EpochHomesUptoSaid : Prop := epochHomesUptoRow.holds Try.pinned (OpenSpec.upto epochHomesSpec)

/-- 'sojournlaw21.EpochLearns', WHERE WHAT IT READS IS OF BULK AT MOST 1048576: true; the input reads as it did. -/
def epochLearnsUptoRow : OpenClaim := { program := "ytojmnkcncjconaa", sum := "1e5b94c2480a4fec3f6782ea6e76ae088d055251c60c303795d057770f1404d0", func := "sojourn/sojournlaw21.EpochLearns", spec := "epochLearns", unfollowed := true, recurses := true, apart := false, narrowed := true }
def EpochLearnsUptoSaid : Prop := epochLearnsUptoRow.holds Try.pinned (OpenSpec.upto epochLearnsSpec)

/-- 'sojournlaw21.EpochBack', WHERE WHAT IT READS IS OF BULK AT MOST 1048576: true; the input reads as it did. -/
def epochBackUptoRow : OpenClaim := { program := "ytojmnkcncjconaa", sum := "1e5b94c2480a4fec3f6782ea6e76ae088d055251c60c303795d057770f1404d0", func := "sojourn/sojournlaw21.EpochBack", spec := "epochBack", unfollowed := true, recurses := true, apart := false, narrowed := true }
def EpochBackUptoSaid : Prop := epochBackUptoRow.holds Try.pinned (OpenSpec.upto epochBackSpec)

/-- 'sojournlaw21.EpochPlays', WHERE WHAT IT READS IS OF BULK AT MOST 1048576: true; the input reads as it did. -/
def epochPlaysUptoRow : OpenClaim := { program := "ytojmnkcncjconaa", sum := "1e5b94c2480a4fec3f6782ea6e76ae088d055251c60c303795d057770f1404d0", func := "sojourn/sojournlaw21.EpochPlays", spec := "epochPlays", inPlace := ["internal/reflectlite.TypeOf"], unfollowed := true, recurses := true, apart := false, narrowed := true }
def EpochPlaysUptoSaid : Prop := epochPlaysUptoRow.holds Try.pinned (OpenSpec.upto epochPlaysSpec)

/-- 'sojournlaw21.EpochNone', WHERE WHAT IT READS IS OF BULK AT MOST 1048576: true; the input reads as it did. -/
def epochNoneUptoRow : OpenClaim := { program := "ytojmnkcncjconaa", sum := "1e5b94c2480a4fec3f6782ea6e76ae088d055251c60c303795d057770f1404d0", func := "sojourn/sojournlaw21.EpochNone", spec := "epochNone", inPlace := ["internal/reflectlite.TypeOf"], unfollowed := true, recurses := true, apart := false, narrowed := true }
def EpochNoneUptoSaid : Prop := epochNoneUptoRow.holds Try.pinned (OpenSpec.upto epochNoneSpec)

end Rows
end Go.Proofs.Ytojmnkcncjconaa
