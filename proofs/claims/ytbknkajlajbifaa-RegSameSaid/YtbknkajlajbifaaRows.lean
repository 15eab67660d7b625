/-
  No cell of these rows narrows 'for every input' (looked for: loops, veiled, ifaces, maps, wideKeys, modest, calm, conditions, laid).
  DERIVED. THE GIVEN ROWS OF THIS SEAT. 4 by the template 'for every input the law returns true; each argument reads behind the call as it read before'; 0 by the template 'total and deterministic' (their statements: YtbknkajlajbifaaTotals.lean).
  GIVEN WITH THE SEED: the statements are not yours to turn. If you find one false, say at which input.
  Laid BY PROGRAM, IN A SANDBOX (cutbox-rows.mjs): the forced cells as the released guide's own fill.sh prints them over the translation 2baaa14ec919c573… (all of the seat's roots in one cut). By AI agents, Wed Nov 11 2026. No macro, syntax, notation, axiom, sorry.
-/
import Derived.Test.YtbknkajlajbifaaChecked
import GoSem.Claim
import GoSem.ClaimJoined
import GoSem.ClaimMapViews
import Derived.JoinedTies
import Derived.KernelRfl
namespace Go.Proofs.Ytbknkajlajbifaa
/- THE CELL 'sum', in the pinned program and in every row, IS THE sha256 OF THE DUMP (.gsa) THAT YtbknkajlajbifaaProg.lean LOADS. Nothing in Lean hashes anything: it is a label: what it is worth is what the hold of that sum in a sandbox is worth. -/
noncomputable def Try.pinned : Pinned := { name := "ytbknkajlajbifaa", sum := "2baaa14ec919c5732c40b3ff682d4214dcda23b91682a9cb8fb80f57d0809ce1", checked := Try.checked }
namespace Rows
def none {H : Type} : Left H := { results := [], args := [] }

/-- 'sojournlaw15.RegAboves': WHATEVER THE INPUT: true; the input reads as it did. -/
def regAbovesSpec : ChangeSpec := { name := "regAboves", fn := fun _ => fun
  | [d] => { results := [.lit (.bool true)], args := [d] }
  | _ => none }
def regAbovesRow : OpenClaim := { program := "ytbknkajlajbifaa", sum := "2baaa14ec919c5732c40b3ff682d4214dcda23b91682a9cb8fb80f57d0809ce1", func := "sojourn/sojournlaw15.RegAboves", spec := "regAboves", apart := false }
def RegAbovesSaid : Prop := regAbovesRow.holds Try.pinned (OpenSpec.ofChange regAbovesSpec)

/-- ITS FALSE NEIGHBOUR: 'it returns false'. Refute it at one input. -/
def regAbovesWrong : ChangeSpec := { name := "regAboves", fn := fun _ => fun
  | [d] => { results := [.lit (.bool false)], args := [d] }
  | _ => none }
def RegAbovesWrongFalsely : Prop := regAbovesRow.holds Try.pinned (OpenSpec.ofChange regAbovesWrong)

/-- 'sojournlaw15.RegMerges': WHATEVER THE INPUT: true; the input reads as it did. -/
def regMergesSpec : ChangeSpec := { name := "regMerges", fn := fun _ => fun
  | [d] => { results := [.lit (.bool true)], args := [d] }
  | _ => none }
def regMergesRow : OpenClaim := { program := "ytbknkajlajbifaa", sum := "2baaa14ec919c5732c40b3ff682d4214dcda23b91682a9cb8fb80f57d0809ce1", func := "sojourn/sojournlaw15.RegMerges", spec := "regMerges", apart := false }
def RegMergesSaid : Prop := regMergesRow.holds Try.pinned (OpenSpec.ofChange regMergesSpec)

/-- ITS FALSE NEIGHBOUR: 'it returns false'. Refute it at one input. -/
def regMergesWrong : ChangeSpec := { name := "regMerges", fn := fun _ => fun
  | [d] => { results := [.lit (.bool false)], args := [d] }
  | _ => none }
def RegMergesWrongFalsely : Prop := regMergesRow.holds Try.pinned (OpenSpec.ofChange regMergesWrong)

/-- 'sojournlaw15.RegSame': WHATEVER THE INPUT: true; the input reads as it did. -/
def regSameSpec : ChangeSpec := { name := "regSame", fn := fun _ => fun
  | [d1, d2, d3] => { results := [.lit (.bool true)], args := [d1, d2, d3] }
  | _ => none }
def regSameRow : OpenClaim := { program := "ytbknkajlajbifaa", sum := "2baaa14ec919c5732c40b3ff682d4214dcda23b91682a9cb8fb80f57d0809ce1", func := "sojourn/sojournlaw15.RegSame", spec := "regSame", apart := false }
def RegSameSaid : Prop := regSameRow.holds Try.pinned (OpenSpec.ofChange regSameSpec)

/-- ITS FALSE NEIGHBOUR: 'it returns false'. Refute it at one input. -/
def regSameWrong : ChangeSpec := { name := "regSame", fn := fun _ => fun
  | [d1, d2, d3] => { results := [.lit (.bool false)], args := [d1, d2, d3] }
  | _ => none }
def RegSameWrongFalsely : Prop := regSameRow.holds Try.pinned (OpenSpec.ofChange regSameWrong)

/-- 'sojournlaw15.RegOf': WHATEVER THE INPUT: true; the input reads as it did. -/
def regOfSpec : ChangeSpec := { name := "regOf", fn := fun _ => fun
  | [d] => { results := [.lit (.bool true)], args := [d] }
  | _ => none }
def regOfRow : OpenClaim := { program := "ytbknkajlajbifaa", sum := "2baaa14ec919c5732c40b3ff682d4214dcda23b91682a9cb8fb80f57d0809ce1", func := "sojourn/sojournlaw15.RegOf", spec := "regOf", apart := false }
def RegOfSaid : Prop := regOfRow.holds Try.pinned (OpenSpec.ofChange regOfSpec)

/-- ITS FALSE NEIGHBOUR: 'it returns false'. Refute it at one input. -/
def regOfWrong : ChangeSpec := { name := "regOf", fn := fun _ => fun
  | [d] => { results := [.lit (.bool false)], args := [d] }
  | _ => none }
def RegOfWrongFalsely : Prop := regOfRow.holds Try.pinned (OpenSpec.ofChange regOfWrong)

/- THE SECOND FORM. 'bulk': how many values and letters a reading holds, each counted each time it is reached (what is shared counts as often as it is met; a slice's spare places count too). A statement '..UptoSaid' is the law's where the arguments, and the package variables that the reading takes, are together of bulk at most 1048576: NARROWER than '..Said'. Prove '..Said' where nothing that the law and all that it calls make is longer than what came in: it says more and counts as full. Else prove '..UptoSaid'. A law counts once. -/
mutual
def uptoBulk {H : Type} : DataW H → Nat
  | .lit (.string bytes) => bytes.length + 1
  | .lit _ => 1
  | .nil => 1
  | .ptr d => uptoBulk d + 1
  | .slice elems spare => uptoBulkAll elems + uptoBulkAll spare + 1
  | .agg parts => uptoBulkAll parts + 1
  | .iface _ d => uptoBulk d + 1
  | .map entries => uptoBulkEntries entries + 1
  | .held _ => 1
def uptoBulkAll {H : Type} : List (DataW H) → Nat
  | [] => 0
  | d :: r => uptoBulk d + uptoBulkAll r
def uptoBulkEntries {H : Type} : List (Lit × DataW H) → Nat
  | [] => 0
  | x :: r => uptoBulkEntry x + uptoBulkEntries r
def uptoBulkEntry {H : Type} : Lit × DataW H → Nat
  | (.string bytes, d) => bytes.length + uptoBulk d + 1
  | (_, d) => uptoBulk d + 1
 end
def uptoSmall : (H : Type) → List (DataW H) → Bool := fun _ ds => decide (uptoBulkAll ds ≤ 1048576)
def OpenSpec.upto (s : _root_.Go.ChangeSpec) : _root_.Go.OpenSpec := { _root_.Go.OpenSpec.ofChange s with cond := some uptoSmall }

/-- 'sojournlaw15.RegAboves', WHERE WHAT IT READS IS OF BULK AT MOST 1048576: true; the input reads as it did. -/
def regAbovesUptoRow : OpenClaim := { program := "ytbknkajlajbifaa", sum := "2baaa14ec919c5732c40b3ff682d4214dcda23b91682a9cb8fb80f57d0809ce1", func := "sojourn/sojournlaw15.RegAboves", spec := "regAboves", apart := false, narrowed := true }
def RegAbovesUptoSaid : Prop := regAbovesUptoRow.holds Try.pinned (OpenSpec.upto regAbovesSpec)

/-- 'sojournlaw15.RegMerges', WHERE WHAT IT READS IS OF BULK AT MOST 1048576: true; the input reads as it did. -/
def regMergesUptoRow : OpenClaim := { program := "ytbknkajlajbifaa", sum := "2baaa14ec919c5732c40b3ff682d4214dcda23b91682a9cb8fb80f57d0809ce1", func := "sojourn/sojournlaw15.RegMerges", spec := "regMerges", apart := false, narrowed := true }
def RegMergesUptoSaid : Prop := regMergesUptoRow.holds Try.pinned (OpenSpec.upto regMergesSpec)

/-- 'sojournlaw15.RegSame', WHERE WHAT IT READS IS OF BULK AT MOST 1048576: true; the input reads as it did. -/
def regSameUptoRow : OpenClaim := { program := "ytbknkajlajbifaa", sum := "2baaa14ec919c5732c40b3ff682d4214dcda23b91682a9cb8fb80f57d0809ce1", func := "sojourn/sojournlaw15.RegSame", spec := "regSame", apart := false, narrowed := true }
def RegSameUptoSaid : Prop := regSameUptoRow.holds Try.pinned (OpenSpec.upto regSameSpec)

/-- 'sojournlaw15.RegOf', WHERE WHAT IT READS IS OF BULK AT MOST 1048576: true; the input reads as it did. -/
def regOfUptoRow : OpenClaim := { program := "ytbknkajlajbifaa", sum := "2baaa14ec919c5732c40b3ff682d4214dcda23b91682a9cb8fb80f57d0809ce1", func := "sojourn/sojournlaw15.RegOf", spec := "regOf", apart := false, narrowed := true }
def RegOfUptoSaid : Prop := regOfUptoRow.holds Try.pinned (OpenSpec.upto regOfSpec)

end Rows
end Go.Proofs.Ytbknkajlajbifaa
