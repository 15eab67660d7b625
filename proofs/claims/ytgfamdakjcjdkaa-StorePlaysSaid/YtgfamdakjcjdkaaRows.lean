/-
  No cell of these rows narrows 'for every input' (looked for: loops, veiled, ifaces, maps, wideKeys, modest, calm, conditions, laid).
  DERIVED. THE GIVEN ROWS OF THIS SEAT. 6 by the template 'for every input the law returns true; each argument reads behind the call as it read before'; 0 by the template 'total and deterministic' (their statements: YtgfamdakjcjdkaaTotals.lean).
  GIVEN WITH THE SEED: the statements are not yours to turn. If you find one false, say at which input.
  Laid BY PROGRAM, IN A SANDBOX (cutbox-rows.mjs): the forced cells as the released guide's own fill.sh prints them over the translation b2503d04a1672ab2… (all of the seat's roots in one cut). By AI agents, Wed Nov 11 2026. No macro, syntax, notation, axiom, sorry.
-/
import Derived.Test.YtgfamdakjcjdkaaChecked
import GoSem.Claim
import GoSem.ClaimJoined
import GoSem.ClaimMapViews
import Derived.JoinedTies
import Derived.KernelRfl
namespace Go.Proofs.Ytgfamdakjcjdkaa
/- THE CELL 'sum', in the pinned program and in every row, IS THE sha256 OF THE DUMP (.gsa) THAT YtgfamdakjcjdkaaProg.lean LOADS. Nothing in Lean hashes anything: it is a label: what it is worth is what the hold of that sum in a sandbox is worth. -/
noncomputable def Try.pinned : Pinned := { name := "ytgfamdakjcjdkaa", sum := "b2503d04a1672ab2b4e60dbe59f8c0a17fc766efd0d8daa6ffbebd0e6dbfa028", checked := Try.checked }
namespace Rows
def none {H : Type} : Left H := { results := [], args := [] }

/-- 'sojournlaw16.StoreSame': WHATEVER THE INPUT: true; the input reads as it did. -/
def storeSameSpec : ChangeSpec := { name := "storeSame", fn := fun _ => fun
  | [d1, d2] => { results := [.lit (.bool true)], args := [d1, d2] }
  | _ => none }
def storeSameRow : OpenClaim := { program := "ytgfamdakjcjdkaa", sum := "b2503d04a1672ab2b4e60dbe59f8c0a17fc766efd0d8daa6ffbebd0e6dbfa028", func := "sojourn/sojournlaw16.StoreSame", spec := "storeSame", inPlace := ["internal/reflectlite.TypeOf"], unfollowed := true, recurses := true, plainKeys := false, apart := false }
def StoreSameSaid : Prop := storeSameRow.holds Try.pinned (OpenSpec.ofChange storeSameSpec)

/-- ITS FALSE NEIGHBOUR: 'it returns false'. Refute it at one input. -/
def storeSameWrong : ChangeSpec := { name := "storeSame", fn := fun _ => fun
  | [d1, d2] => { results := [.lit (.bool false)], args := [d1, d2] }
  | _ => none }
def StoreSameWrongFalsely : Prop := storeSameRow.holds Try.pinned (OpenSpec.ofChange storeSameWrong)

/-- 'sojournlaw16.StoreBack': WHATEVER THE INPUT: true; the input reads as it did. -/
def storeBackSpec : ChangeSpec := { name := "storeBack", fn := fun _ => fun
  | [d1, d2] => { results := [.lit (.bool true)], args := [d1, d2] }
  | _ => none }
def storeBackRow : OpenClaim := { program := "ytgfamdakjcjdkaa", sum := "b2503d04a1672ab2b4e60dbe59f8c0a17fc766efd0d8daa6ffbebd0e6dbfa028", func := "sojourn/sojournlaw16.StoreBack", spec := "storeBack", inPlace := ["internal/reflectlite.TypeOf"], unfollowed := true, recurses := true, plainKeys := false, apart := false }
def StoreBackSaid : Prop := storeBackRow.holds Try.pinned (OpenSpec.ofChange storeBackSpec)

/-- ITS FALSE NEIGHBOUR: 'it returns false'. Refute it at one input. -/
def storeBackWrong : ChangeSpec := { name := "storeBack", fn := fun _ => fun
  | [d1, d2] => { results := [.lit (.bool false)], args := [d1, d2] }
  | _ => none }
def StoreBackWrongFalsely : Prop := storeBackRow.holds Try.pinned (OpenSpec.ofChange storeBackWrong)

/-- 'sojournlaw16.StoreSweeps': WHATEVER THE INPUT: true; the input reads as it did. -/
def storeSweepsSpec : ChangeSpec := { name := "storeSweeps", fn := fun _ => fun
  | [d1, d2, d3] => { results := [.lit (.bool true)], args := [d1, d2, d3] }
  | _ => none }
def storeSweepsRow : OpenClaim := { program := "ytgfamdakjcjdkaa", sum := "b2503d04a1672ab2b4e60dbe59f8c0a17fc766efd0d8daa6ffbebd0e6dbfa028", func := "sojourn/sojournlaw16.StoreSweeps", spec := "storeSweeps", inPlace := ["internal/reflectlite.TypeOf"], unfollowed := true, recurses := true, plainKeys := false, apart := false }
def StoreSweepsSaid : Prop := storeSweepsRow.holds Try.pinned (OpenSpec.ofChange storeSweepsSpec)

/-- ITS FALSE NEIGHBOUR: 'it returns false'. Refute it at one input. -/
def storeSweepsWrong : ChangeSpec := { name := "storeSweeps", fn := fun _ => fun
  | [d1, d2, d3] => { results := [.lit (.bool false)], args := [d1, d2, d3] }
  | _ => none }
def StoreSweepsWrongFalsely : Prop := storeSweepsRow.holds Try.pinned (OpenSpec.ofChange storeSweepsWrong)

/-- 'sojournlaw16.StoreShows': WHATEVER THE INPUT: true; the input reads as it did. -/
def storeShowsSpec : ChangeSpec := { name := "storeShows", fn := fun _ => fun
  | [d] => { results := [.lit (.bool true)], args := [d] }
  | _ => none }
def storeShowsRow : OpenClaim := { program := "ytgfamdakjcjdkaa", sum := "b2503d04a1672ab2b4e60dbe59f8c0a17fc766efd0d8daa6ffbebd0e6dbfa028", func := "sojourn/sojournlaw16.StoreShows", spec := "storeShows", inPlace := ["internal/reflectlite.TypeOf"], unfollowed := true, recurses := true, plainKeys := false, apart := false }
def StoreShowsSaid : Prop := storeShowsRow.holds Try.pinned (OpenSpec.ofChange storeShowsSpec)

/-- ITS FALSE NEIGHBOUR: 'it returns false'. Refute it at one input. -/
def storeShowsWrong : ChangeSpec := { name := "storeShows", fn := fun _ => fun
  | [d] => { results := [.lit (.bool false)], args := [d] }
  | _ => none }
def StoreShowsWrongFalsely : Prop := storeShowsRow.holds Try.pinned (OpenSpec.ofChange storeShowsWrong)

/-- 'sojournlaw16.StorePlays': WHATEVER THE INPUT: true; the input reads as it did. -/
def storePlaysSpec : ChangeSpec := { name := "storePlays", fn := fun _ => fun
  | [d1, d2, d3] => { results := [.lit (.bool true)], args := [d1, d2, d3] }
  | _ => none }
def storePlaysRow : OpenClaim := { program := "ytgfamdakjcjdkaa", sum := "b2503d04a1672ab2b4e60dbe59f8c0a17fc766efd0d8daa6ffbebd0e6dbfa028", func := "sojourn/sojournlaw16.StorePlays", spec := "storePlays", inPlace := ["internal/reflectlite.TypeOf"], unfollowed := true, recurses := true, plainKeys := false, apart := false }
def StorePlaysSaid : Prop := storePlaysRow.holds Try.pinned (OpenSpec.ofChange storePlaysSpec)

/-- ITS FALSE NEIGHBOUR: 'it returns false'. Refute it at one input. -/
def storePlaysWrong : ChangeSpec := { name := "storePlays", fn := fun _ => fun
  | [d1, d2, d3] => { results := [.lit (.bool false)], args := [d1, d2, d3] }
  | _ => none }
def StorePlaysWrongFalsely : Prop := storePlaysRow.holds Try.pinned (OpenSpec.ofChange storePlaysWrong)

/-- 'sojournlaw16.StoreNone': WHATEVER THE INPUT: true; the input reads as it did. -/
def storeNoneSpec : ChangeSpec := { name := "storeNone", fn := fun _ => fun
  | [d1, d2] => { results := [.lit (.bool true)], args := [d1, d2] }
  | _ => none }
def storeNoneRow : OpenClaim := { program := "ytgfamdakjcjdkaa", sum := "b2503d04a1672ab2b4e60dbe59f8c0a17fc766efd0d8daa6ffbebd0e6dbfa028", func := "sojourn/sojournlaw16.StoreNone", spec := "storeNone", inPlace := ["internal/reflectlite.TypeOf"], unfollowed := true, recurses := true, plainKeys := false, apart := false }
def StoreNoneSaid : Prop := storeNoneRow.holds Try.pinned (OpenSpec.ofChange storeNoneSpec)

/-- ITS FALSE NEIGHBOUR: 'it returns false'. Refute it at one input. -/
def storeNoneWrong : ChangeSpec := { name := "storeNone", fn := fun _ => fun
  | [d1, d2] => { results := [.lit (.bool false)], args := [d1, d2] }
  | _ => none }
def StoreNoneWrongFalsely : Prop := storeNoneRow.holds Try.pinned (OpenSpec.ofChange storeNoneWrong)

/- THE SECOND FORM. 'bulk': how many values and letters a reading holds, each counted each time it is reached (what is shared counts as often as it is met; a slice's spare places count too). A statement '..UptoSaid' is the law's where the arguments, and the package variables that the reading takes, are together of bulk at most 1048576: NARROWER than '..Said'. Prove '..Said' where nothing that the law and all that it calls make is longer than what came in: it says more and counts as full. Else prove '..UptoSaid'. A law counts once. -/
mutual
def uptoBulk {H : Type} : DataW H → Nat
  | .lit (.string bytes) => bytes.length + 1
  | .lit _ => 1
  | .nil => 1
  | .ptr d => uptoBulk d + 1
  | .slice elems spare => uptoBulkAll elems + uptoBulkAll spare + 1
  | .agg parts => uptoBulkAll parts + 1
  | .iface _ d => uptoBulk d + 1
  | .map entries => uptoBulkEntries entries + 1
  | .held _ => 1
def uptoBulkAll {H : Type} : List (DataW H) → Nat
  | [] => 0
  | d :: r => uptoBulk d + uptoBulkAll r
def uptoBulkEntries {H : Type} : List (Lit × DataW H) → Nat
  | [] => 0
  | x :: r => uptoBulkEntry x + uptoBulkEntries r
def uptoBulkEntry {H : Type} : Lit × DataW H → Nat
  | (.string bytes, d) => bytes.length + uptoBulk d + 1
  | (_, d) => uptoBulk d + 1
 end
def uptoSmall : (H : Type) → List (DataW H) → Bool := fun _ ds => decide (uptoBulkAll ds ≤ 1048576)
def OpenSpec.upto (s : _root_.Go.ChangeSpec) : _root_.Go.OpenSpec := { _root_.Go.OpenSpec.ofChange s with cond := some uptoSmall }

/-- 'sojournlaw16.StoreSame', WHERE WHAT IT READS IS OF BULK AT MOST 1048576: true; the input reads as it did. -/
def storeSameUptoRow : OpenClaim := { program := "ytgfamdakjcjdkaa", sum := "b2503d04a1672ab2b4e60dbe59f8c0a17fc766efd0d8daa6ffbebd0e6dbfa028", func := "sojourn/sojournlaw16.StoreSame", spec := "storeSame", inPlace := ["internal/reflectlite.TypeOf"], unfollowed := true, recurses := true, plainKeys := false, apart := false, narrowed := true }
def StoreSameUptoSaid : Prop := storeSameUptoRow.holds Try.pinned (OpenSpec.upto storeSameSpec)

/-- 'sojournlaw16.StoreBack', WHERE WHAT IT READS IS OF BULK AT MOST 1048576: true; the input reads as it did. -/
def storeBackUptoRow : OpenClaim := { program := "ytgfamdakjcjdkaa", sum := "b2503d04a1672ab2b4e60dbe59f8c0a17fc766efd0d8daa6ffbebd0e6dbfa028", func := "sojourn/sojournlaw16.StoreBack", spec := "storeBack", inPlace := ["internal/reflectlite.TypeOf"], unfollowed := true, recurses := true, plainKeys := false, apart := false, narrowed := true }
def StoreBackUptoSaid : Prop := storeBackUptoRow.holds Try.pinned (OpenSpec.upto storeBackSpec)

/-- 'sojournlaw16.StoreSweeps', WHERE WHAT IT READS IS OF BULK AT MOST 1048576: true; the input reads as it did. -/
def storeSweepsUptoRow : OpenClaim := { program := "ytgfamdakjcjdkaa", sum := "b2503d04a1672ab2b4e60dbe59f8c0a17fc766efd0d8daa6ffbebd0e6dbfa028", func := "sojourn/sojournlaw16.StoreSweeps", spec := "storeSweeps", inPlace := ["internal/reflectlite.TypeOf"], unfollowed := true, recurses := true, plainKeys := false, apart := false, narrowed := true }
def StoreSweepsUptoSaid : Prop := storeSweepsUptoRow.holds Try.pinned (OpenSpec.upto storeSweepsSpec)

/-- 'sojournlaw16.StoreShows', WHERE WHAT IT READS IS OF BULK AT MOST 1048576: true; the input reads as it did. -/
def storeShowsUptoRow : OpenClaim := { program := "ytgfamdakjcjdkaa", sum := "b2503d04a1672ab2b4e60dbe59f8c0a17fc766efd0d8daa6ffbebd0e6dbfa028", func := "sojourn/sojournlaw16.StoreShows", spec := "storeShows", inPlace := ["internal/reflectlite.TypeOf"], unfollowed := true, recurses := true, plainKeys := false, apart := false, narrowed := true }
def StoreShowsUptoSaid : Prop := storeShowsUptoRow.holds Try.pinned (OpenSpec.upto storeShowsSpec)

/-- 'sojournlaw16.StorePlays', WHERE WHAT IT READS IS OF BULK AT MOST 1048576: true; the input reads as it did. -/
def storePlaysUptoRow : OpenClaim := { program := "ytgfamdakjcjdkaa", sum := "b2503d04a1672ab2b4e60dbe59f8c0a17fc766efd0d8daa6ffbebd0e6dbfa028", func := "sojourn/sojournlaw16.StorePlays", spec := "storePlays", inPlace := ["internal/reflectlite.TypeOf"], unfollowed := true, recurses := true, plainKeys := false, apart := false, narrowed := true }
def StorePlaysUptoSaid : Prop := storePlaysUptoRow.holds Try.pinned (OpenSpec.upto storePlaysSpec)

/-- 'sojournlaw16.StoreNone', WHERE WHAT IT READS IS OF BULK AT MOST 1048576: true; the input reads as it did. -/
def storeNoneUptoRow : OpenClaim := { program := "ytgfamdakjcjdkaa", sum := "b2503d04a1672ab2b4e60dbe59f8c0a17fc766efd0d8daa6ffbebd0e6dbfa028", func := "sojourn/sojournlaw16.StoreNone", spec := "storeNone", inPlace := ["internal/reflectlite.TypeOf"], unfollowed := true, recurses := true, plainKeys := false, apart := false, narrowed := true }
def StoreNoneUptoSaid : Prop := storeNoneUptoRow.holds Try.pinned (OpenSpec.upto storeNoneSpec)

end Rows
end Go.Proofs.Ytgfamdakjcjdkaa
