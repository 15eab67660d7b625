/- A part of the proof of RegionNone: RefV, MadeV. -/
import Derived.Test.YtdaphppdmnmicaaGreatDoorA06
import Derived.Deep.QuietTactic
import Derived.BigQuiet
namespace Go.Proofs.YtdaphppdmnmicaaGreatDoor.ref
open Go.RowKit base vec
theorem atV_succ (zs:List Int) (k:Nat) (h:k < zs.length):atV zs ((k:Int) + 1)=zs.getD k 0:=by
 unfold atV
 rw [if_neg (by omega)]
 congr 1
theorem atV_out (zs:List Int) (r:Int) (h:∀ j:Nat,j < zs.length→(j:Int) + 1 ≠ r):atV zs r=0:=by
 unfold atV
 by_cases h1:r < 1 ∨ (zs.length:Int) < r
 ·rw [if_pos h1]
 ·exact absurd (by omega) (h (r.toNat - 1) (by omega))
end Go.Proofs.YtdaphppdmnmicaaGreatDoor.ref
namespace Go.Proofs.YtdaphppdmnmicaaGreatDoor.made
open Go.RowKit base vec ref
theorem trimN_zero (zs:List Int):∀ n j,trimN zs n≤j→j < n→zs.getD j 0=0
 | 0,j,_,h=>by omega
 | n + 1,j,h1,h2=>by
  unfold trimN at h1
  split at h1
  ·next hz =>
   rcases Nat.lt_or_eq_of_le (Nat.le_of_lt_succ h2) with h|h
   ·exact trimN_zero zs n j h1 h
   ·subst h;exact hz
  ·omega
theorem trimN_last (zs:List Int):∀ n,trimN zs n=0 ∨ zs.getD (trimN zs n - 1) 0 ≠ 0
 | 0=>.inl rfl
 | n + 1=>by
  unfold trimN
  split
  ·exact trimN_last zs n
  ·next hz=>right;simpa using hz
theorem enc_snoc (zs:List Int) (z:Int):enc (zs ++ [z])=enc zs ++ [.int .i64 z]:=by simp [enc]
end Go.Proofs.YtdaphppdmnmicaaGreatDoor.made
