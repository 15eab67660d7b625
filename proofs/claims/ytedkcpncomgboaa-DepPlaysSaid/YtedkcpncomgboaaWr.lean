/- What a write is: ten cells, and what its list of numbers reads as. -/
import Derived.Test.YtedkcpncomgboaaTrim
namespace Go.Proofs.Ytedkcpncomgboaa.wire
open Go.RowKit Go.Proofs.Ytedkcpncomgboaa.base Go.Proofs.Ytedkcpncomgboaa.rowe Go.Proofs.Ytedkcpncomgboaa.err

/-- a write as it lies in memory, and what its list d reads as: z -/
structure Wr where
  r : Int
  n : Int
  t : Int
  s : Int
  d : Value
  z : List Int
  se : ByteArray
  k : ByteArray
  v : ByteArray
  g : Bool
  l : Int
def Wr.cells (x : Wr) : List Value := [.int .i64 x.r, .int .i64 x.n, .int .i64 x.t, .int .i64 x.s, x.d, .string x.se, .string x.k, .string x.v, .bool x.g, .int .i64 x.l]
theorem Wr.len (x : Wr) : x.cells.length = 10 := rfl
/-- what a slice of numbers reads as -/
def Nums (w : World) (B : Nat) (d : Value) (zs : List Int) : Prop := ∃ A m c, d = .slice A m c ∧ zs.length = m ∧ m ≤ maxLen ∧ Reads w B 1 A m (zs.map (Value.int .i64))
theorem Nums.keep {w w' : World} {B : Nat} {d : Value} {zs : List Int} (h : Nums w B d zs) (hk : ∀ b o, b < B → w'.cell? ⟨b, o, none⟩ = w.cell? ⟨b, o, none⟩) : Nums w' B d zs := by
  obtain ⟨A, m, c, h1, h2, h3, h4⟩ := h
  exact ⟨A, m, c, h1, h2, h3, h4.keep hk⟩
theorem Nums.below {w w' : World} {B : Nat} {d : Value} {zs : List Int} (h : Nums w B d zs) (hb : Below B w w') : Nums w' B d zs := h.keep fun b o hp => hb.cell (p := ⟨b, o, none⟩) hp
theorem Nums.more {w : World} {B B' : Nat} {d : Value} {zs : List Int} (h : Nums w B d zs) (hb : B ≤ B') : Nums w B' d zs := by
  obtain ⟨A, m, c, h1, h2, h3, h4⟩ := h
  exact ⟨A, m, c, h1, h2, h3, h4.more hb⟩
def inB (n least : Int) : Bool := decide (least ≤ n) && decide (n ≤ 1099511627776)
def rightB (x : Wr) : Bool :=
  decide ((1 : Int) ≤ x.r) && (decide (x.r ≤ 16) && (inB x.n 1 && ((x.s == x.r) && (inB x.t 1 && (trB x.z 1099511627776 && (decide ((1 : Int) ≤ (x.se.size : Nat)) && (decide (((x.se.size : Nat) : Int) ≤ 64) && (decide (((x.k.size : Nat) : Int) ≤ 32) && (decide (((x.v.size : Nat) : Int) ≤ 128) && ((!x.g || (x.v.toList == [])) && (inB x.l 0)))))))))))
theorem in_any (n least : Int) (w : World) : Calls Try.prog 66 #[.int .i64 n, .int .i64 least] w fun e w' => e = .returned (.bool (inB n least)) ∧ w' = w := by
  unfold inB
  cases h1 : decide (least ≤ n)
  · go_enter Try.func66, Try.ntmps66
    go_wp2
    go_ret
    exact ⟨rfl, rfl⟩
  · cases h2 : decide (n ≤ 1099511627776)
    · go_enter Try.func66, Try.ntmps66
      go_wp2
      go_ret
      exact ⟨rfl, rfl⟩
    · go_enter Try.func66, Try.ntmps66
      go_wp2
      go_ret
      exact ⟨rfl, rfl⟩
theorem num_ref (n least : Int) (w : World) : Calls Try.prog 65 #[.int .i64 n, .int .i64 least] w fun e w' => e = .returned (.bool (inB n least)) ∧ w' = w := by
  unfold inB
  cases h1 : decide (least ≤ n)
  · go_enter Try.func65, Try.ntmps65
    go_wp2
    go_ret
    exact ⟨rfl, rfl⟩
  · cases h2 : decide (n ≤ 1099511627776)
    · go_enter Try.func65, Try.ntmps65
      go_wp2
      go_ret
      exact ⟨rfl, rfl⟩
    · go_enter Try.func65, Try.ntmps65
      go_wp2
      go_ret
      exact ⟨rfl, rfl⟩
end Go.Proofs.Ytedkcpncomgboaa.wire
