/- What a text is taken as: plain; the pieces of a text as Split hands them. -/
import Derived.Test.YticlnjfndjnfhaaDoorPathW
import Derived.Lib.SplitLaws
namespace Go.Proofs.YticlnjfndjnfhaaDoor.bake
open Go Go.RowKit Go.Proofs.YticlnjfndjnfhaaDoor.base Go.Proofs.YticlnjfndjnfhaaDoor.dec

/-- A cookie. -/
structure Ck where
  name : ByteArray
  value : ByteArray
  path : ByteArray
  age : Int
  sec : Bool
  http : Bool
  site : Nat
def Ck.cells (c : Ck) : List Value := [.string c.name, .string c.value, .string c.path, .int .i64 c.age, .bool c.sec, .bool c.http, .int .i64 c.site]
def Ck.val (c : Ck) : Value := .agg ⟨c.cells⟩
def noCk : Ck := ⟨⟨#[]⟩, ⟨#[]⟩, ⟨#[]⟩, 0, false, false, 0⟩

def pathK : List UInt8 := [112, 97, 116, 104]
def ageK : List UInt8 := [109, 97, 120, 45, 97, 103, 101]
def secK : List UInt8 := [115, 101, 99, 117, 114, 101]
def httpK : List UInt8 := [104, 116, 116, 112, 111, 110, 108, 121]
def siteK : List UInt8 := [115, 97, 109, 101, 115, 105, 116, 101]
def strictK : List UInt8 := [115, 116, 114, 105, 99, 116]
def laxK : List UInt8 := [108, 97, 120]
def noneK : List UInt8 := [110, 111, 110, 101]
theorem low_site1 : lowL (siteL 1) = strictK := by decide
theorem low_site2 : lowL (siteL 2) = laxK := by decide
theorem low_site3 : lowL (siteL 3) = noneK := by decide
/-- which site a text with small letters names -/
def siteN (l : List UInt8) : Nat := if l = strictK then 1 else if l = laxK then 2 else if l = noneK then 3 else 0
/-- the last of the first m sites whose name it is -/
def siteM (l : List UInt8) : Nat → Nat
  | 0 => 0
  | m + 1 => if l = lowL (siteL (m + 1)) then m + 1 else siteM l m
theorem siteM_3 (l : List UInt8) : siteM l 3 = siteN l := by
  unfold siteN
  rw [show siteM l 3 = (if l = lowL (siteL 3) then 3 else if l = lowL (siteL 2) then 2 else if l = lowL (siteL 1) then 1 else 0) from rfl, low_site1, low_site2, low_site3]
  by_cases h1 : l = strictK
  · subst h1; decide
  · by_cases h2 : l = laxK
    · subst h2; decide
    · simp only [h1, h2, if_false]
/-- what an attribute with the key k and the value v makes of a cookie -/
def attr (k v : List UInt8) (c : Ck) : Ck :=
  if k = pathK then { c with path := if [47].isPrefixOf v then mkB v else ⟨#[]⟩ }
  else if k = ageK then { c with age := match ageL v with | some n => (n : Int) | none => c.age }
  else if k = secK then { c with sec := true }
  else if k = httpK then { c with http := true }
  else if k = siteK then { c with site := siteN (lowL v) }
  else c
def step (c : Ck) (p : List UInt8) : Ck := attr (lowL (trimB (untilL 61 p).1)) (trimB (untilL 61 p).2.1) c
def first (p : List UInt8) : Option Ck :=
  if (untilL 61 p).2.2 && !(trimB (untilL 61 p).1).isEmpty then some ⟨mkB (trimB (untilL 61 p).1), mkB (trimB (untilL 61 p).2.1), ⟨#[]⟩, -1, false, false, 0⟩ else none
def parseL (l : List (List UInt8)) : Option Ck := match l with
  | [] => none
  | p :: r => (first p).map fun c => r.foldl step c
def parse (s : ByteArray) : Option Ck := parseL (parts 59 s.data.toList)

/-! ### the pieces as Split hands them -/
theorem splitB_parts (s : ByteArray) : Lib.splitB ⟨#[59]⟩ 0 (Lib.countB s ⟨#[59]⟩) s = (parts 59 s.data.toList).map mkB := by
  have h := Lib.splitB_data ⟨#[59]⟩ 0 (Lib.countB s ⟨#[59]⟩) s
  have hc : Lib.countB s ⟨#[59]⟩ = s.data.toList.count 59 := by
    rw [← Lib.count_one]
  rw [show (⟨#[59]⟩ : ByteArray).data.toList = [59] from rfl, split_pcs, hc] at h
  rw [hc]
  unfold parts
  rw [← h, List.map_map]
  conv => lhs; rw [← List.map_id (Lib.splitB _ _ _ s)]
  exact List.map_congr_left fun a _ => (mkB_of a).symm
theorem splitB_len (s : ByteArray) : (parts 59 s.data.toList).length = Lib.countB s ⟨#[59]⟩ + 1 := by
  have h := Lib.splitB_all ⟨#[59]⟩ (by decide) 0 _ s rfl
  rw [splitB_parts, List.length_map] at h
  exact h
theorem parts_le (c : UInt8) : ∀ (n : Nat) (l : List UInt8), l.length ≤ n → ∀ p ∈ parts c l, p.length ≤ l.length
  | n, l, hn, p, hp => by
    rw [parts_eq] at hp
    rcases until_cases c l with ⟨a, b, h1, h2, h3⟩ | ⟨h2, h3⟩
    · rw [h3] at hp
      subst h1
      rw [if_pos rfl] at hp
      rcases List.mem_cons.mp hp with rfl | hp
      · simp
      · cases n with
        | zero => simp at hn
        | succ n =>
          have h4 := parts_le c n b (by simp at hn; omega) p hp
          simp; omega
    · rw [h3, if_neg (by simp)] at hp
      rw [List.mem_singleton] at hp
      rw [hp]; exact Nat.le_refl _
theorem trimB_le (l : List UInt8) : (trimB l).length ≤ l.length := by
  unfold trimB trimR
  have h1 := (List.dropWhile_suffix bl (l := l)).sublist.length_le
  have h2 := (List.dropWhile_suffix bl (l := (l.dropWhile bl).reverse)).sublist.length_le
  rw [List.length_reverse] at h2
  rw [List.length_reverse]
  omega
end Go.Proofs.YticlnjfndjnfhaaDoor.bake
