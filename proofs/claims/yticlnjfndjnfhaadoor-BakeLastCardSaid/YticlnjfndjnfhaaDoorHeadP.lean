/- A cookie's header: plain. -/
import Derived.Test.YticlnjfndjnfhaaDoorRightW
import Derived.Test.YticlnjfndjnfhaaDoorDigW
import Derived.Lib.Join
namespace Go.Proofs.YticlnjfndjnfhaaDoor.bake
open Go Go.RowKit Go.Proofs.YticlnjfndjnfhaaDoor.base Go.Proofs.YticlnjfndjnfhaaDoor.dec
open Go.Lib (decDigits)

def pathH : List UInt8 := [80, 97, 116, 104, 61]
def ageH : List UInt8 := [77, 97, 120, 45, 65, 103, 101, 61]
def secH : List UInt8 := [83, 101, 99, 117, 114, 101]
def httpH : List UInt8 := [72, 116, 116, 112, 79, 110, 108, 121]
def siteH : List UInt8 := [83, 97, 109, 101, 83, 105, 116, 101, 61]
def pP (p : ByteArray) : List (List UInt8) := if p.size = 0 then [] else [pathH ++ p.data.toList]
def pA (a : Int) : List (List UInt8) := if 0 ≤ a then [ageH ++ decDigits a.toNat] else []
def pS (b : Bool) : List (List UInt8) := if b then [secH] else []
def pH (b : Bool) : List (List UInt8) := if b then [httpH] else []
def pT (st : Int) : List (List UInt8) := if 0 < st then [siteH ++ siteL st.toNat] else []
def h0 (n v : ByteArray) : List UInt8 := n.data.toList ++ [61] ++ v.data.toList
def tailL (l : List (List UInt8)) : List UInt8 := Lib.joinTail [59, 32] l
theorem tail_app (a b : List (List UInt8)) : tailL (a ++ b) = tailL a ++ tailL b := by simp [tailL, Lib.joinTail]
theorem tail_one (x : List UInt8) : tailL [x] = [59, 32] ++ x := by simp [tailL, Lib.joinTail]
def headL (n v p : ByteArray) (a : Int) (sec http : Bool) (st : Int) : List UInt8 := h0 n v ++ tailL (pP p ++ (pA a ++ (pS sec ++ (pH http ++ pT st))))
theorem head_join (n v p : ByteArray) (a : Int) (sec http : Bool) (st : Int) : Lib.join (h0 n v :: (pP p ++ (pA a ++ (pS sec ++ (pH http ++ pT st))))) [59, 32] = headL n v p a sec http st := Lib.join_cons _ _ _
theorem age_len {a : Int} (h : a ≤ 1099511627776) : (decDigits a.toNat).length ≤ 19 := dec_len_le 18 _ (by omega)
end Go.Proofs.YticlnjfndjnfhaaDoor.bake
