/- Store.Head and Store.Get. -/
import Derived.Test.YtfcgffemdcfiiaaDoorStoreM
namespace Go.Proofs.YtfcgffemdcfiiaaDoor.store
open Go Go.RowKit Go.Proofs.YtfcgffemdcfiiaaDoor.base Go.Proofs.YtfcgffemdcfiiaaDoor.map_ Go.Proofs.YtfcgffemdcfiiaaDoor.err Go.Proofs.YtfcgffemdcfiiaaDoor.cmp Go.Proofs.YtfcgffemdcfiiaaDoor.above Go.Proofs.YtfcgffemdcfiiaaDoor.merge Go.Proofs.YtfcgffemdcfiiaaDoor.rows Go.Maps Go.Proofs.YtfcgffemdcfiiaaDoor.monoj

set_option maxRecDepth 100000 in
set_option maxHeartbeats 1000000 in
theorem head_any (g bm : Nat) (L : List R) (s : ByteArray) (w : World) (h : StI w g bm L) (hs : s.size ≤ maxLen) :
    Calls Tryd.prog 32 #[.pointer (some ⟨g, 0, none⟩), .string s] w fun e w' => e = .returned (cval (atL L (s, ⟨#[]⟩))) ∧ Below w.heap.size w w' := by
  have hlk := (h.below (below_new w (.cells #[.int .i64 0, .int .i64 0, .string ⟨#[]⟩, .bool false, .int .i64 0] 69))).look (x := (s, ⟨#[]⟩)) ⟨hs, Nat.zero_le _⟩
  have hm0 : (w.alloc (.cells #[.int .i64 0, .int .i64 0, .string ⟨#[]⟩, .bool false, .int .i64 0] 69)).cell? ⟨g, 0, none⟩ = some (.map (some bm)) := (h.blk.below (below_new _ _) h.blk.lt).cell 0
  have hgl := (h.blk.below (below_new w (.cells #[.int .i64 0, .int .i64 0, .string ⟨#[]⟩, .bool false, .int .i64 0] 69)) h.blk.lt).lt
  generalize atL L (s, ⟨#[]⟩) = c at hlk ⊢
  obtain ⟨t, r, v, gn, l⟩ := c
  unfold cval at *
  dsimp only at hlk
  unfold nameV at hlk
  dsimp only at hlk
  clear h
  go_enter Tryd.func32, Tryd.ntmps32
  go_wp2
  exact bodyPost_ret (v := .agg #[.int .i64 t, .int .i64 r, .string v, .bool gn, .int .i64 l]) (by simp [results, Tryd.results32, go_sem]) rfl ⟨rfl, below_new _ _⟩
def visC (c : C) : Bool := decide (0 < c.t) && !c.g
def getC (k : ByteArray) (ch cd : C) : Int := if k.toList.isEmpty = true then 1 else if visC ch = false then 14 else if visC cd = false then 7 else 0
def GetK (c : Int) (cd : C) (w : World) (e : Ending) (w' : World) : Prop := ∃ er, e = .returned (.tuple #[.string (if c = 0 then cd.v else ⟨#[]⟩), er]) ∧ EO w' er c ∧ Below w.heap.size w w'
def GetR (k : ByteArray) (ch cd : C) (w : World) (e : Ending) (w' : World) : Prop := GetK (getC k ch cd) cd w e w'
end Go.Proofs.YtfcgffemdcfiiaaDoor.store
