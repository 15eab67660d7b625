/- Store.Head and Store.Get. -/
import Derived.Test.YtfcgffemdcfiiaaGreatDoorStoreM
namespace Go.Proofs.YtfcgffemdcfiiaaGreatDoor.store
open Go Go.RowKit Go.Proofs.YtfcgffemdcfiiaaGreatDoor.base Go.Proofs.YtfcgffemdcfiiaaGreatDoor.map_ Go.Proofs.YtfcgffemdcfiiaaGreatDoor.err Go.Proofs.YtfcgffemdcfiiaaGreatDoor.cmp Go.Proofs.YtfcgffemdcfiiaaGreatDoor.above Go.Proofs.YtfcgffemdcfiiaaGreatDoor.merge Go.Proofs.YtfcgffemdcfiiaaGreatDoor.rows Go.Maps Go.Proofs.YtfcgffemdcfiiaaGreatDoor.monoj

set_option maxRecDepth 100000 in
set_option maxHeartbeats 1000000 in
theorem head_any (g bm : Nat) (L : List R) (s : ByteArray) (w : World) (h : StI w g bm L) (hs : s.size ≤ maxLen) :
    Calls Tryz.prog 30 #[.pointer (some ⟨g, 0, none⟩), .string s] w fun e w' => e = .returned (cval (atL L (s, ⟨#[]⟩))) ∧ Below w.heap.size w w' := by
  have hlk := (h.below (below_new w (.cells #[.int .i64 0, .int .i64 0, .string ⟨#[]⟩, .bool false, .int .i64 0] 58))).look (x := (s, ⟨#[]⟩)) ⟨hs, Nat.zero_le _⟩
  have hm0 : (w.alloc (.cells #[.int .i64 0, .int .i64 0, .string ⟨#[]⟩, .bool false, .int .i64 0] 58)).cell? ⟨g, 0, none⟩ = some (.map (some bm)) := (h.blk.below (below_new _ _) h.blk.lt).cell 0
  have hgl := (h.blk.below (below_new w (.cells #[.int .i64 0, .int .i64 0, .string ⟨#[]⟩, .bool false, .int .i64 0] 58)) h.blk.lt).lt
  generalize atL L (s, ⟨#[]⟩) = c at hlk ⊢
  obtain ⟨t, r, v, gn, l⟩ := c
  unfold cval at *
  dsimp only at hlk
  unfold nameV at hlk
  dsimp only at hlk
  clear h
  go_enter Tryz.func30, Tryz.ntmps30
  go_wp2
  exact bodyPost_ret (v := .agg #[.int .i64 t, .int .i64 r, .string v, .bool gn, .int .i64 l]) (by simp [results, Tryz.results30, go_sem]) rfl ⟨rfl, below_new _ _⟩
def visC (c : C) : Bool := decide (0 < c.t) && !c.g
def getC (k : ByteArray) (ch cd : C) : Int := if k.toList.isEmpty = true then 1 else if visC ch = false then 14 else if visC cd = false then 7 else 0
def GetK (c : Int) (cd : C) (w : World) (e : Ending) (w' : World) : Prop := ∃ er, e = .returned (.tuple #[.string (if c = 0 then cd.v else ⟨#[]⟩), er]) ∧ EO w' er c ∧ Below w.heap.size w w'
def GetR (k : ByteArray) (ch cd : C) (w : World) (e : Ending) (w' : World) : Prop := GetK (getC k ch cd) cd w e w'
end Go.Proofs.YtfcgffemdcfiiaaGreatDoor.store
