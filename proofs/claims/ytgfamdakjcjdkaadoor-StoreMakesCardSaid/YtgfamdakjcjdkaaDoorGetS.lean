/- Store.Head and Store.Get. -/
import Derived.Test.YtgfamdakjcjdkaaDoorStoreM
namespace Go.Proofs.YtgfamdakjcjdkaaDoor.store
open Go Go.RowKit Go.Proofs.YtgfamdakjcjdkaaDoor.base Go.Proofs.YtgfamdakjcjdkaaDoor.map_ Go.Proofs.YtgfamdakjcjdkaaDoor.err Go.Proofs.YtgfamdakjcjdkaaDoor.cmp Go.Proofs.YtgfamdakjcjdkaaDoor.above Go.Proofs.YtgfamdakjcjdkaaDoor.merge Go.Proofs.YtgfamdakjcjdkaaDoor.rows Go.Maps Go.Proofs.YtgfamdakjcjdkaaDoor.monoj

set_option maxRecDepth 100000 in
set_option maxHeartbeats 1000000 in
theorem head_any (g bm : Nat) (L : List R) (s : ByteArray) (w : World) (h : StI w g bm L) (hs : s.size ≤ maxLen) :
    Calls Tryd.prog 24 #[.pointer (some ⟨g, 0, none⟩), .string s] w fun e w' => e = .returned (cval (atL L (s, ⟨#[]⟩))) ∧ Below w.heap.size w w' := by
  have hlk := (h.below (below_new w (.cells #[.int .i64 0, .int .i64 0, .string ⟨#[]⟩, .bool false, .int .i64 0] 58))).look (x := (s, ⟨#[]⟩)) ⟨hs, Nat.zero_le _⟩
  have hm0 : (w.alloc (.cells #[.int .i64 0, .int .i64 0, .string ⟨#[]⟩, .bool false, .int .i64 0] 58)).cell? ⟨g, 0, none⟩ = some (.map (some bm)) := (h.blk.below (below_new _ _) h.blk.lt).cell 0
  have hgl := (h.blk.below (below_new w (.cells #[.int .i64 0, .int .i64 0, .string ⟨#[]⟩, .bool false, .int .i64 0] 58)) h.blk.lt).lt
  generalize atL L (s, ⟨#[]⟩) = c at hlk ⊢
  obtain ⟨t, r, v, gn, l⟩ := c
  unfold cval at *
  dsimp only at hlk
  unfold nameV at hlk
  dsimp only at hlk
  clear h
  go_enter Tryd.func24, Tryd.ntmps24
  go_wp2
  exact bodyPost_ret (v := .agg #[.int .i64 t, .int .i64 r, .string v, .bool gn, .int .i64 l]) (by simp [results, Tryd.results24, go_sem]) rfl ⟨rfl, below_new _ _⟩
theorem bad_any (n c : Int) (w : World) : Calls Tryd.prog 18 #[.int .i64 n, .int .i64 c] w (ErrNew c w) := by
  go_enter Tryd.func18, Tryd.ntmps18
  go_wp2_with fail
  refine (err.at_any _ _ _ _).mono ?_
  rintro e w1 ⟨v, rfl, h1, h2, h3, h4⟩
  go_wp2_with fail
  go_ret
  exact ⟨v, rfl, h1, h2, h3, h4⟩
def visC (c : C) : Bool := decide (0 < c.t) && !c.g
def getC (k : ByteArray) (ch cd : C) : Int := if k.toList.isEmpty = true then 1 else if visC ch = false then 14 else if visC cd = false then 7 else 0
def GetK (c : Int) (cd : C) (w : World) (e : Ending) (w' : World) : Prop := ∃ er, e = .returned (.tuple #[.string (if c = 0 then cd.v else ⟨#[]⟩), er]) ∧ EO w' er c ∧ Below w.heap.size w w'
def GetR (k : ByteArray) (ch cd : C) (w : World) (e : Ending) (w' : World) : Prop := GetK (getC k ch cd) cd w e w'
set_option maxRecDepth 100000 in
set_option maxHeartbeats 2000000 in
theorem get_any (g bm : Nat) (L : List R) (s k : ByteArray) (w : World) (h : StI w g bm L) (hs : s.size ≤ maxLen) (hk : k.size ≤ maxLen) (ch cd : C) (hc : atL L (s, ⟨#[]⟩) = ch) (hd : atL L (s, k) = cd) :
    Calls Tryd.prog 16 #[.pointer (some ⟨g, 0, none⟩), .string s, .string k] w (fun e w' => GetR k ch cd w e w') := by
  have H := Lib.hid h
  clear h
  cases hke : k.toList.isEmpty with
  | true =>
    have hg : getC k ch cd = 1 := by unfold getC; rw [if_pos hke]
    go_enter Tryd.func16, Tryd.ntmps16
    go_wp2_with fail
    refine (bad_any _ _ _).mono ?_
    rintro e w1 ⟨v, rfl, h1, h2, h3, _⟩
    obtain ⟨ge, rfl⟩ := h1.form
    have HR := Lib.hid (show GetR k ch cd w (.returned (.tuple #[.string ⟨#[]⟩, .iface 69 (.pointer (some ⟨ge, 0, none⟩))])) w1 by unfold GetR; rw [hg]; exact ⟨_, rfl, .inr ⟨by decide, h1, h2⟩, h3⟩)
    clear h1 h2 h3
    go_wp2
    exact bodyPost_ret (v := .tuple #[.string ⟨#[]⟩, .iface 69 (.pointer (some ⟨ge, 0, none⟩))]) (by simp [results, Tryd.results16, go_sem]) rfl HR.out
  | false =>
  obtain ⟨t, r, v, gn, l⟩ := ch
  go_enter Tryd.func16, Tryd.ntmps16
  go_wp2_with fail
  refine (head_any g bm L s w H.out hs).mono ?_
  rintro e w1 ⟨rfl, hb1⟩
  rw [hc]
  have HB1 := Lib.hid hb1
  have H1 := Lib.hid (H.out.below hb1)
  clear hb1 H
  unfold cval
  dsimp only
  go_wp2_with fail
  refine (visible_any t r v gn l w1).mono ?_
  rintro e w2 ⟨rfl, hb2⟩
  have HB2 := Lib.hid (below_step HB1.out hb2)
  have H2 := Lib.hid (H1.out.below hb2)
  clear hb2 HB1 H1
  cases hv : (decide (0 < t) && !gn) with
  | false =>
    have hg : getC k ⟨t, r, v, gn, l⟩ cd = 14 := by unfold getC visC; rw [if_neg (by rw [hke]; decide), if_pos hv]
    go_wp2_with fail
    refine (bad_any _ _ _).mono ?_
    rintro e w3 ⟨v3, rfl, h1, h2, h3, _⟩
    obtain ⟨ge, rfl⟩ := h1.form
    have HR := Lib.hid (show GetR k ⟨t, r, v, gn, l⟩ cd w (.returned (.tuple #[.string ⟨#[]⟩, .iface 69 (.pointer (some ⟨ge, 0, none⟩))])) w3 by unfold GetR; rw [hg]; exact ⟨_, rfl, .inr ⟨by decide, h1, h2⟩, below_step HB2.out h3⟩)
    clear h1 h2 h3
    go_wp2
    exact bodyPost_ret (v := .tuple #[.string ⟨#[]⟩, .iface 69 (.pointer (some ⟨ge, 0, none⟩))]) (by simp [results, Tryd.results16, go_sem]) rfl HR.out
  | true =>
    have hlk := H2.out.look (x := (s, k)) ⟨hs, hk⟩
    rw [hd] at hlk
    have hg0 : w2.cell? ⟨g, 0, none⟩ = some (.map (some bm)) := H2.out.blk.cell 0
    have hgl := H2.out.blk.lt
    have hgc : getC k ⟨t, r, v, gn, l⟩ cd = if visC cd = false then 7 else 0 := by unfold getC; rw [if_neg (by rw [hke]; decide), if_neg (by unfold visC; rw [hv]; decide)]
    obtain ⟨t2, r2, v2, gn2, l2⟩ := cd
    unfold cval nameV at hlk
    dsimp only at hlk
    have HGC := Lib.hid hgc
    clear hc hd hgc
    go_wp2_with fail
    refine (visible_any t2 r2 v2 gn2 l2 _).mono ?_
    rintro e w3 ⟨rfl, hb3⟩
    have hb23 := (below_new w2 (.cells #[.int .i64 t2, .int .i64 r2, .string v2, .bool gn2, .int .i64 l2] 58))
    have HB3 := Lib.hid (below_step (below_step HB2.out hb23) hb3)
    have q1 : w3.cell? ⟨w2.heap.size, 2, none⟩ = some (.string v2) := ((Blk.new w2 58 #[.int .i64 t2, .int .i64 r2, .string v2, .bool gn2, .int .i64 l2]).below hb3 (by simp)).cell 2
    have ql := ((Blk.new w2 58 #[.int .i64 t2, .int .i64 r2, .string v2, .bool gn2, .int .i64 l2]).below hb3 (by simp)).lt
    clear hb3 hb23 hlk hg0 hgl HB2 H2
    cases hv2 : (decide (0 < t2) && !gn2) with
    | false =>
      have hg : getC k ⟨t, r, v, gn, l⟩ ⟨t2, r2, v2, gn2, l2⟩ = 7 := by rw [HGC.out, if_pos (by unfold visC; exact hv2)]
      go_wp2_with fail
      refine (bad_any _ _ _).mono ?_
      rintro e w4 ⟨v3, rfl, h1, h2, h3, _⟩
      obtain ⟨ge, rfl⟩ := h1.form
      have HR := Lib.hid (show GetR k ⟨t, r, v, gn, l⟩ ⟨t2, r2, v2, gn2, l2⟩ w (.returned (.tuple #[.string ⟨#[]⟩, .iface 69 (.pointer (some ⟨ge, 0, none⟩))])) w4 by unfold GetR; rw [hg]; exact ⟨_, rfl, .inr ⟨by decide, h1, h2⟩, below_step HB3.out h3⟩)
      clear h1 h2 h3
      go_wp2
      exact bodyPost_ret (v := .tuple #[.string ⟨#[]⟩, .iface 69 (.pointer (some ⟨ge, 0, none⟩))]) (by simp [results, Tryd.results16, go_sem]) rfl HR.out
    | true =>
      have hg : getC k ⟨t, r, v, gn, l⟩ ⟨t2, r2, v2, gn2, l2⟩ = 0 := by rw [HGC.out, if_neg (by unfold visC; rw [hv2]; decide)]
      have HR := Lib.hid (show GetR k ⟨t, r, v, gn, l⟩ ⟨t2, r2, v2, gn2, l2⟩ w (.returned (.tuple #[.string v2, .nilIface])) w3 by unfold GetR; rw [hg]; exact ⟨_, rfl, .inl ⟨rfl, rfl⟩, HB3.out⟩)
      go_wp2
      exact bodyPost_ret (v := .tuple #[.string v2, .nilIface]) (by simp [results, Tryd.results16, go_sem]) rfl HR.out
end Go.Proofs.YtgfamdakjcjdkaaDoor.store
