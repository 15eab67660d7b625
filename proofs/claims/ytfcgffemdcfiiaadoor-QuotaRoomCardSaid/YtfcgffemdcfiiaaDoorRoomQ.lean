/- The law QuotaRoom's closure 'begin'; its store. -/
import Derived.Test.YtfcgffemdcfiiaaDoorOpensQ
namespace Go.Proofs.YtfcgffemdcfiiaaDoor.quota
open Go Go.RowKit Go.Proofs.YtfcgffemdcfiiaaDoor.base Go.Proofs.YtfcgffemdcfiiaaDoor.dec Go.Proofs.YtfcgffemdcfiiaaDoor.err Go.Proofs.YtfcgffemdcfiiaaDoor.above Go.Proofs.YtfcgffemdcfiiaaDoor.law Go.Proofs.YtfcgffemdcfiiaaDoor.merge Go.Proofs.YtfcgffemdcfiiaaDoor.rows Go.Proofs.YtfcgffemdcfiiaaDoor.store

open Go.Lib (decDigits)
theorem short_take {L : List R} (h : Short L) (x : Nm) (c : C) (hx : x.1.size ≤ 1000000) : Short (takeL L x c) := fun p hp => by
  rcases mem_put hp with rfl | hp
  · exact hx
  · exact h p hp
theorem nmB_size {a b : Nat} (h : OkN a b) : (nmB a b).1.size ≤ 1000000 := by
  have h1 : (decDigits a).length ≤ 2 := dec_len_le 1 a (by unfold OkN at h; omega)
  have h2 : (decDigits b).length ≤ 13 := dec_len_le 12 b (by unfold OkN at h; omega)
  have h3 : (nm a b).length ≤ 16 := by rw [nm_eq]; simp; omega
  show (nm a b).toArray.size ≤ 1000000
  rw [List.size_toArray]
  omega
/-- the law's store in memory: k sessions of region 3, j of region 2; w0 is as it was -/
structure RoomS (w0 : World) (g bm bx : Nat) (L : List R) (w : World) : Prop where
  st : StI w g bm L
  sh : Short L
  box : Blk w bx 36 #[.pointer (some ⟨g, 0, none⟩)]
  bel : Below w0.heap.size w0 w
  lo : w0.heap.size ≤ bm
  ne : bx ≠ bm
theorem RoomS.below {w0 w w' : World} {g bm bx : Nat} {L : List R} (h : RoomS w0 g bm bx L w) (hb : Below w.heap.size w w') : RoomS w0 g bm bx L w' :=
  ⟨h.st.below hb, h.sh, h.box.below hb h.box.lt, below_step h.bel hb, h.lo, h.ne⟩
theorem RoomS.step {w0 w w' : World} {g bm bx : Nat} {L M : List R} (h : RoomS w0 g bm bx L w) (hs : StI w' g bm M) (hm : Short M) (hk : Keeps (· = bm) w w') : RoomS w0 g bm bx M w' :=
  ⟨hs, hm, h.box.keeps hk h.ne, below_keeps h.bel (Nat.le_refl _) hk (fun i hi e => by have := h.lo; omega), h.lo, h.ne⟩
def BeginR (w0 : World) (g bm bx : Nat) (L : List R) (e : Ending) (w' : World) : Prop := e = .returned (.tuple #[]) ∧ RoomS w0 g bm bx L w'
set_option maxRecDepth 100000 in
set_option maxHeartbeats 1000000 in
theorem begin_any (w0 : World) (g bm bx : Nat) (L : List R) (a b t : Nat) (gn : Bool) (w : World) (h : RoomS w0 g bm bx L w) (hab : OkN a b) (ht : Tabs w0) :
    Calls Tryd.prog 14 #[.int .i64 a, .int .i64 b, .int .i64 t, .bool gn, .pointer (some ⟨bx, 0, none⟩)] w (BeginR w0 g bm bx (takeL L (nmB a b) (beg a t gn))) := by
  have H := Lib.hid h
  have HT := Lib.hid (ht.below h.bel)
  have HSZ := Lib.hid (nmB_size hab)
  have hnb : ¬ BadN a b := by unfold OkN at hab; unfold BadN; omega
  have HAB := Lib.hid hab
  clear h ht hab
  go_enter Tryd.func14, Tryd.ntmps14
  go_wp2_with fail
  refine (name_any a b w HT.out).mono ?_
  rintro e w1 (⟨a', b', ha, hb, _, rfl, hb1⟩ | ⟨h, _⟩)
  · obtain rfl : a = a' := by omega
    obtain rfl : b = b' := by omega
    have H1 := Lib.hid (H.out.below hb1)
    have hbx := H1.out.box
    have c0 : w1.cell? ⟨bx, 0, none⟩ = some (.pointer (some ⟨g, 0, none⟩)) := hbx.cell 0
    have l0 := hbx.lt
    have HSM := Lib.hid (short_take H1.out.sh (nmB a b) (beg a t gn) HSZ.out)
    clear hbx ha hb hb1
    go_wp2_with fail
    refine (apply_any g bm L a 0 t a none 0 0 (str (nm a b)) ⟨#[]⟩ ⟨#[]⟩ gn 0 w1 H1.out.st (by have := HSZ.out; unfold maxLen; unfold nmB at this; dsimp only at this; omega) (by unfold maxLen; decide)).mono ?_
    rintro e w2 ⟨rfl, hs2, hk2⟩
    have HR := Lib.hid (show BeginR w0 g bm bx (takeL L (nmB a b) (beg a t gn)) (.returned (.tuple #[])) w2 from ⟨rfl, H1.out.step hs2 HSM.out hk2⟩)
    clear hs2 hk2 c0 l0
    generalize newC _ _ = nb
    go_wp2
    exact bodyPost_ret (v := .tuple #[]) (by simp [results, Tryd.results14, go_sem]) rfl HR.out
  · exact absurd h hnb
end Go.Proofs.YtfcgffemdcfiiaaDoor.quota
