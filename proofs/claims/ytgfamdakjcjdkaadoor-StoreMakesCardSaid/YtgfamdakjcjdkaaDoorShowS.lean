/- Store.Shows: the rows that show. -/
import Derived.Test.YtgfamdakjcjdkaaDoorDelS
namespace Go.Proofs.YtgfamdakjcjdkaaDoor.store
open Go Go.RowKit Go.Proofs.YtgfamdakjcjdkaaDoor.base Go.Proofs.YtgfamdakjcjdkaaDoor.err Go.Proofs.YtgfamdakjcjdkaaDoor.above Go.Proofs.YtgfamdakjcjdkaaDoor.law Go.Proofs.YtgfamdakjcjdkaaDoor.merge Go.Proofs.YtgfamdakjcjdkaaDoor.rows Go.Proofs.YtgfamdakjcjdkaaDoor.rowe

/-- does a row show nothing? -/
def hide (L : List R) (x : R) : Bool := !visC x.2 || !visC (atL L (x.1.1, ⟨#[]⟩))
def showL (L : List R) : List R := L.filter fun x => !hide L x
abbrev ptrT : TypeId := 36
set_option maxRecDepth 100000 in
set_option maxHeartbeats 1000000 in
theorem closure_any (bx g bm : Nat) (L : List R) (x : R) (w : World) (h : StI w g bm L) (hb : Blk w bx ptrT #[.pointer (some ⟨g, 0, none⟩)]) (hx : x.1.1.size ≤ maxLen) :
    Calls Tryd.prog 51 #[.agg ⟨rcells x⟩, .pointer (some ⟨bx, 0, none⟩)] w fun e w' => e = .returned (.bool (hide L x)) ∧ Below w.heap.size w w' := by
  obtain ⟨⟨x1, x2⟩, ⟨t, r, v, gn, l⟩⟩ := x
  unfold rcells hide
  dsimp only at hx ⊢
  obtain ⟨⟨t2, r2, v2, gn2, l2⟩, hc⟩ : ∃ c, atL L (x1, ⟨#[]⟩) = c := ⟨_, rfl⟩
  rw [hc]
  have hbx := below_new w (.cells #[.string x1, .string x2, .int .i64 t, .int .i64 r, .string v, .bool gn, .int .i64 l] 60)
  have HX := Lib.hid (Blk.new w 60 #[.string x1, .string x2, .int .i64 t, .int .i64 r, .string v, .bool gn, .int .i64 l])
  have H := Lib.hid (h.below hbx)
  have HB := Lib.hid (hb.below hbx hb.lt)
  have HBX := Lib.hid hbx
  have HC := Lib.hid hc
  have Hx := Lib.hid hx
  have hv1 : visC ⟨t, r, v, gn, l⟩ = (decide (0 < t) && !gn) := rfl
  have hv2 : visC ⟨t2, r2, v2, gn2, l2⟩ = (decide (0 < t2) && !gn2) := rfl
  rw [hv1, hv2]
  obtain ⟨b2, hb2v⟩ : ∃ b2, (decide (0 < t2) && !gn2) = b2 := ⟨_, rfl⟩
  have HV2 := Lib.hid hb2v
  clear hb2v h hb hbx hc hx hv1 hv2
  cases hv : (decide (0 < t) && !gn) with
  | false =>
    have Hv := Lib.hid hv
    clear hv
    go_enter Tryd.func51, Tryd.ntmps51
    go_wp2_with fail
    refine (visible_any t r v gn l _).mono ?_
    rintro e w1 ⟨rfl, hb1⟩
    rw [Hv.out]
    have HB1 := Lib.hid (below_step HBX.out hb1)
    clear hb1
    go_wp2
    go_ret
    exact ⟨rfl, HB1.out⟩
  | true =>
    have Hv := Lib.hid hv
    clear hv
    go_enter Tryd.func51, Tryd.ntmps51
    go_wp2_with fail
    refine (visible_any t r v gn l _).mono ?_
    rintro e w1 ⟨rfl, hb1⟩
    rw [Hv.out]
    have HB1 := Lib.hid (below_step HBX.out hb1)
    have H1 := Lib.hid (H.out.below hb1)
    have hbx1 := HB.out.below hb1 HB.out.lt
    have hx1 := HX.out.below hb1 (by simp)
    have q0 : w1.cell? ⟨bx, 0, none⟩ = some (.pointer (some ⟨g, 0, none⟩)) := hbx1.cell 0
    have q1 : w1.cell? ⟨w.heap.size, 0, none⟩ = some (.string x1) := hx1.cell 0
    have ql := hbx1.lt
    have ql2 := hx1.lt
    clear hb1 hbx1 hx1 H HB HX HBX
    go_wp2_with fail
    refine (head_any g bm L x1 w1 H1.out Hx.out).mono ?_
    rintro e w2 ⟨rfl, hb2⟩
    rw [HC.out]
    have HB2 := Lib.hid (below_step HB1.out hb2)
    clear hb2 q0 q1 ql ql2
    unfold cval
    dsimp only
    go_wp2_with fail
    refine (visible_any t2 r2 v2 gn2 l2 _).mono ?_
    rintro e w3 ⟨rfl, hb3⟩
    have HB3 := Lib.hid (below_step HB2.out hb3)
    clear hb3
    rw [HV2.out]
    go_wp2
    go_ret
    exact ⟨ret_bool (by rw [HV2.out]; simp), HB3.out⟩
/-- rows, in memory of the call's own -/
def ListR (L : List R) (w : World) (e : Ending) (w' : World) : Prop :=
  ∃ v, e = .returned v ∧ w'.ownsRow w.heap.size rowT 7 v L.length (L.flatMap rcells) ∧ Below w.heap.size w w'
set_option maxRecDepth 100000 in
set_option maxHeartbeats 1000000 in
theorem shows_any (g bm : Nat) (L : List R) (w : World) (h : StI w g bm L) (hl : L.length ≤ 1000000) :
    Calls Tryd.prog 34 #[.pointer (some ⟨g, 0, none⟩)] w (ListR (showL L) w) := by
  have hbx := below_new w (.cells #[.pointer (some ⟨g, 0, none⟩)] ptrT)
  have HBX := Lib.hid hbx
  have HB := Lib.hid (Blk.new w ptrT #[.pointer (some ⟨g, 0, none⟩)])
  have H := Lib.hid (h.below hbx)
  have hgl := h.lt
  have hbl := h.ltm
  clear h hbx
  go_enter Tryd.func34, Tryd.ntmps34
  go_wp2_with fail
  refine (rows_any g bm L _ H.out hl).mono ?_
  rintro e w1 ⟨v, rfl, hv, hb1⟩
  have HB1 := Lib.hid (below_step HBX.out hb1)
  have hbk := HB.out.below hb1 (by simp)
  have h1 := H.out.below hb1
  rcases hv.2 with ⟨rfl, h0⟩ | ⟨gr, cap, cur, rfl, hbg, _⟩
  · have hL : L = [] := List.eq_nil_of_length_eq_zero h0
    subst hL
    have HR := Lib.hid (show ListR (showL []) w (.returned (.slice none 0 0)) w1 from ⟨_, rfl, ⟨rfl, .inl ⟨rfl, rfl⟩⟩, HB1.out⟩)
    clear hv hbk h1 hb1
    go_wp2_with fail
    refine (delete_nil _ _).mono ?_
    rintro e w2 ⟨rfl, rfl⟩
    go_wp2
    go_ret
    exact HR.out
  · simp at hbg
    have ht : Tells w.heap.size gr L (hide L) w1 := fun W hk x hx => closure_any w.heap.size g bm L x W (h1.keeps hk (by omega) (by omega)) (hbk.keeps hk (by omega)) (h1.ok x hx).1
    have HV := Lib.hid hv
    have HT := Lib.hid ht
    clear hv hbk h1 hb1 ht
    go_wp2_with fail
    refine (delete_rows _ w.heap.size gr L.length cap L (hide L) w1 rfl hl HV.out HT.out).mono ?_
    rintro e w2 ⟨m, rfl, ho, hk⟩
    have hm : m = (showL L).length := by
      have := ho.1
      rw [len_flat rcells rlen] at this
      unfold showL
      omega
    have HR := Lib.hid (show ListR (showL L) w (.returned (.slice (some ⟨gr, 0, none⟩) m cap)) w2 from ⟨_, rfl, by rw [← hm]; exact own_upR ho (by simp), below_keeps HB1.out (Nat.le_refl _) hk (fun i hi e => by omega)⟩)
    clear ho hk hm
    go_wp2
    go_ret
    exact HR.out
end Go.Proofs.YtgfamdakjcjdkaaDoor.store
