/- The laws' own awake; a store that isn't there. -/
import Derived.Test.YtgfamdakjcjdkaaDoorApplyS
namespace Go.Proofs.YtgfamdakjcjdkaaDoor.store
open Go Go.RowKit Go.Proofs.YtgfamdakjcjdkaaDoor.base Go.Proofs.YtgfamdakjcjdkaaDoor.map_ Go.Proofs.YtgfamdakjcjdkaaDoor.err Go.Proofs.YtgfamdakjcjdkaaDoor.cmp Go.Proofs.YtgfamdakjcjdkaaDoor.above Go.Proofs.YtgfamdakjcjdkaaDoor.law Go.Proofs.YtgfamdakjcjdkaaDoor.merge Go.Proofs.YtgfamdakjcjdkaaDoor.rows Go.Proofs.YtgfamdakjcjdkaaDoor.rowe Go.Maps Go.Proofs.YtgfamdakjcjdkaaDoor.monoj

theorem write_any (s k v : ByteArray) (t : Int) (w : World) : Calls Tryd.prog 15 #[.string s, .string k, .string v, .int .i64 t] w
    fun e w' => e = .returned (.agg (wcells 1 0 t 1 none 0 0 s k v false 0)) ∧ Below w.heap.size w w' := by
  go_enter Tryd.func15, Tryd.ntmps15
  go_wp2
  exact bodyPost_ret (v := .agg (wcells 1 0 t 1 none 0 0 s k v false 0)) (by simp [results, Tryd.results15, go_sem]) rfl ⟨rfl, below_new _ _⟩
/-! ### the example's rows -/
def s11 : ByteArray := ⟨#[49, 45, 49]⟩
def kA : ByteArray := ⟨#[97]⟩
def k0 : ByteArray := ⟨#[]⟩
def c1 : C := ⟨1, 1, ⟨#[97, 110, 110]⟩, false, 0⟩
def c2 : C := ⟨2, 1, ⟨#[120]⟩, false, 0⟩
def c3 : C := ⟨3, 1, ⟨#[]⟩, true, 0⟩
def L1 : List R := takeL [] (s11, k0) c1
def L2 : List R := takeL L1 (s11, kA) c2
def L3 : List R := takeL L2 (s11, k0) c3
theorem up1 : Rising L1 := rising_take rising_nil _ _
theorem up2 : Rising L2 := rising_take up1 _ _
theorem up3 : Rising L3 := rising_take up2 _ _
theorem k_ne : (s11, kA) ≠ (s11, k0) := by decide
theorem g1 (y : Nm) : getL L1 y = if y = (s11, k0) then some c1 else none := by
  unfold L1; rw [getL_take rising_nil]; rfl
theorem g2 (y : Nm) : getL L2 y = if y = (s11, kA) then some c2 else if y = (s11, k0) then some c1 else none := by
  unfold L2
  rw [getL_take up1, g1, g1, if_neg k_ne]; rfl
theorem g3 (y : Nm) : getL L3 y = if y = (s11, k0) then some c3 else if y = (s11, kA) then some c2 else none := by
  unfold L3
  rw [getL_take up2, g2, g2, if_neg (Ne.symm k_ne), if_pos rfl]
  have : takeC (some c1) c3 = c3 := by show (if above c3 c1 = true then c3 else c1) = c3; exact if_pos (by decide)
  rw [this]
  by_cases h : y = (s11, k0)
  · rw [if_pos h, if_pos h]
  · rw [if_neg h, if_neg h, if_neg h]
theorem a2h : atL L2 (s11, ⟨#[]⟩) = c1 := by show (getL L2 (s11, k0)).getD zeroC = c1; rw [g2, if_neg (Ne.symm k_ne), if_pos rfl]; rfl
theorem a2a : atL L2 (s11, kA) = c2 := by unfold atL; rw [g2, if_pos rfl]; rfl
theorem a3h : atL L3 (s11, ⟨#[]⟩) = c3 := by show (getL L3 (s11, k0)).getD zeroC = c3; rw [g3, if_pos rfl]; rfl
theorem a3a : atL L3 (s11, kA) = c2 := by unfold atL; rw [g3, if_neg k_ne, if_pos rfl]; rfl
theorem kA_empty : kA.toList.isEmpty = false := by rw [ByteArray.toList_eq]; rfl
theorem get2 : getC kA c1 c2 = 0 := by unfold getC; rw [kA_empty]; decide
theorem get3 : getC kA c3 c2 = 14 := by unfold getC; rw [kA_empty]; decide
set_option maxRecDepth 100000 in
set_option maxHeartbeats 4000000 in
theorem awake_any (w : World) : Calls Tryd.prog 4 #[] w fun e w' => e = .returned (.bool true) ∧ Below w.heap.size w w' := by
  go_enter Tryd.func4, Tryd.ntmps4
  go_wp2_with fail
  refine (new_any w).mono ?_
  rintro e w1 ⟨rfl, h1, hb1⟩
  have H1 := Lib.hid h1
  have HB1 := Lib.hid hb1
  clear h1 hb1
  go_wp2_with fail
  refine (write_any _ _ _ _ _).mono ?_
  rintro e w2 ⟨rfl, hb2⟩
  have H2 := Lib.hid (H1.out.below hb2)
  have HB2 := Lib.hid (below_step HB1.out hb2)
  clear hb2 H1 HB1
  go_wp2_with fail
  refine (apply_any _ _ _ 1 0 1 1 none 0 0 s11 k0 ⟨#[97, 110, 110]⟩ false 0 w2 H2.out (by decide) (by decide)).mono ?_
  rintro e w3 ⟨rfl, h3, hk3⟩
  have H3 := Lib.hid (show StI w3 (w.heap.size + 1) w.heap.size L1 from h3)
  have HB3 := Lib.hid (HB2.out.trans (hk3.below (B := w.heap.size) (fun i hi e => by omega) HB2.out.size))
  clear h3 hk3 H2 HB2
  go_wp2_with fail
  refine (write_any _ _ _ _ _).mono ?_
  rintro e w4 ⟨rfl, hb4⟩
  have H4 := Lib.hid (H3.out.below hb4)
  have HB4 := Lib.hid (below_step HB3.out hb4)
  clear hb4 H3 HB3
  go_wp2_with fail
  refine (apply_any _ _ _ 1 0 2 1 none 0 0 s11 kA ⟨#[120]⟩ false 0 w4 H4.out (by decide) (by decide)).mono ?_
  rintro e w5 ⟨rfl, h5, hk5⟩
  have H5 := Lib.hid (show StI w5 (w.heap.size + 1) w.heap.size L2 from h5)
  have HB5 := Lib.hid (HB4.out.trans (hk5.below (B := w.heap.size) (fun i hi e => by omega) HB4.out.size))
  clear h5 hk5 H4 HB4
  go_wp2_with fail
  refine (get_any _ _ _ s11 kA w5 H5.out (by decide) (by decide) c1 c2 a2h a2a).mono ?_
  unfold GetR GetK
  rw [get2]
  rintro e w6 ⟨er, rfl, heo, hb6⟩
  obtain rfl : er = .nilIface := by
    rcases heo with ⟨_, h⟩ | ⟨h, _⟩
    · exact h
    · exact absurd rfl h
  rw [if_pos rfl, show c2.v = ⟨#[120]⟩ from rfl]
  have H6 := Lib.hid (H5.out.below hb6)
  have HB6 := Lib.hid (below_step HB5.out hb6)
  clear hb6 heo H5 HB5
  go_wp2_with fail
  refine (write_any _ _ _ _ _).mono ?_
  rintro e w7 ⟨rfl, hb7⟩
  have H7 := Lib.hid (H6.out.below hb7)
  have HB7 := Lib.hid (below_step HB6.out hb7)
  clear hb7 H6 HB6
  go_wp2_with fail
  have hz7 := H7.out.lt
  have hk7 : Keeps (fun i => w7.heap.size ≤ i) w7 (w7.alloc (.cells (wcells 1 0 3 1 none 0 0 s11 k0 ⟨#[]⟩ true 0) 28)) := Keeps.alloc _
  refine (apply_any (w.heap.size + 1) w.heap.size L2 1 0 3 1 none 0 0 s11 k0 ⟨#[]⟩ true 0 (w7.alloc (.cells (wcells 1 0 3 1 none 0 0 s11 k0 ⟨#[]⟩ true 0) 28)) (H7.out.keeps hk7 (by omega) (by omega)) (by decide) (by decide)).mono ?_
  rintro e w8 ⟨rfl, h8, hk8⟩
  have H8 := Lib.hid (show StI w8 (w.heap.size + 1) w.heap.size L3 from h8)
  have hk78 : Keeps (fun i => w7.heap.size ≤ i ∨ i = w.heap.size) w7 w8 := (hk7.more fun i _ hi => Or.inl hi).trans (hk8.more fun i _ hi => Or.inr hi)
  have HB8 := Lib.hid (HB7.out.trans (hk78.below (B := w.heap.size) (fun i hi e => by rcases e with e | e <;> omega) (by omega)))
  clear h8 hk8 H7 HB7 hk78 hk7
  go_wp2_with fail
  refine (get_any _ _ _ s11 kA w8 H8.out (by decide) (by decide) c3 c2 a3h a3a).mono ?_
  unfold GetR GetK
  rw [get3]
  rintro e w9 ⟨er, rfl, heo, hb9⟩
  rw [if_neg (by decide)]
  have HEO := Lib.hid heo
  obtain ⟨ge, hge⟩ := heo.form (by decide)
  subst hge
  have HB9 := Lib.hid (below_step HB8.out hb9)
  clear hb9 heo H8 HB8
  go_wp2_with fail
  refine (is_eo _ 14 14 w9 HEO.out).mono ?_
  rintro e w10 ⟨rfl, rfl⟩
  go_wp2
  go_ret
  exact ⟨rfl, HB9.out⟩
end Go.Proofs.YtgfamdakjcjdkaaDoor.store
