/- wire's EncodeWrite: an error, or none: whether the write is right. -/
import Derived.Test.YtedkcpncomgboaaEnc
import Derived.Test.YtedkcpncomgboaaRight
namespace Go.Proofs.Ytedkcpncomgboaa.wire
open Go.RowKit Go.Proofs.Ytedkcpncomgboaa.base Go.Proofs.Ytedkcpncomgboaa.rowe Go.Proofs.Ytedkcpncomgboaa.err

theorem Nums.alloc' {w : World} {B : Nat} {d : Value} {zs : List Int} (h : Nums w B d zs) (o : Obj) (hB : B ≤ w.heap.size) : Nums (w.alloc o) B d zs := h.below ((Below.refl _ _).alloc hB o)
def EncR (x : Wr) (w : World) (e : Ending) (w' : World) : Prop :=
  (∃ s v, e = .returned (.tuple #[.string s, v]) ∧ ((rightB x = true ∧ v = .nilIface) ∨ (rightB x = false ∧ ∃ ge, v = .iface 96 (.pointer (some ⟨ge, 0, none⟩))))) ∧ Below w.heap.size w w'
structure RightP (x : Wr) : Prop where
  r0 : 1 ≤ x.r
  r1 : x.r ≤ 16
  n0 : 1 ≤ x.n
  n1 : x.n ≤ 1099511627776
  sr : x.s = x.r
  t0 : 1 ≤ x.t
  t1 : x.t ≤ 1099511627776
  z : trB x.z 1099511627776 = true
  se1 : x.se.size ≤ 64
  k1 : x.k.size ≤ 32
  v1 : x.v.size ≤ 128
  l0 : 0 ≤ x.l
  l1 : x.l ≤ 1099511627776
theorem right_parts {x : Wr} (h : rightB x = true) : RightP x := by
  unfold rightB inB at h
  simp only [Bool.and_eq_true, decide_eq_true_eq, beq_iff_eq] at h
  obtain ⟨h1, h2, ⟨h3, h4⟩, h5, ⟨h6, h7⟩, h8, h9, h10, h11, h12, h13, h14, h15⟩ := h
  exact ⟨h1, h2, h3, h4, h5, h6, h7, h8, by omega, by omega, by omega, h14, h15⟩
set_option maxRecDepth 100000 in
set_option maxHeartbeats 2000000 in
theorem encode_any (x : Wr) (w : World) (hd : Nums w w.heap.size x.d x.z) :
    Calls Try.prog 33 #[.agg ⟨x.cells⟩] w (EncR x w) := by
  have hx0 := (Blk.new w 35 x.cells.toArray)
  have hd2 : Nums (w.alloc (.cells x.cells.toArray 35)) (w.alloc (.cells x.cells.toArray 35)).heap.size x.d x.z := (hd.below (below_new _ _)).more (by simp)
  have hdg := Lib.hid (hd.below (below_new w (.cells x.cells.toArray 35)))
  have hb0 := below_new w (.cells x.cells.toArray 35)
  clear hd
  have HX0 := Lib.hid hx0
  have HD2 := Lib.hid hd2
  have HB0 := Lib.hid hb0
  clear hx0 hd2 hb0
  by_cases hrt : rightB x = true
  · have hp := right_parts hrt
    obtain ⟨r, n, t, s, d, zs, se, k, v, g, l⟩ := x
    obtain ⟨r0, r1, n0, n1, sr, t0, t1, z0, se1, k1, v1, l0, l1⟩ := hp
    dsimp only at r0 r1 n0 n1 sr t0 t1 z0 se1 k1 v1 l0 l1
    obtain ⟨r, rfl⟩ := Int.eq_ofNat_of_zero_le (show 0 ≤ r by omega)
    obtain ⟨n, rfl⟩ := Int.eq_ofNat_of_zero_le (show 0 ≤ n by omega)
    obtain ⟨t, rfl⟩ := Int.eq_ofNat_of_zero_le (show 0 ≤ t by omega)
    obtain ⟨l, rfl⟩ := Int.eq_ofNat_of_zero_le (show 0 ≤ l by omega)
    have Hrt := Lib.hid hrt
    have Z0 := Lib.hid z0
    clear hrt z0 sr
    unfold Wr.cells at *
    dsimp only at *
    go_enter Try.func33, Try.ntmps33
    go_wp2_with fail
    refine (right_any ⟨r, n, t, s, d, zs, se, k, v, g, l⟩ _ HD2.out).mono ?_
    rintro e w1 ⟨rfl, hb1⟩
    rw [Hrt.out]
    have hx := HX0.out.below hb1 (by simp)
    have hbb := HB0.out.trans (hb1.mono (by simp))
    have hlt1 : w.heap.size < w1.heap.size := hx.lt
    have Hdg := Lib.hid (hdg.out.below (hb1.mono (by simp)))
    have Hdg0 := Hdg
    have HX := Lib.hid (hx.alloc (.cells #[.slice none 0 0, .nilIface] 101))
    have HB := Lib.hid (hbb.alloc (by omega) (.cells #[.slice none 0 0, .nilIface] 101))
    have HO := Lib.hid (show OutS (w1.alloc (.cells #[.slice none 0 0, .nilIface] 101)) w1.heap.size 0 from ⟨_, Blk.new w1 101 _, Row8.none _ _⟩)
    have c0 : w1.cell? ⟨w.heap.size, 0, none⟩ = _ := hx.cell 0
    simp at c0
    clear hx hbb hb1 HX0 HD2 HB0 hdg
    go_wp2_with fail
    clear Hdg
    have Hdg := Lib.hid (Hdg0.out.alloc' (.cells #[.slice none 0 0, .nilIface] 101) (Nat.le_of_lt hlt1))
    refine (num_any w1.heap.size 0 r _ HO.out (by omega) (by omega)).mono ?_
    rintro e w2 ⟨rfl, ⟨q2, hloq2, hhiq2, ho⟩, hb⟩
    have hx := HX.out.below hb hlt1
    have hbb := HB.out.trans (hb.mono (Nat.le_of_lt hlt1))
    have hdg := Hdg.out.below (hb.mono (Nat.le_of_lt hlt1))
    clear HX HB HO Hdg c0
    have HX := Lib.hid hx
    have HB := Lib.hid hbb
    have HO := Lib.hid ho
    have Hdg := Lib.hid hdg
    have c0 : (w2).cell? ⟨w.heap.size, 1, none⟩ = _ := hx.cell 1
    simp at c0
    clear hx hbb ho hb hdg
    go_wp2_with fail
    refine (num_any w1.heap.size q2 n _ HO.out (by omega) (by omega)).mono ?_
    rintro e w3 ⟨rfl, ⟨q3, hloq3, hhiq3, ho⟩, hb⟩
    have hx := HX.out.below hb hlt1
    have hbb := HB.out.trans (hb.mono (Nat.le_of_lt hlt1))
    have hdg := Hdg.out.below (hb.mono (Nat.le_of_lt hlt1))
    clear HX HB HO Hdg c0
    have HX := Lib.hid hx
    have HB := Lib.hid hbb
    have HO := Lib.hid ho
    have Hdg := Lib.hid hdg
    have c0 : (w3).cell? ⟨w.heap.size, 2, none⟩ = _ := hx.cell 2
    simp at c0
    clear hx hbb ho hb hdg
    go_wp2_with fail
    refine (num_any w1.heap.size q3 t _ HO.out (by omega) (by omega)).mono ?_
    rintro e w4 ⟨rfl, ⟨q4, hloq4, hhiq4, ho⟩, hb⟩
    have hx := HX.out.below hb hlt1
    have hbb := HB.out.trans (hb.mono (Nat.le_of_lt hlt1))
    have hdg := Hdg.out.below (hb.mono (Nat.le_of_lt hlt1))
    clear HX HB HO Hdg c0
    have HX := Lib.hid hx
    have HB := Lib.hid hbb
    have HO := Lib.hid ho
    have Hdg := Lib.hid hdg
    have c0 : (w4).cell? ⟨w.heap.size, 4, none⟩ = _ := hx.cell 4
    simp at c0
    clear hx hbb ho hb hdg
    go_wp2_with fail
    refine (vec_any w1.heap.size q4 d zs _ HO.out (Hdg.out.more (by omega)) Z0.out (by omega)).mono ?_
    rintro e w5 ⟨rfl, ⟨q5, hloq5, hhiq5, ho⟩, hb⟩
    have hx := HX.out.below hb hlt1
    have hbb := HB.out.trans (hb.mono (Nat.le_of_lt hlt1))
    have hdg := Hdg.out.below (hb.mono (Nat.le_of_lt hlt1))
    clear HX HB HO Hdg c0
    have HX := Lib.hid hx
    have HB := Lib.hid hbb
    have HO := Lib.hid ho
    have Hdg := Lib.hid hdg
    have c0 : (w5).cell? ⟨w.heap.size, 5, none⟩ = _ := hx.cell 5
    simp at c0
    clear hx hbb ho hb hdg
    go_wp2_with fail
    refine (text_any w1.heap.size q5 se _ HO.out (by omega) (by omega)).mono ?_
    rintro e w6 ⟨rfl, ⟨q6, hloq6, hhiq6, ho⟩, hb⟩
    have hx := HX.out.below hb hlt1
    have hbb := HB.out.trans (hb.mono (Nat.le_of_lt hlt1))
    have hdg := Hdg.out.below (hb.mono (Nat.le_of_lt hlt1))
    clear HX HB HO Hdg c0
    have HX := Lib.hid hx
    have HB := Lib.hid hbb
    have HO := Lib.hid ho
    have Hdg := Lib.hid hdg
    have c0 : (w6).cell? ⟨w.heap.size, 6, none⟩ = _ := hx.cell 6
    simp at c0
    clear hx hbb ho hb hdg
    go_wp2_with fail
    refine (text_any w1.heap.size q6 k _ HO.out (by omega) (by omega)).mono ?_
    rintro e w7 ⟨rfl, ⟨q7, hloq7, hhiq7, ho⟩, hb⟩
    have hx := HX.out.below hb hlt1
    have hbb := HB.out.trans (hb.mono (Nat.le_of_lt hlt1))
    have hdg := Hdg.out.below (hb.mono (Nat.le_of_lt hlt1))
    clear HX HB HO Hdg c0
    have HX := Lib.hid hx
    have HB := Lib.hid hbb
    have HO := Lib.hid ho
    have Hdg := Lib.hid hdg
    have c0 : (w7).cell? ⟨w.heap.size, 8, none⟩ = _ := hx.cell 8
    simp at c0
    clear hx hbb ho hb hdg
    go_wp2_with fail
    refine (flag_any w1.heap.size q7 g _ HO.out (by omega)).mono ?_
    rintro e w8 ⟨rfl, ⟨q8, hloq8, hhiq8, ho⟩, hb⟩
    have hx := HX.out.below hb hlt1
    have hbb := HB.out.trans (hb.mono (Nat.le_of_lt hlt1))
    have hdg := Hdg.out.below (hb.mono (Nat.le_of_lt hlt1))
    clear HX HB HO Hdg c0
    have HX := Lib.hid hx
    have HB := Lib.hid hbb
    have HO := Lib.hid ho
    have Hdg := Lib.hid hdg
    have c0 : (w8).cell? ⟨w.heap.size, 7, none⟩ = _ := hx.cell 7
    simp at c0
    clear hx hbb ho hb hdg
    go_wp2_with fail
    refine (text_any w1.heap.size q8 v _ HO.out (by omega) (by omega)).mono ?_
    rintro e w9 ⟨rfl, ⟨q9, hloq9, hhiq9, ho⟩, hb⟩
    have hx := HX.out.below hb hlt1
    have hbb := HB.out.trans (hb.mono (Nat.le_of_lt hlt1))
    have hdg := Hdg.out.below (hb.mono (Nat.le_of_lt hlt1))
    clear HX HB HO Hdg c0
    have HX := Lib.hid hx
    have HB := Lib.hid hbb
    have HO := Lib.hid ho
    have Hdg := Lib.hid hdg
    have c0 : (w9).cell? ⟨w.heap.size, 9, none⟩ = _ := hx.cell 9
    simp at c0
    clear hx hbb ho hb hdg
    go_wp2_with fail
    refine (num_any w1.heap.size q9 l _ HO.out (by omega) (by omega)).mono ?_
    rintro e w10 ⟨rfl, ⟨q10, hloq10, hhiq10, ho⟩, hb⟩
    have hx := HX.out.below hb hlt1
    have hbb := HB.out.trans (hb.mono (Nat.le_of_lt hlt1))
    have hdg := Hdg.out.below (hb.mono (Nat.le_of_lt hlt1))
    clear HX HB HO Hdg c0
    have HX := Lib.hid hx
    have HB := Lib.hid hbb
    have HO := Lib.hid ho
    have Hdg := Lib.hid hdg
    have c0 : (w10).cell? ⟨w.heap.size, 0, none⟩ = _ := hx.cell 0
    simp at c0
    clear hx hbb ho hb hdg
    go_wp2_with fail
    refine (done_any w1.heap.size q10 _ HO.out).mono ?_
    rintro e w11 ⟨⟨sb, rfl⟩, hb⟩
    have HR := Lib.hid (show EncR ⟨r, n, t, s, d, zs, se, k, v, g, l⟩ w (.returned (.tuple #[.string sb, .nilIface])) w11 from ⟨⟨sb, _, rfl, .inl ⟨Hrt.out, rfl⟩⟩, HB.out.trans (hb.mono HB.out.size)⟩)
    clear hb
    go_wp2
    exact bodyPost_ret (v := .tuple #[.string sb, .nilIface]) (by simp [results, Try.results33, go_sem]) rfl HR.out
  · have hrt : rightB x = false := by simpa using hrt
    obtain ⟨r, n, t, s, d, zs, se, k, v, g, l⟩ := x
    have Hrt := Lib.hid hrt
    clear hrt
    unfold Wr.cells at *
    dsimp only at *
    go_enter Try.func33, Try.ntmps33
    go_wp2_with fail
    refine (right_any ⟨r, n, t, s, d, zs, se, k, v, g, l⟩ _ HD2.out).mono ?_
    rintro e w1 ⟨rfl, hb1⟩
    rw [Hrt.out]
    have HB := Lib.hid (HB0.out.trans (hb1.mono (by simp)))
    clear hb1
    go_wp2_with fail
    refine (Go.Proofs.Ytedkcpncomgboaa.err.at_any _ _ _ _).mono ?_
    rintro e w2 ⟨ve, rfl, he, hne, hb2, _⟩
    have HR := Lib.hid (show EncR ⟨r, n, t, s, d, zs, se, k, v, g, l⟩ w (.returned (.tuple #[.string ⟨#[]⟩, ve])) w2 from ⟨⟨_, _, rfl, .inr ⟨Hrt.out, he.form⟩⟩, HB.out.trans (hb2.mono HB.out.size)⟩)
    clear he hne hb2
    go_wp2
    exact bodyPost_ret (v := .tuple #[.string ⟨#[]⟩, ve]) (by simp [results, Try.results33, go_sem]) rfl HR.out
end Go.Proofs.Ytedkcpncomgboaa.wire
