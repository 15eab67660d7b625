/- The walk of the law NetCuts. -/
import Derived.Test.YtempojdgbgaanaaOwn
import Derived.Test.YtempojdgbgaanaaArgs
import Derived.LoopTactic
import Derived.LoopN
namespace Go.Proofs.Ytempojdgbgaanaa.wNetCuts
open Go.RowKit Go.Proofs.Ytempojdgbgaanaa.base Go.Proofs.Ytempojdgbgaanaa.net Go.Proofs.Ytempojdgbgaanaa.state Go.Proofs.Ytempojdgbgaanaa.at_ Go.Proofs.Ytempojdgbgaanaa.send Go.Proofs.Ytempojdgbgaanaa.take Go.Proofs.Ytempojdgbgaanaa.cut Go.Proofs.Ytempojdgbgaanaa.all_ Go.Proofs.Ytempojdgbgaanaa.awake Go.Proofs.Ytempojdgbgaanaa.own Go.Proofs.Ytempojdgbgaanaa.args

def E0 : W2 → List ByteArray := fun _ => []
def Z0 : W2 → Bool := fun _ => false
theorem isW_sym (n a b : Int) : isW n b a = isW n a b := by
  unfold isW
  apply decide_eq_decide.2
  omega
theorem upd_same {α : Type} (F : W2 → α) (x : W2) (v : α) : upd F x v x = v := by simp [upd]
theorem upd_upd {α : Type} (F : W2 → α) (x : W2) (u v : α) : upd (upd F x u) x v = upd F x v := by
  funext y
  simp only [upd]
  split <;> rfl
theorem cut_on {n a b : Int} (h : isW n a b = true) : cutC n b a Z0 (a, b) = true := by
  unfold cutC
  rw [isW_sym, h, if_pos rfl, upd_same]
theorem join_off (n a b : Int) : joinC n a b (cutC n b a Z0) (a, b) = false := by
  unfold joinC
  cases h : isW n a b
  · rw [if_neg (by simp)]
    unfold cutC
    rw [isW_sym, h, if_neg (by simp)]
    rfl
  · rw [if_pos rfl]
    by_cases he : (a, b) = (b, a)
    · rw [← he, upd_same]
    · simp only [upd, if_neg he]
      rfl
theorem late (n a b : Int) (F : W2 → List ByteArray) : sendB n F (cutC n b a Z0) (a, b) = false ∧ takeB n F (cutC n b a Z0) (a, b) = false := by
  cases h : isW n a b
  · simp [sendB, takeB, atOk, h]
  · simp [sendB, takeB, atOk, h, cut_on h]
theorem sum_zero {F : W2 → List ByteArray} (h : ∀ x, F x = []) (l : List W2) : sumB F l = 0 := by
  induction l with
  | nil => rfl
  | cons x l ih => simp [sumB, h x] at ih ⊢; simpa [sumB] using ih
/-- How many of i texts a bag takes. -/
def took (n a b : Int) (i : Nat) : Nat := if isW n a b then min i 64 else 0
theorem took_le (n a b : Int) (i : Nat) : took n a b i ≤ i ∧ took n a b i ≤ 64 := by unfold took; split <;> omega
theorem send_one (n a b : Int) (l : List ByteArray) {i : Nat} {s : ByteArray} (hs : l[i]? = some s) :
    sendB n (upd E0 (a, b) (l.take (took n a b i))) Z0 (a, b) = decide (took n a b (i + 1) = took n a b i + 1) ∧
    sendF n (upd E0 (a, b) (l.take (took n a b i))) Z0 (a, b) s = upd E0 (a, b) (l.take (took n a b (i + 1))) ∧ (took n a b (i + 1) = took n a b i + 1 ∨ took n a b (i + 1) = took n a b i) := by
  have hi : i < l.length := (List.getElem?_eq_some_iff.1 hs).1
  have h1 : sendB n (upd E0 (a, b) (l.take (took n a b i))) Z0 (a, b) = decide (took n a b (i + 1) = took n a b i + 1) := by
    unfold sendB took Z0
    rw [upd_same]
    cases h : isW n a b
    · simp
    · simp only [if_pos, List.length_take, Bool.not_false, Bool.and_true, Bool.true_and]
      apply decide_eq_decide.2
      omega
  refine ⟨h1, ?_, ?_⟩
  · unfold sendF
    rw [h1, upd_same, upd_upd]
    by_cases h : took n a b (i + 1) = took n a b i + 1
    · rw [if_pos (by simp [h]), h]
      have hti : took n a b i = i := by
        unfold took at h ⊢
        cases hw : isW n a b
        · rw [hw] at h; simp at h
        · rw [hw] at h; simp at h ⊢; omega
      rw [hti, List.take_add_one, hs]
      rfl
    · rw [if_neg (by simp [h])]
      have hti : took n a b (i + 1) = took n a b i := by
        unfold took at h ⊢
        split <;> simp_all <;> omega
      rw [hti]
  · unfold took
    split <;> omega
theorem take_one (n a b : Int) (l : List ByteArray) (C : W2 → Bool) (hC : C (a, b) = false) {i j : Nat} {s : ByteArray} (hj : j < took n a b i) (hs : l[j]? = some s) :
    takeB n (upd E0 (a, b) ((l.take (took n a b i)).drop j)) C (a, b) = true ∧ msg (upd E0 (a, b) ((l.take (took n a b i)).drop j)) (a, b) 0 = s ∧
    takeF n (upd E0 (a, b) ((l.take (took n a b i)).drop j)) C (a, b) 0 = upd E0 (a, b) ((l.take (took n a b i)).drop (j + 1)) := by
  have hl : j < l.length := (List.getElem?_eq_some_iff.1 hs).1
  have hw : isW n a b = true := by
    unfold took at hj
    cases h : isW n a b
    · rw [h] at hj; simp at hj
    · rfl
  have hd : (l.take (took n a b i)).drop j = s :: (l.take (took n a b i)).drop (j + 1) := by
    rw [List.drop_eq_getElem_cons (by simp; omega)]
    congr 1
    have := (List.getElem?_eq_some_iff.1 hs).2
    simp [this]
  generalize (l.take (took n a b i)).drop (j + 1) = q at *
  rw [hd]
  have h1 : takeB n (upd E0 (a, b) (s :: q)) C (a, b) = true := by simp [takeB, atOk, hw, hC, upd_same]
  refine ⟨h1, ?_, ?_⟩
  · unfold msg
    rw [upd_same]
    simp [idx]
  · unfold takeF
    rw [if_pos h1, upd_same, upd_upd]
    simp [idx]
theorem wrap_t (t : Nat) (h : t ≤ 64) : Value.int .i64 (wrap64 ((t : Int) + 1)) = .int .i64 ((t + 1 : Nat) : Int) := by
  have e : wrap64 ((t : Int) + 1) = ((t + 1 : Nat) : Int) := by
    simp only [wrap64]
    omega
  rw [e]
set_option maxRecDepth 100000 in
set_option maxHeartbeats 3200000 in
theorem walk (v0 : Value) (v1 : Value) (v2 : Value) (w : World) (a0 : Arg Try.prog w 3 v0) (a1 : Arg Try.prog w 3 v1) (a2 : Arg Try.prog w 37 v2) :
    Calls Try.prog 4 #[v0, v1, v2] w fun e w' => e = .returned (.bool true) ∧ Below w.heap.size w w' := by
  obtain ⟨a, rfl, ha⟩ := a0.int Try.underlying3
  obtain ⟨b, rfl, hb⟩ := a1.int Try.underlying3
  obtain ⟨A, len, cap, l, rfl, hT⟩ := txs_arg a2
  have hok : okW (a, b) := ⟨ha, hb⟩
  have hok2 : okW (b, a) := ⟨hb, ha⟩
  have hlc := hT.2.1
  have hcm := hT.2.2.1
  unfold maxLen at hcm
  clear a0 a1 a2 ha hb
  have HT := Lib.hid hT
  have Hok := Lib.hid hok
  have Hok2 := Lib.hid hok2
  clear hT hok hok2
  go_enter Try.func4, Try.ntmps4
  go_wp2_with fail
  refine (awake_yes _).mono ?_
  rintro e w1 ⟨rfl, hb1⟩
  have Hb1 := Lib.hid hb1
  clear hb1
  go_wp2_with fail
  refine (new_o 16 _ (by omega) (by omega)).mono ?_
  rintro e w2 ⟨g, bb, cb, rfl, h2, hb2⟩
  have H2 := Lib.hid h2
  have Hb2 := Lib.hid (below_step Hb1.out hb2)
  clear h2 hb2
  go_wp2
  go_loopw [9, 10] (fun cn ci wr => ∃ i : Nat, i ≤ len ∧ i ≤ 70 ∧ ci = .int .i64 i ∧ cn = .int .i64 (took 16 a b i : Nat) ∧ ∃ S, NetO wr w1.heap.size S g bb cb i 16 (upd E0 (a, b) (l.take (took 16 a b i))) Z0 ∧ Below w.heap.size w wr) (fun _ ci _ => 70 - (intOf ci).toNat)
  case atStart => exact ⟨0, by omega, by omega, rfl, by simp [took], nobody, by have e0 : upd E0 (a, b) (l.take (took 16 a b 0)) = E0 := (by have := took_le 16 a b 0; rw [show took 16 a b 0 = 0 by omega]; funext y; simp only [upd]; split <;> rfl); rw [e0]; exact H2.out, Hb2.out⟩
  case round =>
    obtain ⟨i, hi, hi7, rfl, rfl, S, hN, hbw⟩ := hrel
    have h7' : decide ((i : Int) < 70) = decide (i < 70) := decide_eq_decide.2 (by omega)
    have hl' : decide ((i : Int) < (len : Int)) = decide (i < len) := decide_eq_decide.2 (by omega)
    by_cases hlt : i < len
    · by_cases h7 : i < 70
      · obtain ⟨ob, off, rfl, hob⟩ := HT.out.at_some (by omega)
        obtain ⟨s, hs⟩ := HT.out.get hlt
        have hc := (HT.out.below hbw).cell hlt hs
        have hob2 : ob < wr.heap.size := by have := hbw.size; omega
        obtain ⟨e1, e2, e3⟩ := send_one 16 a b l hs
        have E2 := Lib.hid e2
        have E3 := Lib.hid e3
        have HN := Lib.hid hN
        have Hbw := Lib.hid hbw
        clear hN hbw
        clear e2 e3 hs
        go_wp2_with fail
        refine (send_o w1.heap.size S g bb cb i 16 a b _ _ s wr HN.out Hok.out (by omega)).mono ?_
        rintro e w3 ⟨rfl, h3⟩
        rw [E2.out] at h3
        rw [e1]
        have hbw3 := Hbw.out.trans ((NetR.below HN.out h3).mono Hb1.out.size)
        have H3 := Lib.hid h3
        have Hbw3 := Lib.hid hbw3
        clear hbw3
        clear h3 e1
        rcases E3.out with h | h
        · have hd : decide (took 16 a b (i + 1) = took 16 a b i + 1) = true := by simp [h]
          have HH := Lib.hid h
          clear h
          rw [hd]
          go_wp2
          go_roundw
          case rel =>
            obtain ⟨S', hN', _⟩ := H3.out
            exact ⟨i + 1, by omega, by omega, by go_num, by rw [HH.out]; have ht := (took_le 16 a b i).2; clear HH; generalize took 16 a b i = t at ht ⊢; exact wrap_t t ht, S', hN', Hbw3.out⟩
          case measure => simp [intOf]; omega
        · have hd : decide (took 16 a b (i + 1) = took 16 a b i + 1) = false := by simp; omega
          have HH := Lib.hid h
          clear h
          rw [hd]
          go_wp2
          go_roundw
          case rel =>
            obtain ⟨S', hN', _⟩ := H3.out
            exact ⟨i + 1, by omega, by omega, by go_num, by rw [HH.out], S', hN', Hbw3.out⟩
          case measure => simp [intOf]; omega
      · skip
        have hm := took_le 16 a b i
        have hlate := late 16 a b (upd E0 (a, b) (l.take (took 16 a b i)))
        have hjo := join_off 16 a b
        have hFm : (upd E0 (a, b) (l.take (took 16 a b i)) (a, b)).length = took 16 a b i := by rw [upd_same, List.length_take, HT.out.1]; omega
        have Hone := Lib.hid (fun (C : W2 → Bool) (hC : C (a, b) = false) (j : Nat) (s : ByteArray) => take_one 16 a b l C hC (i := i) (j := j) (s := s))
        have Hjo := Lib.hid hjo
        have Hl1 := Lib.hid hlate.1
        have Hl2 := Lib.hid hlate.2
        have HFm := Lib.hid hFm
        have hi64 := hm.2
        have hml : took 16 a b i ≤ len := by omega
        have HN := Lib.hid hN
        have Hbw := Lib.hid hbw
        clear hN hbw
        clear hm hlate hjo hFm
        generalize took 16 a b i = m at *
        have hFd : upd E0 (a, b) (l.take m) = upd E0 (a, b) ((l.take m).drop 0) := rfl
        rw [hFd] at HN HFm Hl1 Hl2
        clear hFd
        go_wp2_with fail
        refine (cut_o w1.heap.size S g bb cb i 16 b a _ _ wr HN.out Hok2.out (by omega)).mono ?_
        rintro e w3 ⟨rfl, h3⟩
        have Hb3 := Lib.hid (Hbw.out.trans ((NetR.below HN.out h3).mono Hb1.out.size))
        obtain ⟨S3, h3, _⟩ := h3
        have H3 := Lib.hid h3
        clear h3
        go_wp2_with fail
        refine (send_o w1.heap.size S3 g bb cb (i + 2) 16 a b _ _ _ w3 H3.out Hok.out (by omega)).mono ?_
        rintro e w4 ⟨rfl, h4⟩
        have Hb4 := Lib.hid (Hb3.out.trans ((NetR.below H3.out h4).mono Hb1.out.size))
        obtain ⟨S4, h4, _⟩ := h4
        unfold sendF at h4
        rw [Hl1.out] at h4 ⊢
        rw [if_neg (by simp)] at h4
        have H4 := Lib.hid h4
        clear h4
        go_wp2_with fail
        refine (count_o w1.heap.size S4 g bb cb (i + 3) 16 a b _ _ w4 H4.out Hok.out).mono ?_
        rintro e w5 ⟨rfl, rfl⟩
        rw [HFm.out]
        go_wp2_with fail
        refine (take_o w1.heap.size S4 g bb cb (i + 3) 16 a b 0 _ _ _ H4.out Hok.out).mono ?_
        rintro e w6 ⟨rfl, h6⟩
        have Hb6 := Lib.hid (Hb4.out.trans ((NetR.below H4.out h6).mono Hb1.out.size))
        obtain ⟨S6, h6, _⟩ := h6
        unfold takeF at h6
        rw [Hl2.out] at h6 ⊢
        rw [if_neg (by simp)] at h6 ⊢
        have H6 := Lib.hid h6
        clear h6
        have hmod : (m : Int).tmod 2 = ((m % 2 : Nat) : Int) := by rw [Int.tmod_eq_emod_of_nonneg (by omega)]; rfl
        have hmc : m % 2 = 0 ∨ m % 2 = 1 := by omega
        rcases hmc with hmc | hmc
        · rw [hmc] at hmod
          have hmod : (m : Int).tmod 2 = 0 := hmod
          go_wp2_with fail
          refine (heal_o w1.heap.size S6 g bb cb (i + 4) 16 _ _ w6 H6.out).mono ?_
          rintro e w7 ⟨rfl, h7⟩
          have Hb7 := Lib.hid (Hb6.out.trans ((NetR.below H6.out h7).mono Hb1.out.size))
          obtain ⟨S7, h7, _⟩ := h7
          generalize hC : (fun _ : W2 => false) = C7 at h7
          have hC7 : C7 (a, b) = false := by rw [← hC]
          clear hC
          have H7 := Lib.hid h7
          have HC7 := Lib.hid hC7
          clear h7 hC7
          go_wp2
          go_loopw [13, 14, 15] (fun cj _ _ wr => ∃ j : Nat, j ≤ m ∧ cj = .int .i64 j ∧ ∃ S, NetO wr w1.heap.size S g bb cb (i + 4 + j) 16 (upd E0 (a, b) ((l.take m).drop j)) C7 ∧ Below w.heap.size w wr) (fun cj _ _ _ => m - (intOf cj).toNat)
          case atStart => exact ⟨0, by omega, rfl, S7, H7.out, Hb7.out⟩
          case round =>
            obtain ⟨j, hj, rfl, S, hN, hbw⟩ := hrel
            have hj' : decide ((j : Int) < (m : Int)) = decide (j < m) := decide_eq_decide.2 (by omega)
            by_cases hjm : j < m
            · obtain ⟨ob, off, rfl, hob⟩ := HT.out.at_some (by omega)
              obtain ⟨s, hs⟩ := HT.out.get (show j < len by omega)
              obtain ⟨o1, o2, o3⟩ := Hone.out _ HC7.out j s hjm hs
              have O3 := Lib.hid o3
              have HN := Lib.hid hN
              have Hbw := Lib.hid hbw
              clear hN hbw
              go_wp2_with fail
              refine (take_o w1.heap.size S g bb cb (i + 4 + j) 16 a b 0 _ _ wr HN.out Hok.out).mono ?_
              rintro e w8 ⟨rfl, h8⟩
              rw [O3.out] at h8
              rw [o1, if_pos rfl, o2]
              have hb8 := Hbw.out.trans ((NetR.below HN.out h8).mono Hb1.out.size)
              have hc := (HT.out.below hb8).cell (show j < len by omega) hs
              have hob2 : ob < w8.heap.size := by have := hb8.size; omega
              have H8 := Lib.hid h8
              have Hb8 := Lib.hid hb8
              clear hb8
              clear h8 hs o1 o2 o3
              go_wp2
              go_roundw
              case rel =>
                obtain ⟨S', hN', _⟩ := H8.out
                exact ⟨j + 1, by omega, by go_num, S', hN', Hb8.out⟩
              case measure => simp [intOf]; omega
            · have hz : ∀ x, upd E0 (a, b) ((l.take m).drop j) x = [] := by
                intro x
                simp only [upd]
                split
                · exact List.drop_eq_nil_of_le (by rw [List.length_take]; omega)
                · rfl
              have hz2 : (upd E0 (a, b) ((l.take m).drop j) (a, b)).length = 0 := by rw [hz]; rfl
              have Hz2 := Lib.hid hz2
              have Hz := Lib.hid (fun l => sum_zero hz l)
              have HN := Lib.hid hN
              have Hbw := Lib.hid hbw
              clear hN hbw
              clear hz hz2
              go_wp2_with fail
              refine (count_o w1.heap.size S g bb cb (i + 4 + j) 16 a b _ _ _ HN.out Hok.out).mono ?_
              rintro e w8 ⟨rfl, rfl⟩
              rw [Hz2.out]
              go_wp2_with fail
              refine (all_o w1.heap.size S g bb cb (i + 4 + j) 16 _ _ _ HN.out (by omega)).mono ?_
              rintro e w9 ⟨⟨l9, _, _, rfl⟩, hb9⟩
              rw [Hz.out]
              have Hb9 := Lib.hid (below_step Hbw.out hb9)
              clear hb9
              go_wp2
              go_ret
              exact ⟨rfl, Hb9.out⟩
        · rw [hmc] at hmod
          have hmod : (m : Int).tmod 2 = 1 := hmod
          go_wp2_with fail
          refine (join_o w1.heap.size S6 g bb cb (i + 4) 16 a b _ _ w6 H6.out Hok.out).mono ?_
          rintro e w7 ⟨rfl, h7⟩
          have Hb7 := Lib.hid (Hb6.out.trans ((NetR.below H6.out h7).mono Hb1.out.size))
          obtain ⟨S7, h7, _⟩ := h7
          have hC7 := Hjo.out
          generalize joinC 16 a b (cutC 16 b a Z0) = C7 at h7 hC7
          have H7 := Lib.hid h7
          have HC7 := Lib.hid hC7
          clear h7 hC7
          go_wp2
          go_loopw [13, 14, 15] (fun cj _ _ wr => ∃ j : Nat, j ≤ m ∧ cj = .int .i64 j ∧ ∃ S, NetO wr w1.heap.size S g bb cb (i + 4 + j) 16 (upd E0 (a, b) ((l.take m).drop j)) C7 ∧ Below w.heap.size w wr) (fun cj _ _ _ => m - (intOf cj).toNat)
          case atStart => exact ⟨0, by omega, rfl, S7, H7.out, Hb7.out⟩
          case round =>
            obtain ⟨j, hj, rfl, S, hN, hbw⟩ := hrel
            have hj' : decide ((j : Int) < (m : Int)) = decide (j < m) := decide_eq_decide.2 (by omega)
            by_cases hjm : j < m
            · obtain ⟨ob, off, rfl, hob⟩ := HT.out.at_some (by omega)
              obtain ⟨s, hs⟩ := HT.out.get (show j < len by omega)
              obtain ⟨o1, o2, o3⟩ := Hone.out _ HC7.out j s hjm hs
              have O3 := Lib.hid o3
              have HN := Lib.hid hN
              have Hbw := Lib.hid hbw
              clear hN hbw
              go_wp2_with fail
              refine (take_o w1.heap.size S g bb cb (i + 4 + j) 16 a b 0 _ _ wr HN.out Hok.out).mono ?_
              rintro e w8 ⟨rfl, h8⟩
              rw [O3.out] at h8
              rw [o1, if_pos rfl, o2]
              have hb8 := Hbw.out.trans ((NetR.below HN.out h8).mono Hb1.out.size)
              have hc := (HT.out.below hb8).cell (show j < len by omega) hs
              have hob2 : ob < w8.heap.size := by have := hb8.size; omega
              have H8 := Lib.hid h8
              have Hb8 := Lib.hid hb8
              clear hb8
              clear h8 hs o1 o2 o3
              go_wp2
              go_roundw
              case rel =>
                obtain ⟨S', hN', _⟩ := H8.out
                exact ⟨j + 1, by omega, by go_num, S', hN', Hb8.out⟩
              case measure => simp [intOf]; omega
            · have hz : ∀ x, upd E0 (a, b) ((l.take m).drop j) x = [] := by
                intro x
                simp only [upd]
                split
                · exact List.drop_eq_nil_of_le (by rw [List.length_take]; omega)
                · rfl
              have hz2 : (upd E0 (a, b) ((l.take m).drop j) (a, b)).length = 0 := by rw [hz]; rfl
              have Hz2 := Lib.hid hz2
              have Hz := Lib.hid (fun l => sum_zero hz l)
              have HN := Lib.hid hN
              have Hbw := Lib.hid hbw
              clear hN hbw
              clear hz hz2
              go_wp2_with fail
              refine (count_o w1.heap.size S g bb cb (i + 4 + j) 16 a b _ _ _ HN.out Hok.out).mono ?_
              rintro e w8 ⟨rfl, rfl⟩
              rw [Hz2.out]
              go_wp2_with fail
              refine (all_o w1.heap.size S g bb cb (i + 4 + j) 16 _ _ _ HN.out (by omega)).mono ?_
              rintro e w9 ⟨⟨l9, _, _, rfl⟩, hb9⟩
              rw [Hz.out]
              have Hb9 := Lib.hid (below_step Hbw.out hb9)
              clear hb9
              go_wp2
              go_ret
              exact ⟨rfl, Hb9.out⟩
    · skip
      have hm := took_le 16 a b i
      have hlate := late 16 a b (upd E0 (a, b) (l.take (took 16 a b i)))
      have hjo := join_off 16 a b
      have hFm : (upd E0 (a, b) (l.take (took 16 a b i)) (a, b)).length = took 16 a b i := by rw [upd_same, List.length_take, HT.out.1]; omega
      have Hone := Lib.hid (fun (C : W2 → Bool) (hC : C (a, b) = false) (j : Nat) (s : ByteArray) => take_one 16 a b l C hC (i := i) (j := j) (s := s))
      have Hjo := Lib.hid hjo
      have Hl1 := Lib.hid hlate.1
      have Hl2 := Lib.hid hlate.2
      have HFm := Lib.hid hFm
      have hi64 := hm.2
      have hml : took 16 a b i ≤ len := by omega
      have HN := Lib.hid hN
      have Hbw := Lib.hid hbw
      clear hN hbw
      clear hm hlate hjo hFm
      generalize took 16 a b i = m at *
      have hFd : upd E0 (a, b) (l.take m) = upd E0 (a, b) ((l.take m).drop 0) := rfl
      rw [hFd] at HN HFm Hl1 Hl2
      clear hFd
      go_wp2_with fail
      refine (cut_o w1.heap.size S g bb cb i 16 b a _ _ wr HN.out Hok2.out (by omega)).mono ?_
      rintro e w3 ⟨rfl, h3⟩
      have Hb3 := Lib.hid (Hbw.out.trans ((NetR.below HN.out h3).mono Hb1.out.size))
      obtain ⟨S3, h3, _⟩ := h3
      have H3 := Lib.hid h3
      clear h3
      go_wp2_with fail
      refine (send_o w1.heap.size S3 g bb cb (i + 2) 16 a b _ _ _ w3 H3.out Hok.out (by omega)).mono ?_
      rintro e w4 ⟨rfl, h4⟩
      have Hb4 := Lib.hid (Hb3.out.trans ((NetR.below H3.out h4).mono Hb1.out.size))
      obtain ⟨S4, h4, _⟩ := h4
      unfold sendF at h4
      rw [Hl1.out] at h4 ⊢
      rw [if_neg (by simp)] at h4
      have H4 := Lib.hid h4
      clear h4
      go_wp2_with fail
      refine (count_o w1.heap.size S4 g bb cb (i + 3) 16 a b _ _ w4 H4.out Hok.out).mono ?_
      rintro e w5 ⟨rfl, rfl⟩
      rw [HFm.out]
      go_wp2_with fail
      refine (take_o w1.heap.size S4 g bb cb (i + 3) 16 a b 0 _ _ _ H4.out Hok.out).mono ?_
      rintro e w6 ⟨rfl, h6⟩
      have Hb6 := Lib.hid (Hb4.out.trans ((NetR.below H4.out h6).mono Hb1.out.size))
      obtain ⟨S6, h6, _⟩ := h6
      unfold takeF at h6
      rw [Hl2.out] at h6 ⊢
      rw [if_neg (by simp)] at h6 ⊢
      have H6 := Lib.hid h6
      clear h6
      have hmod : (m : Int).tmod 2 = ((m % 2 : Nat) : Int) := by rw [Int.tmod_eq_emod_of_nonneg (by omega)]; rfl
      have hmc : m % 2 = 0 ∨ m % 2 = 1 := by omega
      rcases hmc with hmc | hmc
      · rw [hmc] at hmod
        have hmod : (m : Int).tmod 2 = 0 := hmod
        go_wp2_with fail
        refine (heal_o w1.heap.size S6 g bb cb (i + 4) 16 _ _ w6 H6.out).mono ?_
        rintro e w7 ⟨rfl, h7⟩
        have Hb7 := Lib.hid (Hb6.out.trans ((NetR.below H6.out h7).mono Hb1.out.size))
        obtain ⟨S7, h7, _⟩ := h7
        generalize hC : (fun _ : W2 => false) = C7 at h7
        have hC7 : C7 (a, b) = false := by rw [← hC]
        clear hC
        have H7 := Lib.hid h7
        have HC7 := Lib.hid hC7
        clear h7 hC7
        go_wp2
        go_loopw [13, 14, 15] (fun cj _ _ wr => ∃ j : Nat, j ≤ m ∧ cj = .int .i64 j ∧ ∃ S, NetO wr w1.heap.size S g bb cb (i + 4 + j) 16 (upd E0 (a, b) ((l.take m).drop j)) C7 ∧ Below w.heap.size w wr) (fun cj _ _ _ => m - (intOf cj).toNat)
        case atStart => exact ⟨0, by omega, rfl, S7, H7.out, Hb7.out⟩
        case round =>
          obtain ⟨j, hj, rfl, S, hN, hbw⟩ := hrel
          have hj' : decide ((j : Int) < (m : Int)) = decide (j < m) := decide_eq_decide.2 (by omega)
          by_cases hjm : j < m
          · obtain ⟨ob, off, rfl, hob⟩ := HT.out.at_some (by omega)
            obtain ⟨s, hs⟩ := HT.out.get (show j < len by omega)
            obtain ⟨o1, o2, o3⟩ := Hone.out _ HC7.out j s hjm hs
            have O3 := Lib.hid o3
            have HN := Lib.hid hN
            have Hbw := Lib.hid hbw
            clear hN hbw
            go_wp2_with fail
            refine (take_o w1.heap.size S g bb cb (i + 4 + j) 16 a b 0 _ _ wr HN.out Hok.out).mono ?_
            rintro e w8 ⟨rfl, h8⟩
            rw [O3.out] at h8
            rw [o1, if_pos rfl, o2]
            have hb8 := Hbw.out.trans ((NetR.below HN.out h8).mono Hb1.out.size)
            have hc := (HT.out.below hb8).cell (show j < len by omega) hs
            have hob2 : ob < w8.heap.size := by have := hb8.size; omega
            have H8 := Lib.hid h8
            have Hb8 := Lib.hid hb8
            clear hb8
            clear h8 hs o1 o2 o3
            go_wp2
            go_roundw
            case rel =>
              obtain ⟨S', hN', _⟩ := H8.out
              exact ⟨j + 1, by omega, by go_num, S', hN', Hb8.out⟩
            case measure => simp [intOf]; omega
          · have hz : ∀ x, upd E0 (a, b) ((l.take m).drop j) x = [] := by
              intro x
              simp only [upd]
              split
              · exact List.drop_eq_nil_of_le (by rw [List.length_take]; omega)
              · rfl
            have hz2 : (upd E0 (a, b) ((l.take m).drop j) (a, b)).length = 0 := by rw [hz]; rfl
            have Hz2 := Lib.hid hz2
            have Hz := Lib.hid (fun l => sum_zero hz l)
            have HN := Lib.hid hN
            have Hbw := Lib.hid hbw
            clear hN hbw
            clear hz hz2
            go_wp2_with fail
            refine (count_o w1.heap.size S g bb cb (i + 4 + j) 16 a b _ _ _ HN.out Hok.out).mono ?_
            rintro e w8 ⟨rfl, rfl⟩
            rw [Hz2.out]
            go_wp2_with fail
            refine (all_o w1.heap.size S g bb cb (i + 4 + j) 16 _ _ _ HN.out (by omega)).mono ?_
            rintro e w9 ⟨⟨l9, _, _, rfl⟩, hb9⟩
            rw [Hz.out]
            have Hb9 := Lib.hid (below_step Hbw.out hb9)
            clear hb9
            go_wp2
            go_ret
            exact ⟨rfl, Hb9.out⟩
      · rw [hmc] at hmod
        have hmod : (m : Int).tmod 2 = 1 := hmod
        go_wp2_with fail
        refine (join_o w1.heap.size S6 g bb cb (i + 4) 16 a b _ _ w6 H6.out Hok.out).mono ?_
        rintro e w7 ⟨rfl, h7⟩
        have Hb7 := Lib.hid (Hb6.out.trans ((NetR.below H6.out h7).mono Hb1.out.size))
        obtain ⟨S7, h7, _⟩ := h7
        have hC7 := Hjo.out
        generalize joinC 16 a b (cutC 16 b a Z0) = C7 at h7 hC7
        have H7 := Lib.hid h7
        have HC7 := Lib.hid hC7
        clear h7 hC7
        go_wp2
        go_loopw [13, 14, 15] (fun cj _ _ wr => ∃ j : Nat, j ≤ m ∧ cj = .int .i64 j ∧ ∃ S, NetO wr w1.heap.size S g bb cb (i + 4 + j) 16 (upd E0 (a, b) ((l.take m).drop j)) C7 ∧ Below w.heap.size w wr) (fun cj _ _ _ => m - (intOf cj).toNat)
        case atStart => exact ⟨0, by omega, rfl, S7, H7.out, Hb7.out⟩
        case round =>
          obtain ⟨j, hj, rfl, S, hN, hbw⟩ := hrel
          have hj' : decide ((j : Int) < (m : Int)) = decide (j < m) := decide_eq_decide.2 (by omega)
          by_cases hjm : j < m
          · obtain ⟨ob, off, rfl, hob⟩ := HT.out.at_some (by omega)
            obtain ⟨s, hs⟩ := HT.out.get (show j < len by omega)
            obtain ⟨o1, o2, o3⟩ := Hone.out _ HC7.out j s hjm hs
            have O3 := Lib.hid o3
            have HN := Lib.hid hN
            have Hbw := Lib.hid hbw
            clear hN hbw
            go_wp2_with fail
            refine (take_o w1.heap.size S g bb cb (i + 4 + j) 16 a b 0 _ _ wr HN.out Hok.out).mono ?_
            rintro e w8 ⟨rfl, h8⟩
            rw [O3.out] at h8
            rw [o1, if_pos rfl, o2]
            have hb8 := Hbw.out.trans ((NetR.below HN.out h8).mono Hb1.out.size)
            have hc := (HT.out.below hb8).cell (show j < len by omega) hs
            have hob2 : ob < w8.heap.size := by have := hb8.size; omega
            have H8 := Lib.hid h8
            have Hb8 := Lib.hid hb8
            clear hb8
            clear h8 hs o1 o2 o3
            go_wp2
            go_roundw
            case rel =>
              obtain ⟨S', hN', _⟩ := H8.out
              exact ⟨j + 1, by omega, by go_num, S', hN', Hb8.out⟩
            case measure => simp [intOf]; omega
          · have hz : ∀ x, upd E0 (a, b) ((l.take m).drop j) x = [] := by
              intro x
              simp only [upd]
              split
              · exact List.drop_eq_nil_of_le (by rw [List.length_take]; omega)
              · rfl
            have hz2 : (upd E0 (a, b) ((l.take m).drop j) (a, b)).length = 0 := by rw [hz]; rfl
            have Hz2 := Lib.hid hz2
            have Hz := Lib.hid (fun l => sum_zero hz l)
            have HN := Lib.hid hN
            have Hbw := Lib.hid hbw
            clear hN hbw
            clear hz hz2
            go_wp2_with fail
            refine (count_o w1.heap.size S g bb cb (i + 4 + j) 16 a b _ _ _ HN.out Hok.out).mono ?_
            rintro e w8 ⟨rfl, rfl⟩
            rw [Hz2.out]
            go_wp2_with fail
            refine (all_o w1.heap.size S g bb cb (i + 4 + j) 16 _ _ _ HN.out (by omega)).mono ?_
            rintro e w9 ⟨⟨l9, _, _, rfl⟩, hb9⟩
            rw [Hz.out]
            have Hb9 := Lib.hid (below_step Hbw.out hb9)
            clear hb9
            go_wp2
            go_ret
            exact ⟨rfl, Hb9.out⟩
end Go.Proofs.Ytempojdgbgaanaa.wNetCuts
