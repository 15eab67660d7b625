/- slices.Contains of texts; quota.Fits. -/
import Derived.Test.YtfcgffemdcfiiaaGreatDoorKeepP
import Derived.Test.YtfcgffemdcfiiaaGreatDoorOpensQ
namespace Go.Proofs.YtfcgffemdcfiiaaGreatDoor.quota
open Go Go.RowKit Go.Proofs.YtfcgffemdcfiiaaGreatDoor.base Go.Proofs.YtfcgffemdcfiiaaGreatDoor.dec Go.Proofs.YtfcgffemdcfiiaaGreatDoor.err Go.Proofs.YtfcgffemdcfiiaaGreatDoor.above Go.Proofs.YtfcgffemdcfiiaaGreatDoor.law Go.Proofs.YtfcgffemdcfiiaaGreatDoor.merge Go.Proofs.YtfcgffemdcfiiaaGreatDoor.rows Go.Proofs.YtfcgffemdcfiiaaGreatDoor.store

def hasB (l : List ByteArray) (k : ByteArray) : Bool := l.any fun t => t.toList == k.toList
theorem beq_comm' (a b : List UInt8) : (a == b) = (b == a) := by rw [Bool.eq_iff_iff, beq_iff_eq, beq_iff_eq]; exact eq_comm
def IndexR (l : List ByteArray) (k : ByteArray) (e : Ending) : Prop := (hasB l k = true ∧ ∃ i : Nat, e = .returned (.int .i64 i)) ∨ (hasB l k = false ∧ e = .returned (.int .i64 (-1)))
set_option maxRecDepth 100000 in
set_option maxHeartbeats 1000000 in
theorem index_any (A : Option Addr) (n c : Nat) (l : List ByteArray) (k : ByteArray) (w : World) (hl : l.length = n) (hn : n ≤ 1000000) (hr : Reads w w.heap.size 1 A n (l.map Value.string)) :
    Calls Tryz.prog 44 #[.slice A n c, .string k] w fun e w' => IndexR l k e ∧ w' = w := by
  have Hl := Lib.hid hl
  have Hr := Lib.hid hr
  clear hl hr
  go_enter Tryz.func44, Tryz.ntmps44
  go_wp2
  go_loopw [8] (fun si wr => ∃ i : Nat, i ≤ n ∧ si = .int .i64 i ∧ hasB l k = hasB (l.drop i) k ∧ wr = w) (fun si _ => n - (intOf si).toNat)
  case atStart => exact ⟨0, by omega, rfl, rfl, rfl⟩
  case round =>
    obtain ⟨i, hi, rfl, hb, rfl⟩ := hrel
    by_cases hlt : i < n
    · obtain ⟨g, off, rfl, hg⟩ := Hr.out.at_some (by omega)
      have hcell := text_atQ Hr.out Hl.out hlt
      have hdr : l.drop i = l.getD i ⟨#[]⟩ :: l.drop (i + 1) := by
        rw [List.drop_eq_getElem_cons (by rw [Hl.out]; exact hlt), List.getD_eq_getElem?_getD, List.getElem?_eq_getElem (by rw [Hl.out]; exact hlt)]; rfl
      rw [hdr] at hb
      generalize l.getD i ⟨#[]⟩ = t at *
      have hb2 : hasB l k = ((k.toList == t.toList) || hasB (l.drop (i + 1)) k) := by rw [hb, beq_comm']; rfl
      clear hdr hb
      cases q : (k.toList == t.toList) with
      | true =>
        have HV := Lib.hid (show hasB l k = true by rw [hb2, q]; rfl)
        clear hb2
        go_wp2
        go_ret
        exact ⟨.inl ⟨HV.out, i, rfl⟩, rfl⟩
      | false =>
        have HV := Lib.hid (show hasB l k = hasB (l.drop (i + 1)) k by rw [hb2, q]; rfl)
        clear hb2
        go_wp2
        go_roundw
        case rel => exact ⟨i + 1, by omega, by go_num, HV.out, trivial⟩
        case measure => simp [intOf]; omega
    · obtain rfl : n = i := by omega
      have HV := Lib.hid (show hasB l k = false by rw [hb, List.drop_eq_nil_of_le (by rw [Hl.out]; omega)]; rfl)
      clear hb
      go_wp2
      go_ret
      exact ⟨.inr ⟨HV.out, rfl⟩, rfl⟩
theorem contains_any (A : Option Addr) (n c : Nat) (l : List ByteArray) (k : ByteArray) (w : World) (hl : l.length = n) (hn : n ≤ 1000000) (hr : Reads w w.heap.size 1 A n (l.map Value.string)) :
    Calls Tryz.prog 31 #[.slice A n c, .string k] w fun e w' => e = .returned (.bool (hasB l k)) ∧ w' = w := by
  go_enter Tryz.func31, Tryz.ntmps31
  go_wp2_with fail
  refine (index_any A n c l k w hl hn hr).mono ?_
  rintro e w1 ⟨⟨hb, i, rfl⟩ | ⟨hb, rfl⟩, rfl⟩
  · have d0 : decide ((0 : Int) ≤ (i : Int)) = true := by simp
    have HB := Lib.hid hb
    clear hb
    go_wp2
    go_ret
    exact ⟨by rw [HB.out]; rfl, rfl⟩
  · have HB := Lib.hid hb
    clear hb
    go_wp2
    go_ret
    exact ⟨by rw [HB.out]; rfl, rfl⟩
def FitsR (c : Int) (w : World) (e : Ending) (w' : World) : Prop := ∃ v, e = .returned v ∧ EO w' v c ∧ Below w.heap.size w w'
theorem eql_empty (k : ByteArray) : (k.toList == ([] : List UInt8)) = k.toList.isEmpty := by cases k.toList <;> rfl
set_option maxRecDepth 100000 in
set_option maxHeartbeats 2000000 in
theorem fits_any (g bm : Nat) (L : List R) (s k : ByteArray) (w : World) (h : StI w g bm L) (hl : L.length ≤ 1000000) (hs : s.size ≤ maxLen) :
    Calls Tryz.prog 13 #[.pointer (some ⟨g, 0, none⟩), .string s, .string k] w (FitsR (fitsC L s k) w) := by
  have H := Lib.hid h
  clear h
  go_enter Tryz.func13, Tryz.ntmps13
  go_wp2_with fail
  refine (keys_any g bm L s w H.out hl).mono ?_
  rintro e w1 ⟨v, rfl, hv, hb1⟩
  obtain ⟨A, c, rfl⟩ := ownsRow_slice hv
  have HRL := Lib.hid (Reads.of_own hv)
  have HB1 := Lib.hid hb1
  have H1 := Lib.hid (H.out.below hb1)
  have hll : (keysL L s).length ≤ L.length := by unfold keysL; rw [List.length_map]; exact List.length_filter_le _ _
  obtain ⟨n, hn⟩ : ∃ n, (keysL L s).length = n := ⟨_, rfl⟩
  rw [hn] at HRL hll ⊢
  have HN := Lib.hid hn
  clear hv hb1 hn
  by_cases h1 : k.toList.isEmpty = true ∨ 32 < k.size
  · have HF := Lib.hid (show fitsC L s k = 1 by unfold fitsC; rw [if_pos h1])
    by_cases h2 : k.toList.isEmpty = true
    · have q : k.toList.isEmpty = true := h2
      clear h1
      go_wp2_with fail
      refine (bad_any 1 w1).mono ?_
      rintro e w4 ⟨v, rfl, h1, h2, h3, _⟩
      have HR := Lib.hid (show FitsR (fitsC L s k) w (.returned v) w4 from ⟨v, rfl, .inr ⟨by rw [HF.out]; decide, by rw [HF.out]; exact h1, h2⟩, (below_step HB1.out h3)⟩)
      clear h1 h2 h3
      go_wp2
      go_ret
      exact HR.out
    · have q : k.toList.isEmpty = false := by simpa using h2
      have d : decide ((32 : Int) < (k.size : Int)) = true := by rcases h1 with h | h; exact absurd h h2; simp; omega
      clear h1
      go_wp2_with fail
      refine (bad_any 1 w1).mono ?_
      rintro e w4 ⟨v, rfl, h1, h2, h3, _⟩
      have HR := Lib.hid (show FitsR (fitsC L s k) w (.returned v) w4 from ⟨v, rfl, .inr ⟨by rw [HF.out]; decide, by rw [HF.out]; exact h1, h2⟩, (below_step HB1.out h3)⟩)
      clear h1 h2 h3
      go_wp2
      go_ret
      exact HR.out
  · have q : k.toList.isEmpty = false := by simp only [not_or] at h1; simpa using h1.1
    have d : decide ((32 : Int) < (k.size : Int)) = false := by simp only [not_or] at h1; simp; omega
    have HH1 := Lib.hid h1
    clear h1
    go_wp2_with fail
    refine (head_any g bm L s w1 H1.out hs).mono ?_
    rintro e w2 ⟨rfl, hb2⟩
    have HB2 := Lib.hid (below_step HB1.out hb2)
    have HRL2 := Lib.hid ((HRL.out.below hb2).more hb2.size)
    clear hb2 HRL HB1
    obtain ⟨x, hx⟩ : ∃ x, atL L (s, ⟨#[]⟩) = x := ⟨_, rfl⟩
    rw [hx]
    have HX := Lib.hid hx
    clear hx
    obtain ⟨t, r, v, gn, lf⟩ := x
    unfold cval
    dsimp only
    go_wp2_with fail
    refine (visible_any t r v gn lf w2).mono ?_
    rintro e w3 ⟨rfl, hb3⟩
    have HB3 := Lib.hid (below_step HB2.out hb3)
    have HRL3 := Lib.hid ((HRL2.out.below hb3).more hb3.size)
    clear hb3 HRL2 HB2
    cases hvs : (decide (0 < t) && !gn) with
    | false =>
      have HF := Lib.hid (show fitsC L s k = 14 by unfold fitsC; rw [if_neg HH1.out, if_pos (by rw [HX.out]; exact hvs)])
      clear hvs
      go_wp2_with fail
      refine (bad_any 14 w3).mono ?_
      rintro e w4 ⟨v, rfl, h1, h2, h3, _⟩
      have HR := Lib.hid (show FitsR (fitsC L s k) w (.returned v) w4 from ⟨v, rfl, .inr ⟨by rw [HF.out]; decide, by rw [HF.out]; exact h1, h2⟩, (below_step HB3.out h3)⟩)
      clear h1 h2 h3
      go_wp2
      go_ret
      exact HR.out
    | true =>
      have HG := Lib.hid (show fitsC L s k = if fullB L s k = true then 4 else 0 by unfold fitsC; rw [if_neg HH1.out, if_neg (by rw [HX.out]; unfold visC; dsimp only; rw [hvs]; decide)])
      clear hvs
      by_cases h16 : 16 ≤ n
      · have d16 : decide ((16 : Int) ≤ (n : Int)) = true := by simp; omega
        go_wp2_with fail
        refine (contains_any A n c (keysL L s) k w3 HN.out (by omega) HRL3.out).mono ?_
        rintro e w5 ⟨rfl, rfl⟩
        cases hh : hasB (keysL L s) k with
        | true =>
          have HR := Lib.hid (show FitsR (fitsC L s k) w (.returned .nilIface) w5 from ⟨_, rfl, .inl ⟨by
            rw [HG.out, if_neg]
            unfold fullB
            unfold hasB at hh
            rw [hh]; simp, rfl⟩, HB3.out⟩)
          clear hh
          go_wp2
          go_ret
          exact HR.out
        | false =>
          have HF := Lib.hid (show fitsC L s k = 4 by
            rw [HG.out, if_pos]
            unfold fullB
            unfold hasB at hh
            rw [hh, HN.out]; simpa using h16)
          clear hh
          go_wp2_with fail
          refine (bad_any 4 w5).mono ?_
          rintro e w4 ⟨v, rfl, h1, h2, h3, _⟩
          have HR := Lib.hid (show FitsR (fitsC L s k) w (.returned v) w4 from ⟨v, rfl, .inr ⟨by rw [HF.out]; decide, by rw [HF.out]; exact h1, h2⟩, (below_step HB3.out h3)⟩)
          clear h1 h2 h3
          go_wp2
          go_ret
          exact HR.out
      · have d16 : decide ((16 : Int) ≤ (n : Int)) = false := by simp; omega
        have HR := Lib.hid (show FitsR (fitsC L s k) w (.returned .nilIface) w3 from ⟨_, rfl, .inl ⟨by
          rw [HG.out, if_neg]
          unfold fullB
          rw [HN.out, decide_eq_false h16]; simp, rfl⟩, HB3.out⟩)
        go_wp2
        go_ret
        exact HR.out
end Go.Proofs.YtfcgffemdcfiiaaGreatDoor.quota
