/- How many a bag of the document's net has, and where one of them stands. -/
import Derived.Test.YtempojdgbgaanaaRefAt
namespace Go.Proofs.Ytempojdgbgaanaa.refcnt
open Go.RowKit Go.Proofs.Ytempojdgbgaanaa.base Go.Proofs.Ytempojdgbgaanaa.net Go.Proofs.Ytempojdgbgaanaa.state Go.Proofs.Ytempojdgbgaanaa.at_ Go.Proofs.Ytempojdgbgaanaa.keepo Go.Proofs.Ytempojdgbgaanaa.refnet Go.Proofs.Ytempojdgbgaanaa.refat

theorem of_no1 {a b : Int} {m : M} (h : (m.f == a) = false) : ofW (a, b) m = false := by simp at h; simp [ofW, h]
theorem of_no2 {a b : Int} {m : M} (h : (m.t == b) = false) : ofW (a, b) m = false := by simp at h; simp [ofW, h]
theorem of_yes {a b : Int} {m : M} (h : (m.f == a) = true) (h2 : (m.t == b) = true) : ofW (a, b) m = true := by simp [ofW, beq_iff_eq.1 h, beq_iff_eq.1 h2]
theorem cnt_step {L : List M} {x : W2} {m : M} {k : Nat} (hk : L[k]? = some m) : (bag (L.take (k + 1)) x).length = (bag (L.take k) x).length + (if ofW x m then 1 else 0) := by
  unfold bag
  rw [List.take_add_one, hk, List.filter_append, List.length_append]
  cases h : ofW x m <;> simp [h]
theorem cnt_le (L : List M) (x : W2) : (bag L x).length ≤ L.length := List.length_filter_le _ _
set_option maxRecDepth 100000 in
set_option maxHeartbeats 1600000 in
theorem count_ref (B g : Nat) (n a b : Int) (A1 A2 : Option Addr) (c1 c2 : Nat) (L : List M) (Ws : List W2) (w : World) (h : RefT w B g n A1 c1 A2 c2 L Ws) (hl : L.length ≤ 100000) :
    Calls Try.prog 25 #[.pointer (some ⟨g, 0, none⟩), .int .i64 a, .int .i64 b] w fun e w' => e = .returned (.int .i64 (bag L (a, b)).length) ∧ w' = w := by
  have H := Lib.hid h
  clear h
  go_enter Try.func25, Try.ntmps25
  go_wp2
  go_loopw [7, 8] (fun c i wr => ∃ k : Nat, k ≤ L.length ∧ i = .int .i64 k ∧ c = .int .i64 (bag (L.take k) (a, b)).length ∧ wr = w) (fun _ i _ => L.length - (intOf i).toNat)
  case atStart => exact ⟨0, by omega, rfl, by simp [bag], rfl⟩
  case round =>
    obtain ⟨k, hk, rfl, rfl, rfl⟩ := hrel
    have hb := Below.refl wr.heap.size wr
    have hR := H.out.below hb
    have q2 : wr.cell? ⟨g, 1, none⟩ = some (.slice A1 L.length c1) := hR.blk.cell 1
    have q3 := hR.blk.lt
    have hlk : decide ((k : Int) < (L.length : Int)) = decide (k < L.length) := decide_eq_decide.2 (by omega)
    by_cases hlt : k < L.length
    · skip
      have hrow := hR.row1
      obtain ⟨sb, so, rfl, hsb⟩ := hrow.at_some (by omega)
      obtain ⟨m, hv⟩ : ∃ m, L[k]? = some m := ⟨L[k], List.getElem?_eq_getElem hlt⟩
      have g0 := hrow.thing mc mc_len hlt hv 0 (by omega)
      have g1 := hrow.thing mc mc_len hlt hv 1 (by omega)
      have hst := cnt_step (x := (a, b)) hv
      have hcl := cnt_le (L.take k) (a, b)
      rw [List.length_take] at hcl
      have hno1 := fun h => of_no1 (m := m) (a := a) (b := b) h
      have hno2 := fun h => of_no2 (m := m) (a := a) (b := b) h
      have hyes := fun h1 h2 => of_yes (m := m) (a := a) (b := b) h1 h2
      obtain ⟨p, q, s⟩ := m
      dsimp only at hno1 hno2 hyes
      simp [mc] at g0 g1
      have Hst := Lib.hid hst
      have Hno1 := Lib.hid hno1
      have Hno2 := Lib.hid hno2
      have Hyes := Lib.hid hyes
      generalize (bag (L.take k) (a, b)).length = c at *
      clear hb hR hrow hno1 hno2 hyes hst hv
      cases d1 : (p == a)
      · have hst := Hst.out
        rw [Hno1.out d1, if_neg (by simp)] at hst
        have Hs := Lib.hid hst
        clear hst
        go_wp2
        go_roundw
        case rel => exact ⟨k + 1, by omega, by go_num, by rw [Hs.out]; rfl, trivial⟩
        case measure => simp [intOf]; omega
      · cases d2 : (q == b)
        · have hst := Hst.out
          rw [Hno2.out d2, if_neg (by simp)] at hst
          have Hs := Lib.hid hst
          clear hst
          go_wp2
          go_roundw
          case rel => exact ⟨k + 1, by omega, by go_num, by rw [Hs.out]; rfl, trivial⟩
          case measure => simp [intOf]; omega
        · have hst := Hst.out
          rw [Hyes.out d1 d2, if_pos rfl] at hst
          have Hs := Lib.hid hst
          clear hst
          go_wp2
          go_roundw
          case rel => exact ⟨k + 1, by omega, by go_num, by rw [Hs.out]; go_num, trivial⟩
          case measure => simp [intOf]; omega
    · have hf : L.take k = L := List.take_of_length_le (by omega)
      rw [hf]
      clear hb hR hf
      go_wp2
      go_ret
      exact ⟨rfl, rfl⟩
def posI (L : List M) (x : W2) (i : Int) : Int := if hasB L x then (posN L x i : Nat) else -1
theorem idx_up (i : Int) {k : Nat} (h : 1 ≤ k) (hi : ¬ i.tmod k < 0) : i.tmod k = ((idx i k : Nat) : Int) := by
  rw [idx_mod i h]
  have h1 := Int.tmod_eq_emod_of_nonneg (a := i) (b := (k : Int))
  rcases Int.lt_or_le i 0 with h0 | h0
  · have : i.tmod k = 0 := by
      have h5 : i.tmod k = - ((-i).tmod k) := by rw [Int.neg_tmod, Int.neg_neg]
      have h6 := Int.tmod_eq_emod_of_nonneg (a := -i) (b := (k : Int)) (by omega)
      have h7 := Int.emod_nonneg (-i) (b := (k : Int)) (by omega)
      omega
    have h3 := Int.mul_tdiv_add_tmod i k
    rw [this] at h3 ⊢
    rw [← h3]
    simp
  · exact h1 h0
theorem idx_down (i : Int) {k : Nat} (h : 1 ≤ k) (hi : i.tmod k < 0) : i.tmod k + k = ((idx i k : Nat) : Int) := by
  rw [idx_mod i h]
  have h3 := Int.mul_tdiv_add_tmod i k
  have h4 := Int.lt_tmod_of_pos i (b := (k : Int)) (by omega)
  have e : i = (i.tmod k + k) + k * (i.tdiv k - 1) := by rw [Int.mul_sub, Int.mul_one]; omega
  conv => rhs; rw [e]
  rw [Int.add_mul_emod_self_left]
  exact (Int.emod_eq_of_lt (by omega) (by omega)).symm
theorem sub_one {j : Nat} (h : 1 ≤ j) : Value.int .i64 ((j : Int) - 1) = .int .i64 ((j - 1 : Nat) : Int) := by
  have e : (j : Int) - 1 = ((j - 1 : Nat) : Int) := by omega
  rw [e]
theorem at_no {x : W2} {m : M} {l : List M} {j k P : Nat} (h : ofW x m = false) (hj : j < (bag (m :: l) x).length) (hp : P = k + pos (m :: l) x j) : j < (bag l x).length ∧ P = (k + 1) + pos l x j := by
  have hb : bag (m :: l) x = bag l x := by simp [bag, h]
  rw [hb] at hj
  unfold pos at hp
  rw [if_neg (by simp [h])] at hp
  exact ⟨hj, by omega⟩
theorem at_yes {x : W2} {m : M} {l : List M} {j k P : Nat} (h : ofW x m = true) (hj : j < (bag (m :: l) x).length) (hp : P = k + pos (m :: l) x j) : (j = 0 → P = k) ∧ ∀ i, j = i + 1 → i < (bag l x).length ∧ P = (k + 1) + pos l x i := by
  have hb : bag (m :: l) x = m :: bag l x := by simp [bag, h]
  rw [hb] at hj
  unfold pos at hp
  rw [if_pos h] at hp
  refine ⟨fun h0 => by rw [if_pos h0] at hp; omega, fun i hi => ?_⟩
  subst hi
  rw [if_neg (by omega), Nat.add_sub_cancel] at hp
  simp at hj
  exact ⟨hj, by omega⟩
set_option maxRecDepth 100000 in
set_option maxHeartbeats 1600000 in
theorem at_ref (B g : Nat) (n a b i : Int) (A1 A2 : Option Addr) (c1 c2 : Nat) (L : List M) (Ws : List W2) (w : World) (h : RefT w B g n A1 c1 A2 c2 L Ws) (hl : L.length ≤ 100000) :
    Calls Try.prog 34 #[.pointer (some ⟨g, 0, none⟩), .int .i64 a, .int .i64 b, .int .i64 i] w fun e w' => e = .returned (.int .i64 (posI L (a, b) i)) ∧ w' = w := by
  have H := Lib.hid h
  clear h
  go_enter Try.func34, Try.ntmps34
  go_wp2_with fail
  refine (count_ref B g n a b A1 A2 c1 c2 L Ws w H.out hl).mono ?_
  rintro e w2 ⟨rfl, rfl⟩
  by_cases h0 : (bag L (a, b)).length = 0
  · have hp : posI L (a, b) i = -1 := by unfold posI hasB; rw [if_neg (by simp [h0])]
    have Hp := Lib.hid hp
    rw [h0]
    clear hp h0
    go_wp2
    go_ret
    exact ⟨by rw [Hp.out]; rfl, rfl⟩
  · have hc1 : 1 ≤ (bag L (a, b)).length := by omega
    have hcl := cnt_le L (a, b)
    have hpI : posI L (a, b) i = (posN L (a, b) i : Nat) := by unfold posI hasB; rw [if_pos (by simp [h0])]
    have Hc1 := Lib.hid hc1
    have HpI := Lib.hid hpI
    have hup := idx_up i hc1
    have hdn := idx_down i hc1
    have h00 : (((bag L (a, b)).length : Int) == 0) = false := beq_eq_false_iff_ne.2 (by omega)
    clear hpI
    by_cases ht : i.tmod ((bag L (a, b)).length : Nat) < 0
    · have hd : decide (i.tmod ((bag L (a, b)).length : Nat) < 0) = true := by simpa using ht
      have hdn := hdn ht
      have hw : wrap64 (i.tmod ((bag L (a, b)).length : Nat) + (bag L (a, b)).length) = ((idx i (bag L (a, b)).length : Nat) : Int) := by
        rw [hdn]
        have := idx_lt i hc1
        unfold wrap64
        omega
      have Hw := Lib.hid hw
      clear hup hdn hw
      go_wp2
      go_loopw [3, 10] (fun iv kv wr => ∃ k j : Nat, k ≤ L.length ∧ kv = .int .i64 k ∧ iv = .int .i64 j ∧ j < (bag (L.drop k) (a, b)).length ∧ posN L (a, b) i = k + pos (L.drop k) (a, b) j ∧ wr = w2) (fun _ kv _ => L.length - (intOf kv).toNat)
      case atStart => exact ⟨0, idx i (bag L (a, b)).length, by omega, rfl, rfl, by rw [List.drop_zero]; exact idx_lt i Hc1.out, by rw [List.drop_zero, Nat.zero_add]; rfl, rfl⟩
      case round =>
        obtain ⟨k, j, hk, rfl, rfl, hj, hp, rfl⟩ := hrel
        have hb := Below.refl wr.heap.size wr
        have hlt : k < L.length := by
          rcases Nat.lt_or_ge k L.length with h | h
          · exact h
          · rw [List.drop_eq_nil_of_le h] at hj; simp [bag] at hj
        have hR := H.out.below hb
        have q2 : wr.cell? ⟨g, 1, none⟩ = some (.slice A1 L.length c1) := hR.blk.cell 1
        have q3 := hR.blk.lt
        have hlk : decide ((k : Int) < (L.length : Int)) = decide (k < L.length) := decide_eq_decide.2 (by omega)
        have hrow := hR.row1
        obtain ⟨sb, so, rfl, hsb⟩ := hrow.at_some (by omega)
        obtain ⟨m, hv⟩ : ∃ m, L[k]? = some m := ⟨L[k], List.getElem?_eq_getElem hlt⟩
        have g0 := hrow.thing mc mc_len hlt hv 0 (by omega)
        have g1 := hrow.thing mc mc_len hlt hv 1 (by omega)
        have hj2 : (j : Int) ≤ 100000 := by have := cnt_le (L.drop k) (a, b); rw [List.length_drop] at this; omega
        have hdr : L.drop k = m :: L.drop (k + 1) := by
          rw [List.drop_eq_getElem_cons hlt]
          congr 1
          exact (List.getElem?_eq_some_iff.1 hv).2
        rw [hdr] at hj hp
        have hno1 := fun h => of_no1 (m := m) (a := a) (b := b) h
        have hno2 := fun h => of_no2 (m := m) (a := a) (b := b) h
        have hyes := fun h1 h2 => of_yes (m := m) (a := a) (b := b) h1 h2
        have hN := fun (h : ofW (a, b) m = false) => at_no (k := k) (P := posN L (a, b) i) h hj hp
        have hY := fun (h : ofW (a, b) m = true) => at_yes (k := k) (P := posN L (a, b) i) h hj hp
        obtain ⟨p, q, s⟩ := m
        dsimp only at hno1 hno2 hyes
        simp [mc] at g0 g1
        have Hno1 := Lib.hid hno1
        have Hno2 := Lib.hid hno2
        have Hyes := Lib.hid hyes
        have HN := Lib.hid hN
        have HY := Lib.hid hY
        clear hb hR hrow hno1 hno2 hyes hv hN hY hj hp hdr
        cases d1 : (p == a)
        · have Hs := Lib.hid (HN.out (Hno1.out d1))
          go_wp2
          go_roundw
          case rel => exact ⟨k + 1, j, by omega, by go_num, rfl, Hs.out.1, Hs.out.2, trivial⟩
          case measure => simp [intOf]; omega
        · cases d2 : (q == b)
          · have Hs := Lib.hid (HN.out (Hno2.out d2))
            go_wp2
            go_roundw
            case rel => exact ⟨k + 1, j, by omega, by go_num, rfl, Hs.out.1, Hs.out.2, trivial⟩
            case measure => simp [intOf]; omega
          · have Hs := Lib.hid (HY.out (Hyes.out d1 d2))
            by_cases hj0 : j = 0
            · subst hj0
              have Hf := Lib.hid (Hs.out.1 rfl)
              go_wp2
              go_ret
              exact ⟨by rw [HpI.out, Hf.out]; rfl, rfl⟩
            · have hd0 : ((j : Int) == 0) = false := by simp; omega
              have Hf := Lib.hid (Hs.out.2 (j - 1) (by omega))
              have h1j : 1 ≤ j := by omega
              go_wp2
              go_roundw
              case rel => exact ⟨k + 1, j - 1, by omega, by go_num, sub_one h1j, Hf.out.1, Hf.out.2, trivial⟩
              case measure => simp [intOf]; omega
    · have hd : decide (i.tmod ((bag L (a, b)).length : Nat) < 0) = false := by simpa using ht
      have hup := hup ht
      have Hw := Lib.hid hup
      clear hup hdn
      go_wp2
      go_loopw [3, 10] (fun iv kv wr => ∃ k j : Nat, k ≤ L.length ∧ kv = .int .i64 k ∧ iv = .int .i64 j ∧ j < (bag (L.drop k) (a, b)).length ∧ posN L (a, b) i = k + pos (L.drop k) (a, b) j ∧ wr = w2) (fun _ kv _ => L.length - (intOf kv).toNat)
      case atStart => exact ⟨0, idx i (bag L (a, b)).length, by omega, rfl, rfl, by rw [List.drop_zero]; exact idx_lt i Hc1.out, by rw [List.drop_zero, Nat.zero_add]; rfl, rfl⟩
      case round =>
        obtain ⟨k, j, hk, rfl, rfl, hj, hp, rfl⟩ := hrel
        have hb := Below.refl wr.heap.size wr
        have hlt : k < L.length := by
          rcases Nat.lt_or_ge k L.length with h | h
          · exact h
          · rw [List.drop_eq_nil_of_le h] at hj; simp [bag] at hj
        have hR := H.out.below hb
        have q2 : wr.cell? ⟨g, 1, none⟩ = some (.slice A1 L.length c1) := hR.blk.cell 1
        have q3 := hR.blk.lt
        have hlk : decide ((k : Int) < (L.length : Int)) = decide (k < L.length) := decide_eq_decide.2 (by omega)
        have hrow := hR.row1
        obtain ⟨sb, so, rfl, hsb⟩ := hrow.at_some (by omega)
        obtain ⟨m, hv⟩ : ∃ m, L[k]? = some m := ⟨L[k], List.getElem?_eq_getElem hlt⟩
        have g0 := hrow.thing mc mc_len hlt hv 0 (by omega)
        have g1 := hrow.thing mc mc_len hlt hv 1 (by omega)
        have hj2 : (j : Int) ≤ 100000 := by have := cnt_le (L.drop k) (a, b); rw [List.length_drop] at this; omega
        have hdr : L.drop k = m :: L.drop (k + 1) := by
          rw [List.drop_eq_getElem_cons hlt]
          congr 1
          exact (List.getElem?_eq_some_iff.1 hv).2
        rw [hdr] at hj hp
        have hno1 := fun h => of_no1 (m := m) (a := a) (b := b) h
        have hno2 := fun h => of_no2 (m := m) (a := a) (b := b) h
        have hyes := fun h1 h2 => of_yes (m := m) (a := a) (b := b) h1 h2
        have hN := fun (h : ofW (a, b) m = false) => at_no (k := k) (P := posN L (a, b) i) h hj hp
        have hY := fun (h : ofW (a, b) m = true) => at_yes (k := k) (P := posN L (a, b) i) h hj hp
        obtain ⟨p, q, s⟩ := m
        dsimp only at hno1 hno2 hyes
        simp [mc] at g0 g1
        have Hno1 := Lib.hid hno1
        have Hno2 := Lib.hid hno2
        have Hyes := Lib.hid hyes
        have HN := Lib.hid hN
        have HY := Lib.hid hY
        clear hb hR hrow hno1 hno2 hyes hv hN hY hj hp hdr
        cases d1 : (p == a)
        · have Hs := Lib.hid (HN.out (Hno1.out d1))
          go_wp2
          go_roundw
          case rel => exact ⟨k + 1, j, by omega, by go_num, rfl, Hs.out.1, Hs.out.2, trivial⟩
          case measure => simp [intOf]; omega
        · cases d2 : (q == b)
          · have Hs := Lib.hid (HN.out (Hno2.out d2))
            go_wp2
            go_roundw
            case rel => exact ⟨k + 1, j, by omega, by go_num, rfl, Hs.out.1, Hs.out.2, trivial⟩
            case measure => simp [intOf]; omega
          · have Hs := Lib.hid (HY.out (Hyes.out d1 d2))
            by_cases hj0 : j = 0
            · subst hj0
              have Hf := Lib.hid (Hs.out.1 rfl)
              go_wp2
              go_ret
              exact ⟨by rw [HpI.out, Hf.out]; rfl, rfl⟩
            · have hd0 : ((j : Int) == 0) = false := by simp; omega
              have Hf := Lib.hid (Hs.out.2 (j - 1) (by omega))
              have h1j : 1 ≤ j := by omega
              go_wp2
              go_roundw
              case rel => exact ⟨k + 1, j - 1, by omega, by go_num, sub_one h1j, Hf.out.1, Hf.out.2, trivial⟩
              case measure => simp [intOf]; omega
end Go.Proofs.Ytempojdgbgaanaa.refcnt
