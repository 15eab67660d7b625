/- wire's trimmed, and the document's: may a vector be? -/
import Derived.Test.YtedkcpncomgboaaOut
namespace Go.Proofs.Ytedkcpncomgboaa.wire
open Go.RowKit Go.Proofs.Ytedkcpncomgboaa.base Go.Proofs.Ytedkcpncomgboaa.rowe Go.Proofs.Ytedkcpncomgboaa.err

def okN (most z : Int) : Bool := decide (0 ≤ z) && decide (z ≤ most)
def trB (zs : List Int) (most : Int) : Bool := decide (zs.length ≤ 16) && (!(decide (0 < zs.length) && decide (zs.getD (zs.length - 1) 0 = 0)) && zs.all (okN most))
theorem all_drop (zs : List Int) (p : Int → Bool) (n : Nat) (h : ∀ k, k < n → p (zs.getD k 0) = true) : n ≤ zs.length → zs.all p = (zs.drop n).all p := by
  intro hn
  conv => lhs; rw [← List.take_append_drop n zs, List.all_append]
  have : (zs.take n).all p = true := by
    rw [List.all_eq_true]
    intro x hx
    obtain ⟨k, hk, rfl⟩ := List.getElem_of_mem hx
    simp at hk
    have := h k (by omega)
    rw [List.getD_eq_getElem?_getD, List.getElem?_eq_getElem (by omega)] at this
    simpa using this
  rw [this, Bool.true_and]
theorem tr_at {zs : List Int} {most : Int} {n : Nat} (hn : n < zs.length) (h : okN most (zs.getD n 0) = false) : trB zs most = false := by
  have : zs.all (okN most) = false := by
    rw [Bool.eq_false_iff]
    intro hA
    rw [List.all_eq_true] at hA
    have := hA (zs.getD n 0) (by rw [List.getD_eq_getElem?_getD, List.getElem?_eq_getElem hn]; simp)
    rw [h] at this
    cases this
  unfold trB
  rw [this, Bool.and_false, Bool.and_false]
theorem tr_all {zs : List Int} {most : Int} (h16 : zs.length ≤ 16) (h0 : zs.length = 0 ∨ zs.getD (zs.length - 1) 0 ≠ 0) (h : ∀ k, k < zs.length → okN most (zs.getD k 0) = true) : trB zs most = true := by
  have h1 : zs.all (okN most) = true := by
    rw [all_drop zs _ zs.length h (Nat.le_refl _), List.drop_length]; rfl
  unfold trB
  rw [h1, decide_eq_true h16]
  rcases h0 with h0 | h0
  · simp [h0]
  · rw [decide_eq_false h0]; simp
set_option maxRecDepth 10000 in
theorem trim_any (A : Option Addr) (m c : Nat) (zs : List Int) (most : Int) (B : Nat) (w : World) (hl : zs.length = m) (hm : m ≤ maxLen) (hr : Reads w B 1 A m (zs.map (Value.int .i64))) :
    Calls Try.prog 67 #[.slice A m c, .int .i64 most] w fun e w' => e = .returned (.bool (trB zs most)) ∧ w' = w := by
  unfold maxLen at hm
  by_cases h16 : 16 < m
  · have hf : trB zs most = false := by unfold trB; rw [decide_eq_false (by omega)]; rfl
    rw [hf]
    have d1 : decide ((16 : Int) < (m : Int)) = true := by simp; omega
    clear hr hl hf
    go_enter Try.func67, Try.ntmps67
    go_wp2
    go_ret
    exact ⟨rfl, rfl⟩
  · have d1 : decide ((16 : Int) < (m : Int)) = false := by simp; omega
    by_cases h0 : m = 0
    · subst h0
      have ht : trB zs most = true := tr_all (by omega) (.inl hl) (fun k hk => by omega)
      rw [ht]
      clear hr hl ht
      go_enter Try.func67, Try.ntmps67
      go_wp2
      go_loopw [26] (fun i wr' => i = .int .i64 0 ∧ wr' = w) (fun _ _ => 0)
      case atStart => exact ⟨rfl, rfl⟩
      case round =>
        obtain ⟨rfl, rfl⟩ := hrel
        go_wp2
        go_ret
        exact ⟨rfl, rfl⟩
    · obtain ⟨b, off, rfl, hb⟩ := hr.at_some (by omega)
      have d2 : decide ((0 : Int) < (m : Int)) = true := by simp; omega
      have d3 : (m : Int) - 1 = ((m - 1 : Nat) : Int) := by omega
      have hlast := hr.int (k := m - 1) (by omega)
      have hz : ((m - 1 : Nat) : Int) < (m : Int) := by omega
      have hz2 : m - 1 < m := by omega
      cases dz : (zs.getD (m - 1) 0 == 0) with
      | true =>
        have hz : zs.getD (m - 1) 0 = 0 := by simpa using dz
        have hf : trB zs most = false := by unfold trB; rw [hl, hz, decide_eq_true (show 0 < m by omega)]; simp
        rw [hf]
        generalize zs.getD (m - 1) 0 = z at *
        clear hr hl hf hz
        go_enter Try.func67, Try.ntmps67
        go_wp2
        go_ret
        exact ⟨rfl, rfl⟩
      | false =>
        have hz : zs.getD (m - 1) 0 ≠ 0 := by simpa using dz
        have Hz := Lib.hid hz
        have Hl := Lib.hid hl
        have Hr := Lib.hid hr
        obtain ⟨z, hzd⟩ : ∃ z, zs.getD (m - 1) 0 = z := ⟨_, rfl⟩
        rw [hzd] at hlast dz
        clear hzd
        clear hr hl hz
        go_enter Try.func67, Try.ntmps67
        go_wp2
        go_loopw [6, 26] (fun _ i wr' => ∃ n : Nat, n ≤ m ∧ i = .int .i64 n ∧ (∀ k, k < n → okN most (zs.getD k 0) = true) ∧ wr' = w) (fun _ i _ => m - (intOf i).toNat)
        case atStart => exact ⟨0, by omega, rfl, fun k hk => by omega, rfl⟩
        case round =>
          clear hlast
          obtain ⟨n, hn, rfl, hall, rfl⟩ := hrel
          by_cases hlt : n < m
          · have hcur := Hr.out.int (k := n) hlt
            have ht1 := fun h => tr_at (zs := zs) (most := most) (n := n) (by rw [Hl.out]; exact hlt) h
            have hst : okN most (zs.getD n 0) = true → ∀ k, k < n + 1 → okN most (zs.getD k 0) = true := fun h k hk => by
              by_cases e : k = n
              · rw [e]; exact h
              · exact hall k (by omega)
            have Ht1 := Lib.hid ht1
            have Hst := Lib.hid hst
            clear ht1 hst hall
            generalize zs.getD n 0 = y at *
            cases e1 : decide (y < 0) with
            | true =>
              have hf := Ht1.out (by unfold okN; rw [decide_eq_false (by simp at e1; omega)]; rfl)
              have HF := Lib.hid hf
              clear hf
              go_wp2
              go_ret
              exact ⟨ret_bool HF.out.symm, rfl⟩
            | false =>
              cases e2 : decide (most < y) with
              | true =>
                have hf := Ht1.out (by unfold okN; rw [decide_eq_false (p := y ≤ most) (by simp at e2; omega), Bool.and_false])
                have HF := Lib.hid hf
                clear hf
                go_wp2
                go_ret
                exact ⟨ret_bool HF.out.symm, rfl⟩
              | false =>
                have HS := Lib.hid (Hst.out (by unfold okN; simp at e1 e2; simp; omega))
                go_wp2
                go_roundw
                case rel => exact ⟨n + 1, by omega, by go_num, HS.out, trivial⟩
                case measure => simp [intOf]; omega
          · obtain rfl : m = n := by omega
            have ht : trB zs most = true := tr_all (by rw [Hl.out]; omega) (.inr (by rw [Hl.out]; exact Hz.out)) (by rw [Hl.out]; exact hall)
            have HT := Lib.hid ht
            clear hall ht
            go_wp2
            go_ret
            exact ⟨ret_bool HT.out.symm, rfl⟩
set_option maxRecDepth 10000 in
theorem trim_ref (A : Option Addr) (m c : Nat) (zs : List Int) (most : Int) (B : Nat) (w : World) (hl : zs.length = m) (hm : m ≤ maxLen) (hr : Reads w B 1 A m (zs.map (Value.int .i64))) :
    Calls Try.prog 45 #[.slice A m c, .int .i64 most] w fun e w' => e = .returned (.bool (trB zs most)) ∧ w' = w := by
  unfold maxLen at hm
  by_cases h16 : 16 < m
  · have hf : trB zs most = false := by unfold trB; rw [decide_eq_false (by omega)]; rfl
    rw [hf]
    have d1 : decide ((16 : Int) < (m : Int)) = true := by simp; omega
    clear hr hl hf
    go_enter Try.func45, Try.ntmps45
    go_wp2
    go_ret
    exact ⟨rfl, rfl⟩
  · have d1 : decide ((16 : Int) < (m : Int)) = false := by simp; omega
    have Hl := Lib.hid hl
    have Hr := Lib.hid hr
    clear hr hl
    go_enter Try.func45, Try.ntmps45
    go_wp2
    go_loopw [5] (fun i wr' => ∃ n : Nat, n ≤ m ∧ i = .int .i64 n ∧ (∀ k, k < n → okN most (zs.getD k 0) = true) ∧ (n = 0 ∨ n < m ∨ zs.getD (m - 1) 0 ≠ 0) ∧ wr' = w) (fun i _ => m - (intOf i).toNat)
    case atStart => exact ⟨0, by omega, rfl, fun k hk => by omega, .inl rfl, rfl⟩
    case round =>
      obtain ⟨n, hn, rfl, hall, hz, rfl⟩ := hrel
      by_cases hlt : n < m
      · clear hz
        have d2 : decide ((n : Int) < (m : Int)) = true := by simp; omega
        obtain ⟨b, off, rfl, hb⟩ := Hr.out.at_some (by omega)
        have hcur := Hr.out.int (k := n) hlt
        have hz2 : ((n : Nat) : Int) < (m : Int) := by omega
        have d3 : (m : Int) - 1 = ((m - 1 : Nat) : Int) := by omega
        have ht1 := fun h => tr_at (zs := zs) (most := most) (n := n) (by rw [Hl.out]; exact hlt) h
        have hst : okN most (zs.getD n 0) = true → ∀ k, k < n + 1 → okN most (zs.getD k 0) = true := fun h k hk => by
          by_cases e : k = n
          · rw [e]; exact h
          · exact hall k (by omega)
        have hlast : n = m - 1 → zs.getD n 0 = 0 → trB zs most = false := fun e e2 => by
          subst e
          unfold trB
          rw [Hl.out, e2, decide_eq_true (show 0 < m by omega)]
          simp
        have Ht1 := Lib.hid ht1
        have Hst := Lib.hid hst
        have Hlast := Lib.hid hlast
        clear ht1 hst hall hlast
        obtain ⟨y, hy⟩ : ∃ y, zs.getD n 0 = y := ⟨_, rfl⟩
        rw [hy] at hcur
        have Hy := Lib.hid hy
        clear hy
        cases e1 : decide (y < 0) with
        | true =>
          have HF := Lib.hid (Ht1.out (by rw [Hy.out]; unfold okN; rw [decide_eq_false (by simp at e1; omega)]; rfl))
          go_wp2
          go_ret
          exact ⟨ret_bool HF.out.symm, rfl⟩
        | false =>
          cases e2 : decide (most < y) with
          | true =>
            have HF := Lib.hid (Ht1.out (by rw [Hy.out]; unfold okN; rw [decide_eq_false (p := y ≤ most) (by simp at e2; omega), Bool.and_false]))
            go_wp2
            go_ret
            exact ⟨ret_bool HF.out.symm, rfl⟩
          | false =>
            have HS := Lib.hid (Hst.out (by rw [Hy.out]; unfold okN; simp at e1 e2; simp; omega))
            by_cases hlst : n = m - 1
            · have d4 : ((n : Int) == ((m - 1 : Nat) : Int)) = true := by simp; omega
              cases e3 : (y == 0) with
              | true =>
                have HF := Lib.hid (Hlast.out hlst (by rw [Hy.out]; simpa using e3))
                clear hlst
                go_wp2
                go_ret
                exact ⟨ret_bool HF.out.symm, rfl⟩
              | false =>
                have HE := Lib.hid hlst
                have HE3 := Lib.hid e3
                clear hlst
                go_wp2
                go_roundw
                case rel => exact ⟨n + 1, by omega, by go_num, HS.out, .inr (.inr (by rw [← HE.out, Hy.out]; simpa using HE3.out)), trivial⟩
                case measure => simp [intOf]; omega
            · have d4 : ((n : Int) == ((m - 1 : Nat) : Int)) = false := by simp; omega
              have HE := Lib.hid hlst
              clear hlst
              go_wp2
              go_roundw
              case rel => exact ⟨n + 1, by omega, by go_num, HS.out, .inr (.inl (by have := HE.out; omega)), trivial⟩
              case measure => simp [intOf]; omega
      · obtain rfl : m = n := by omega
        have d2 : decide ((m : Int) < (m : Int)) = false := by simp
        have ht : trB zs most = true := tr_all (by rw [Hl.out]; omega) (by
          rw [Hl.out]
          rcases hz with h | h | h
          · exact .inl h
          · omega
          · exact .inr h) (by rw [Hl.out]; exact hall)
        have HT := Lib.hid ht
        clear hall ht hz
        go_wp2
        go_ret
        exact ⟨ret_bool HT.out.symm, rfl⟩
end Go.Proofs.Ytedkcpncomgboaa.wire
