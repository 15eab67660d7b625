/- The document's RightWrite: what a right write is. -/
import Derived.Test.YtedkcpncomgboaaWr
namespace Go.Proofs.Ytedkcpncomgboaa.wire
open Go.RowKit Go.Proofs.Ytedkcpncomgboaa.base Go.Proofs.Ytedkcpncomgboaa.rowe Go.Proofs.Ytedkcpncomgboaa.err
theorem right_order (x : Wr) : rightB x = (decide ((1 : Int) ≤ x.r) && (decide (x.r ≤ 16) && ((x.s == x.r) && (inB x.n 1 && (inB x.t 1 && (trB x.z 1099511627776 && (inB x.l 0 && (decide ((1 : Int) ≤ (x.se.size : Nat)) && (decide (((x.se.size : Nat) : Int) ≤ 64) && (decide (((x.k.size : Nat) : Int) ≤ 32) && (decide (((x.v.size : Nat) : Int) ≤ 128) && ((!x.g || (x.v.toList == [])))))))))))))) := by
  unfold rightB
  ac_rfl
theorem size_list (v : ByteArray) : v.toList.length = v.size := by
  rw [ByteArray.toList_eq]
  rfl
theorem size_pos {v : ByteArray} (h : decide (0 < v.size) = true) : (!true || (v.toList == [])) = false := by
  have h := of_decide_eq_true h
  cases hv : v.toList with
  | nil => have := size_list v; rw [hv] at this; simp at this; omega
  | cons a l => rfl
theorem size_zero {v : ByteArray} (h : decide (0 < v.size) = false) : (!true || (v.toList == [])) = true := by
  have h := of_decide_eq_false h
  have := size_list v
  rw [List.eq_nil_of_length_eq_zero (this.trans (by omega))]
  rfl
set_option maxRecDepth 100000 in
set_option maxHeartbeats 4000000 in
theorem right_ref (x : Wr) (w : World) (hd : Nums w w.heap.size x.d x.z) :
    Calls Try.prog 49 #[.agg ⟨x.cells⟩] w fun e w' => e = .returned (.bool (rightB x)) ∧ Below w.heap.size w w' := by
  obtain ⟨A, m, c, hx, hl, hm, hr⟩ := hd
  obtain ⟨r, n, t, s, d, zs, se, k, v, g, l⟩ := x
  dsimp only at hx hl hr
  subst hx
  have Hl := Lib.hid hl
  clear hl
  have Hr := Lib.hid (hr.alloc (Nat.le_refl _) (.cells #[.int .i64 r, .int .i64 n, .int .i64 t, .int .i64 s, .slice A m c, .string se, .string k, .string v, .bool g, .int .i64 l] 35))
  clear hr
  unfold Wr.cells
  dsimp only
  cases h1 : decide ((1 : Int) ≤ r) with
  | false =>
    have d1 : decide (r < 1) = true := by simp at h1 ⊢; omega
    have HF := Lib.hid (show rightB ⟨r, n, t, s, .slice A m c, zs, se, k, v, g, l⟩ = false by rw [right_order]; dsimp only; rw [h1]; rfl)
    go_enter Try.func49, Try.ntmps49
    go_wp2_with (first | (go_at_call 65; refine (num_ref _ _ _).mono ?_; rintro e w1 ⟨rfl, rfl⟩) | (go_at_call 45; refine (trim_ref A m c zs _ _ _ Hl.out hm Hr.out).mono ?_; rintro e w1 ⟨rfl, rfl⟩))
    all_goals first | (go_ret; exact ⟨ret_bool HF.out.symm, below_new _ _⟩) | (rename_i hq h2; simp [undef] at hq; done) | trace_state
  | true =>
    have d1 : decide (r < 1) = false := by simp at h1 ⊢; omega
    cases h2 : decide (r ≤ 16) with
    | false =>
      have d2 : decide (16 < r) = true := by simp at h2 ⊢; omega
      have HF := Lib.hid (show rightB ⟨r, n, t, s, .slice A m c, zs, se, k, v, g, l⟩ = false by rw [right_order]; dsimp only; rw [h1, h2]; rfl)
      go_enter Try.func49, Try.ntmps49
      go_wp2_with (first | (go_at_call 65; refine (num_ref _ _ _).mono ?_; rintro e w1 ⟨rfl, rfl⟩) | (go_at_call 45; refine (trim_ref A m c zs _ _ _ Hl.out hm Hr.out).mono ?_; rintro e w1 ⟨rfl, rfl⟩))
      all_goals first | (go_ret; exact ⟨ret_bool HF.out.symm, below_new _ _⟩) | (rename_i hq h2; simp [undef] at hq; done) | trace_state
    | true =>
      have d2 : decide (16 < r) = false := by simp at h2 ⊢; omega
      cases h4 : (s == r) with
      | false =>
        have d4 : (s != r) = true := by unfold bne; rw [h4]; rfl
        have HF := Lib.hid (show rightB ⟨r, n, t, s, .slice A m c, zs, se, k, v, g, l⟩ = false by rw [right_order]; dsimp only; rw [h1, h2, h4]; rfl)
        go_enter Try.func49, Try.ntmps49
        go_wp2_with (first | (go_at_call 65; refine (num_ref _ _ _).mono ?_; rintro e w1 ⟨rfl, rfl⟩) | (go_at_call 45; refine (trim_ref A m c zs _ _ _ Hl.out hm Hr.out).mono ?_; rintro e w1 ⟨rfl, rfl⟩))
        all_goals first | (go_ret; exact ⟨ret_bool HF.out.symm, below_new _ _⟩) | (rename_i hq h2; simp [undef] at hq; done) | trace_state
      | true =>
        have d4 : (s != r) = false := by unfold bne; rw [h4]; rfl
        cases h3 : inB n 1 with
        | false =>
          have HF := Lib.hid (show rightB ⟨r, n, t, s, .slice A m c, zs, se, k, v, g, l⟩ = false by rw [right_order]; dsimp only; rw [h1, h2, h4, h3]; rfl)
          go_enter Try.func49, Try.ntmps49
          go_wp2_with (first | (go_at_call 65; refine (num_ref _ _ _).mono ?_; rintro e w1 ⟨rfl, rfl⟩) | (go_at_call 45; refine (trim_ref A m c zs _ _ _ Hl.out hm Hr.out).mono ?_; rintro e w1 ⟨rfl, rfl⟩))
          all_goals first | (go_ret; exact ⟨ret_bool HF.out.symm, below_new _ _⟩) | (rename_i hq h2; simp [undef] at hq; done) | trace_state
        | true =>
          cases h5 : inB t 1 with
          | false =>
            have HF := Lib.hid (show rightB ⟨r, n, t, s, .slice A m c, zs, se, k, v, g, l⟩ = false by rw [right_order]; dsimp only; rw [h1, h2, h4, h3, h5]; rfl)
            go_enter Try.func49, Try.ntmps49
            go_wp2_with (first | (go_at_call 65; refine (num_ref _ _ _).mono ?_; rintro e w1 ⟨rfl, rfl⟩) | (go_at_call 45; refine (trim_ref A m c zs _ _ _ Hl.out hm Hr.out).mono ?_; rintro e w1 ⟨rfl, rfl⟩))
            all_goals first | (go_ret; exact ⟨ret_bool HF.out.symm, below_new _ _⟩) | (rename_i hq h2; simp [undef] at hq; done) | trace_state
          | true =>
            cases h6 : trB zs 1099511627776 with
            | false =>
              have HF := Lib.hid (show rightB ⟨r, n, t, s, .slice A m c, zs, se, k, v, g, l⟩ = false by rw [right_order]; dsimp only; rw [h1, h2, h4, h3, h5, h6]; rfl)
              go_enter Try.func49, Try.ntmps49
              go_wp2_with (first | (go_at_call 65; refine (num_ref _ _ _).mono ?_; rintro e w1 ⟨rfl, rfl⟩) | (go_at_call 45; refine (trim_ref A m c zs _ _ _ Hl.out hm Hr.out).mono ?_; rintro e w1 ⟨rfl, rfl⟩))
              all_goals first | (go_ret; exact ⟨ret_bool HF.out.symm, below_new _ _⟩) | (rename_i hq h2; simp [undef] at hq; done) | trace_state
            | true =>
              cases h12 : inB l 0 with
              | false =>
                have HF := Lib.hid (show rightB ⟨r, n, t, s, .slice A m c, zs, se, k, v, g, l⟩ = false by rw [right_order]; dsimp only; rw [h1, h2, h4, h3, h5, h6, h12]; rfl)
                go_enter Try.func49, Try.ntmps49
                go_wp2_with (first | (go_at_call 65; refine (num_ref _ _ _).mono ?_; rintro e w1 ⟨rfl, rfl⟩) | (go_at_call 45; refine (trim_ref A m c zs _ _ _ Hl.out hm Hr.out).mono ?_; rintro e w1 ⟨rfl, rfl⟩))
                all_goals first | (go_ret; exact ⟨ret_bool HF.out.symm, below_new _ _⟩) | (rename_i hq h2; simp [undef] at hq; done) | trace_state
              | true =>
                cases h7 : decide ((1 : Int) ≤ (se.size : Nat)) with
                | false =>
                  have HF := Lib.hid (show rightB ⟨r, n, t, s, .slice A m c, zs, se, k, v, g, l⟩ = false by rw [right_order]; dsimp only; rw [h1, h2, h4, h3, h5, h6, h12, h7]; rfl)
                  go_enter Try.func49, Try.ntmps49
                  go_wp2_with (first | (go_at_call 65; refine (num_ref _ _ _).mono ?_; rintro e w1 ⟨rfl, rfl⟩) | (go_at_call 45; refine (trim_ref A m c zs _ _ _ Hl.out hm Hr.out).mono ?_; rintro e w1 ⟨rfl, rfl⟩))
                  all_goals first | (go_ret; exact ⟨ret_bool HF.out.symm, below_new _ _⟩) | (rename_i hq h2; simp [undef] at hq; done) | trace_state
                | true =>
                  cases h8 : decide (((se.size : Nat) : Int) ≤ 64) with
                  | false =>
                    have HF := Lib.hid (show rightB ⟨r, n, t, s, .slice A m c, zs, se, k, v, g, l⟩ = false by rw [right_order]; dsimp only; rw [h1, h2, h4, h3, h5, h6, h12, h7, h8]; rfl)
                    go_enter Try.func49, Try.ntmps49
                    go_wp2_with (first | (go_at_call 65; refine (num_ref _ _ _).mono ?_; rintro e w1 ⟨rfl, rfl⟩) | (go_at_call 45; refine (trim_ref A m c zs _ _ _ Hl.out hm Hr.out).mono ?_; rintro e w1 ⟨rfl, rfl⟩))
                    all_goals first | (go_ret; exact ⟨ret_bool HF.out.symm, below_new _ _⟩) | (rename_i hq h2; simp [undef] at hq; done) | trace_state
                  | true =>
                    cases h9 : decide (((k.size : Nat) : Int) ≤ 32) with
                    | false =>
                      have HF := Lib.hid (show rightB ⟨r, n, t, s, .slice A m c, zs, se, k, v, g, l⟩ = false by rw [right_order]; dsimp only; rw [h1, h2, h4, h3, h5, h6, h12, h7, h8, h9]; rfl)
                      go_enter Try.func49, Try.ntmps49
                      go_wp2_with (first | (go_at_call 65; refine (num_ref _ _ _).mono ?_; rintro e w1 ⟨rfl, rfl⟩) | (go_at_call 45; refine (trim_ref A m c zs _ _ _ Hl.out hm Hr.out).mono ?_; rintro e w1 ⟨rfl, rfl⟩))
                      all_goals first | (go_ret; exact ⟨ret_bool HF.out.symm, below_new _ _⟩) | (rename_i hq h2; simp [undef] at hq; done) | trace_state
                    | true =>
                      cases h10 : decide (((v.size : Nat) : Int) ≤ 128) with
                      | false =>
                        have HF := Lib.hid (show rightB ⟨r, n, t, s, .slice A m c, zs, se, k, v, g, l⟩ = false by rw [right_order]; dsimp only; rw [h1, h2, h4, h3, h5, h6, h12, h7, h8, h9, h10]; rfl)
                        go_enter Try.func49, Try.ntmps49
                        go_wp2_with (first | (go_at_call 65; refine (num_ref _ _ _).mono ?_; rintro e w1 ⟨rfl, rfl⟩) | (go_at_call 45; refine (trim_ref A m c zs _ _ _ Hl.out hm Hr.out).mono ?_; rintro e w1 ⟨rfl, rfl⟩))
                        all_goals first | (go_ret; exact ⟨ret_bool HF.out.symm, below_new _ _⟩) | (rename_i hq h2; simp [undef] at hq; done) | trace_state
                      | true =>
                        cases g with
                        | false =>
                          have h11 : (!false || (v.toList == [])) = true := rfl
                          have HF := Lib.hid (show rightB ⟨r, n, t, s, .slice A m c, zs, se, k, v, false, l⟩ = true by rw [right_order]; dsimp only; rw [h1, h2, h4, h3, h5, h6, h12, h7, h8, h9, h10, h11]; rfl)
                          go_enter Try.func49, Try.ntmps49
                          go_wp2_with (first | (go_at_call 65; refine (num_ref _ _ _).mono ?_; rintro e w1 ⟨rfl, rfl⟩) | (go_at_call 45; refine (trim_ref A m c zs _ _ _ Hl.out hm Hr.out).mono ?_; rintro e w1 ⟨rfl, rfl⟩))
                          all_goals first | (go_ret; exact ⟨ret_bool HF.out.symm, below_new _ _⟩) | (rename_i hq h2; simp [undef] at hq; done) | trace_state
                        | true =>
                          cases hv : decide (0 < v.size) with
                          | true =>
                            have h11 : (!true || (v.toList == [])) = false := size_pos hv
                            have HF := Lib.hid (show rightB ⟨r, n, t, s, .slice A m c, zs, se, k, v, true, l⟩ = false by rw [right_order]; dsimp only; rw [h1, h2, h4, h3, h5, h6, h12, h7, h8, h9, h10, h11]; rfl)
                            go_enter Try.func49, Try.ntmps49
                            go_wp2_with (first | (go_at_call 65; refine (num_ref _ _ _).mono ?_; rintro e w1 ⟨rfl, rfl⟩) | (go_at_call 45; refine (trim_ref A m c zs _ _ _ Hl.out hm Hr.out).mono ?_; rintro e w1 ⟨rfl, rfl⟩))
                            all_goals first | (go_ret; exact ⟨ret_bool HF.out.symm, below_new _ _⟩) | (rename_i hq h2; simp [undef] at hq; done) | trace_state
                          | false =>
                            have h11 : (!true || (v.toList == [])) = true := size_zero hv
                            have HF := Lib.hid (show rightB ⟨r, n, t, s, .slice A m c, zs, se, k, v, true, l⟩ = true by rw [right_order]; dsimp only; rw [h1, h2, h4, h3, h5, h6, h12, h7, h8, h9, h10, h11]; rfl)
                            go_enter Try.func49, Try.ntmps49
                            go_wp2_with (first | (go_at_call 65; refine (num_ref _ _ _).mono ?_; rintro e w1 ⟨rfl, rfl⟩) | (go_at_call 45; refine (trim_ref A m c zs _ _ _ Hl.out hm Hr.out).mono ?_; rintro e w1 ⟨rfl, rfl⟩))
                            all_goals first | (go_ret; exact ⟨ret_bool HF.out.symm, below_new _ _⟩) | (rename_i hq h2; simp [undef] at hq; done) | trace_state
end Go.Proofs.Ytedkcpncomgboaa.wire
