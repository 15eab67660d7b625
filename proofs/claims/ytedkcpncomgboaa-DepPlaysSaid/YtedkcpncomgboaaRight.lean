/- wire's rightWrite: what a right write is. -/
import Derived.Test.YtedkcpncomgboaaWr
namespace Go.Proofs.Ytedkcpncomgboaa.wire
open Go.RowKit Go.Proofs.Ytedkcpncomgboaa.base Go.Proofs.Ytedkcpncomgboaa.rowe Go.Proofs.Ytedkcpncomgboaa.err
set_option maxRecDepth 100000 in
set_option maxHeartbeats 4000000 in
theorem right_any (x : Wr) (w : World) (hd : Nums w w.heap.size x.d x.z) :
    Calls Try.prog 53 #[.agg ⟨x.cells⟩] w fun e w' => e = .returned (.bool (rightB x)) ∧ Below w.heap.size w w' := by
  obtain ⟨A, m, c, hx, hl, hm, hr⟩ := hd
  obtain ⟨r, n, t, s, d, zs, se, k, v, g, l⟩ := x
  dsimp only at hx hl hr
  subst hx
  have Hl := Lib.hid hl
  clear hl
  have Hr := Lib.hid (hr.alloc (Nat.le_refl _) (.cells #[.int .i64 r, .int .i64 n, .int .i64 t, .int .i64 s, .slice A m c, .string se, .string k, .string v, .bool g, .int .i64 l] 35))
  clear hr
  unfold Wr.cells
  dsimp only
  cases h1 : decide ((1 : Int) ≤ r) with
  | false =>
    have HF := Lib.hid (show rightB ⟨r, n, t, s, .slice A m c, zs, se, k, v, g, l⟩ = false by unfold rightB; dsimp only; rw [h1]; rfl)
    go_enter Try.func53, Try.ntmps53
    go_wp2_with (first | (go_at_call 66; refine (in_any _ _ _).mono ?_; rintro e w1 ⟨rfl, rfl⟩) | (go_at_call 67; refine (trim_any A m c zs _ _ _ Hl.out hm Hr.out).mono ?_; rintro e w1 ⟨rfl, rfl⟩))
    all_goals first | (go_ret; exact ⟨ret_bool HF.out.symm, below_new _ _⟩) | (rename_i hq h2; simp [undef] at hq; done) | trace_state
  | true =>
    cases h2 : decide (r ≤ 16) with
    | false =>
      have HF := Lib.hid (show rightB ⟨r, n, t, s, .slice A m c, zs, se, k, v, g, l⟩ = false by unfold rightB; dsimp only; rw [h1, h2]; rfl)
      go_enter Try.func53, Try.ntmps53
      go_wp2_with (first | (go_at_call 66; refine (in_any _ _ _).mono ?_; rintro e w1 ⟨rfl, rfl⟩) | (go_at_call 67; refine (trim_any A m c zs _ _ _ Hl.out hm Hr.out).mono ?_; rintro e w1 ⟨rfl, rfl⟩))
      all_goals first | (go_ret; exact ⟨ret_bool HF.out.symm, below_new _ _⟩) | (rename_i hq h2; simp [undef] at hq; done) | trace_state
    | true =>
      cases h3 : inB n 1 with
      | false =>
        have HF := Lib.hid (show rightB ⟨r, n, t, s, .slice A m c, zs, se, k, v, g, l⟩ = false by unfold rightB; dsimp only; rw [h1, h2, h3]; rfl)
        go_enter Try.func53, Try.ntmps53
        go_wp2_with (first | (go_at_call 66; refine (in_any _ _ _).mono ?_; rintro e w1 ⟨rfl, rfl⟩) | (go_at_call 67; refine (trim_any A m c zs _ _ _ Hl.out hm Hr.out).mono ?_; rintro e w1 ⟨rfl, rfl⟩))
        all_goals first | (go_ret; exact ⟨ret_bool HF.out.symm, below_new _ _⟩) | (rename_i hq h2; simp [undef] at hq; done) | trace_state
      | true =>
        cases h4 : (s == r) with
        | false =>
          have HF := Lib.hid (show rightB ⟨r, n, t, s, .slice A m c, zs, se, k, v, g, l⟩ = false by unfold rightB; dsimp only; rw [h1, h2, h3, h4]; rfl)
          go_enter Try.func53, Try.ntmps53
          go_wp2_with (first | (go_at_call 66; refine (in_any _ _ _).mono ?_; rintro e w1 ⟨rfl, rfl⟩) | (go_at_call 67; refine (trim_any A m c zs _ _ _ Hl.out hm Hr.out).mono ?_; rintro e w1 ⟨rfl, rfl⟩))
          all_goals first | (go_ret; exact ⟨ret_bool HF.out.symm, below_new _ _⟩) | (rename_i hq h2; simp [undef] at hq; done) | trace_state
        | true =>
          cases h5 : inB t 1 with
          | false =>
            have HF := Lib.hid (show rightB ⟨r, n, t, s, .slice A m c, zs, se, k, v, g, l⟩ = false by unfold rightB; dsimp only; rw [h1, h2, h3, h4, h5]; rfl)
            go_enter Try.func53, Try.ntmps53
            go_wp2_with (first | (go_at_call 66; refine (in_any _ _ _).mono ?_; rintro e w1 ⟨rfl, rfl⟩) | (go_at_call 67; refine (trim_any A m c zs _ _ _ Hl.out hm Hr.out).mono ?_; rintro e w1 ⟨rfl, rfl⟩))
            all_goals first | (go_ret; exact ⟨ret_bool HF.out.symm, below_new _ _⟩) | (rename_i hq h2; simp [undef] at hq; done) | trace_state
          | true =>
            cases h6 : trB zs 1099511627776 with
            | false =>
              have HF := Lib.hid (show rightB ⟨r, n, t, s, .slice A m c, zs, se, k, v, g, l⟩ = false by unfold rightB; dsimp only; rw [h1, h2, h3, h4, h5, h6]; rfl)
              go_enter Try.func53, Try.ntmps53
              go_wp2_with (first | (go_at_call 66; refine (in_any _ _ _).mono ?_; rintro e w1 ⟨rfl, rfl⟩) | (go_at_call 67; refine (trim_any A m c zs _ _ _ Hl.out hm Hr.out).mono ?_; rintro e w1 ⟨rfl, rfl⟩))
              all_goals first | (go_ret; exact ⟨ret_bool HF.out.symm, below_new _ _⟩) | (rename_i hq h2; simp [undef] at hq; done) | trace_state
            | true =>
              cases h7 : decide ((1 : Int) ≤ (se.size : Nat)) with
              | false =>
                have HF := Lib.hid (show rightB ⟨r, n, t, s, .slice A m c, zs, se, k, v, g, l⟩ = false by unfold rightB; dsimp only; rw [h1, h2, h3, h4, h5, h6, h7]; rfl)
                go_enter Try.func53, Try.ntmps53
                go_wp2_with (first | (go_at_call 66; refine (in_any _ _ _).mono ?_; rintro e w1 ⟨rfl, rfl⟩) | (go_at_call 67; refine (trim_any A m c zs _ _ _ Hl.out hm Hr.out).mono ?_; rintro e w1 ⟨rfl, rfl⟩))
                all_goals first | (go_ret; exact ⟨ret_bool HF.out.symm, below_new _ _⟩) | (rename_i hq h2; simp [undef] at hq; done) | trace_state
              | true =>
                cases h8 : decide (((se.size : Nat) : Int) ≤ 64) with
                | false =>
                  have HF := Lib.hid (show rightB ⟨r, n, t, s, .slice A m c, zs, se, k, v, g, l⟩ = false by unfold rightB; dsimp only; rw [h1, h2, h3, h4, h5, h6, h7, h8]; rfl)
                  go_enter Try.func53, Try.ntmps53
                  go_wp2_with (first | (go_at_call 66; refine (in_any _ _ _).mono ?_; rintro e w1 ⟨rfl, rfl⟩) | (go_at_call 67; refine (trim_any A m c zs _ _ _ Hl.out hm Hr.out).mono ?_; rintro e w1 ⟨rfl, rfl⟩))
                  all_goals first | (go_ret; exact ⟨ret_bool HF.out.symm, below_new _ _⟩) | (rename_i hq h2; simp [undef] at hq; done) | trace_state
                | true =>
                  cases h9 : decide (((k.size : Nat) : Int) ≤ 32) with
                  | false =>
                    have HF := Lib.hid (show rightB ⟨r, n, t, s, .slice A m c, zs, se, k, v, g, l⟩ = false by unfold rightB; dsimp only; rw [h1, h2, h3, h4, h5, h6, h7, h8, h9]; rfl)
                    go_enter Try.func53, Try.ntmps53
                    go_wp2_with (first | (go_at_call 66; refine (in_any _ _ _).mono ?_; rintro e w1 ⟨rfl, rfl⟩) | (go_at_call 67; refine (trim_any A m c zs _ _ _ Hl.out hm Hr.out).mono ?_; rintro e w1 ⟨rfl, rfl⟩))
                    all_goals first | (go_ret; exact ⟨ret_bool HF.out.symm, below_new _ _⟩) | (rename_i hq h2; simp [undef] at hq; done) | trace_state
                  | true =>
                    cases h10 : decide (((v.size : Nat) : Int) ≤ 128) with
                    | false =>
                      have HF := Lib.hid (show rightB ⟨r, n, t, s, .slice A m c, zs, se, k, v, g, l⟩ = false by unfold rightB; dsimp only; rw [h1, h2, h3, h4, h5, h6, h7, h8, h9, h10]; rfl)
                      go_enter Try.func53, Try.ntmps53
                      go_wp2_with (first | (go_at_call 66; refine (in_any _ _ _).mono ?_; rintro e w1 ⟨rfl, rfl⟩) | (go_at_call 67; refine (trim_any A m c zs _ _ _ Hl.out hm Hr.out).mono ?_; rintro e w1 ⟨rfl, rfl⟩))
                      all_goals first | (go_ret; exact ⟨ret_bool HF.out.symm, below_new _ _⟩) | (rename_i hq h2; simp [undef] at hq; done) | trace_state
                    | true =>
                      cases g with
                      | false =>
                        have h11 : (!false || (v.toList == [])) = true := rfl
                        cases h12 : inB l 0 with
                        | false =>
                          have HF := Lib.hid (show rightB ⟨r, n, t, s, .slice A m c, zs, se, k, v, false, l⟩ = false by unfold rightB; dsimp only; rw [h1, h2, h3, h4, h5, h6, h7, h8, h9, h10, h11, h12]; rfl)
                          go_enter Try.func53, Try.ntmps53
                          go_wp2_with (first | (go_at_call 66; refine (in_any _ _ _).mono ?_; rintro e w1 ⟨rfl, rfl⟩) | (go_at_call 67; refine (trim_any A m c zs _ _ _ Hl.out hm Hr.out).mono ?_; rintro e w1 ⟨rfl, rfl⟩))
                          all_goals first | (go_ret; exact ⟨ret_bool HF.out.symm, below_new _ _⟩) | (rename_i hq h2; simp [undef] at hq; done) | trace_state
                        | true =>
                          have HF := Lib.hid (show rightB ⟨r, n, t, s, .slice A m c, zs, se, k, v, false, l⟩ = true by unfold rightB; dsimp only; rw [h1, h2, h3, h4, h5, h6, h7, h8, h9, h10, h11, h12]; rfl)
                          go_enter Try.func53, Try.ntmps53
                          go_wp2_with (first | (go_at_call 66; refine (in_any _ _ _).mono ?_; rintro e w1 ⟨rfl, rfl⟩) | (go_at_call 67; refine (trim_any A m c zs _ _ _ Hl.out hm Hr.out).mono ?_; rintro e w1 ⟨rfl, rfl⟩))
                          all_goals first | (go_ret; exact ⟨ret_bool HF.out.symm, below_new _ _⟩) | (rename_i hq h2; simp [undef] at hq; done) | trace_state
                      | true =>
                        cases hv : (v.toList == ([] : List UInt8)) with
                        | false =>
                          have h11 : (!true || (v.toList == [])) = false := hv
                          have HF := Lib.hid (show rightB ⟨r, n, t, s, .slice A m c, zs, se, k, v, true, l⟩ = false by unfold rightB; dsimp only; rw [h1, h2, h3, h4, h5, h6, h7, h8, h9, h10, h11]; rfl)
                          go_enter Try.func53, Try.ntmps53
                          go_wp2_with (first | (go_at_call 66; refine (in_any _ _ _).mono ?_; rintro e w1 ⟨rfl, rfl⟩) | (go_at_call 67; refine (trim_any A m c zs _ _ _ Hl.out hm Hr.out).mono ?_; rintro e w1 ⟨rfl, rfl⟩))
                          all_goals first | (go_ret; exact ⟨ret_bool HF.out.symm, below_new _ _⟩) | (rename_i hq h2; simp [undef] at hq; done) | trace_state
                        | true =>
                          have h11 : (!true || (v.toList == [])) = true := hv
                          cases h12 : inB l 0 with
                          | false =>
                            have HF := Lib.hid (show rightB ⟨r, n, t, s, .slice A m c, zs, se, k, v, true, l⟩ = false by unfold rightB; dsimp only; rw [h1, h2, h3, h4, h5, h6, h7, h8, h9, h10, h11, h12]; rfl)
                            go_enter Try.func53, Try.ntmps53
                            go_wp2_with (first | (go_at_call 66; refine (in_any _ _ _).mono ?_; rintro e w1 ⟨rfl, rfl⟩) | (go_at_call 67; refine (trim_any A m c zs _ _ _ Hl.out hm Hr.out).mono ?_; rintro e w1 ⟨rfl, rfl⟩))
                            all_goals first | (go_ret; exact ⟨ret_bool HF.out.symm, below_new _ _⟩) | (rename_i hq h2; simp [undef] at hq; done) | trace_state
                          | true =>
                            have HF := Lib.hid (show rightB ⟨r, n, t, s, .slice A m c, zs, se, k, v, true, l⟩ = true by unfold rightB; dsimp only; rw [h1, h2, h3, h4, h5, h6, h7, h8, h9, h10, h11, h12]; rfl)
                            go_enter Try.func53, Try.ntmps53
                            go_wp2_with (first | (go_at_call 66; refine (in_any _ _ _).mono ?_; rintro e w1 ⟨rfl, rfl⟩) | (go_at_call 67; refine (trim_any A m c zs _ _ _ Hl.out hm Hr.out).mono ?_; rintro e w1 ⟨rfl, rfl⟩))
                            all_goals first | (go_ret; exact ⟨ret_bool HF.out.symm, below_new _ _⟩) | (rename_i hq h2; simp [undef] at hq; done) | trace_state
end Go.Proofs.Ytedkcpncomgboaa.wire
