/- The law's own write and awake: the document's example. -/
import Derived.Test.YtedkcpncomgboaaDrainF
import Derived.Test.YtedkcpncomgboaaNewI
namespace Go.Proofs.Ytedkcpncomgboaa.dep
open Go Go.RowKit Go.Proofs.Ytedkcpncomgboaa.base Go.Proofs.Ytedkcpncomgboaa.rowe Go.Proofs.Ytedkcpncomgboaa.wire Go.Proofs.Ytedkcpncomgboaa.vec Go.Proofs.Ytedkcpncomgboaa.cmp Go.Proofs.Ytedkcpncomgboaa.with_ Go.Proofs.Ytedkcpncomgboaa.monoj Go.Proofs.Ytedkcpncomgboaa.err

def wrD (r n : Int) (d : Value) (z : List Int) : Wr := ⟨r, n, 1, r, d, z, ⟨#[115]⟩, ⟨#[]⟩, ⟨#[]⟩, false, 0⟩
set_option maxRecDepth 10000 in
theorem write_any (r n : Int) (A : Option Addr) (m c : Nat) (z : List Int) (w : World) : Calls Try.prog 10 #[.int .i64 r, .int .i64 n, .slice A m c] w fun e w' => e = .returned (.agg ⟨(wrD r n (.slice A m c) z).cells⟩) ∧ Below w.heap.size w w' := by
  go_enter Try.func10, Try.ntmps10
  go_wp2
  refine bodyPost_ret (v := .agg ⟨(wrD r n (.slice A m c) z).cells⟩) (results_cell_row (P := Try.prog) rfl _ _ w.heap.size 35 _ (0, 0) _ rfl (by exact Blk.new w 35 (wrD r n (.slice A m c) z).cells.toArray) Try.underlying35 rfl (by kernel_rfl)) rfl ⟨rfl, below_new _ _⟩
theorem vec_nil (w : World) (B : Nat) : Vec w B none 0 0 [] := ⟨rfl, Nat.le_refl _, Nat.zero_le _, ⟨rfl, fun h => absurd h (by omega)⟩, fun _ => ⟨rfl, rfl⟩⟩
theorem at_nil {x : Wr} {k : Nat} (h : At_ [] x k) : k = 0 := by have := h.1; simpa using this
theorem offer1 (d : Value) : offC 1 [] [] (wrD 2 1 d [0, 0, 1]) 0 = 0 := by kernel_rfl
theorem drain1 (d : Value) : drainF 1 [] [wrD 2 1 d [0, 0, 1]] = ([], [wrD 2 1 d [0, 0, 1]], []) := by kernel_rfl
theorem offer2 (d d' : Value) : offC 1 [] [wrD 2 1 d [0, 0, 1]] (wrD 3 1 d' []) 1 = 0 := by kernel_rfl
theorem drain2 (d d' : Value) : drainF 2 [] [wrD 2 1 d [0, 0, 1], wrD 3 1 d' []] = ([0, 1, 1], [], [wrD 3 1 d' [], wrD 2 1 d [0, 0, 1]]) := by kernel_rfl
theorem at_one {d d' : Value} {k : Nat} (h : At_ [wrD 2 1 d [0, 0, 1]] (wrD 3 1 d' []) k) : k = 1 := by
  have h1 := h.1
  simp only [List.length_cons, List.length_nil] at h1
  by_cases h0 : k = 0
  · subst h0
    exact absurd (show cmpW (wrD 2 1 d [0, 0, 1]) (wrD 3 1 d' []) < 0 by rw [show cmpW (wrD 2 1 d [0, 0, 1]) (wrD 3 1 d' []) = -1 by kernel_rfl]; decide) (h.2.2 0 (Nat.le_refl _) (by simp))
  · omega
theorem part_nil (x : Wr) : Part [] x := fun j k _ h => by cases h
theorem part_one (y x : Wr) : Part [y] x := fun j k hjk hk hc => by
  obtain rfl : k = 0 := by simpa using hk
  obtain rfl : j = 0 := by omega
  exact hc
set_option maxRecDepth 100000 in
set_option maxHeartbeats 2000000 in
theorem awake_any (w : World) : Calls Try.prog 7 #[] w fun e w' => e = .returned (.bool true) ∧ Below w.heap.size w w' := by
  go_enter Try.func7, Try.ntmps7
  go_wp2_with fail
  refine (new_any 1 none 0 0 [] _ (vec_nil _ _) (by omega)).mono ?_
  rintro e w1 h1
  rcases h1 with ⟨_, g, S, va, rfl, hf1, hS, hb1⟩ | ⟨h, _⟩
  rotate_left
  · exact absurd h (by decide)
  have HF1 := Lib.hid hf1
  have HS := Lib.hid hS
  have HB1 := Lib.hid hb1
  clear hf1 hS hb1
  go_wp2_with fail
  refine (write_any 2 1 (some ⟨w1.heap.size, 0, none⟩) 3 3 [0, 0, 1] _).mono ?_
  rintro e w2 ⟨rfl, hb2⟩
  have hb12 := below_new w1 (.cells #[.int .i64 0, .int .i64 0, .int .i64 1] 3)
  have hv : Vec (w1.alloc (.cells #[.int .i64 0, .int .i64 0, .int .i64 1] 3)) (w1.alloc (.cells #[.int .i64 0, .int .i64 0, .int .i64 1] 3)).heap.size (some ⟨w1.heap.size, 0, none⟩) 3 3 [0, 0, 1] :=
    ⟨rfl, Nat.le_refl _, by decide, reads_blk (size := 1) (n := 3) (Blk.new w1 3 #[.int .i64 0, .int .i64 0, .int .i64 1]) rfl |> fun h => by simpa [enc] using h, fun e => by cases e⟩
  have HF2 := Lib.hid (HF1.out.below (below_step hb12 hb2))
  have HV2 := Lib.hid ((hv.below hb2).more hb2.size)
  have HB2 := Lib.hid (below_step (below_step HB1.out hb12) hb2)
  clear hv hb12 hb2
  go_wp2_with fail
  refine (offer_any g 1 S [] [] va (.slice none 0 0) (wrD 2 1 (.slice (some ⟨w1.heap.size, 0, none⟩) 3 3) [0, 0, 1]) (some ⟨w1.heap.size, 0, none⟩) 3 3 w2 HF2.out rfl HV2.out (by omega) (part_nil _) (by decide)).mono ?_
  rintro e w3 ⟨k, hk, h3⟩
  obtain rfl := at_nil hk
  rw [offer1] at h3
  rcases h3 with ⟨h, _⟩ | ⟨_, d', vo, a, l, out, S3, rfl, hdr, hno⟩
  · exact absurd rfl h
  obtain ⟨hst, ⟨va3, vw3, hf3, _⟩, hrow, _, _, hk3, hs3⟩ := hdr
  have hst : Steps [] [wrD 2 1 d' [0, 0, 1]] a l out := hst
  have hdq := drainF_eq hst hno
  rw [List.length_singleton, drain1] at hdq
  simp only [Prod.mk.injEq] at hdq
  obtain ⟨rfl, rfl, rfl⟩ := hdq
  obtain ⟨A3, c3, rfl⟩ := ownsRow_slice hrow
  have HF3 := Lib.hid hf3
  have HB3 := Lib.hid (show Below w.heap.size w w3 from HB2.out.trans (hk3.below (fun i hi h => by have := HS.out i h; omega) HB2.out.size))
  have HS3 := Lib.hid (show ∀ i, S3 i → w.heap.size ≤ i from fun i hi => (hs3 i hi).elim (HS.out i) fun h => Nat.le_trans HB2.out.size h)
  clear hk hst hno hf3 hrow hk3 hs3 HF2 HV2 HB2 HF1 HB1
  go_wp2_with fail
  refine (write_any 3 1 none 0 0 [] _).mono ?_
  rintro e w4 ⟨rfl, hb4⟩
  have HF4 := Lib.hid (HF3.out.below hb4)
  have HB4 := Lib.hid (below_step HB3.out hb4)
  clear hb4 HF3 HB3
  go_wp2_with fail
  refine (offer_any g 1 S3 [] _ va3 vw3 (wrD 3 1 (.slice none 0 0) []) none 0 0 w4 HF4.out rfl (vec_nil _ _) (by omega) (part_one _ _) (by simp)).mono ?_
  rintro e w5 ⟨k, hk, h5⟩
  obtain rfl := at_one hk
  rw [offer2] at h5
  rcases h5 with ⟨h, _⟩ | ⟨_, d5, vo5, a, l, out, S5, rfl, hdr, hno⟩
  · exact absurd rfl h
  obtain ⟨hst, _, hrow, _, _, hk5, hs5⟩ := hdr
  have hst : Steps [] [wrD 2 1 d' [0, 0, 1], wrD 3 1 d5 []] a l out := hst
  have hdq := drainF_eq hst hno
  rw [show [wrD 2 1 d' [0, 0, 1], wrD 3 1 d5 []].length = 2 from rfl, drain2] at hdq
  simp only [Prod.mk.injEq] at hdq
  obtain ⟨rfl, rfl, rfl⟩ := hdq
  obtain ⟨A5, c5, rfl⟩ := ownsRow_slice hrow
  have hr5 : Reads w5 w5.heap.size 10 A5 2 ([wrD 3 1 d5 [], wrD 2 1 d' [0, 0, 1]].flatMap Wr.cells) := Reads.of_own hrow
  obtain ⟨b5, off5, rfl, hbl5⟩ := hr5.at_some (by omega)
  have q0 : w5.cell? ⟨b5, off5, none⟩ = some (.int .i64 3) := by
    have := Reads.get hr5 (by decide) (j := 0) (v := .int .i64 3) rfl
    simpa using this
  have q1 : w5.cell? ⟨b5, off5 + 10, none⟩ = some (.int .i64 2) := by
    have := Reads.get hr5 (by decide) (j := 10) (v := .int .i64 2) rfl
    simpa using this
  have HB5 := Lib.hid (show Below w.heap.size w w5 from HB4.out.trans (hk5.below (fun i hi h => by have := HS3.out i h; omega) HB4.out.size))
  clear hst hno hrow hk5 hs5 hr5 HF4 HB4 hk
  rw [show [wrD 3 1 d5 [], wrD 2 1 d' [0, 0, 1]].length = 2 from rfl]
  go_wp2_with fail
  go_ret
  exact ⟨rfl, HB5.out⟩
end Go.Proofs.Ytedkcpncomgboaa.dep
