/- The law's own write and awake: the document's example. -/
import Derived.Test.YtmclmefgddomfaaNew
namespace Go.Proofs.Ytmclmefgddomfaa.feed
open Go.RowKit Go.Proofs.Ytmclmefgddomfaa.base Go.Proofs.Ytmclmefgddomfaa.rowe Go.Proofs.Ytmclmefgddomfaa.err Go.Proofs.Ytmclmefgddomfaa.wire Go.Proofs.Ytmclmefgddomfaa.monoj

def wrL (r n : Int) : Wr := ⟨r, n, 1, r, .slice none 0 0, [], ⟨#[115]⟩, ⟨#[]⟩, ⟨#[]⟩, false, 0⟩
theorem wrL_nums (r n : Int) (w : World) (B : Nat) : Nums w B (wrL r n).d (wrL r n).z := ⟨none, 0, 0, rfl, rfl, by unfold maxLen; omega, ⟨by simp [wrL], fun h => absurd h (by omega)⟩⟩
set_option maxRecDepth 10000 in
theorem write_any (r n : Int) (w : World) : Calls Try.prog 10 #[.int .i64 r, .int .i64 n] w fun e w' => e = .returned (.agg ⟨(wrL r n).cells⟩) ∧ Below w.heap.size w w' := by
  go_enter Try.func10, Try.ntmps10
  go_wp2
  refine bodyPost_ret (v := .agg ⟨(wrL r n).cells⟩) (results_cell_row (P := Try.prog) rfl _ _ w.heap.size 35 _ (0, 0) _ rfl (by exact Blk.new w 35 (wrL r n).cells.toArray) Try.underlying35 rfl (by kernel_rfl)) rfl ⟨rfl, below_new _ _⟩
theorem RW.of_new {w : World} {L : List Wr} {g c : Nat} (hg : g = w.heap.size) (hl : L.length ≤ 1000000) (hc : L.length ≤ c) (hn : ∀ x ∈ L, Nums w w.heap.size x.d x.z ∧ x.z.length ≤ 1000000) :
    RW (w.alloc (.cells (L.flatMap Wr.cells).toArray 35)) (.slice (some ⟨g, 0, none⟩) L.length c) L := by
  have hr := Reads.newAt w (L.flatMap Wr.cells).toArray 35 (0, 0) (g := g) (n := L.length) (size := 10) hg (by simpa using len_flat Wr.cells Wr.len L)
  exact ⟨_, c, rfl, hl, hc, hr, fun x hx => ⟨((hn x hx).1.below (below_new _ _)).more (by simp), (hn x hx).2⟩⟩
def three : List Wr := [wrL 1 1, wrL 1 2, wrL 1 3]
theorem three_new : newL 1 3 0 three = some three := by kernel_rfl
theorem batch_three : batchL 0 three 1 = [wrL 1 2, wrL 1 3] := by kernel_rfl
set_option maxRecDepth 100000 in
set_option maxHeartbeats 1000000 in
theorem awake_any (w : World) : Calls Try.prog 7 #[] w fun e w' => e = .returned (.bool true) ∧ Below w.heap.size w w' := by
  go_enter Try.func7, Try.ntmps7
  go_wp2_with fail
  refine (write_any 1 1 _).mono ?_
  rintro e w1 ⟨rfl, hb1⟩
  go_wp2_with fail
  refine (write_any 1 2 _).mono ?_
  rintro e w2 ⟨rfl, hb2⟩
  go_wp2_with fail
  refine (write_any 1 3 _).mono ?_
  rintro e w3 ⟨rfl, hb3⟩
  have hb13 := below_step (below_step hb1 hb2) hb3
  clear hb1 hb2 hb3
  dsimp only [wrL, Wr.cells]
  go_wp2_with fail
  refine (new_any 1 3 0 _ three _ (RW.of_new (L := three) rfl (by decide) (by decide) (fun x hx => by
    simp [three] at hx
    rcases hx with rfl | rfl | rfl <;> exact ⟨wrL_nums _ _ _ _, by decide⟩))).mono ?_
  rintro e w4 hN
  obtain ⟨L2, hL2, g, S, rfl, hS, hSw, hb4⟩ : ∃ L2, newL 1 3 0 three = some L2 ∧ NewYes 1 3 0 L2 _ e w4 := by
    rcases hN with h | ⟨h, _⟩
    · exact h
    · rw [three_new] at h; cases h
  rw [three_new] at hL2
  injection hL2 with hL2
  subst hL2
  have hb14 := below_step (below_alloc hb13 (.cells (three.flatMap Wr.cells).toArray 35)) hb4
  have hS : FeedS w4 S g 1 3 0 three [0, 0, 0] := hS
  have hSw : ∀ i, S i → w.heap.size ≤ i := fun i hi => by have := hSw i hi; have := hb13.size; simp at *; omega
  have HS := Lib.hid hS
  have HB := Lib.hid hb14
  clear hS hb4 hb13 hb14
  go_wp2_with fail
  refine (batch_any 1 HS.out).mono ?_
  rintro e w5 ⟨⟨v, L', rfl, hL', hO⟩, hb5⟩
  rw [batch_three] at hL'
  have hlen : L'.length = 2 := by have := congrArg List.length hL'; simpa using this
  obtain ⟨x, y, rfl⟩ := len_two hlen
  have hxn : x.n = 2 := by have := congrArg (fun l => (l.headD (wrL 0 0)).n) hL'; exact this
  obtain ⟨gb, cb, rfl, hgb, _⟩ := hO.row.form (by simp)
  have q1 : w5.cell? ⟨gb, 1, none⟩ = some (.int .i64 2) := by
    have := Reads.get (Reads.of_own hO.row) (by simp) (j := 1) (v := .int .i64 x.n) rfl
    rw [hxn] at this
    simpa using this
  have HS5 := Lib.hid (HS.out.below hb5)
  have HB5 := Lib.hid (below_step HB.out hb5)
  clear HS HB hO hL' hb5 hlen
  simp only [List.length_cons, List.length_nil]
  go_wp2_with fail
  refine (ack_any 2 3 HS5.out).mono ?_
  rintro e w6 ⟨rfl, h6, k6⟩
  rw [show ackB 1 3 0 three [0, 0, 0] 2 3 = true from by kernel_rfl]
  rw [show ackK 1 3 0 three [0, 0, 0] 2 3 = [0, 3, 0] from by kernel_rfl] at h6
  have HS6 := Lib.hid h6
  have HB6 := Lib.hid (HB5.out.trans (k6.below (B := w.heap.size) (fun i hi e => by have := hSw i e; omega) HB5.out.size))
  clear h6 k6 HS5 HB5
  go_wp2_with fail
  refine (ack_any 3 1 HS6.out).mono ?_
  rintro e w7 ⟨rfl, h7, k7⟩
  rw [show ackB 1 3 0 three [0, 3, 0] 3 1 = true from by kernel_rfl]
  rw [show ackK 1 3 0 three [0, 3, 0] 3 1 = [0, 3, 1] from by kernel_rfl] at h7
  have HS7 := Lib.hid h7
  have HB7 := Lib.hid (HB6.out.trans (k7.below (B := w.heap.size) (fun i hi e => by have := hSw i e; omega) HB6.out.size))
  clear h7 k7 HS6 HB6
  go_wp2_with fail
  refine (trim_feed HS7.out).mono ?_
  rintro e w8 ⟨rfl, k8, S8, h8, hS8⟩
  rw [show trimN 1 3 0 three [0, 3, 1] = 1 from by kernel_rfl] at h8 ⊢
  have HS8 := Lib.hid h8
  have HB8 := Lib.hid (HB7.out.trans (k8.below (B := w.heap.size) (fun i hi e => by have := hSw i e; omega) HB7.out.size))
  clear h8 k8 HS7 HB7
  go_wp2_with fail
  refine (base_any HS8.out).mono ?_
  rintro e w9 ⟨rfl, rfl⟩
  go_wp2_with fail
  go_ret
  exact ⟨rfl, HB8.out⟩
end Go.Proofs.Ytmclmefgddomfaa.feed
