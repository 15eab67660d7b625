/- The walk of the document's New. -/
import Derived.Test.YtmclmefgddomfaaRefTrimF
import Derived.Test.YtmclmefgddomfaaRefBatchF
namespace Go.Proofs.Ytmclmefgddomfaa.feed
open Go.RowKit Go.Proofs.Ytmclmefgddomfaa.base Go.Proofs.Ytmclmefgddomfaa.rowe Go.Proofs.Ytmclmefgddomfaa.err Go.Proofs.Ytmclmefgddomfaa.wire Go.Proofs.Ytmclmefgddomfaa.monoj

def NewYesR (rg nn bs : Int) (L2 : List Wr) (w : World) (e : Ending) (w' : World) : Prop :=
  ∃ g S, e = .returned (.tuple #[.pointer (some ⟨g, 0, none⟩), .bool true]) ∧ RefS w' S g rg.toNat nn.toNat bs.toNat L2 (List.replicate nn.toNat bs) ∧ (∀ i, S i → w.heap.size ≤ i ∧ i < w'.heap.size) ∧ Below w.heap.size w w'
def NewRR (rg nn bs : Int) (L : List Wr) (w : World) (e : Ending) (w' : World) : Prop :=
  (∃ L2, newL rg nn bs L = some L2 ∧ NewYesR rg nn bs L2 w e w') ∨ (newL rg nn bs L = none ∧ e = .returned (.tuple #[.pointer none, .bool false]) ∧ Below w.heap.size w w')
set_option maxRecDepth 100000 in
set_option maxHeartbeats 4000000 in
theorem new_ref (rg nn bs : Int) (v : Value) (L : List Wr) (w : World) (hl : RW w v L) : Calls Try.prog 19 #[.int .i64 rg, .int .i64 nn, .int .i64 bs, v] w (NewRR rg nn bs L w) := by
  cases e1 : decide (nn < 1) with
  | true =>
    have HQ := Lib.hid (show newL rg nn bs L = none by unfold newL; rw [if_pos (by unfold badNew; rw [e1]; rfl)])
    clear hl
    go_enter Try.func19, Try.ntmps19
    go_wp2_with fail
    exact bodyPost_ret (v := .tuple #[.pointer none, .bool false]) (by simp [results, Try.results19, go_sem]) rfl (.inr ⟨HQ.out, rfl, Below.refl _ _⟩)
  | false =>
    cases e2 : decide (16 < nn) with
    | true =>
      have HQ := Lib.hid (show newL rg nn bs L = none by unfold newL; rw [if_pos (by unfold badNew; rw [e1, e2]; rfl)])
      clear hl
      go_enter Try.func19, Try.ntmps19
      go_wp2_with fail
      exact bodyPost_ret (v := .tuple #[.pointer none, .bool false]) (by simp [results, Try.results19, go_sem]) rfl (.inr ⟨HQ.out, rfl, Below.refl _ _⟩)
    | false =>
      cases e3 : decide (rg < 1) with
      | true =>
        have HQ := Lib.hid (show newL rg nn bs L = none by unfold newL; rw [if_pos (by unfold badNew; rw [e1, e2, e3]; rfl)])
        clear hl
        go_enter Try.func19, Try.ntmps19
        go_wp2_with fail
        exact bodyPost_ret (v := .tuple #[.pointer none, .bool false]) (by simp [results, Try.results19, go_sem]) rfl (.inr ⟨HQ.out, rfl, Below.refl _ _⟩)
      | false =>
        cases e4 : decide (nn < rg) with
        | true =>
          have HQ := Lib.hid (show newL rg nn bs L = none by unfold newL; rw [if_pos (by unfold badNew; rw [e1, e2, e3, e4]; rfl)])
          clear hl
          go_enter Try.func19, Try.ntmps19
          go_wp2_with fail
          exact bodyPost_ret (v := .tuple #[.pointer none, .bool false]) (by simp [results, Try.results19, go_sem]) rfl (.inr ⟨HQ.out, rfl, Below.refl _ _⟩)
        | false =>
          cases e5 : decide (bs < 0) with
          | true =>
            have HQ := Lib.hid (show newL rg nn bs L = none by unfold newL; rw [if_pos (by unfold badNew; rw [e1, e2, e3, e4, e5]; rfl)])
            clear hl
            go_enter Try.func19, Try.ntmps19
            go_wp2_with fail
            exact bodyPost_ret (v := .tuple #[.pointer none, .bool false]) (by simp [results, Try.results19, go_sem]) rfl (.inr ⟨HQ.out, rfl, Below.refl _ _⟩)
          | false =>
            cases e6 : decide (1099511627776 < bs) with
            | true =>
              have HQ := Lib.hid (show newL rg nn bs L = none by unfold newL; rw [if_pos (by unfold badNew; rw [e1, e2, e3, e4, e5, e6]; rfl)])
              clear hl
              go_enter Try.func19, Try.ntmps19
              go_wp2_with fail
              exact bodyPost_ret (v := .tuple #[.pointer none, .bool false]) (by simp [results, Try.results19, go_sem]) rfl (.inr ⟨HQ.out, rfl, Below.refl _ _⟩)
            | false =>
              obtain ⟨i0, hi, hz⟩ := Option.map_eq_some_iff.1 int_info
              simp only [Prod.mk.injEq] at hz
              obtain ⟨hz0, hz1, hz2⟩ := hz
              have hQ : newL rg nn bs L = addAll rg.toNat bs.toNat [] L := by unfold newL; rw [if_neg (by unfold badNew; rw [e1, e2, e3, e4, e5, e6]; decide)]
              simp only [decide_eq_false_iff_not] at e1 e2 e3 e4 e5 e6
              obtain ⟨a, rfl⟩ := Int.eq_ofNat_of_zero_le (show 0 ≤ rg by omega)
              obtain ⟨m, rfl⟩ := Int.eq_ofNat_of_zero_le (show 0 ≤ nn by omega)
              obtain ⟨b0, rfl⟩ := Int.eq_ofNat_of_zero_le (show 0 ≤ bs by omega)
              simp only [Int.toNat_natCast] at hQ
              have d1 : decide ((m : Int) < 1) = false := by simp; omega
              have d2 : decide ((16 : Int) < (m : Int)) = false := by simp; omega
              have d3 : decide ((a : Int) < 1) = false := by simp; omega
              have d4 : decide (m < a) = false := by simp; omega
              have d5 : decide ((b0 : Int) < 0) = false := by simp
              have d6 : decide ((1099511627776 : Int) < (b0 : Int)) = false := by simp; omega
              have HN0 := Lib.hid (show 1 ≤ a ∧ a ≤ m ∧ m ≤ 16 ∧ b0 ≤ 1099511627776 by omega)
              have hm16 : m ≤ 16 := by omega
              have Hl := Lib.hid hl
              obtain ⟨A, c, rfl, hfew, hlc, hr, hn⟩ := hl
              have HQ := Lib.hid hQ
              have Hr := Lib.hid hr
              have Hn := Lib.hid hn
              clear hQ hr hn
              clear e1 e2 e3 e4 e5 e6
              go_enter Try.func19, Try.ntmps19
              go_wp2_with fail
              go_loopw [11] (fun i wr' => ∃ k : Nat, k ≤ m ∧ i = .int .i64 k ∧ ∃ vk, Blk wr' w.heap.size 61 #[.int .i64 a, .int .i64 m, .int .i64 b0, .slice none 0 0, vk] ∧ wr'.ownsRow (w.heap.size + 1) 3 1 vk k ((List.replicate k (b0 : Int)).map (Value.int .i64)) ∧ Below w.heap.size w wr') (fun i _ => m - (intOf i).toNat)
              case atStart => exact ⟨0, by omega, rfl, _, Blk.new w 61 _, ⟨rfl, .inl ⟨rfl, rfl⟩⟩, below_new _ _⟩
              case round =>
                obtain ⟨k, hk, rfl, vk, hb, hrow, hbw⟩ := hrel
                have hlt := hb.lt
                obtain ⟨Ak, ck, rfl⟩ := ownsRow_slice hrow
                by_cases hkm : k < m
                · have d7 : decide ((k : Int) < (m : Int)) = true := by simp; omega
                  have c4 : wr.cell? ⟨w.heap.size, 4, none⟩ = _ := hb.cell 4
                  simp at c4
                  have Hb := Lib.hid hb
                  have Hrow := Lib.hid hrow
                  have Hbw := Lib.hid hbw
                  clear hb hrow hbw
                  go_wp2_with (at_builtin; refine wpList_append_newAt rfl (.tmp 50) (.tmp 52) _ rfl (w.heap.size + 1) 3 i0 _ 1 8 Try.underlying32 hi hz0 hz1 hz2 rfl (by decide) (.slice Ak k ck) k _ rfl Hrow.out 1 1 wr.heap.size rfl [.int .i64 b0] rfl rfl (by simp [Value.oneCell']) (by unfold maxLen; omega) (by omega) hlt ?_; intro v5 w5 hown5 hbw5 hgr5 hwh5; obtain ⟨A5, c5, rfl⟩ := ownsRow_slice hown5; have hb5 := Hb.out.below hbw5 (Nat.lt_succ_self _); have k4 : w5.cell? ⟨w.heap.size, 4, none⟩ = some (.slice Ak k ck) := hb5.cell 4; have kf := hb5.frozen 4; have kl := hb5.lt; have Hb5 := Lib.hid hb5; have Hown5 := Lib.hid hown5; have Hbw5 := Lib.hid (Hbw.out.trans (hbw5.mono (Nat.le_succ _))); clear hown5 hbw5 hgr5 hwh5 hb5)
                  go_roundw
                  case rel =>
                    refine ⟨k + 1, by omega, by go_num, .slice A5 (k + 1) c5, ?_, ?_, ?_⟩
                    rotate_left
                    · have := own_keeps (w' := w5.setCell ⟨w.heap.size, 4, none⟩ (.slice A5 (k + 1) c5)) Hown5.out (Keeps.set1 w5 w.heap.size 4 _) (fun i hi e => by omega)
                      rw [List.replicate_succ', List.map_append]
                      exact this
                    · exact Hbw5.out.setCell (p := ⟨w.heap.size, 4, none⟩) (Nat.le_refl _) _
                    · have := Hb5.out.set_ 4 (.slice A5 (k + 1) c5)
                      simpa using this
                  case measure => simp [intOf]; omega
                · obtain rfl : m = k := by omega
                  have d7 : decide ((m : Int) < (m : Int)) = false := by simp
                  have hn4 := HN0.out
                  obtain ⟨k0, c0, e0, hk0, hk0s⟩ := hrow.form (by omega)
                  injection e0 with e0 _ e1
                  subst e0 e1
                  have hF : RefF wr (fun i => w.heap.size ≤ i ∧ i < wr.heap.size) w.heap.size a m b0 [] (List.replicate m (b0 : Int)) none 0 k0 ck :=
                    ⟨by simpa using hb, ⟨⟨by simp, fun h => absurd h (by simp)⟩, by simp, by simp, (fun _ _ e => by cases e), by simp, by simp⟩, by simpa using hrow, ⟨Nat.le_refl _, hlt⟩, ⟨by omega, hk0s⟩, by simp, by omega, by omega, by omega, by simp; omega, fun i hi => hi.2⟩
                  have HS := Lib.hid (show RefS wr (fun i => w.heap.size ≤ i ∧ i < wr.heap.size) w.heap.size a m b0 [] (List.replicate m (b0 : Int)) from ⟨[], _, _, k0, ck, rfl, hF⟩)
                  have Hbw := Lib.hid hbw
                  clear hF hrow hb hbw hn4
                  obtain ⟨wo, rfl⟩ : ∃ wo : World, wo = wr := ⟨_, rfl⟩
                  obtain ⟨q, hq⟩ : ∃ q, L.length = q := ⟨_, rfl⟩
                  rw [hq] at hfew hlc Hr ⊢
                  have Hq := Lib.hid hq
                  clear hq
                  go_wp2_with fail
                  go_loopw [12] (fun i wr' => ∃ k : Nat, k ≤ q ∧ i = .int .i64 k ∧ ∃ S acc, RefS wr' S w.heap.size a m b0 acc (List.replicate m (b0 : Int)) ∧ addAll a b0 acc (L.drop k) = addAll a b0 [] L ∧ acc.length ≤ k ∧ (∀ i, S i → w.heap.size ≤ i) ∧ Below w.heap.size w wr') (fun i _ => q - (intOf i).toNat)
                  case atStart => exact ⟨0, by omega, rfl, _, [], HS.out, rfl, by simp, fun i hi => hi.1, Hbw.out⟩
                  case round =>
                    clear HS Hbw
                    obtain ⟨k, hk, rfl, S, acc, hS, hacc, hal, hSw, hbw⟩ := hrel
                    have hsz := hbw.size
                    by_cases hkq : k < q
                    · have hmlt : k < L.length := by rw [Hq.out]; exact hkq
                      obtain ⟨b, off, rfl, hbb⟩ := Hr.out.at_some (by omega)
                      have hnx := Hn.out L[k] (List.getElem_mem hmlt)
                      have hdr : L.drop k = L[k] :: L.drop (k + 1) := List.drop_eq_getElem_cons hmlt
                      rw [hdr] at hacc
                      have hcell : ∀ j v, (L[k]).cells[j]? = some v → wr.cell? ⟨b, off + k * 10 + j, none⟩ = some v := fun j v hj => by
                        have hj2 : j < 10 := by
                          rcases Nat.lt_or_ge j 10 with h | h
                          · exact h
                          · rw [List.getElem?_eq_none (by rw [Wr.len]; exact h)] at hj; cases hj
                        exact (Reads.thing Wr.cells Wr.len (Hr.out.below hbw) (k := k) (x := L[k]) hkq (List.getElem?_eq_getElem hmlt) j hj2).trans hj
                      have hten := ten_at hcell
                      generalize L[k] = x at *
                      have hnx1 := (hnx.1.below hbw).more hsz
                      obtain ⟨r, n1, t, s, d, zs, se, kk, v, g, l⟩ := x
                      have hz6 := hnx.2
                      dsimp only at hnx1 hz6 hten
                      obtain ⟨c0, c1, c2, c3, c4, c5, c6, c7, c8, c9⟩ := hten
                      obtain ⟨Ad, md, cd, rfl⟩ : ∃ Ad md cd, d = .slice Ad md cd := by obtain ⟨Ad, md, cd, e, _⟩ := hnx1; exact ⟨Ad, md, cd, e⟩
                      have hkq2 : (k : Int) < (q : Int) := by omega
                      have d8 : decide ((k : Int) < (q : Int)) = true := by simp; omega
                      have Hnx := Lib.hid hnx1
                      have Hacc := Lib.hid hacc
                      have HS := Lib.hid hS
                      have Hbw := Lib.hid hbw
                      clear hnx hnx1 hacc hcell hS hbw hdr
                      go_wp2_with fail
                      refine (add_ref ⟨r, n1, t, s, .slice Ad md cd, zs, se, kk, v, g, l⟩ HS.out Hnx.out hz6 (by omega)).mono ?_
                      rintro e w10 ⟨rfl, hk10, S10, hS10, hs10⟩
                      have hb10 := Hbw.out.trans (hk10.below (B := w.heap.size) (fun i hi e => by have := hSw i e; omega) hsz)
                      by_cases hc0 : addC a b0 acc ⟨r, n1, t, s, .slice Ad md cd, zs, se, kk, v, g, l⟩ = 0
                      · have HA := Lib.hid (show addAll a b0 (acc ++ [(⟨r, n1, t, s, .slice Ad md cd, zs, se, kk, v, g, l⟩ : Wr).abs]) (L.drop (k + 1)) = addAll a b0 [] L by
                          rw [← Hacc.out]
                          show _ = (if addC a b0 acc _ = 0 then _ else _)
                          rw [if_pos hc0])
                        have HS10 := Lib.hid (show RefS w10 S10 w.heap.size a m b0 (acc ++ [(⟨r, n1, t, s, .slice Ad md cd, zs, se, kk, v, g, l⟩ : Wr).abs]) (List.replicate m (b0 : Int)) by
                          unfold addL at hS10
                          rwa [if_pos hc0] at hS10)
                        have Hb10 := Lib.hid hb10
                        have hS11 : ∀ i, S10 i → w.heap.size ≤ i := fun i hi => (hs10 i hi).elim (hSw i) (fun h => by omega)
                        rw [hc0]
                        clear hS10 hk10 hs10 hb10 hc0
                        go_wp2_with fail
                        go_roundw
                        case rel => exact ⟨k + 1, by omega, by go_num, S10, _, HS10.out, HA.out, by simp; omega, hS11, Hb10.out⟩
                        case measure => simp [intOf]; omega
                      · have HA := Lib.hid (show newL (a : Int) (m : Int) (b0 : Int) L = none by
                          rw [HQ.out, ← Hacc.out]
                          show (if addC a b0 acc _ = 0 then _ else _) = _
                          rw [if_neg hc0])
                        have Hb10 := Lib.hid hb10
                        generalize addC a b0 acc ⟨r, n1, t, s, .slice Ad md cd, zs, se, kk, v, g, l⟩ = code at *
                        have dc : (code != 0) = true := by simp [bne, hc0]
                        clear hS10 hk10 hs10 hb10 hc0
                        go_wp2_with fail
                        exact bodyPost_ret (v := .tuple #[.pointer none, .bool false]) (by simp [results, Try.results19, go_sem]) rfl (.inr ⟨HA.out, rfl, Hb10.out⟩)
                    · obtain rfl : q = k := by omega
                      have hde : L.drop q = [] := List.drop_eq_nil_of_le (by rw [Hq.out]; omega)
                      rw [hde] at hacc
                      have d8 : decide ((q : Int) < (q : Int)) = false := by simp
                      have HR := Lib.hid (show NewRR a m b0 L w (.returned (.tuple #[.pointer (some ⟨w.heap.size, 0, none⟩), .bool true])) wr from .inl ⟨acc, HQ.out.trans hacc.symm, w.heap.size, S, rfl, hS, fun i hi => ⟨hSw i hi, by obtain ⟨_, _, _, _, _, _, h⟩ := hS; exact h.small i hi⟩, hbw⟩)
                      clear hS hacc hbw hde
                      go_wp2
                      exact bodyPost_ret (v := .tuple #[.pointer (some ⟨w.heap.size, 0, none⟩), .bool true]) (by simp [results, Try.results19, go_sem]) rfl HR.out
end Go.Proofs.Ytmclmefgddomfaa.feed
