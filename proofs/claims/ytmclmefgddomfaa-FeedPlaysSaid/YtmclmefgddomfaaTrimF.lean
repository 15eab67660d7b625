/- The walk of feed's Trim. -/
import Derived.Test.YtmclmefgddomfaaBatch
namespace Go.Proofs.Ytmclmefgddomfaa.feed
open Go.RowKit Go.Proofs.Ytmclmefgddomfaa.base Go.Proofs.Ytmclmefgddomfaa.rowe Go.Proofs.Ytmclmefgddomfaa.err Go.Proofs.Ytmclmefgddomfaa.wire Go.Proofs.Ytmclmefgddomfaa.monoj

def minI (a b : Int) : Int := if b < a then b else a
def leastI (rg nn : Nat) (last : Int) (K : List Int) : Nat → Int
  | 0 => last
  | p + 1 => if isB rg nn p = true then minI (leastI rg nn last K p) (K.getD (p - 1) 0) else leastI rg nn last K p
theorem known_eq {rg nn : Nat} {K : List Int} {p : Nat} (h : isB rg nn p = true) : knownI rg nn K p = K.getD (p - 1) 0 := by
  unfold knownI
  rw [if_pos h]
  congr 1
  omega
theorem least_bound {rg nn : Nat} {last : Int} {K : List Int} (hk : ∀ k ∈ K, 0 ≤ k ∧ k ≤ 1099511627776) (hl : 0 ≤ last) : ∀ p, 0 ≤ leastI rg nn last K p ∧ leastI rg nn last K p ≤ last
  | 0 => ⟨hl, Int.le_refl _⟩
  | p + 1 => by
    have ih := least_bound (rg := rg) (nn := nn) hk hl p
    unfold leastI
    split
    · have h1 : 0 ≤ K.getD (p - 1) 0 := by
        rw [List.getD_eq_getElem?_getD]
        cases h : K[p - 1]? with
        | none => exact Int.le_refl _
        | some k => exact (hk k (List.mem_of_getElem? h)).1
      unfold minI
      split <;> omega
    · exact ih
def trimN (rg nn bs : Nat) (L : List Wr) (K : List Int) : Int := leastI rg nn ((bs + L.length : Nat) : Int) K 17 - bs
def TrimR (S : Nat → Prop) (g rg nn bs : Nat) (L : List Wr) (K : List Int) (w : World) (e : Ending) (w' : World) : Prop :=
  e = .returned (.int .i64 (trimN rg nn bs L K)) ∧ Keeps S w w' ∧ ∃ S', FeedS w' S' g rg nn (bs + (trimN rg nn bs L K).toNat) (L.drop (trimN rg nn bs L K).toNat) K ∧ (∀ i, S' i → S i ∨ w.heap.size ≤ i)
theorem FeedF.cutOff {S : Nat → Prop} {w : World} {g rg nn bs : Nat} {L' : List Wr} {K : List Int} {vw v : Value} {k0 ck : Nat} (h : FeedF w S g rg nn bs L' K vw k0 ck) {n B : Nat} (hB : k0 + 1 ≤ B) (hn : n ≤ L'.length)
    (hrow : w.ownsRow B 35 10 v (L'.drop n).length ((L'.drop n).flatMap Wr.cells)) :
    FeedF ((w.setCell ⟨g, 3, none⟩ v).setCell ⟨g, 2, none⟩ (.int .i64 (bs + n : Nat))) (fun i => (S i ∨ B ≤ i) ∧ i < w.heap.size) g rg nn (bs + n) (L'.drop n) K v k0 ck := by
  have hlt := h.k0lt
  have hS : ∀ i, S i → (S i ∨ B ≤ i) ∧ i < w.heap.size := fun i hi => ⟨.inl hi, h.small i hi⟩
  have hk : Keeps (· = g) w ((w.setCell ⟨g, 3, none⟩ v).setCell ⟨g, 2, none⟩ (.int .i64 (bs + n : Nat))) := (Keeps.set1 w g 3 v).trans (Keeps.set1 _ g 2 _)
  have hlo : ∀ i, k0 + 1 ≤ i → ¬ i = g := fun i hi e => by omega
  refine ⟨?_, ⟨?_, by have := h.ow.few; simp; omega, fun x hx => (h.ow.nums x (List.mem_of_mem_drop hx)).keeps hk (fun i hi e => by have := ((h.ow.nums x (List.mem_of_mem_drop hx)).1.lt _ hi).1; omega), fun i hi => ⟨.inr (hrow.lt i hi).1, (hrow.lt i hi).2⟩, fun x hx i hi => hS i (h.ow.numS x (List.mem_of_mem_drop hx) i hi)⟩, ?_, hS g h.inG, hS k0 h.inK, h.klen, h.r0, h.r1, h.n1, by have := h.last; simp; omega, fun i hi => by simpa using hi.2, h.kb⟩
  · have := (h.blk.set_ 3 v).set_ 2 (.int .i64 (bs + n : Nat))
    simpa using this
  · have h1 := ow_keeps' hrow hk (fun i hi e => by have := (hrow.lt i hi).1; omega)
    refine ⟨h1.1, h1.2.imp id ?_⟩
    rintro ⟨g', cap, cur, e, h5, h6⟩
    exact ⟨g', cap, cur, e, by omega, h6⟩
  · exact ow_keeps' h.know hk (fun i hi e => by injection hi with hi; simp at hi; omega)
section
variable {S : Nat → Prop} {w : World} {g rg nn bs : Nat} {L : List Wr} {K : List Int}
set_option maxRecDepth 100000 in
set_option maxHeartbeats 1000000 in
theorem trim_feed (h : FeedS w S g rg nn bs L K) : Calls Try.prog 12 #[.pointer (some ⟨g, 0, none⟩)] w (TrimR S g rg nn bs L K w) := by
  have H := Lib.hid h
  obtain ⟨L', vw, k0, ck, hLL, hf⟩ := h
  have hL2 : L'.length = L.length := by rw [← hLL, List.length_map]
  have hlast := hf.last
  rw [hL2] at hlast
  have HKB := Lib.hid hf.kb
  have HF := Lib.hid hf
  clear hf
  go_enter Try.func12, Try.ntmps12
  go_wp2_with fail
  refine (last_any H.out).mono ?_
  rintro e w1 ⟨rfl, hb1⟩
  have HF1 := Lib.hid (HF.out.keeps (X := nobody) (.of_below hb1) (fun _ _ h => h))
  have H1 := Lib.hid (H.out.below hb1)
  have HB1 := Lib.hid hb1
  clear hb1
  obtain ⟨la, hla⟩ : ∃ la : Int, ((bs + L.length : Nat) : Int) = la := ⟨_, rfl⟩
  have hla2 : (bs : Int) + (L.length : Nat) = la := by omega
  rw [hla]
  have Hla := Lib.hid hla
  clear hla
  go_wp2_with fail
  go_loopw [3, 4, 8] (fun le _ i wr' => ∃ p : Nat, p ≤ 17 ∧ i = .int .i64 p ∧ le = .int .i64 (leastI rg nn la K p) ∧ wr' = w1) (fun _ _ i _ => 17 - (intOf i).toNat)
  case atStart => exact ⟨0, by omega, rfl, rfl, rfl⟩
  case round =>
    obtain ⟨p, hp, rfl, rfl, rfl⟩ := hrel
    by_cases hlt : p < 17
    · have d1 : decide ((p : Int) < 17) = true := by simp; omega
      have hbd := least_bound (rg := rg) (nn := nn) (last := la) HKB.out (by omega) p
      cases hi : isB rg nn p with
      | true =>
        have hst : leastI rg nn la K (p + 1) = minI (leastI rg nn la K p) (knownI rg nn K p) := by
          rw [known_eq hi]
          show (if isB rg nn p = true then _ else _) = _
          rw [if_pos hi]
        unfold minI at hst
        have Hst := Lib.hid hst
        have Hi := Lib.hid hi
        clear hi
        clear hst hbd
        obtain ⟨kn, hkn⟩ : ∃ kn, knownI rg nn K p = kn := ⟨_, rfl⟩
        rw [hkn] at Hst
        have Hkn := Lib.hid hkn
        clear hkn
        go_wp2_with fail
        refine (is_any (p : Int) H1.out).mono ?_
        rintro e w2 ⟨rfl, rfl⟩
        rw [Hi.out]
        go_wp2_with fail
        refine (known_any (p : Int) H1.out).mono ?_
        rintro e w2 ⟨rfl, rfl⟩
        rw [Hkn.out]
        go_wp2_with fail
        all_goals
          go_roundw
          case rel => exact ⟨p + 1, by omega, by go_num, by rw [Hst.out], trivial⟩
          case measure => simp [intOf]; omega
      | false =>
        have Hst := Lib.hid (show leastI rg nn la K (p + 1) = leastI rg nn la K p by
          show (if isB rg nn p = true then _ else _) = _
          rw [hi]; rfl)
        have Hi := Lib.hid hi
        clear hi
        clear hbd
        go_wp2_with fail
        refine (is_any (p : Int) H1.out).mono ?_
        rintro e w2 ⟨rfl, rfl⟩
        rw [Hi.out]
        go_wp2_with fail
        go_roundw
        case rel => exact ⟨p + 1, by omega, by go_num, by rw [Hst.out], trivial⟩
        case measure => simp [intOf]; omega
    · obtain rfl : p = 17 := by omega
      have hbd := least_bound (rg := rg) (nn := nn) (last := la) HKB.out (by omega) 17
      obtain ⟨le, hle⟩ : ∃ le, leastI rg nn la K 17 = le := ⟨_, rfl⟩
      rw [hle] at hbd ⊢
      have htn : trimN rg nn bs L K = le - bs := by unfold trimN; rw [Hla.out, hle]
      have Htn := Lib.hid htn
      have Hbd := Lib.hid hbd
      have hw := IntWalk.i64_in (le - (bs : Int)) (by omega)
      have d1 : decide ((17 : Int) < 17) = false := by decide
      clear hle htn
      by_cases h0 : 0 < le - (bs : Int)
      · obtain ⟨q, hqq⟩ : ∃ q : Nat, le - (bs : Int) = (q : Int) := ⟨(le - bs).toNat, by omega⟩
        have hqm : q ≤ L'.length := by omega
        have hfew : L.length ≤ 1000000 := by rw [← hL2]; exact HF1.out.ow.few
        have hq0 : 0 < q := by omega
        have hwq := IntWalk.i64_in (q : Int) (by omega)
        have hq2 : q ≤ L.length := by omega
        have hq3 : (q : Int) ≤ (L.length : Int) := by omega
        have d2 : decide ((bs : Int) < le) = true := by simp; omega
        have Hle := Lib.hid (show le = ((bs + q : Nat) : Int) by omega)
        have htq : trimN rg nn bs L K = (q : Int) := by rw [Htn.out, hqq]
        have Htq := Lib.hid htq
        clear htq
        rw [hqq] at hw
        have hw := IntWalk.i64_in (le - (bs : Int)) (by omega)
        obtain ⟨A, c, rfl⟩ := ownsRow_slice HF1.out.ow.row
        obtain ⟨b, off, rfl, hb⟩ := (Reads.of_own HF1.out.ow.row).at_some (by omega)
        have hr := Reads.of_own HF1.out.ow.row
        have hcap : L'.length ≤ c := by
          obtain ⟨A', c', e, _, h2, _⟩ := HF1.out.ow.rw
          injection e with _ _ e
          omega
        have hone : ∀ x ∈ L'.drop q, x.d.oneCell' = true := fun x hx => nums_one (HF1.out.ow.nums x (List.mem_of_mem_drop hx)).nums
        have hdl : (L'.drop q).length = L.length - q := by simp [hL2]
        have hrq : Reads wr wr.heap.size 10 (if c = q then some ⟨b, off, none⟩ else some ⟨b, off + q * 10, none⟩) (L.length - q) ((L'.drop q).flatMap Wr.cells) := by
          by_cases hql : q < L'.length
          · rw [if_neg (by omega), ← hL2]
            exact Reads.dropAt Wr.cells Wr.len hr hql
          · have : L'.drop q = [] := List.drop_eq_nil_of_le (by omega)
            rw [this]
            exact ⟨by simp; omega, fun h => absurd h (by omega)⟩
        have c3 : wr.cell? ⟨g, 3, none⟩ = _ := HF1.out.blk.cell 3
        have hglt := HF1.out.blk.lt
        simp at c3
        have Hone := Lib.hid hone
        have Hrq := Lib.hid hrq
        have Hdl := Lib.hid hdl
        clear hone hrq hdl hr hbd
        clear h0
        by_cases hcq : c = q
        · have hcq := hcq.symm
          subst hcq
          rw [if_pos rfl] at Hrq
          go_wp2_with fail
          refine (base_any H1.out).mono ?_
          rintro e w2 ⟨rfl, rfl⟩
          go_wp2_with fail
          refine (cloneW_any (some ⟨b, off, none⟩) (L.length - q) 0 (L'.drop q) _ Hdl.out (by omega) Hrq.out Hone.out).mono ?_
          rintro e w3 ⟨⟨v, rfl, hv⟩, hb3⟩
          obtain ⟨A3, c3', rfl⟩ := ownsRow_slice hv
          have hf3 := HF1.out.keeps (X := nobody) (.of_below hb3) (fun _ _ h => h)
          have k3 : w3.cell? ⟨g, 3, none⟩ = _ := hf3.blk.cell 3
          have k2 : w3.cell? ⟨g, 2, none⟩ = _ := hf3.blk.cell 2
          have kl := hf3.blk.lt
          have kf3 := hf3.blk.frozen 3
          have kf2 := hf3.blk.frozen 2
          simp at k3 k2
          have hP := hf3.cutOff (n := q) (HF1.out.small k0 HF1.out.inK) hqm hv
          rw [← Hle.out] at hP
          have hkk : Keeps S w ((w3.setCell ⟨g, 3, none⟩ (.slice A3 (L'.drop q).length c3')).setCell ⟨g, 2, none⟩ (.int .i64 le)) :=
            (((Keeps.of_below HB1.out).trans (.of_below hb3)).trans (.setCell (.inl HF1.out.inG) _)).trans (.setCell (.inl HF1.out.inG) _)
          have HR := Lib.hid (show TrimR S g rg nn bs L K w (.returned (.int .i64 (q : Int))) ((w3.setCell ⟨g, 3, none⟩ (.slice A3 (L'.drop q).length c3')).setCell ⟨g, 2, none⟩ (.int .i64 le)) from by
            refine ⟨by rw [Htq.out], hkk, fun i => (S i ∨ w2.heap.size ≤ i) ∧ i < w3.heap.size, ?_, fun i hi => hi.1.imp id fun h => Nat.le_trans HB1.out.size h⟩
            rw [Htq.out, Int.toNat_natCast]
            exact ⟨_, _, k0, ck, by rw [List.map_drop, hLL], hP⟩)
          rw [Hdl.out] at HR
          clear hP hkk hf3 hb3 hv
          go_wp2
          go_ret
          exact HR.out
        · rw [if_neg hcq] at Hrq
          go_wp2_with fail
          refine (base_any H1.out).mono ?_
          rintro e w2 ⟨rfl, rfl⟩
          go_wp2_with fail
          refine (cloneW_any (some ⟨b, off + q * 10, none⟩) (L.length - q) (c - q) (L'.drop q) _ Hdl.out (by omega) Hrq.out Hone.out).mono ?_
          rintro e w3 ⟨⟨v, rfl, hv⟩, hb3⟩
          obtain ⟨A3, c3', rfl⟩ := ownsRow_slice hv
          have hf3 := HF1.out.keeps (X := nobody) (.of_below hb3) (fun _ _ h => h)
          have k3 : w3.cell? ⟨g, 3, none⟩ = _ := hf3.blk.cell 3
          have k2 : w3.cell? ⟨g, 2, none⟩ = _ := hf3.blk.cell 2
          have kl := hf3.blk.lt
          have kf3 := hf3.blk.frozen 3
          have kf2 := hf3.blk.frozen 2
          simp at k3 k2
          have hP := hf3.cutOff (n := q) (HF1.out.small k0 HF1.out.inK) hqm hv
          rw [← Hle.out] at hP
          have hkk : Keeps S w ((w3.setCell ⟨g, 3, none⟩ (.slice A3 (L'.drop q).length c3')).setCell ⟨g, 2, none⟩ (.int .i64 le)) :=
            (((Keeps.of_below HB1.out).trans (.of_below hb3)).trans (.setCell (.inl HF1.out.inG) _)).trans (.setCell (.inl HF1.out.inG) _)
          have HR := Lib.hid (show TrimR S g rg nn bs L K w (.returned (.int .i64 (q : Int))) ((w3.setCell ⟨g, 3, none⟩ (.slice A3 (L'.drop q).length c3')).setCell ⟨g, 2, none⟩ (.int .i64 le)) from by
            refine ⟨by rw [Htq.out], hkk, fun i => (S i ∨ w2.heap.size ≤ i) ∧ i < w3.heap.size, ?_, fun i hi => hi.1.imp id fun h => Nat.le_trans HB1.out.size h⟩
            rw [Htq.out, Int.toNat_natCast]
            exact ⟨_, _, k0, ck, by rw [List.map_drop, hLL], hP⟩)
          rw [Hdl.out] at HR
          clear hP hkk hf3 hb3 hv
          go_wp2
          go_ret
          exact HR.out
      · have d2 : decide ((bs : Int) < le) = false := by simp; omega
        have HQ := Lib.hid (show TrimR S g rg nn bs L K w (.returned (.int .i64 (le - (bs : Int)))) wr from by
          refine ⟨by rw [Htn.out], .of_below HB1.out, S, ?_, fun i hi => .inl hi⟩
          have h3 : (trimN rg nn bs L K).toNat = 0 := by rw [Htn.out]; omega
          rw [h3]
          exact H1.out)
        clear h0 hbd
        go_wp2_with fail
        refine (base_any H1.out).mono ?_
        rintro e w2 ⟨rfl, rfl⟩
        go_wp2_with fail
        go_ret
        exact HQ.out
end
end Go.Proofs.Ytmclmefgddomfaa.feed
