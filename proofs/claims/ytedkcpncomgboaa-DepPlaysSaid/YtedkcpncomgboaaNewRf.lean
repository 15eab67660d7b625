/- The document's New. -/
import Derived.Test.YtedkcpncomgboaaOfferRf
import Derived.Test.YtedkcpncomgboaaNewI
namespace Go.Proofs.Ytedkcpncomgboaa.dep
open Go Go.RowKit Go.Proofs.Ytedkcpncomgboaa.base Go.Proofs.Ytedkcpncomgboaa.rowe Go.Proofs.Ytedkcpncomgboaa.wire Go.Proofs.Ytedkcpncomgboaa.vec Go.Proofs.Ytedkcpncomgboaa.cmp Go.Proofs.Ytedkcpncomgboaa.with_ Go.Proofs.Ytedkcpncomgboaa.monoj

theorem trim_last (zs : List Int) : decide ((trimL zs).length ≠ zs.length) = (decide (0 < zs.length) && decide (zs.getD (zs.length - 1) 0 = 0)) := by
  unfold trimL
  rw [List.length_take]
  cases hn : zs.length with
  | zero => rfl
  | succ n =>
    have h1 := trimN_le zs (n + 1)
    have h2 := trimN_le zs n
    rw [Nat.add_sub_cancel, show decide (0 < n + 1) = true by simp, Bool.true_and, Bool.eq_iff_iff]
    simp only [decide_eq_true_eq]
    unfold trimN at h1 ⊢
    split at h1 <;> rename_i hz
    · simp only [hz, if_true]
      constructor
      · intro _; trivial
      · intro _; omega
    · rw [if_neg hz]
      constructor
      · intro h; omega
      · intro h; exact absurd h hz
theorem head_tr (rg : Int) (ap : List Int) : (headB rg ap || ap.any numB) = (decide (rg < 1) || decide (16 < rg) || !trB ap 1099511627776) := by
  have h1 : ap.any numB = !(ap.all (okN 1099511627776)) := by
    rw [List.not_all_eq_any_not]
    congr 1
    funext z
    unfold numB okN
    rw [Bool.eq_iff_iff]
    simp
  unfold headB trB
  rw [h1, trim_last, show decide (ap.length ≤ 16) = !decide (16 < ap.length) by rw [Bool.eq_iff_iff]; simp]
  generalize decide (rg < 1) = b1
  generalize decide (16 < rg) = b2
  generalize decide (16 < ap.length) = b3
  generalize (decide (0 < ap.length) && decide (ap.getD (ap.length - 1) 0 = 0)) = b4
  generalize ap.all (okN 1099511627776) = b5
  cases b1 <;> cases b2 <;> cases b3 <;> cases b4 <;> cases b5 <;> rfl
theorem tr_parts {ap : List Int} (h : trB ap 1099511627776 = true) : ap.length ≤ 16 ∧ trimL ap = ap ∧ ∀ r, 0 ≤ atV ap r ∧ atV ap r ≤ 1099511627776 := by
  unfold trB at h
  simp only [Bool.and_eq_true] at h
  obtain ⟨h1, h2, h3⟩ := h
  refine ⟨by simpa using h1, ?_, fun r => ?_⟩
  · refine trim_self ?_
    rw [← trim_last] at h2
    simpa using h2
  · unfold atV
    split
    · omega
    · rw [List.getD_eq_getElem?_getD]
      cases hq : ap[r.toNat - 1]? with
      | none => simp
      | some z =>
        have := List.all_eq_true.1 h3 z (List.mem_of_getElem? hq)
        unfold okN at this
        simp at this
        exact this
def NewQ (rg : Int) (ap : List Int) (w : World) (e : Ending) (w' : World) : Prop :=
  ((headB rg ap || ap.any numB) = false ∧ ∃ g R va, e = .returned (.tuple #[.pointer (some ⟨g, 0, none⟩), .bool true]) ∧ RIn w' R g rg ap [] va (.slice none 0 0) ∧ (∀ i, R i → w.heap.size ≤ i) ∧ Below w.heap.size w w') ∨
  ((headB rg ap || ap.any numB) = true ∧ e = .returned (.tuple #[.pointer none, .bool false]) ∧ Below w.heap.size w w')
set_option maxRecDepth 100000 in
set_option maxHeartbeats 4000000 in
theorem new_ref (rg : Int) (A : Option Addr) (n c : Nat) (ap : List Int) (w : World) (h : Vec w w.heap.size A n c ap) (hm : n ≤ 1000000) :
    Calls Try.prog 21 #[.int .i64 rg, .slice A n c] w (NewQ rg ap w) := by
  have HA := Lib.hid h
  clear h
  have HH := Lib.hid (head_tr rg ap)
  by_cases h1 : rg < 1
  · have HR := Lib.hid (show NewQ rg ap w (.returned (.tuple #[.pointer none, .bool false])) w from .inr ⟨by rw [HH.out]; simp [h1], rfl, Below.refl _ _⟩)
    go_enter Try.func21, Try.ntmps21
    go_wp2
    go_ret2
    exact HR.out
  by_cases h2 : 16 < rg
  · have HR := Lib.hid (show NewQ rg ap w (.returned (.tuple #[.pointer none, .bool false])) w from .inr ⟨by rw [HH.out]; simp [h2], rfl, Below.refl _ _⟩)
    go_enter Try.func21, Try.ntmps21
    go_wp2
    go_ret2
    exact HR.out
  go_enter Try.func21, Try.ntmps21
  go_wp2_with fail
  refine (Go.Proofs.Ytedkcpncomgboaa.wire.trim_ref A n c ap 1099511627776 w.heap.size w HA.out.1 (Nat.le_trans HA.out.2.1 HA.out.2.2.1) HA.out.2.2.2.1).mono ?_
  rintro e w1 ⟨rfl, rfl⟩
  cases ht : trB ap 1099511627776 with
  | false =>
    have HR := Lib.hid (show NewQ rg ap w1 (.returned (.tuple #[.pointer none, .bool false])) w1 from .inr ⟨by rw [HH.out, ht]; simp, rfl, Below.refl _ _⟩)
    go_wp2
    go_ret2
    exact HR.out
  | true =>
    obtain ⟨hl, htr, hap⟩ := tr_parts ht
    have HHF := Lib.hid (show (headB rg ap || ap.any numB) = false by rw [HH.out, ht]; simp; omega)
    have HTR := Lib.hid htr
    have HAP := Lib.hid hap
    clear htr hap
    go_wp2_with fail
    refine (Go.Proofs.Ytedkcpncomgboaa.made.trim_ref A n c ap w1 HA.out hm).mono ?_
    rintro e w2 ⟨v2, rfl, hown, hb⟩
    rw [HTR.out] at hown
    obtain ⟨A2, c2, rfl⟩ := ownsRow_slice hown
    have hb4 := below_new w2 (.cells #[.int .i64 rg, .slice A2 ap.length c2, .slice none 0 0] rinT)
    have hsz := hb.size
    have hlt : ∀ i, (Value.slice A2 ap.length c2).ownBlock = some i → w1.heap.size ≤ i ∧ i < w2.heap.size := fun i hi => hown.lt i hi
    have HR := Lib.hid (show NewQ rg ap w1 (.returned (.tuple #[.pointer (some ⟨w2.heap.size, 0, none⟩), .bool true])) (w2.alloc (.cells #[.int .i64 rg, .slice A2 ap.length c2, .slice none 0 0] rinT)) from
      .inl ⟨HHF.out, _, fun i => w1.heap.size ≤ i ∧ i < w2.heap.size + 1, _, rfl,
        { blk := Blk.new w2 rinT #[.int .i64 rg, .slice A2 ap.length c2, .slice none 0 0]
          app := own_keeps (own_low hown (Nat.zero_le _)) (X := nobody) (.of_below hb4) (fun _ _ h => h)
          afew := hl
          row := ⟨rfl, .inl ⟨rfl, rfl⟩⟩
          wfew := by simp
          num := fun x hx => by cases hx
          rng := fun x hx => by cases hx
          apb := HAP.out
          inG := ⟨hsz, by omega⟩
          inA := fun i hi => by have := hlt i hi; omega
          inW := fun i hi => by cases hi
          inN := fun x hx => by cases hx
          small := fun i hi => by simpa using hi.2 }, fun i hi => hi.1, below_step hb hb4⟩)
    clear hown hb hb4 hlt
    go_wp2
    go_ret2
    exact HR.out
end Go.Proofs.Ytedkcpncomgboaa.dep
