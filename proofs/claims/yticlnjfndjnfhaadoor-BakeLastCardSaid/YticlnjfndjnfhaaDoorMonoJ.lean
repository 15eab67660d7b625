/- A region that draws its order, some of whose operations ('movers') change the blocks X: what reads may be taken first, as long as no mover can come up ahead of it. Over any program. -/
import Derived.Test.YticlnjfndjnfhaaDoorBase
namespace Go.Proofs.YticlnjfndjnfhaaDoor.monoj
open Go.Proofs.YticlnjfndjnfhaaDoor.base
section
variable {P : Program} {ops : Array Oper} {Q : Exit → Act → World → Prop} {md : Region.Mode} {X : Nat → Prop} {mv : List Nat}
/-- What operation i may change. -/
def moves (X : Nat → Prop) (mv : List Nat) (i : Nat) : Nat → Prop := fun b => i ∈ mv ∧ X b
def wpMonoJ (P : Program) (md : Region.Mode) (ops : Array Oper) (Q : Exit → Act → World → Prop) (X : Nat → Prop) (mv : List Nat) : Nat → Array Bool → Act → World → Prop
  | 0, listed, a, w => Region.ready md ops listed = [] ∧ Q .normal a w
  | fuel + 1, listed, a, w =>
    (Region.ready md ops listed = [] → Q .normal a w) ∧
    ∀ i ∈ Region.ready md ops listed, wpOp P ops Q i (fun a' w' => Keeps (moves X mv i) w w' ∧ wpMonoJ P md ops Q X mv fuel (listed.setIfInBounds i true) a' w') a w
theorem wpAny_of_monoJ : ∀ (fuel : Nat) (listed : Array Bool) (a : Act) (w : World), wpMonoJ P md ops Q X mv fuel listed a w → wpAny P md ops Q fuel listed a w
  | 0, _, _, _, h => h
  | fuel + 1, _, _, _, h => ⟨h.1, fun i hi => wpOp_mono (fun a' w' h' => wpAny_of_monoJ fuel _ a' w' h'.2) (h.2 i hi)⟩
theorem wpMonoJ_first {i : Nat} {oi : Oper} {v : Value} {D : List Nat} {Y : Nat → Prop} (hi : ops[i]? = some oi) (hsel : ∀ (j : Nat) (o : Oper) cs b, ops[j]? = some o → o.op ≠ .select cs b)
    (hQ : ∀ c a w, Q (.panic c) (a.put oi.dst v) w → Q (.panic c) a w)
    (hD : ∀ d od, d ∈ D → ops[d]? = some od → ∃ e ∈ od.after, Region.binds md e = true ∧ (e.on = i ∨ e.on ∈ D))
    (hX : ∀ j, j ∉ D → j ≠ i → ∀ b, moves X mv j b → Y b) :
    ∀ (fuel : Nat) (listed : Array Bool) (a : Act) (w : World),
      (∀ j oj, ops[j]? = some oj → j ≠ i → listed.getD j true = false → (∀ e ∈ oj.after, Region.binds md e = true → e.on ≠ i) → oi.apart ops oj = true) →
      (∀ d ∈ D, listed.getD d false = false) →
      i ∈ Region.ready md ops listed → YieldsIf P ops (Keeps Y w) oi v a → (i ∉ mv) →
      wpMonoJ P md ops Q X mv fuel (listed.setIfInBounds i true) (a.put oi.dst v) w → wpMonoJ P md ops Q X mv (fuel + 1) listed a w := by
  intro fuel
  induction fuel with
  | zero =>
    intro listed a w _ _ hr hy _ H
    refine ⟨fun h => (by rw [h] at hr; cases hr), fun j hj => ?_⟩
    by_cases hji : j = i
    · subst hji; exact hy.wpOp hi (Keeps.refl _ _) ⟨Keeps.refl _ _, H⟩
    · have := ready_mono hj hji
      rw [H.1] at this
      cases this
  | succ fuel ih =>
    intro listed a w hfree hun hr hy him H
    refine ⟨fun h => (by rw [h] at hr; cases hr), fun j hj => ?_⟩
    by_cases hji : j = i
    · subst hji; exact hy.wpOp hi (Keeps.refl _ _) ⟨Keeps.refl _ _, H⟩
    · have h1 := H.2 j (ready_mono hj hji)
      obtain ⟨hjun, oj, hoj, hall⟩ := mem_ready.1 hj
      have hi0 := (mem_ready.1 hr).1
      have hoff : ∀ e ∈ oj.after, Region.binds md e = true → e.on ≠ i ∧ e.on ∉ D := fun e he hb => by
        have h1 := hall e he hb
        refine ⟨fun heq => ?_, fun hd => ?_⟩
        · rw [heq] at h1
          rcases Nat.lt_or_ge i listed.size with h' | h'
          · simp [h'] at hi0 h1; rw [hi0] at h1; cases h1
          · simp [Array.getElem?_eq_none h'] at h1
        · rw [hun _ hd] at h1; cases h1
      have hjD : j ∉ D := fun hd => by
        obtain ⟨e, he, hb, h2⟩ := hD j oj hd hoj
        rcases h2 with h2 | h2
        · exact (hoff e he hb).1 h2
        · exact (hoff e he hb).2 h2
      have hnot : ∀ e ∈ oj.after, Region.binds md e = true → e.on ≠ i := fun e he hb => (hoff e he hb).1
      have h2 := wpOp_putIf hoj (hfree j oj hoj hji hjun hnot) (fun cs b => hsel i oi cs b hi) (fun cs b => hsel j oj cs b hoj) hQ hy h1
      have hfree' : ∀ k ok, ops[k]? = some ok → k ≠ i → (listed.setIfInBounds j true).getD k true = false →
          (∀ e ∈ ok.after, Region.binds md e = true → e.on ≠ i) → oi.apart ops ok = true := fun k ok hk hki hun hno => by
        refine hfree k ok hk hki ?_ hno
        by_cases hjk : j = k
        · subst hjk; exact hjun
        · rw [getD_set_ne true hjk] at hun; exact hun
      have hun' : ∀ d ∈ D, (listed.setIfInBounds j true).getD d false = false := fun d hd => by
        rw [getD_set_ne false (fun e => hjD (by rw [e]; exact hd))]
        exact hun d hd
      refine wpOp_mono (fun a' w' h3 => ⟨h3.2.1, ih (listed.setIfInBounds j true) a' w' hfree' hun' (ready_mono hr (Ne.symm hji)) (YieldsIf.weaken h3.1 (fun u hu => ?_)) him ?_⟩) h2
      · exact Keeps.trans ⟨h3.2.1.os, h3.2.1.tape, h3.2.1.output, h3.2.1.size, fun b hb hx => h3.2.1.block b hb (fun hm => hx (hX j hjD hji b hm))⟩ hu
      · rw [Array.setIfInBounds_comm _ _ hji]
        exact h3.2.2
/-- All of D come behind i. -/
def behind (md : Region.Mode) (ops : Array Oper) (i : Nat) (D : List Nat) (listed : Array Bool) : Bool :=
  D.all fun d => !listed.getD d false && match ops[d]? with | some o => o.after.any (fun e => Region.binds md e && (e.on == i || D.contains e.on)) | none => true
theorem wpMonoJ_takeD {i : Nat} {D : List Nat} {Y : Nat → Prop} {oi : Oper} {v : Value} {fuel : Nat} {listed : Array Bool} {a : Act} {w : World} (hi : ops[i]? = some oi)
    (hs : Region.noSelect ops = true) (hf : Region.free md ops listed i = true) (hr : (Region.ready md ops listed).contains i = true)
    (hQ : ∀ c a w, Q (.panic c) (a.put oi.dst v) w → Q (.panic c) a w) (hb : behind md ops i D listed = true) (hmv : mv.contains i = false)
    (hX : ∀ j, j ∉ D → j ≠ i → ∀ b, moves X mv j b → Y b) (hy : YieldsIf P ops (Keeps Y w) oi v a)
    (h : wpMonoJ P md ops Q X mv fuel (listed.setIfInBounds i true) (a.put oi.dst v) w) : wpMonoJ P md ops Q X mv (fuel + 1) listed a w := by
  have hb' := List.all_eq_true.1 hb
  refine wpMonoJ_first hi (Region.noSelect_spec hs) hQ (D := D) (fun d od hd hod => ?_) hX fuel listed a w (Region.free_spec hi hf) (fun d hd => ?_) (by simpa using hr) hy (by simpa using hmv) h
  · have h1 := hb' d hd
    rw [hod] at h1
    simp only [Bool.and_eq_true] at h1
    obtain ⟨e, he, h2⟩ := Array.any_eq_true'.1 h1.2
    simp only [Bool.and_eq_true, Bool.or_eq_true, beq_iff_eq, List.contains_iff_mem] at h2
    exact ⟨e, he, h2.1, h2.2⟩
  · have h1 := hb' d hd
    simp only [Bool.and_eq_true, Bool.not_eq_true'] at h1
    exact h1.1
/-- An operation that looks at no memory, or at none of X. -/
theorem wpMonoJ_take' (i : Nat) {oi : Oper} {v : Value} {fuel : Nat} {listed : Array Bool} {a : Act} {w : World} (hi : ops.toList[i]? = some oi)
    (hs : Region.noSelect ops = true) (hf : Region.free md ops listed i = true) (hr : (Region.ready md ops listed).contains i = true) (hmv : mv.contains i = false)
    (hQ : ∀ c a w, Q (.panic c) (a.put oi.dst v) w → Q (.panic c) a w) (hg : Region.wanted oi (yielded ops a.tmps) = true) (hy : ∀ w', Keeps X w w' → (execOp a.eval oi).run P w' = .ok (.value v) w')
    (h : wpMonoJ P md ops Q X mv fuel (listed.setIfInBounds i true) (a.put oi.dst v) w) : wpMonoJ P md ops Q X mv (fuel + 1) listed a w :=
  wpMonoJ_takeD (D := []) (Y := X) (by simpa using hi) hs hf hr hQ rfl hmv (fun _ _ _ _ h => h.2) (.inl ⟨hg, hy⟩) h
/-- An operation whose guard says no. -/
theorem wpMonoJ_skip' (i : Nat) {oi : Oper} {fuel : Nat} {listed : Array Bool} {a : Act} {w : World} (hi : ops.toList[i]? = some oi)
    (hs : Region.noSelect ops = true) (hf : Region.free md ops listed i = true) (hr : (Region.ready md ops listed).contains i = true) (hmv : mv.contains i = false)
    (hQ : ∀ c a w, Q (.panic c) (a.put oi.dst undef) w → Q (.panic c) a w) (hg : Region.wanted oi (yielded ops a.tmps) = false)
    (h : wpMonoJ P md ops Q X mv fuel (listed.setIfInBounds i true) (a.put oi.dst undef) w) : wpMonoJ P md ops Q X mv (fuel + 1) listed a w :=
  wpMonoJ_takeD (D := []) (Y := X) (by simpa using hi) hs hf hr hQ rfl hmv (fun _ _ _ _ h => h.2) (.inr ⟨hg, rfl⟩) h
/-- An operation that reads, all movers behind it: D. -/
theorem wpMonoJ_read' (i : Nat) (D : List Nat) {oi : Oper} {v : Value} {fuel : Nat} {listed : Array Bool} {a : Act} {w : World} (hi : ops.toList[i]? = some oi)
    (hs : Region.noSelect ops = true) (hf : Region.free md ops listed i = true) (hr : (Region.ready md ops listed).contains i = true) (hmv : mv.contains i = false)
    (hb : behind md ops i D listed = true) (hall : mv.all (fun j => D.contains j) = true)
    (hQ : ∀ c a w, Q (.panic c) (a.put oi.dst v) w → Q (.panic c) a w) (hg : Region.wanted oi (yielded ops a.tmps) = true) (hy : ∀ w', Keeps nobody w w' → (execOp a.eval oi).run P w' = .ok (.value v) w')
    (h : wpMonoJ P md ops Q X mv fuel (listed.setIfInBounds i true) (a.put oi.dst v) w) : wpMonoJ P md ops Q X mv (fuel + 1) listed a w :=
  wpMonoJ_takeD (D := D) (Y := nobody) (by simpa using hi) hs hf hr hQ hb hmv (fun j hj _ b hm => by
    have := List.all_eq_true.1 hall j hm.1
    exact absurd (by simpa using this) hj) (.inl ⟨hg, hy⟩) h
/-- One operation alone may come up. -/
theorem wpMonoJ_one' (i : Nat) {o : Oper} {fuel : Nat} {listed : Array Bool} {a : Act} {w : World} (hr : Region.ready md ops listed = [i]) (ho : ops.toList[i]? = some o) (hg : Region.wanted o (yielded ops a.tmps) = true)
    (h : ∀ K' : Act → World → Prop, Shut (∀ a w', Keeps (moves X mv i) w w' → wpMonoJ P md ops Q X mv fuel (listed.setIfInBounds i true) a w' → K' a w') → Oper.wp P o a w K' Q) : wpMonoJ P md ops Q X mv (fuel + 1) listed a w :=
  ⟨fun h0 => (by rw [hr] at h0; cases h0), fun j hj => (by
    rw [hr, List.mem_singleton] at hj
    subst hj
    exact wpOp_step (by simpa using ho) (fun K' hK => by rw [if_pos hg]; exact h K' (fun a w' h1 h2 => hK a w' ⟨h1, h2⟩)))⟩
/-- Two operations may come up: both ways. -/
theorem wpMonoJ_two' (i j : Nat) {o o2 : Oper} {fuel : Nat} {listed : Array Bool} {a : Act} {w : World} (hr : Region.ready md ops listed = [i, j]) (ho : ops.toList[i]? = some o) (hg : Region.wanted o (yielded ops a.tmps) = true) (ho2 : ops.toList[j]? = some o2) (hg2 : Region.wanted o2 (yielded ops a.tmps) = true)
    (h : ∀ K' : Act → World → Prop, Shut (∀ a w', Keeps (moves X mv i) w w' → wpMonoJ P md ops Q X mv fuel (listed.setIfInBounds i true) a w' → K' a w') → Oper.wp P o a w K' Q)
    (h2 : ∀ K' : Act → World → Prop, Shut (∀ a w', Keeps (moves X mv j) w w' → wpMonoJ P md ops Q X mv fuel (listed.setIfInBounds j true) a w' → K' a w') → Oper.wp P o2 a w K' Q) : wpMonoJ P md ops Q X mv (fuel + 1) listed a w :=
  ⟨fun h0 => (by rw [hr] at h0; cases h0), fun k hk => (by
    rw [hr] at hk
    rcases List.mem_cons.1 hk with hk | hk
    · subst hk
      exact wpOp_step (by simpa using ho) (fun K' hK => by rw [if_pos hg]; exact h K' (fun a w' h1 h2 => hK a w' ⟨h1, h2⟩))
    · rw [List.mem_singleton] at hk
      subst hk
      exact wpOp_step (by simpa using ho2) (fun K' hK => by rw [if_pos hg2]; exact h2 K' (fun a w' h1 h2 => hK a w' ⟨h1, h2⟩)))⟩
theorem wpMonoJ_done {listed : Array Bool} {a : Act} {w : World} (hr : Region.ready md ops listed = []) (h : Q .normal a w) : ∀ fuel, wpMonoJ P md ops Q X mv fuel listed a w
  | 0 => ⟨hr, h⟩
  | _ + 1 => ⟨fun _ => h, by rw [hr]; simp⟩
theorem wp_region_monoJ (X : Nat → Prop) (mv : List Nat) {id : Nat} {a : Act} {w : World} (hm : P.follows .mixedOrders = true)
    (h : wpMonoJ P .any ops Q X mv ops.size (Array.replicate ops.size false) a w.drew) : (Code.region id ops true).wp P Q a w := wp_region_any hm (wpAny_of_monoJ _ _ _ _ h)
theorem moved {w w' : World} {i : Nat} (h : Keeps X w w') (hi : i ∈ mv) : Keeps (moves X mv i) w w' := ⟨h.os, h.tape, h.output, h.size, fun b hb hx => h.block b hb (fun h => hx ⟨hi, h⟩)⟩
end
end Go.Proofs.YticlnjfndjnfhaaDoor.monoj
