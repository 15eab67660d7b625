/- The document's drain: where its loops stand; a round of it, in plain words. -/
import Derived.Test.YtedkcpncomgboaaInbR
import Derived.Test.YtedkcpncomgboaaPlayP
import Derived.Test.YtedkcpncomgboaaMonoK
namespace Go.Proofs.Ytedkcpncomgboaa.dep
open Go Go.RowKit Go.Proofs.Ytedkcpncomgboaa.base Go.Proofs.Ytedkcpncomgboaa.rowe Go.Proofs.Ytedkcpncomgboaa.wire Go.Proofs.Ytedkcpncomgboaa.vec Go.Proofs.Ytedkcpncomgboaa.cmp Go.Proofs.Ytedkcpncomgboaa.with_ Go.Proofs.Ytedkcpncomgboaa.ref

/-- the best of the first k: the number of what can be shown, of the least region -/
def Best (a : List Int) (l : List Wr) (k : Nat) (z : Int) : Prop :=
  (z = -1 ∧ ∀ j, j < k → readyB a (l.getD j wrZ) = false) ∨ (∃ q : Nat, q < k ∧ z = q ∧ readyB a (l.getD q wrZ) = true ∧ ∀ j, j < k → readyB a (l.getD j wrZ) = true → (l.getD q wrZ).r ≤ (l.getD j wrZ).r)
section
variable {a : List Int} {l : List Wr} {k : Nat} {z : Int}
theorem Best.zero : Best a l 0 (-1) := .inl ⟨rfl, fun j hj => absurd hj (by omega)⟩
theorem Best.pass (h : Best a l k z) (hr : readyB a (l.getD k wrZ) = false) : Best a l (k + 1) z := by
  rcases h with ⟨e, h⟩ | ⟨q, hq, e, h1, h2⟩
  · exact .inl ⟨e, fun j hj => by rcases Nat.lt_or_ge j k with hlt | hge; exact h j hlt; rwa [show j = k by omega]⟩
  · exact .inr ⟨q, by omega, e, h1, fun j hj hrj => by rcases Nat.lt_or_ge j k with hlt | hge; exact h2 j hlt hrj; rw [show j = k by omega, hr] at hrj; cases hrj⟩
theorem Best.first (h : Best a l k (-1)) (hr : readyB a (l.getD k wrZ) = true) : Best a l (k + 1) k := by
  rcases h with ⟨_, h⟩ | ⟨q, hq, e, h1, h2⟩
  · exact .inr ⟨k, by omega, rfl, hr, fun j hj hrj => by rcases Nat.lt_or_ge j k with hlt | hge; (rw [h j hlt] at hrj; cases hrj); (rw [show j = k by omega]; exact Int.le_refl _)⟩
  · omega
theorem Best.take {q : Nat} (h : Best a l k q) (hr : readyB a (l.getD k wrZ) = true) (hlt : (l.getD k wrZ).r < (l.getD q wrZ).r) : Best a l (k + 1) k := by
  rcases h with ⟨e, h⟩ | ⟨q', hq, e, h1, h2⟩
  · omega
  · obtain rfl : q = q' := by omega
    exact .inr ⟨k, by omega, rfl, hr, fun j hj hrj => by rcases Nat.lt_or_ge j k with hlt | hge; (have := h2 j hlt hrj; omega); (rw [show j = k by omega]; exact Int.le_refl _)⟩
theorem Best.stay {q : Nat} (h : Best a l k q) (hge : ¬ (l.getD k wrZ).r < (l.getD q wrZ).r) : Best a l (k + 1) q := by
  rcases h with ⟨e, h⟩ | ⟨q', hq, e, h1, h2⟩
  · omega
  · obtain rfl : q = q' := by omega
    exact .inr ⟨q, by omega, rfl, h1, fun j hj hrj => by rcases Nat.lt_or_ge j k with hlt | hge2; exact h2 j hlt hrj; (rw [show j = k by omega]; omega)⟩
theorem Best.cases (h : Best a l k z) : z = -1 ∨ ∃ q : Nat, q < k ∧ z = q := by
  rcases h with ⟨e, _⟩ | ⟨q, hq, e, _⟩
  · exact .inl e
  · exact .inr ⟨q, hq, e⟩
end
section
variable {w w' w1 : World} {R R' X : Nat → Prop} {g : Nat} {rg : Int} {ap : List Int} {L L' : List Wr} {va vl vl' va' : Value}
/-- another list of what waits, made anew, and its head stored -/
theorem RIn.putL (h : RIn w R g rg ap L va vl) (hb : Below w.heap.size w w1) (hrow : w1.ownsRow w.heap.size 35 10 vl' L'.length (L'.flatMap Wr.cells)) (hf : L'.length ≤ 1000)
    (hsub : ∀ x ∈ L', (x ∈ L ∨ (NumsO w1 0 x.d x.z ∧ ∀ i, x.d.ownBlock = some i → R' i)) ∧ (1 ≤ x.r ∧ x.r ≤ 16) ∧ (1 ≤ x.n ∧ x.n ≤ 1099511627776)) (hs : ∀ i, R i → R' i) (hnew : ∀ i, w.heap.size ≤ i → i < w1.heap.size → R' i) (hsm : ∀ i, R' i → i < w1.heap.size) :
    RIn (w1.setCell ⟨g, 2, none⟩ vl') R' g rg ap L' va vl' := by
  have h1 := h.below hb
  have hk2 : Keeps (· = g) w1 (w1.setCell ⟨g, 2, none⟩ vl') := .setCell (X := (· = g)) (.inl (show g = g from rfl)) _
  have hg := h.small g h.inG
  have hnum : ∀ x ∈ L', NumsO w1 0 x.d x.z := fun x hx => by
    rcases (hsub x hx).1 with hm | hm
    · exact h1.num x hm
    · exact hm.1
  exact
  { blk := by simpa using h1.blk.set_ 2 vl'
    app := own_keeps h1.app hk2 fun i hi e => own_blk_ne h1.app h1.blk (by decide) (by rw [hi, show i = g from e])
    afew := h.afew
    row := own_keeps (own_low hrow (Nat.zero_le _)) hk2 fun i hi e => by have := (hrow.lt i hi).1; have e2 : i = g := e; omega
    wfew := hf
    num := fun x hx => (hnum x hx).keeps hk2 fun i hi e => own_blk_ne (hnum x hx).1 h1.blk (by decide) (by rw [hi, show i = g from e])
    rng := fun x hx => (hsub x hx).2
    apb := h.apb
    inG := hs _ h.inG
    inA := fun i hi => hs i (h.inA i hi)
    inW := fun i hi => hnew i (hrow.lt i hi).1 (hrow.lt i hi).2
    inN := fun x hx i hi => by
      rcases (hsub x hx).1 with hm | hm
      · exact hs i (h.inN x hm i hi)
      · exact hm.2 i hi
    small := fun i hi => Nat.lt_of_lt_of_le (hsm i hi) hk2.size }
/-- another applied vector, made anew -/
theorem RIn.putA {ap' : List Int} (h : RIn w R g rg ap L va vl) (hb : Below w.heap.size w w1) (ha : w1.ownsRow w.heap.size 3 1 va' ap'.length (enc ap')) (hf : ap'.length ≤ 16) (hap : ∀ r, 0 ≤ atV ap' r ∧ atV ap' r ≤ 1099511627776)
    (hs : ∀ i, R i → R' i) (hnew : ∀ i, w.heap.size ≤ i → i < w1.heap.size → R' i) (hsm : ∀ i, R' i → i < w1.heap.size) :
    RIn (w1.setCell ⟨g, 1, none⟩ va') R' g rg ap' L va' vl := by
  have h1 := h.below hb
  have hk2 : Keeps (· = g) w1 (w1.setCell ⟨g, 1, none⟩ va') := .setCell (X := (· = g)) (.inl (show g = g from rfl)) _
  have hg := h.small g h.inG
  exact
  { blk := by simpa using h1.blk.set_ 1 va'
    app := own_keeps (own_low ha (Nat.zero_le _)) hk2 fun i hi e => by have := (ha.lt i hi).1; have e2 : i = g := e; omega
    afew := hf
    row := own_keeps h1.row hk2 fun i hi e => own_blk_ne h1.row h1.blk (by decide) (by rw [hi, show i = g from e])
    wfew := h.wfew
    num := fun x hx => (h1.num x hx).keeps hk2 fun i hi e => own_blk_ne (h1.num x hx).1 h1.blk (by decide) (by rw [hi, show i = g from e])
    rng := h.rng
    apb := hap
    inG := hs _ h.inG
    inA := fun i hi => hnew i (ha.lt i hi).1 (ha.lt i hi).2
    inW := fun i hi => hs i (h.inW i hi)
    inN := fun x hm i hi => hs i (h.inN x hm i hi)
    small := fun i hi => Nat.lt_of_lt_of_le (hsm i hi) hk2.size }
end
/-- where the outer loop stands -/
def DrainQ (w : World) (R : Nat → Prop) (g : Nat) (rg : Int) (ap : List Int) (L : List Wr) (vo : Value) (wr : World) (a : List Int) (l out : List Wr) (R' : Nat → Prop) : Prop :=
  RSteps ap L a l out ∧ (∃ va vl, RIn wr R' g rg a l va vl ∧ ∀ i, vo.ownBlock = some i → vl.ownBlock ≠ some i) ∧
    wr.ownsRow 0 35 10 vo out.length (out.flatMap Wr.cells) ∧ (∀ x ∈ out, NumsO wr 0 x.d x.z ∧ ∀ i, x.d.ownBlock = some i → R' i) ∧ (∀ i, vo.ownBlock = some i → R' i) ∧ Keeps R w wr ∧ (∀ i, R' i → R i ∨ w.heap.size ≤ i)
theorem DrainQ.below {w : World} {R : Nat → Prop} {g : Nat} {rg : Int} {ap : List Int} {L : List Wr} {vo : Value} {wr w1 : World} {a : List Int} {l out : List Wr} {R' : Nat → Prop} (h : DrainQ w R g rg ap L vo wr a l out R') (hb : Below wr.heap.size wr w1) : DrainQ w R g rg ap L vo w1 a l out R' := by
  obtain ⟨h1, ⟨va, vl, h2, h3⟩, h4, h5, h6, h7, h8⟩ := h
  exact ⟨h1, ⟨va, vl, h2.below hb, h3⟩, own_keeps h4 (X := nobody) (.of_below hb) (fun _ _ h => h), fun x hx => ⟨(h5 x hx).1.below hb, (h5 x hx).2⟩, h6, h7.trans (.of_below hb), h8⟩
theorem DrainQ.next {w : World} {R : Nat → Prop} {g : Nat} {rg : Int} {ap : List Int} {L : List Wr} {vo : Value} {wr : World} {a : List Int} {l out : List Wr} {R' : Nat → Prop} {va vl : Value} {k : Nat} {y : Wr} {w13 w14 w15 : World} {T : Nat → Prop} {va' vl' v' : Value}
    (hst : RSteps ap L a l out) (hf : RIn wr R' g rg a l va vl)
    (hnum : ∀ x ∈ out, NumsO wr 0 x.d x.z ∧ ∀ i, x.d.ownBlock = some i → R' i) (hvo : ∀ i, vo.ownBlock = some i → R' i) (hrow : wr.ownsRow 0 35 10 vo out.length (out.flatMap Wr.cells))
    (hK : Keeps R w wr) (hs : ∀ i, R' i → R i ∨ w.heap.size ≤ i) (hkl : k < l.length) (hy : l.getD k wrZ = y) (hkr : readyB a y = true) (hkn : ∀ j, j < l.length → readyB a (l.getD j wrZ) = true → y.r ≤ (l.getD j wrZ).r)
    (hk13 : Keeps (· = g) wr w13) (hf13 : RIn w13 T g rg (withL a y.r y.n) (l.eraseIdx k) va' vl') (hT : ∀ i, T i → R' i ∨ wr.heap.size ≤ i) (hva : ∀ i, va'.ownBlock = some i → wr.heap.size ≤ i) (hvl : ∀ i, vl'.ownBlock = some i → wr.heap.size ≤ i)
    (hb14 : Below w13.heap.size w13 w14) (hrow15 : w15.ownsRow 0 35 10 v' (out.length + 1) (out.flatMap Wr.cells ++ y.cells)) (hg15 : w14.grownBy w15 vo.ownBlock) (hv : v'.ownBlock = vo.ownBlock ∨ v'.ownBlock = some w14.heap.size) :
    ∃ S3, DrainQ w R g rg ap L v' w15 (withL a y.r y.n) (l.eraseIdx k) (out ++ [y]) S3 := by
  have hmem : y ∈ l := by rw [← hy]; exact getD_mem hkl
  have hk15 : Keeps (fun i => vo.ownBlock = some i) w14 w15 := .grown hg15 fun g hg => .inl hg
  have s13 := hk13.size
  have s14 := hb14.size
  have s15 := hk15.size
  have sK := hK.size
  have hlt : ∀ i, vo.ownBlock = some i → i < wr.heap.size := fun i hi => hf.small i (hvo i hi)
  have hgv : vo.ownBlock ≠ some g := own_blk_ne hrow hf.blk (by decide)
  have hf14 : RIn w14 T g rg (withL a y.r y.n) (l.eraseIdx k) va' vl' := hf13.below hb14
  have hrow13 : w13.ownsRow 0 35 10 vo out.length (out.flatMap Wr.cells) := own_keeps hrow hk13 fun i hi e => hgv (by rw [hi, show i = g from e])
  have hrow14 : w14.ownsRow 0 35 10 vo out.length (out.flatMap Wr.cells) := own_keeps hrow13 (X := nobody) (.of_below hb14) (fun _ _ h => h)
  have hap14 : ∀ x : Wr, NumsO w14 0 x.d x.z → ∀ i, x.d.ownBlock = some i → ¬ vo.ownBlock = some i := fun x hx i hi => own_apart hx.1 hrow14 (by decide) i hi
  have hf15 : RIn w15 T g rg (withL a y.r y.n) (l.eraseIdx k) va' vl' := hf14.keepsO hk15 (fun e => hgv e) (fun i hi e => by have := hva i hi; have := hlt i e; omega) (fun i hi e => by have := hvl i hi; have := hlt i e; omega)
    (fun x hx i hi e => hap14 x (hf14.num x hx) i hi e)
  have hto : ∀ x : Wr, NumsO wr 0 x.d x.z → NumsO w15 0 x.d x.z := fun x hx => by
    have h13 : NumsO w13 0 x.d x.z := hx.keeps hk13 fun i h e => own_blk_ne hx.1 hf.blk (by decide) (by rw [h, show i = g from e])
    have h14 := h13.below hb14
    exact h14.keeps hk15 fun i h e => hap14 x h14 i h e
  have hv15 : ∀ i, v'.ownBlock = some i → i < w15.heap.size := fun i hi => (hrow15.lt i hi).2
  refine ⟨fun i => (R' i ∨ wr.heap.size ≤ i) ∧ i < w15.heap.size, ?_, ⟨va', vl', ?_, ?_⟩, ?_, ?_, ?_, ?_, ?_⟩
  · subst hy; exact .one hst k hkl hkr hkn
  · exact { hf15 with
      inG := ⟨hT _ hf15.inG, hf15.small _ hf15.inG⟩
      inA := fun i hi => ⟨hT i (hf15.inA i hi), hf15.small i (hf15.inA i hi)⟩
      inW := fun i hi => ⟨hT i (hf15.inW i hi), hf15.small i (hf15.inW i hi)⟩
      inN := fun x hx i hi => ⟨hT i (hf15.inN x hx i hi), hf15.small i (hf15.inN x hx i hi)⟩
      small := fun i hi => hi.2 }
  · intro i hi
    rcases hv with e | e
    · have hi2 : vo.ownBlock = some i := by rw [← e]; exact hi
      exact fun e2 => by have := hvl i e2; have := hlt i hi2; omega
    · have hi2 : i = w14.heap.size := by rw [e] at hi; injection hi with hi; exact hi.symm
      exact fun e2 => by have := hf14.small i (hf14.inW i e2); omega
  · rw [List.length_append, List.flatMap_append]
    simpa using hrow15
  · intro x hx
    rcases List.mem_append.1 hx with hx | hx
    · exact ⟨hto x (hnum x hx).1, fun i hi => ⟨.inl ((hnum x hx).2 i hi), by have := hf.small i ((hnum x hx).2 i hi); omega⟩⟩
    · obtain rfl : x = y := by simpa using hx
      exact ⟨hto x (hf.num x hmem), fun i hi => ⟨.inl (hf.inN x hmem i hi), by have := hf.small i (hf.inN x hmem i hi); omega⟩⟩
  · intro i hi
    refine ⟨?_, hv15 i hi⟩
    rcases hv with e | e
    · exact .inl (hvo i (by rw [← e]; exact hi))
    · rw [e] at hi; injection hi with hi; exact .inr (by omega)
  · have k1 : Keeps (fun i => R i ∨ w.heap.size ≤ i) w wr := hK.more fun i _ h => .inl h
    have k2 : Keeps (fun i => R i ∨ w.heap.size ≤ i) wr w13 := hk13.more fun i _ h => hs i (by rw [show i = g from h]; exact hf.inG)
    have k3 : Keeps (fun i => R i ∨ w.heap.size ≤ i) w13 w14 := .of_below hb14
    have k4 : Keeps (fun i => R i ∨ w.heap.size ≤ i) w14 w15 := hk15.more fun i _ e => hs i (hvo i e)
    exact (((k1.trans k2).trans k3).trans k4).more fun i hi h => h.elim id fun h => by omega
  · intro i hi
    rcases hi.1 with h | h
    · exact hs i h
    · exact .inr (by omega)
theorem exec_load {P : Program} {o : Oper} {ev : Operand → Value} {w : World} (ty : TypeId) (x : Operand) (ho : o.op = .load ty x) (b off : Nat) (cs : List Value)
    (hx : ev x = .pointer (some ⟨b, off, none⟩)) {d : TypeDesc} (hu : P.underlying ty = some d) (hd : (match d with | .struct _ | .array _ _ => true | _ => false) = true)
    (hi : (P.info? ty).map (·.size) = some cs.length) (hc : ∀ j v, cs[j]? = some v → w.cell? ⟨b, off + j, none⟩ = some v) : (execOp ev o).run P w = .ok (.value (.agg ⟨cs⟩)) w := by
  have h := run_loadVar_at (P := P) (w := w) (b := b) (o := off) (cs := cs) hu hd hi hc
  unfold execOp
  simp only [ho, hx, Instr.loadAt, Instr.sureAddr, Sem.run_bind, Sem.run_pure, Result.andThen_ok, h]
end Go.Proofs.Ytedkcpncomgboaa.dep
