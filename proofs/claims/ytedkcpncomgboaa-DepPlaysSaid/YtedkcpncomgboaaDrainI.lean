/- Inbox.drain: where its loop stands, and a round of it, in plain words. -/
import Derived.Test.YtedkcpncomgboaaOneW
namespace Go.Proofs.Ytedkcpncomgboaa.dep
open Go Go.RowKit Go.Proofs.Ytedkcpncomgboaa.base Go.Proofs.Ytedkcpncomgboaa.rowe Go.Proofs.Ytedkcpncomgboaa.wire Go.Proofs.Ytedkcpncomgboaa.vec Go.Proofs.Ytedkcpncomgboaa.cmp Go.Proofs.Ytedkcpncomgboaa.with_ Go.Proofs.Ytedkcpncomgboaa.monoj

/-- one by one, the first that can be shown -/
inductive Steps (ap : List Int) (ws : List Wr) : List Int → List Wr → List Wr → Prop
  | zero : Steps ap ws ap ws []
  | one {a : List Int} {l out : List Wr} (h : Steps ap ws a l out) (k : Nat) (hk : k < l.length) (hr : readyB a (l.getD k wrZ) = true) (hn : ∀ j, j < k → readyB a (l.getD j wrZ) = false) :
      Steps ap ws (withL a (l.getD k wrZ).r (l.getD k wrZ).n) (l.eraseIdx k) (out ++ [l.getD k wrZ])
theorem trimN_le' (zs : List Int) (n : Nat) : trimN zs n ≤ n := trimN_le zs n
theorem with_len {zs : List Int} {r n : Int} (h : zs.length ≤ 16) : (withL zs r n).length ≤ 16 := by
  unfold withL
  split
  · rename_i hr
    unfold trimL
    rw [List.length_take]
    have h1 := trimN_le (setL zs (r.toNat - 1) n) (setL zs (r.toNat - 1) n).length
    have h2 := setL_len zs (r.toNat - 1) n
    omega
  · unfold trimL
    rw [List.length_take]
    omega
theorem Steps.ws_len {ap : List Int} {ws : List Wr} {a : List Int} {l out : List Wr} (h : Steps ap ws a l out) : l.length + out.length = ws.length := by
  induction h with
  | zero => simp
  | one h k hk _ _ ih =>
    rw [List.length_eraseIdx_of_lt hk, List.length_append]
    simp
    omega
/-- where the loop stands -/
def DrainI (w : World) (S : Nat → Prop) (g : Nat) (rg : Int) (ap : List Int) (ws : List Wr) (vo : Value) (wr : World) (a : List Int) (l out : List Wr) (S' : Nat → Prop) : Prop :=
  Steps ap ws a l out ∧ (∃ va vw, InF wr S' g rg a l va vw ∧ (∀ i, vo.ownBlock = some i → va.ownBlock ≠ some i ∧ vw.ownBlock ≠ some i ∧ i ≠ g ∧ ∀ x ∈ l, x.d.ownBlock ≠ some i)) ∧
    wr.ownsRow 0 35 10 vo out.length (out.flatMap Wr.cells) ∧ (∀ x ∈ out, NumsO wr 0 x.d x.z ∧ ∀ i, x.d.ownBlock = some i → S' i ∧ vo.ownBlock ≠ some i ∧ i ≠ g) ∧ (∀ i, vo.ownBlock = some i → S' i) ∧ Keeps S w wr ∧ (∀ i, S' i → S i ∨ w.heap.size ≤ i)
theorem DrainI.below {w : World} {S : Nat → Prop} {g : Nat} {rg : Int} {ap : List Int} {ws : List Wr} {vo : Value} {wr w1 : World} {a : List Int} {l out : List Wr} {S' : Nat → Prop} (h : DrainI w S g rg ap ws vo wr a l out S') (hb : Below wr.heap.size wr w1) : DrainI w S g rg ap ws vo w1 a l out S' := by
  obtain ⟨h1, ⟨va, vw, h2, h3⟩, h4, h5, h6, h7, h8⟩ := h
  exact ⟨h1, ⟨va, vw, h2.below hb, h3⟩, own_keeps h4 (X := nobody) (.of_below hb) (fun _ _ h => h), fun x hx => ⟨(h5 x hx).1.below hb, (h5 x hx).2⟩, h6, h7.trans (.of_below hb), h8⟩
theorem own_apart {w : World} {b b' : Nat} {e e' : TypeId} {s s' n n' : Nat} {v v' : Value} {xs xs' : List Value} (h : w.ownsRow b e s v n xs) (h' : w.ownsRow b' e' s' v' n' xs') (hne : e ≠ e') (i : Nat) (hi : v.ownBlock = some i) : v'.ownBlock ≠ some i := by
  intro hi'
  rcases h.2 with ⟨rfl, _⟩ | ⟨g, cap, cur, rfl, _, h2, _⟩
  · cases hi
  rcases h'.2 with ⟨rfl, _⟩ | ⟨g', cap', cur', rfl, _, h2', _⟩
  · cases hi'
  cases hi
  cases hi'
  rw [h2] at h2'
  injection h2' with h2'
  injection h2' with _ h2'
  exact hne h2'
theorem InF.keepsO {w w' : World} {S X : Nat → Prop} {g : Nat} {rg : Int} {ap : List Int} {ws : List Wr} {va vw : Value} (h : InF w S g rg ap ws va vw) (hk : Keeps X w w') (hg : ¬ X g) (ha : ∀ i, va.ownBlock = some i → ¬ X i) (hw : ∀ i, vw.ownBlock = some i → ¬ X i)
    (hn : ∀ x ∈ ws, ∀ i, x.d.ownBlock = some i → ¬ X i) : InF w' S g rg ap ws va vw :=
  { h with
    blk := h.blk.keeps hk hg
    app := own_keeps h.app hk ha
    row := own_keeps h.row hk hw
    num := fun x hm => (h.num x hm).keeps hk (hn x hm)
    small := fun i hi => Nat.lt_of_lt_of_le (h.small i hi) hk.size }
theorem DrainI.next {w : World} {S : Nat → Prop} {g : Nat} {rg : Int} {ap : List Int} {ws : List Wr} {vo : Value} {wr : World} {a : List Int} {l out : List Wr} {S' : Nat → Prop} {va vw : Value} {k : Nat} {y : Wr} {w13 w14 w15 : World} {T : Nat → Prop} {va' vw' v' : Value}
    (hst : Steps ap ws a l out) (hf : InF wr S' g rg a l va vw) (hap : ∀ i, vo.ownBlock = some i → va.ownBlock ≠ some i ∧ vw.ownBlock ≠ some i ∧ i ≠ g ∧ ∀ x ∈ l, x.d.ownBlock ≠ some i)
    (hnum : ∀ x ∈ out, NumsO wr 0 x.d x.z ∧ ∀ i, x.d.ownBlock = some i → S' i ∧ vo.ownBlock ≠ some i ∧ i ≠ g) (hvo : ∀ i, vo.ownBlock = some i → S' i)
    (hK : Keeps S w wr) (hs : ∀ i, S' i → S i ∨ w.heap.size ≤ i) (hkl : k < l.length) (hy : l.getD k wrZ = y) (hkr : readyB a y = true) (hkn : ∀ j, j < k → readyB a (l.getD j wrZ) = false)
    (hk13 : Keeps (fun i => i = g ∨ vw.ownBlock = some i) wr w13) (hf13 : InF w13 T g rg (withL a y.r y.n) (l.eraseIdx k) va' vw') (hT : ∀ i, T i → S' i ∨ wr.heap.size ≤ i) (hva : ∀ i, va'.ownBlock = some i → wr.heap.size ≤ i) (hvw : vw'.ownBlock = vw.ownBlock)
    (hb14 : Below w13.heap.size w13 w14) (hrow15 : w15.ownsRow 0 35 10 v' (out.length + 1) (out.flatMap Wr.cells ++ y.cells)) (hg15 : w14.grownBy w15 vo.ownBlock) (hv : v'.ownBlock = vo.ownBlock ∨ v'.ownBlock = some w14.heap.size) :
    ∃ S3, DrainI w S g rg ap ws v' w15 (withL a y.r y.n) (l.eraseIdx k) (out ++ [y]) S3 := by
  have hmem : y ∈ l := by rw [← hy, List.getD_eq_getElem?_getD, List.getElem?_eq_getElem hkl]; exact List.getElem_mem hkl
  have hin : ∀ x, x ∈ l.eraseIdx k → x ∈ l := fun x hx => List.mem_of_mem_eraseIdx hx
  have hk15 : Keeps (fun i => vo.ownBlock = some i) w14 w15 := .grown hg15 fun g hg => .inl hg
  have s13 := hk13.size
  have s14 := hb14.size
  have s15 := hk15.size
  have sK := hK.size
  have hlt : ∀ i, vo.ownBlock = some i → i < wr.heap.size := fun i hi => hf.small i (hvo i hi)
  -- InF
  have hf14 : InF w14 T g rg (withL a y.r y.n) (l.eraseIdx k) va' vw' := hf13.below hb14
  have hf15 : InF w15 T g rg (withL a y.r y.n) (l.eraseIdx k) va' vw' := hf14.keepsO hk15 (fun e => (hap g e).2.2.1 rfl) (fun i hi e => by have := hva i hi; have := hlt i e; omega)
    (fun i hi e => (hap i e).2.1 (by rw [← hvw]; exact hi)) (fun x hx i hi e => (hap i e).2.2.2 x (hin x hx) hi)
  have hto : ∀ x : Wr, NumsO wr 0 x.d x.z → (∀ i, x.d.ownBlock = some i → i ≠ g ∧ vw.ownBlock ≠ some i ∧ vo.ownBlock ≠ some i) → NumsO w15 0 x.d x.z := fun (x : Wr) hx hi =>
    ((hx.keeps hk13 (fun i h e => e.elim (hi i h).1 (hi i h).2.1)).below hb14).keeps hk15 fun i h e => (hi i h).2.2 e
  have hny : NumsO w15 0 y.d y.z := hto y (hf.num y hmem) fun i hi => ⟨fun e => hf.gn y hmem (by rw [← e]; exact hi), hf.nw y hmem i hi, fun e => (hap i e).2.2.2 y hmem hi⟩
  have hno : ∀ x ∈ out, NumsO w15 0 x.d x.z := fun x hx => hto x (hnum x hx).1 fun i hi => ⟨((hnum x hx).2 i hi).2.2, own_apart (hnum x hx).1.1 hf.row (by decide) i hi, ((hnum x hx).2 i hi).2.1⟩
  have hv15 : ∀ i, v'.ownBlock = some i → i < w15.heap.size := fun i hi => (hrow15.lt i hi).2
  refine ⟨fun i => (S' i ∨ wr.heap.size ≤ i) ∧ i < w15.heap.size, ?_, ⟨va', vw', ?_, ?_⟩, ?_, ?_, ?_, ?_, ?_⟩
  · subst hy; exact .one hst k hkl hkr hkn
  · exact hf15.more (fun i hi => ⟨hT i hi, hf15.small i hi⟩) fun i hi => hi.2
  · intro i hi
    rcases hv with e | e
    · have hi2 : vo.ownBlock = some i := by rw [← e]; exact hi
      exact ⟨fun e2 => by have := hva i e2; have := hlt i hi2; omega, by rw [hvw]; exact (hap i hi2).2.1, (hap i hi2).2.2.1, fun x hx => (hap i hi2).2.2.2 x (hin x hx)⟩
    · have hi2 : i = w14.heap.size := by rw [e] at hi; injection hi with hi; exact hi.symm
      exact ⟨fun e2 => by have := hf14.small i (hf14.inA i e2); omega, fun e2 => by have := hf14.small i (hf14.inW i e2); omega, fun e2 => by have := hf14.small g hf14.inG; omega,
        fun x hx e2 => by have := hf14.small i (hf14.inN x hx i e2); omega⟩
  · rw [List.length_append, List.flatMap_append]
    simpa using hrow15
  · intro x hx
    rcases List.mem_append.1 hx with hx | hx
    · refine ⟨hno x hx, fun i hi => ⟨⟨.inl ((hnum x hx).2 i hi).1, by have := hf.small i ((hnum x hx).2 i hi).1; omega⟩, own_apart (hno x hx).1 hrow15 (by decide) i hi, ((hnum x hx).2 i hi).2.2⟩⟩
    · obtain rfl : x = y := by simpa using hx
      refine ⟨hny, fun i hi => ⟨⟨.inl (hf.inN x hmem i hi), by have := hf.small i (hf.inN x hmem i hi); omega⟩, own_apart hny.1 hrow15 (by decide) i hi, fun e => hf.gn x hmem (by rw [← e]; exact hi)⟩⟩
  · intro i hi
    refine ⟨?_, hv15 i hi⟩
    rcases hv with e | e
    · exact .inl (hvo i (by rw [← e]; exact hi))
    · rw [e] at hi; injection hi with hi; exact .inr (by omega)
  · have hy : ∀ i, S' i → (S i ∨ w.heap.size ≤ i) := hs
    have k1 : Keeps (fun i => S i ∨ w.heap.size ≤ i) w wr := hK.more fun i _ h => .inl h
    have k2 : Keeps (fun i => S i ∨ w.heap.size ≤ i) wr w13 := hk13.more fun i _ h => h.elim (fun e => hs i (by rw [e]; exact hf.inG)) (fun e => hs i (hf.inW i e))
    have k3 : Keeps (fun i => S i ∨ w.heap.size ≤ i) w13 w14 := .of_below hb14
    have k4 : Keeps (fun i => S i ∨ w.heap.size ≤ i) w14 w15 := hk15.more fun i _ e => hs i (hvo i e)
    exact (((k1.trans k2).trans k3).trans k4).more fun i hi h => h.elim id fun h => by omega
  · intro i hi
    rcases hi.1 with h | h
    · exact hs i h
    · exact .inr (by omega)
end Go.Proofs.Ytedkcpncomgboaa.dep
