/- An inbox in memory. -/
import Derived.Test.YtedkcpncomgboaaIndexR
import Derived.Test.YtedkcpncomgboaaInsW
import Derived.Test.YtedkcpncomgboaaWithV
namespace Go.Proofs.Ytedkcpncomgboaa.dep
open Go Go.RowKit Go.Proofs.Ytedkcpncomgboaa.base Go.Proofs.Ytedkcpncomgboaa.rowe Go.Proofs.Ytedkcpncomgboaa.wire Go.Proofs.Ytedkcpncomgboaa.vec Go.Proofs.Ytedkcpncomgboaa.cmp

theorem own_keeps {X : Nat → Prop} {w w' : World} {base : Nat} {e : TypeId} {size n : Nat} {v : Value} {xs : List Value} (h : w.ownsRow base e size v n xs) (hk : Keeps X w w') (hx : ∀ g, v.ownBlock = some g → ¬ X g) : w'.ownsRow base e size v n xs := by
  refine ⟨h.1, h.2.imp id ?_⟩
  rintro ⟨g, cap, cur, rfl, h1, h2, h3⟩
  exact ⟨g, cap, cur, rfl, h1, (hk.block g (heap_lt h2) (hx g rfl)).trans h2, h3⟩
theorem own_low {w : World} {base base' : Nat} {e : TypeId} {size n : Nat} {v : Value} {xs : List Value} (h : w.ownsRow base' e size v n xs) (hb : base ≤ base') : w.ownsRow base e size v n xs :=
  ⟨h.1, h.2.imp id fun ⟨g, cap, cur, e, h1, r⟩ => ⟨g, cap, cur, e, Nat.le_trans hb h1, r⟩⟩
/-- its block, its two rows and the numbers of what waits lie apart, all in S -/
structure InF (w : World) (S : Nat → Prop) (g : Nat) (rg : Int) (ap : List Int) (ws : List Wr) (va vw : Value) : Prop where
  blk : Blk w g 76 #[.int .i64 rg, va, vw]
  app : w.ownsRow 0 3 1 va ap.length (enc ap)
  afew : ap.length ≤ 16
  row : w.ownsRow 0 35 10 vw ws.length (ws.flatMap Wr.cells)
  wfew : ws.length ≤ 1000
  num : ∀ x ∈ ws, NumsO w 0 x.d x.z
  rng : ∀ x ∈ ws, (1 ≤ x.r ∧ x.r ≤ 16) ∧ (1 ≤ x.n ∧ x.n ≤ 1099511627776)
  inG : S g
  inA : ∀ i, va.ownBlock = some i → S i
  inW : ∀ i, vw.ownBlock = some i → S i
  inN : ∀ x ∈ ws, ∀ i, x.d.ownBlock = some i → S i
  ga : va.ownBlock ≠ some g
  gw : vw.ownBlock ≠ some g
  gn : ∀ x ∈ ws, x.d.ownBlock ≠ some g
  aw : ∀ i, va.ownBlock = some i → vw.ownBlock ≠ some i
  nw : ∀ x ∈ ws, ∀ i, x.d.ownBlock = some i → vw.ownBlock ≠ some i
  small : ∀ i, S i → i < w.heap.size
section
variable {w w' : World} {S X : Nat → Prop} {g : Nat} {rg : Int} {ap : List Int} {ws : List Wr} {va vw : Value}
theorem InF.keeps (h : InF w S g rg ap ws va vw) (hk : Keeps X w w') (hx : ∀ i, S i → ¬ X i) : InF w' S g rg ap ws va vw :=
  { h with
    blk := h.blk.keeps hk (hx g h.inG)
    app := own_keeps h.app hk fun i hi => hx i (h.inA i hi)
    row := own_keeps h.row hk fun i hi => hx i (h.inW i hi)
    num := fun x hm => (h.num x hm).keeps hk fun i hi => hx i (h.inN x hm i hi)
    small := fun i hi => Nat.lt_of_lt_of_le (h.small i hi) hk.size }
theorem InF.below (h : InF w S g rg ap ws va vw) (hb : Below w.heap.size w w') : InF w' S g rg ap ws va vw := h.keeps (X := nobody) (.of_below hb) (fun _ _ h => h)
theorem InF.more {S' : Nat → Prop} (h : InF w S g rg ap ws va vw) (hs : ∀ i, S i → S' i) (hb : ∀ i, S' i → i < w.heap.size) : InF w S' g rg ap ws va vw :=
  { h with inG := hs _ h.inG, inA := fun i hi => hs i (h.inA i hi), inW := fun i hi => hs i (h.inW i hi), inN := fun x hm i hi => hs i (h.inN x hm i hi), small := hb }
theorem InF.vec (h : InF w S g rg ap ws va vw) : ∃ A c, va = .slice A ap.length c ∧ Vec w w.heap.size A ap.length c ap := by
  obtain ⟨A, c, e, hv⟩ := Vec.of_own (n := ap.length) h.app
  exact ⟨A, c, e, hv⟩
theorem InF.reads (h : InF w S g rg ap ws va vw) : ∃ A c, vw = .slice A ws.length c ∧ Reads w w.heap.size 10 A ws.length (ws.flatMap Wr.cells) := by
  obtain ⟨A, c, e⟩ := ownsRow_slice h.row
  have hr := h.row
  subst e
  exact ⟨A, c, rfl, Reads.of_own hr⟩
theorem InF.wait (h : InF w S g rg ap ws va vw) : ∀ x ∈ ws, WaitOk w x := fun x hm => by
  obtain ⟨hn, hf⟩ := h.num x hm
  obtain ⟨A, c, e, hv⟩ := Vec.of_own (n := x.z.length) (zs := x.z) hn
  exact ⟨A, x.z.length, c, e, hv, hf, h.rng x hm⟩
/-- another list of what waits: the row was written in place or made anew, and its head stored -/
theorem InF.putW {S' : Nat → Prop} {w1 : World} {ws' : List Wr} {vw' : Value} (h : InF w S g rg ap ws va vw) (hk : Keeps (fun b => vw.ownBlock = some b) w w1) (hrow : w1.ownsRow 0 35 10 vw' ws'.length (ws'.flatMap Wr.cells)) (hf : ws'.length ≤ 1000)
    (hnum : ∀ x ∈ ws', NumsO w1 0 x.d x.z) (hrng : ∀ x ∈ ws', (1 ≤ x.r ∧ x.r ≤ 16) ∧ (1 ≤ x.n ∧ x.n ≤ 1099511627776))
    (hs : ∀ i, S i → S' i) (hsm : ∀ i, S' i → i < w1.heap.size) (hw : ∀ i, vw'.ownBlock = some i → S' i) (hn : ∀ x ∈ ws', ∀ i, x.d.ownBlock = some i → S' i)
    (gw : vw'.ownBlock ≠ some g) (gn : ∀ x ∈ ws', x.d.ownBlock ≠ some g) (aw : ∀ i, va.ownBlock = some i → vw'.ownBlock ≠ some i) (nw : ∀ x ∈ ws', ∀ i, x.d.ownBlock = some i → vw'.ownBlock ≠ some i) :
    InF (w1.setCell ⟨g, 2, none⟩ vw') S' g rg ap ws' va vw' := by
  have hb1 : Blk w1 g 76 #[.int .i64 rg, va, vw] := h.blk.keeps hk h.gw
  have ha1 := own_keeps h.app hk fun i hi => h.aw i hi
  have hk2 : Keeps (· = g) w1 (w1.setCell ⟨g, 2, none⟩ vw') := .setCell (X := (· = g)) (.inl (show g = g from rfl)) _
  exact
  { blk := by simpa using hb1.set_ 2 vw'
    app := own_keeps ha1 hk2 fun i hi e => h.ga (by rw [← e]; exact hi)
    afew := h.afew
    row := own_keeps hrow hk2 fun i hi e => gw (by rw [← e]; exact hi)
    wfew := hf
    num := fun x hm => (hnum x hm).keeps hk2 fun i hi e => gn x hm (by rw [← e]; exact hi)
    rng := hrng
    inG := hs _ h.inG
    inA := fun i hi => hs i (h.inA i hi)
    inW := hw
    inN := hn
    ga := h.ga
    gw := gw
    gn := gn
    aw := aw
    nw := nw
    small := fun i hi => Nat.lt_of_lt_of_le (hsm i hi) hk2.size }
/-- another applied vector, made anew -/
theorem InF.putA {S' : Nat → Prop} {w1 : World} {ap' : List Int} {va' : Value} (h : InF w S g rg ap ws va vw) (hb : Below w.heap.size w w1) (ha : w1.ownsRow w.heap.size 3 1 va' ap'.length (enc ap')) (hf : ap'.length ≤ 16)
    (hs : ∀ i, S i → S' i) (hsm : ∀ i, S' i → i < w1.heap.size) (hS : ∀ i, va'.ownBlock = some i → S' i) :
    InF (w1.setCell ⟨g, 1, none⟩ va') S' g rg ap' ws va' vw := by
  have h1 := h.below hb
  have hk2 : Keeps (· = g) w1 (w1.setCell ⟨g, 1, none⟩ va') := .setCell (X := (· = g)) (.inl (show g = g from rfl)) _
  have hlo : ∀ i, va'.ownBlock = some i → w.heap.size ≤ i := fun i hi => (ha.lt i hi).1
  exact
  { blk := by simpa using h1.blk.set_ 1 va'
    app := own_keeps (own_low ha (Nat.zero_le _)) hk2 fun i hi e => by
      have h3 := hlo i hi
      have h4 := h.small g h.inG
      have h5 : i = g := e
      omega
    afew := hf
    row := own_keeps h1.row hk2 fun i hi e => h.gw (by rw [← e]; exact hi)
    wfew := h.wfew
    num := fun x hm => (h1.num x hm).keeps hk2 fun i hi e => h.gn x hm (by rw [← e]; exact hi)
    rng := h.rng
    inG := hs _ h.inG
    inA := hS
    inW := fun i hi => hs i (h.inW i hi)
    inN := fun x hm i hi => hs i (h.inN x hm i hi)
    ga := fun e => by
      have h3 := hlo g e
      have h4 := h.small g h.inG
      omega
    gw := h.gw
    gn := h.gn
    aw := fun i hi e => by
      have h3 := hlo i hi
      have h4 := h.small i (h.inW i e)
      omega
    nw := h.nw
    small := fun i hi => Nat.lt_of_lt_of_le (hsm i hi) hk2.size }
end
end Go.Proofs.Ytedkcpncomgboaa.dep
