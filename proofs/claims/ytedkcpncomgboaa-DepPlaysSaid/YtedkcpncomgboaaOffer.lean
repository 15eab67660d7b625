/- Inbox.Offer. -/
import Derived.Test.YtedkcpncomgboaaNilI
import Derived.Test.YtedkcpncomgboaaEncode
import Derived.Test.YtedkcpncomgboaaClone
namespace Go.Proofs.Ytedkcpncomgboaa.dep
open Go Go.RowKit Go.Proofs.Ytedkcpncomgboaa.base Go.Proofs.Ytedkcpncomgboaa.rowe Go.Proofs.Ytedkcpncomgboaa.wire Go.Proofs.Ytedkcpncomgboaa.vec Go.Proofs.Ytedkcpncomgboaa.cmp Go.Proofs.Ytedkcpncomgboaa.with_ Go.Proofs.Ytedkcpncomgboaa.monoj Go.Proofs.Ytedkcpncomgboaa.err

/-- where x would stand -/
def At_ (L : List Wr) (x : Wr) (k : Nat) : Prop := k ≤ L.length ∧ (∀ j, j < k → cmpW (L.getD j wrZ) x < 0) ∧ ∀ j, k ≤ j → j < L.length → ¬ cmpW (L.getD j wrZ) x < 0
def hereB (L : List Wr) (x : Wr) (k : Nat) : Bool := decide (k < L.length) && (cmpW (L.getD k wrZ) x == 0)
def manyW (L : List Wr) (x : Wr) : Nat := (L.filter fun y => y.r == x.r).length
/-- the code that an offer answers, or 0 -/
def offC (rg : Int) (ap : List Int) (L : List Wr) (x : Wr) (k : Nat) : Int :=
  if rightB x = false ∨ x.r = rg then 1 else if hereB L x k = true ∨ x.n ≤ atV ap x.r then 8 else if 16 ≤ manyW L x ∧ readyB ap x = false then 4 else 0
def OfferR (S : Nat → Prop) (g : Nat) (rg : Int) (ap : List Int) (L : List Wr) (x : Wr) (w : World) (e : Ending) (w' : World) : Prop :=
  ∃ k, At_ L x k ∧ ((offC rg ap L x k ≠ 0 ∧ BadR (offC rg ap L x k) w e w') ∨
    (offC rg ap L x k = 0 ∧ ∃ d' vo a l out S', e = .returned (.tuple #[vo, .nilIface]) ∧ DrainI w S g rg ap (L.take k ++ ({ x with d := d' } : Wr) :: L.drop k) vo w' a l out S' ∧ ∀ j, j < l.length → readyB a (l.getD j wrZ) = false))
theorem at_ex (L : List Wr) (x : Wr) (hp : Part L x) : ∃ k, At_ L x k := by
  refine ⟨L.findIdx (fun y => decide (¬ cmpW y x < 0)), List.findIdx_le_length, fun j hj => ?_, fun j hj hjl hc => ?_⟩
  · have h1 := List.not_of_lt_findIdx hj
    have hjl : j < L.length := Nat.lt_of_lt_of_le hj List.findIdx_le_length
    rw [List.getD_eq_getElem?_getD, List.getElem?_eq_getElem hjl]
    simpa using h1
  · have hkl : L.findIdx (fun y => decide (¬ cmpW y x < 0)) < L.length := Nat.lt_of_le_of_lt hj hjl
    have h1 := List.findIdx_getElem (w := hkl)
    have h2 := hp _ j hj hjl hc
    rw [List.getD_eq_getElem?_getD, List.getElem?_eq_getElem hkl] at h2
    simp at h1
    simp at h2
    omega
theorem InF.insert {w8 w9 : World} {S : Nat → Prop} {g U k : Nat} {rg : Int} {ap : List Int} {ws : List Wr} {va vw v9 : Value} {y : Wr} (h : InF w8 S g rg ap ws va vw) (hU : ∀ i, S i → i < U) (hU8 : U ≤ w8.heap.size) (hlen : ws.length < 1000) (hk : k ≤ ws.length)
    (hrow9 : w9.ownsRow 0 35 10 v9 (ws.length + 1) ((ws.take k ++ y :: ws.drop k).flatMap Wr.cells)) (hk9 : Keeps (fun b => vw.ownBlock = some b) w8 w9) (hv9 : v9.ownBlock = vw.ownBlock ∨ ∀ b, v9.ownBlock = some b → w8.heap.size ≤ b)
    (hny : NumsO w8 U y.d y.z) (hrng : (1 ≤ y.r ∧ y.r ≤ 16) ∧ (1 ≤ y.n ∧ y.n ≤ 1099511627776)) :
    InF (w9.setCell ⟨g, 2, none⟩ v9) (fun i => (S i ∨ U ≤ i) ∧ i < w9.heap.size) g rg ap (ws.take k ++ y :: ws.drop k) va v9 := by
  have hin : ∀ x, x ∈ ws.take k ++ y :: ws.drop k → x ∈ ws ∨ x = y := fun x hx => by
    rcases List.mem_append.1 hx with hx | hx
    · exact .inl (List.mem_of_mem_take hx)
    · rcases List.mem_cons.1 hx with hx | hx
      · exact .inr hx
      · exact .inl (List.mem_of_mem_drop hx)
  have hl : (ws.take k ++ y :: ws.drop k).length = ws.length + 1 := by simp; omega
  have hby : ∀ i, y.d.ownBlock = some i → U ≤ i ∧ i < w8.heap.size := fun i hi => hny.1.lt i hi
  have hn9 : ∀ x ∈ ws.take k ++ y :: ws.drop k, NumsO w9 0 x.d x.z := fun x hx => by
    rcases hin x hx with hx | rfl
    · exact (h.num x hx).keeps hk9 fun i hi e => h.nw x hx i hi e
    · exact (hny.base (Nat.zero_le _)).keeps hk9 fun i hi e => by
        have h1 := (hby i hi).1
        have h2 := hU i (h.inW i e)
        omega
  have hs9 := hk9.size
  have ha9 := own_keeps h.app hk9 fun i hi e => h.aw i hi e
  have hv : ∀ i, v9.ownBlock = some i → S i ∨ U ≤ i := fun i hi => by
    rcases hv9 with e | e
    · exact .inl (h.inW i (by rw [← e]; exact hi))
    · exact .inr (Nat.le_trans hU8 (e i hi))
  refine h.putW hk9 (by rw [hl]; exact hrow9) (by rw [hl]; omega) hn9 (fun x hx => ?_) (fun i hi => ⟨.inl hi, by have := h.small i hi; omega⟩) (fun i hi => hi.2) (fun i hi => ⟨hv i hi, (hrow9.lt i hi).2⟩) (fun x hx i hi => ⟨?_, ((hn9 x hx).1.lt i hi).2⟩) ?_ ?_
    (fun i hi => own_apart ha9 hrow9 (by decide) i hi) (fun x hx i hi => own_apart (hn9 x hx).1 hrow9 (by decide) i hi)
  · rcases hin x hx with hx | rfl
    · exact h.rng x hx
    · exact hrng
  · rcases hin x hx with hx | rfl
    · exact .inl (h.inN x hx i hi)
    · exact .inr (hby i hi).1
  · intro e
    rcases hv9 with e2 | e2
    · exact h.gw (by rw [← e2]; exact e)
    · have h1 := e2 g e
      have h2 := h.small g h.inG
      omega
  · intro x hx e
    rcases hin x hx with hx | rfl
    · exact h.gn x hx e
    · have h1 := (hby g e).1
      have h2 := hU g h.inG
      omega
theorem DrainI.from {w w10 wr : World} {S S' S'' : Nat → Prop} {g : Nat} {rg : Int} {ap a : List Int} {ws l out : List Wr} {vo : Value} (h : DrainI w10 S' g rg ap ws vo wr a l out S'') (hK : Keeps S w w10) (hS : ∀ i, S' i → S i ∨ w.heap.size ≤ i) : DrainI w S g rg ap ws vo wr a l out S'' := by
  obtain ⟨h1, h2, h4, h5, h6, h7, h8⟩ := h
  have hsz := hK.size
  have k1 : Keeps (fun i => S i ∨ w.heap.size ≤ i) w w10 := hK.more fun i _ h => .inl h
  have k2 : Keeps (fun i => S i ∨ w.heap.size ≤ i) w10 wr := h7.more fun i _ h => hS i h
  refine ⟨h1, h2, h4, h5, h6, (k1.trans k2).more fun i hi h => h.elim id fun h => by omega, fun i hi => ?_⟩
  rcases h8 i hi with h | h
  · exact hS i h
  · exact .inr (by omega)
set_option maxRecDepth 100000 in
set_option maxHeartbeats 4000000 in
theorem offer_any (g : Nat) (rg : Int) (S : Nat → Prop) (ap : List Int) (ws : List Wr) (va vw : Value) (x : Wr) (A2 : Option Addr) (n2 c2 : Nat) (w : World) (h : InF w S g rg ap ws va vw) (hd : x.d = .slice A2 n2 c2) (hx : Vec w w.heap.size A2 n2 c2 x.z) (h2 : n2 ≤ 1000000)
    (hp : Part ws x) (hlen : ws.length < 1000) :
    Calls Try.prog 14 #[.pointer (some ⟨g, 0, none⟩), .agg ⟨x.cells⟩] w (OfferR S g rg ap ws x w) := by
  obtain ⟨k0, hk0⟩ := at_ex ws x hp
  have hb0 := below_new w (.cells x.cells.toArray 35)
  have HX := Lib.hid (Blk.new w 35 x.cells.toArray)
  have HF := Lib.hid (h.below hb0)
  have HV := Lib.hid ((hx.below hb0).more hb0.size)
  have HB := Lib.hid hb0
  have HP := Lib.hid hp
  have HZ := Lib.hid (show x.z.length = n2 from hx.1)
  have HN := Lib.hid (show Nums (w.alloc (.cells x.cells.toArray 35)) (w.alloc (.cells x.cells.toArray 35)).heap.size x.d x.z from ⟨A2, n2, c2, hd, hx.1, Nat.le_trans hx.2.1 hx.2.2.1, (hx.below hb0).more hb0.size |>.2.2.2.1⟩)
  have HQ := Lib.hid (show ∀ q v, x.cells[q]? = some v → (w.alloc (.cells x.cells.toArray 35)).cell? ⟨w.heap.size, 0 + q, none⟩ = some v from fun q v hq => by rw [Nat.zero_add, HX.out.cell q]; simpa using hq)
  have hsz0 := hb0.size
  have HG := Lib.hid (show g < w.heap.size from h.blk.lt)
  have HSM := Lib.hid (show ∀ i, S i → i < w.heap.size from h.small)
  have HHd := Lib.hid hd
  have Hk0 := Lib.hid hk0
  clear h hx hp hb0 hd hk0
  go_enter Try.func14, Try.ntmps14
  go_wp2_with (first | ((with_reducible refine wpList_load_at ?_ 35 (.tmp 3) ?_ w.heap.size 0 x.cells ?_ Try.underlying35 ?_ ?_ HQ.out ?_); rfl; rfl; rfl; rfl; (rw [Wr.len]; kernel_rfl)))
  generalize w.alloc (.cells x.cells.toArray 35) = V at *
  refine (encode_any x V HN.out).mono ?_
  rintro e w1 ⟨⟨s1, v1, rfl, hv1⟩, hb1⟩
  have HB1 := Lib.hid (below_step HB.out hb1)
  have HX1 := Lib.hid (HX.out.below hb1 HX.out.lt)
  have HF1 := Lib.hid (HF.out.below hb1)
  have HV1 := Lib.hid ((HV.out.below hb1).more hb1.size)
  clear HB HX HF HV HN HQ hb1
  rcases hv1 with ⟨hr1, rfl⟩ | ⟨hr1, ge, rfl⟩
  rotate_left
  · go_wp2_with fail
    have HBW := HB1
    have HXW := HX1
    have hoc : offC rg ap ws x k0 = 1 := by unfold offC; rw [if_pos (.inl hr1)]
    refine wp_region_mono nobody (by kernel_rfl) ?_
    -- 0 Op.move (Operand.tmp 8)
    refine wpMono_take' 0 (v := ?_) rfl (by kernel_rfl) (by kernel_rfl) (by kernel_rfl) (fun _ _ _ h => h) (by rfl) ?_ ?_
    rotate_left
    · (intro W hSw; skip
       go_simp; first | done | rfl)
    try simp only [Act.put, List.setIfInBounds_toArray, List.set_cons_zero, List.set_cons_succ]
    -- 1 Op.binOp BinOp.neq 40 (Operand.tmp 26) (Operand.const Value.nilIface) 40
    refine wpMono_take' 1 (v := ?_) rfl (by kernel_rfl) (by kernel_rfl) (by kernel_rfl) (fun _ _ _ h => h) (by rfl) ?_ ?_
    rotate_left
    · (intro W hSw; skip
       go_simp; first | done | rfl)
    try simp only [Act.put, List.setIfInBounds_toArray, List.set_cons_zero, List.set_cons_succ]
    -- 2 Op.move (Operand.tmp 27)
    refine wpMono_take' 2 (v := ?_) rfl (by kernel_rfl) (by kernel_rfl) (by kernel_rfl) (fun _ _ _ h => h) (by rfl) ?_ ?_
    rotate_left
    · (intro W hSw; skip
       go_simp; first | done | rfl)
    try simp only [Act.put, List.setIfInBounds_toArray, List.set_cons_zero, List.set_cons_succ]
    -- 3 Op.fieldAddr 35 (Operand.tmp 3) 0
    refine wpMono_skip' 3 rfl (by kernel_rfl) (by kernel_rfl) (by kernel_rfl) (fun _ _ _ h => h) (by rfl) ?_
    try simp only [Act.put, List.setIfInBounds_toArray, List.set_cons_zero, List.set_cons_succ]
    -- 4 Op.load 3 (Operand.tmp 29)
    refine wpMono_skip' 4 rfl (by kernel_rfl) (by kernel_rfl) (by kernel_rfl) (fun _ _ _ h => h) (by rfl) ?_
    try simp only [Act.put, List.setIfInBounds_toArray, List.set_cons_zero, List.set_cons_succ]
    -- 5 Op.move (Operand.tmp 0)
    refine wpMono_skip' 5 rfl (by kernel_rfl) (by kernel_rfl) (by kernel_rfl) (fun _ _ _ h => h) (by rfl) ?_
    try simp only [Act.put, List.setIfInBounds_toArray, List.set_cons_zero, List.set_cons_succ]
    -- 6 Op.nilCheck (Operand.tmp 31)
    refine wpMono_skip' 6 rfl (by kernel_rfl) (by kernel_rfl) (by kernel_rfl) (fun _ _ _ h => h) (by rfl) ?_
    try simp only [Act.put, List.setIfInBounds_toArray, List.set_cons_zero, List.set_cons_succ]
    -- 7 Op.fieldAddr 76 (Operand.tmp 32) 0
    refine wpMono_skip' 7 rfl (by kernel_rfl) (by kernel_rfl) (by kernel_rfl) (fun _ _ _ h => h) (by rfl) ?_
    try simp only [Act.put, List.setIfInBounds_toArray, List.set_cons_zero, List.set_cons_succ]
    -- 8 Op.load 3 (Operand.tmp 33)
    refine wpMono_skip' 8 rfl (by kernel_rfl) (by kernel_rfl) (by kernel_rfl) (fun _ _ _ h => h) (by rfl) ?_
    try simp only [Act.put, List.setIfInBounds_toArray, List.set_cons_zero, List.set_cons_succ]
    -- 9 Op.binOp BinOp.eql 3 (Operand.tmp 30) (Operand.tmp 34) 3
    refine wpMono_skip' 9 rfl (by kernel_rfl) (by kernel_rfl) (by kernel_rfl) (fun _ _ _ h => h) (by rfl) ?_
    try simp only [Act.put, List.setIfInBounds_toArray, List.set_cons_zero, List.set_cons_succ]
    -- 10 Op.pick (Operand.tmp 28) (Operand.const (Value.bool true)) (Operand.tmp 35)
    refine wpMono_take' 10 (v := ?_) rfl (by kernel_rfl) (by kernel_rfl) (by kernel_rfl) (fun _ _ _ h => h) (by rfl) ?_ ?_
    rotate_left
    · (intro W hSw; skip
       go_simp; first | done | rfl)
    try simp only [Act.put, List.setIfInBounds_toArray, List.set_cons_zero, List.set_cons_succ]
    refine wpMono_done (by kernel_rfl) ?_ _
    go_wp2_with fail
    have HBd := Lib.hid (HBW.out.drew)
    refine (bad_offer w.heap.size x 1 _ HXW.out.drew).mono ?_
    rintro e w9 h9
    have HR9 := Lib.hid (show OfferR S g rg ap ws x w e w9 from ⟨k0, Hk0.out, .inl ⟨by rw [hoc]; decide, by rw [hoc]; exact h9.of HBd.out⟩⟩)
    obtain ⟨ge9, rfl, _⟩ := h9
    go_wp2
    exact bodyPost_ret (v := .tuple #[.slice none 0 0, .iface 96 (.pointer (some ⟨ge9, 0, none⟩))]) (by simp [results, Try.results14, go_sem]) rfl HR9.out
  have hrp := right_parts hr1
  by_cases hq : x.r = rg
  · have dq : (x.r == rg) = true := by simpa using hq
    go_wp2_with fail
    have HBW := HB1
    have HXW := HX1
    have hoc : offC rg ap ws x k0 = 1 := by unfold offC; rw [if_pos (.inr hq)]
    refine wp_region_mono nobody (by kernel_rfl) ?_
    -- 0 Op.move (Operand.tmp 8)
    refine wpMono_take' 0 (v := ?_) rfl (by kernel_rfl) (by kernel_rfl) (by kernel_rfl) (fun _ _ _ h => h) (by rfl) ?_ ?_
    rotate_left
    · (intro W hSw; (have hg := HF1.out.blk.drew.keeps hSw (fun h => h); have hxx := HX1.out.drew.keeps hSw (fun h => h); have y0 : W.cell? ⟨g, 0, none⟩ = some (.int .i64 rg) := hg.cell 0; have x0 : W.cell? ⟨w.heap.size, 0, none⟩ = some (.int .i64 x.r) := hxx.cell 0; have hl := hg.lt; have hl2 := hxx.lt)
       go_simp; first | done | rfl)
    try simp only [Act.put, List.setIfInBounds_toArray, List.set_cons_zero, List.set_cons_succ]
    (try rw [dq])
    -- 1 Op.binOp BinOp.neq 40 (Operand.tmp 26) (Operand.const Value.nilIface) 40
    refine wpMono_take' 1 (v := ?_) rfl (by kernel_rfl) (by kernel_rfl) (by kernel_rfl) (fun _ _ _ h => h) (by rfl) ?_ ?_
    rotate_left
    · (intro W hSw; (have hg := HF1.out.blk.drew.keeps hSw (fun h => h); have hxx := HX1.out.drew.keeps hSw (fun h => h); have y0 : W.cell? ⟨g, 0, none⟩ = some (.int .i64 rg) := hg.cell 0; have x0 : W.cell? ⟨w.heap.size, 0, none⟩ = some (.int .i64 x.r) := hxx.cell 0; have hl := hg.lt; have hl2 := hxx.lt)
       go_simp; first | done | rfl)
    try simp only [Act.put, List.setIfInBounds_toArray, List.set_cons_zero, List.set_cons_succ]
    (try rw [dq])
    -- 2 Op.move (Operand.tmp 27)
    refine wpMono_take' 2 (v := ?_) rfl (by kernel_rfl) (by kernel_rfl) (by kernel_rfl) (fun _ _ _ h => h) (by rfl) ?_ ?_
    rotate_left
    · (intro W hSw; (have hg := HF1.out.blk.drew.keeps hSw (fun h => h); have hxx := HX1.out.drew.keeps hSw (fun h => h); have y0 : W.cell? ⟨g, 0, none⟩ = some (.int .i64 rg) := hg.cell 0; have x0 : W.cell? ⟨w.heap.size, 0, none⟩ = some (.int .i64 x.r) := hxx.cell 0; have hl := hg.lt; have hl2 := hxx.lt)
       go_simp; first | done | rfl)
    try simp only [Act.put, List.setIfInBounds_toArray, List.set_cons_zero, List.set_cons_succ]
    (try rw [dq])
    -- 3 Op.fieldAddr 35 (Operand.tmp 3) 0
    refine wpMono_take' 3 (v := ?_) rfl (by kernel_rfl) (by kernel_rfl) (by kernel_rfl) (fun _ _ _ h => h) (by rfl) ?_ ?_
    rotate_left
    · (intro W hSw; (have hg := HF1.out.blk.drew.keeps hSw (fun h => h); have hxx := HX1.out.drew.keeps hSw (fun h => h); have y0 : W.cell? ⟨g, 0, none⟩ = some (.int .i64 rg) := hg.cell 0; have x0 : W.cell? ⟨w.heap.size, 0, none⟩ = some (.int .i64 x.r) := hxx.cell 0; have hl := hg.lt; have hl2 := hxx.lt)
       go_simp; first | done | rfl)
    try simp only [Act.put, List.setIfInBounds_toArray, List.set_cons_zero, List.set_cons_succ]
    (try rw [dq])
    -- 4 Op.load 3 (Operand.tmp 29)
    refine wpMono_take' 4 (v := ?_) rfl (by kernel_rfl) (by kernel_rfl) (by kernel_rfl) (fun _ _ _ h => h) (by rfl) ?_ ?_
    rotate_left
    · (intro W hSw; (have hg := HF1.out.blk.drew.keeps hSw (fun h => h); have hxx := HX1.out.drew.keeps hSw (fun h => h); have y0 : W.cell? ⟨g, 0, none⟩ = some (.int .i64 rg) := hg.cell 0; have x0 : W.cell? ⟨w.heap.size, 0, none⟩ = some (.int .i64 x.r) := hxx.cell 0; have hl := hg.lt; have hl2 := hxx.lt)
       go_simp; first | done | rfl)
    try simp only [Act.put, List.setIfInBounds_toArray, List.set_cons_zero, List.set_cons_succ]
    (try rw [dq])
    -- 5 Op.move (Operand.tmp 0)
    refine wpMono_take' 5 (v := ?_) rfl (by kernel_rfl) (by kernel_rfl) (by kernel_rfl) (fun _ _ _ h => h) (by rfl) ?_ ?_
    rotate_left
    · (intro W hSw; (have hg := HF1.out.blk.drew.keeps hSw (fun h => h); have hxx := HX1.out.drew.keeps hSw (fun h => h); have y0 : W.cell? ⟨g, 0, none⟩ = some (.int .i64 rg) := hg.cell 0; have x0 : W.cell? ⟨w.heap.size, 0, none⟩ = some (.int .i64 x.r) := hxx.cell 0; have hl := hg.lt; have hl2 := hxx.lt)
       go_simp; first | done | rfl)
    try simp only [Act.put, List.setIfInBounds_toArray, List.set_cons_zero, List.set_cons_succ]
    (try rw [dq])
    -- 6 Op.nilCheck (Operand.tmp 31)
    refine wpMono_take' 6 (v := ?_) rfl (by kernel_rfl) (by kernel_rfl) (by kernel_rfl) (fun _ _ _ h => h) (by rfl) ?_ ?_
    rotate_left
    · (intro W hSw; (have hg := HF1.out.blk.drew.keeps hSw (fun h => h); have hxx := HX1.out.drew.keeps hSw (fun h => h); have y0 : W.cell? ⟨g, 0, none⟩ = some (.int .i64 rg) := hg.cell 0; have x0 : W.cell? ⟨w.heap.size, 0, none⟩ = some (.int .i64 x.r) := hxx.cell 0; have hl := hg.lt; have hl2 := hxx.lt)
       go_simp; first | done | rfl)
    try simp only [Act.put, List.setIfInBounds_toArray, List.set_cons_zero, List.set_cons_succ]
    (try rw [dq])
    -- 7 Op.fieldAddr 76 (Operand.tmp 32) 0
    refine wpMono_take' 7 (v := ?_) rfl (by kernel_rfl) (by kernel_rfl) (by kernel_rfl) (fun _ _ _ h => h) (by rfl) ?_ ?_
    rotate_left
    · (intro W hSw; (have hg := HF1.out.blk.drew.keeps hSw (fun h => h); have hxx := HX1.out.drew.keeps hSw (fun h => h); have y0 : W.cell? ⟨g, 0, none⟩ = some (.int .i64 rg) := hg.cell 0; have x0 : W.cell? ⟨w.heap.size, 0, none⟩ = some (.int .i64 x.r) := hxx.cell 0; have hl := hg.lt; have hl2 := hxx.lt)
       go_simp; first | done | rfl)
    try simp only [Act.put, List.setIfInBounds_toArray, List.set_cons_zero, List.set_cons_succ]
    (try rw [dq])
    -- 8 Op.load 3 (Operand.tmp 33)
    refine wpMono_take' 8 (v := ?_) rfl (by kernel_rfl) (by kernel_rfl) (by kernel_rfl) (fun _ _ _ h => h) (by rfl) ?_ ?_
    rotate_left
    · (intro W hSw; (have hg := HF1.out.blk.drew.keeps hSw (fun h => h); have hxx := HX1.out.drew.keeps hSw (fun h => h); have y0 : W.cell? ⟨g, 0, none⟩ = some (.int .i64 rg) := hg.cell 0; have x0 : W.cell? ⟨w.heap.size, 0, none⟩ = some (.int .i64 x.r) := hxx.cell 0; have hl := hg.lt; have hl2 := hxx.lt)
       go_simp; first | done | rfl)
    try simp only [Act.put, List.setIfInBounds_toArray, List.set_cons_zero, List.set_cons_succ]
    (try rw [dq])
    -- 9 Op.binOp BinOp.eql 3 (Operand.tmp 30) (Operand.tmp 34) 3
    refine wpMono_take' 9 (v := ?_) rfl (by kernel_rfl) (by kernel_rfl) (by kernel_rfl) (fun _ _ _ h => h) (by rfl) ?_ ?_
    rotate_left
    · (intro W hSw; (have hg := HF1.out.blk.drew.keeps hSw (fun h => h); have hxx := HX1.out.drew.keeps hSw (fun h => h); have y0 : W.cell? ⟨g, 0, none⟩ = some (.int .i64 rg) := hg.cell 0; have x0 : W.cell? ⟨w.heap.size, 0, none⟩ = some (.int .i64 x.r) := hxx.cell 0; have hl := hg.lt; have hl2 := hxx.lt)
       go_simp; first | done | rfl)
    try simp only [Act.put, List.setIfInBounds_toArray, List.set_cons_zero, List.set_cons_succ]
    (try rw [dq])
    -- 10 Op.pick (Operand.tmp 28) (Operand.const (Value.bool true)) (Operand.tmp 35)
    refine wpMono_take' 10 (v := ?_) rfl (by kernel_rfl) (by kernel_rfl) (by kernel_rfl) (fun _ _ _ h => h) (by rfl) ?_ ?_
    rotate_left
    · (intro W hSw; (have hg := HF1.out.blk.drew.keeps hSw (fun h => h); have hxx := HX1.out.drew.keeps hSw (fun h => h); have y0 : W.cell? ⟨g, 0, none⟩ = some (.int .i64 rg) := hg.cell 0; have x0 : W.cell? ⟨w.heap.size, 0, none⟩ = some (.int .i64 x.r) := hxx.cell 0; have hl := hg.lt; have hl2 := hxx.lt)
       go_simp; first | done | rfl)
    try simp only [Act.put, List.setIfInBounds_toArray, List.set_cons_zero, List.set_cons_succ]
    (try rw [dq])
    refine wpMono_done (by kernel_rfl) ?_ _
    go_wp2_with fail
    have HBd := Lib.hid (HBW.out.drew)
    refine (bad_offer w.heap.size x 1 _ HXW.out.drew).mono ?_
    rintro e w9 h9
    have HR9 := Lib.hid (show OfferR S g rg ap ws x w e w9 from ⟨k0, Hk0.out, .inl ⟨by rw [hoc]; decide, by rw [hoc]; exact h9.of HBd.out⟩⟩)
    obtain ⟨ge9, rfl, _⟩ := h9
    go_wp2
    exact bodyPost_ret (v := .tuple #[.slice none 0 0, .iface 96 (.pointer (some ⟨ge9, 0, none⟩))]) (by simp [results, Try.results14, go_sem]) rfl HR9.out
  have dq : (x.r == rg) = false := by simpa using hq
  go_wp2_with fail
  refine wp_region_mono nobody (by kernel_rfl) ?_
  -- 0 Op.move (Operand.tmp 8)
  refine wpMono_take' 0 (v := ?_) rfl (by kernel_rfl) (by kernel_rfl) (by kernel_rfl) (fun _ _ _ h => h) (by rfl) ?_ ?_
  rotate_left
  · (intro W hSw; (have hg := HF1.out.blk.drew.keeps hSw (fun h => h); have hxx := HX1.out.drew.keeps hSw (fun h => h); have y0 : W.cell? ⟨g, 0, none⟩ = some (.int .i64 rg) := hg.cell 0; have x0 : W.cell? ⟨w.heap.size, 0, none⟩ = some (.int .i64 x.r) := hxx.cell 0; have hl := hg.lt; have hl2 := hxx.lt)
     go_simp; first | done | rfl)
  try simp only [Act.put, List.setIfInBounds_toArray, List.set_cons_zero, List.set_cons_succ]
  (try rw [dq])
  -- 1 Op.binOp BinOp.neq 40 (Operand.tmp 26) (Operand.const Value.nilIface) 40
  refine wpMono_take' 1 (v := ?_) rfl (by kernel_rfl) (by kernel_rfl) (by kernel_rfl) (fun _ _ _ h => h) (by rfl) ?_ ?_
  rotate_left
  · (intro W hSw; (have hg := HF1.out.blk.drew.keeps hSw (fun h => h); have hxx := HX1.out.drew.keeps hSw (fun h => h); have y0 : W.cell? ⟨g, 0, none⟩ = some (.int .i64 rg) := hg.cell 0; have x0 : W.cell? ⟨w.heap.size, 0, none⟩ = some (.int .i64 x.r) := hxx.cell 0; have hl := hg.lt; have hl2 := hxx.lt)
     go_simp; first | done | rfl)
  try simp only [Act.put, List.setIfInBounds_toArray, List.set_cons_zero, List.set_cons_succ]
  (try rw [dq])
  -- 2 Op.move (Operand.tmp 27)
  refine wpMono_take' 2 (v := ?_) rfl (by kernel_rfl) (by kernel_rfl) (by kernel_rfl) (fun _ _ _ h => h) (by rfl) ?_ ?_
  rotate_left
  · (intro W hSw; (have hg := HF1.out.blk.drew.keeps hSw (fun h => h); have hxx := HX1.out.drew.keeps hSw (fun h => h); have y0 : W.cell? ⟨g, 0, none⟩ = some (.int .i64 rg) := hg.cell 0; have x0 : W.cell? ⟨w.heap.size, 0, none⟩ = some (.int .i64 x.r) := hxx.cell 0; have hl := hg.lt; have hl2 := hxx.lt)
     go_simp; first | done | rfl)
  try simp only [Act.put, List.setIfInBounds_toArray, List.set_cons_zero, List.set_cons_succ]
  (try rw [dq])
  -- 3 Op.fieldAddr 35 (Operand.tmp 3) 0
  refine wpMono_take' 3 (v := ?_) rfl (by kernel_rfl) (by kernel_rfl) (by kernel_rfl) (fun _ _ _ h => h) (by rfl) ?_ ?_
  rotate_left
  · (intro W hSw; (have hg := HF1.out.blk.drew.keeps hSw (fun h => h); have hxx := HX1.out.drew.keeps hSw (fun h => h); have y0 : W.cell? ⟨g, 0, none⟩ = some (.int .i64 rg) := hg.cell 0; have x0 : W.cell? ⟨w.heap.size, 0, none⟩ = some (.int .i64 x.r) := hxx.cell 0; have hl := hg.lt; have hl2 := hxx.lt)
     go_simp; first | done | rfl)
  try simp only [Act.put, List.setIfInBounds_toArray, List.set_cons_zero, List.set_cons_succ]
  (try rw [dq])
  -- 4 Op.load 3 (Operand.tmp 29)
  refine wpMono_take' 4 (v := ?_) rfl (by kernel_rfl) (by kernel_rfl) (by kernel_rfl) (fun _ _ _ h => h) (by rfl) ?_ ?_
  rotate_left
  · (intro W hSw; (have hg := HF1.out.blk.drew.keeps hSw (fun h => h); have hxx := HX1.out.drew.keeps hSw (fun h => h); have y0 : W.cell? ⟨g, 0, none⟩ = some (.int .i64 rg) := hg.cell 0; have x0 : W.cell? ⟨w.heap.size, 0, none⟩ = some (.int .i64 x.r) := hxx.cell 0; have hl := hg.lt; have hl2 := hxx.lt)
     go_simp; first | done | rfl)
  try simp only [Act.put, List.setIfInBounds_toArray, List.set_cons_zero, List.set_cons_succ]
  (try rw [dq])
  -- 5 Op.move (Operand.tmp 0)
  refine wpMono_take' 5 (v := ?_) rfl (by kernel_rfl) (by kernel_rfl) (by kernel_rfl) (fun _ _ _ h => h) (by rfl) ?_ ?_
  rotate_left
  · (intro W hSw; (have hg := HF1.out.blk.drew.keeps hSw (fun h => h); have hxx := HX1.out.drew.keeps hSw (fun h => h); have y0 : W.cell? ⟨g, 0, none⟩ = some (.int .i64 rg) := hg.cell 0; have x0 : W.cell? ⟨w.heap.size, 0, none⟩ = some (.int .i64 x.r) := hxx.cell 0; have hl := hg.lt; have hl2 := hxx.lt)
     go_simp; first | done | rfl)
  try simp only [Act.put, List.setIfInBounds_toArray, List.set_cons_zero, List.set_cons_succ]
  (try rw [dq])
  -- 6 Op.nilCheck (Operand.tmp 31)
  refine wpMono_take' 6 (v := ?_) rfl (by kernel_rfl) (by kernel_rfl) (by kernel_rfl) (fun _ _ _ h => h) (by rfl) ?_ ?_
  rotate_left
  · (intro W hSw; (have hg := HF1.out.blk.drew.keeps hSw (fun h => h); have hxx := HX1.out.drew.keeps hSw (fun h => h); have y0 : W.cell? ⟨g, 0, none⟩ = some (.int .i64 rg) := hg.cell 0; have x0 : W.cell? ⟨w.heap.size, 0, none⟩ = some (.int .i64 x.r) := hxx.cell 0; have hl := hg.lt; have hl2 := hxx.lt)
     go_simp; first | done | rfl)
  try simp only [Act.put, List.setIfInBounds_toArray, List.set_cons_zero, List.set_cons_succ]
  (try rw [dq])
  -- 7 Op.fieldAddr 76 (Operand.tmp 32) 0
  refine wpMono_take' 7 (v := ?_) rfl (by kernel_rfl) (by kernel_rfl) (by kernel_rfl) (fun _ _ _ h => h) (by rfl) ?_ ?_
  rotate_left
  · (intro W hSw; (have hg := HF1.out.blk.drew.keeps hSw (fun h => h); have hxx := HX1.out.drew.keeps hSw (fun h => h); have y0 : W.cell? ⟨g, 0, none⟩ = some (.int .i64 rg) := hg.cell 0; have x0 : W.cell? ⟨w.heap.size, 0, none⟩ = some (.int .i64 x.r) := hxx.cell 0; have hl := hg.lt; have hl2 := hxx.lt)
     go_simp; first | done | rfl)
  try simp only [Act.put, List.setIfInBounds_toArray, List.set_cons_zero, List.set_cons_succ]
  (try rw [dq])
  -- 8 Op.load 3 (Operand.tmp 33)
  refine wpMono_take' 8 (v := ?_) rfl (by kernel_rfl) (by kernel_rfl) (by kernel_rfl) (fun _ _ _ h => h) (by rfl) ?_ ?_
  rotate_left
  · (intro W hSw; (have hg := HF1.out.blk.drew.keeps hSw (fun h => h); have hxx := HX1.out.drew.keeps hSw (fun h => h); have y0 : W.cell? ⟨g, 0, none⟩ = some (.int .i64 rg) := hg.cell 0; have x0 : W.cell? ⟨w.heap.size, 0, none⟩ = some (.int .i64 x.r) := hxx.cell 0; have hl := hg.lt; have hl2 := hxx.lt)
     go_simp; first | done | rfl)
  try simp only [Act.put, List.setIfInBounds_toArray, List.set_cons_zero, List.set_cons_succ]
  (try rw [dq])
  -- 9 Op.binOp BinOp.eql 3 (Operand.tmp 30) (Operand.tmp 34) 3
  refine wpMono_take' 9 (v := ?_) rfl (by kernel_rfl) (by kernel_rfl) (by kernel_rfl) (fun _ _ _ h => h) (by rfl) ?_ ?_
  rotate_left
  · (intro W hSw; (have hg := HF1.out.blk.drew.keeps hSw (fun h => h); have hxx := HX1.out.drew.keeps hSw (fun h => h); have y0 : W.cell? ⟨g, 0, none⟩ = some (.int .i64 rg) := hg.cell 0; have x0 : W.cell? ⟨w.heap.size, 0, none⟩ = some (.int .i64 x.r) := hxx.cell 0; have hl := hg.lt; have hl2 := hxx.lt)
     go_simp; first | done | rfl)
  try simp only [Act.put, List.setIfInBounds_toArray, List.set_cons_zero, List.set_cons_succ]
  (try rw [dq])
  -- 10 Op.pick (Operand.tmp 28) (Operand.const (Value.bool true)) (Operand.tmp 35)
  refine wpMono_take' 10 (v := ?_) rfl (by kernel_rfl) (by kernel_rfl) (by kernel_rfl) (fun _ _ _ h => h) (by rfl) ?_ ?_
  rotate_left
  · (intro W hSw; (have hg := HF1.out.blk.drew.keeps hSw (fun h => h); have hxx := HX1.out.drew.keeps hSw (fun h => h); have y0 : W.cell? ⟨g, 0, none⟩ = some (.int .i64 rg) := hg.cell 0; have x0 : W.cell? ⟨w.heap.size, 0, none⟩ = some (.int .i64 x.r) := hxx.cell 0; have hl := hg.lt; have hl2 := hxx.lt)
     go_simp; first | done | rfl)
  try simp only [Act.put, List.setIfInBounds_toArray, List.set_cons_zero, List.set_cons_succ]
  (try rw [dq])
  refine wpMono_done (by kernel_rfl) ?_ _
  go_wp2_with fail
  have HB1d := Lib.hid HB1.out.drew
  have HX1d := Lib.hid HX1.out.drew
  have HF1d := Lib.hid (HF1.out.below (Below.refl _ _).drew)
  have HV1d := Lib.hid (show Vec w1.drew w1.drew.heap.size A2 n2 c2 x.z from HV1.out.below (Below.refl _ _).drew)
  have hs1 : w.heap.size < w1.drew.heap.size := HX1d.out.lt
  clear HB1 HX1 HF1 HV1
  generalize w1.drew = w2 at *
  obtain ⟨A3, c3, rfl, hrd⟩ := HF1d.out.reads
  have HRD := Lib.hid hrd
  clear hrd
  refine wp_region_mono nobody (by kernel_rfl) ?_
  -- 0 Op.move (Operand.tmp 0)
  refine wpMono_take' 0 (v := ?_) rfl (by kernel_rfl) (by kernel_rfl) (by kernel_rfl) (fun _ _ _ h => h) (by rfl) ?_ ?_
  rotate_left
  · (intro W hSw; (first | (have hg := HF1d.out.blk.drew.keeps hSw (fun h => h); have y2 : W.cell? ⟨g, 2, none⟩ = some (.slice A3 ws.length c3) := hg.cell 2; have hl := hg.lt) | skip)
     go_simp; first | done | rfl)
  try simp only [Act.put, List.setIfInBounds_toArray, List.set_cons_zero, List.set_cons_succ]
  -- 1 Op.nilCheck (Operand.tmp 42)
  refine wpMono_take' 1 (v := ?_) rfl (by kernel_rfl) (by kernel_rfl) (by kernel_rfl) (fun _ _ _ h => h) (by rfl) ?_ ?_
  rotate_left
  · (intro W hSw; (first | (have hg := HF1d.out.blk.drew.keeps hSw (fun h => h); have y2 : W.cell? ⟨g, 2, none⟩ = some (.slice A3 ws.length c3) := hg.cell 2; have hl := hg.lt) | skip)
     go_simp; first | done | rfl)
  try simp only [Act.put, List.setIfInBounds_toArray, List.set_cons_zero, List.set_cons_succ]
  -- 2 Op.fieldAddr 76 (Operand.tmp 43) 2
  refine wpMono_take' 2 (v := ?_) rfl (by kernel_rfl) (by kernel_rfl) (by kernel_rfl) (fun _ _ _ h => h) (by rfl) ?_ ?_
  rotate_left
  · (intro W hSw; (first | (have hg := HF1d.out.blk.drew.keeps hSw (fun h => h); have y2 : W.cell? ⟨g, 2, none⟩ = some (.slice A3 ws.length c3) := hg.cell 2; have hl := hg.lt) | skip)
     go_simp; first | done | rfl)
  try simp only [Act.put, List.setIfInBounds_toArray, List.set_cons_zero, List.set_cons_succ]
  -- 3 Op.load 25 (Operand.tmp 44)
  refine wpMono_take' 3 (v := ?_) rfl (by kernel_rfl) (by kernel_rfl) (by kernel_rfl) (fun _ _ _ h => h) (by rfl) ?_ ?_
  rotate_left
  · (intro W hSw; first | ((refine exec_load_w (.tmp 3) ?_ w.heap.size 0 x.cells ?_ ?_ (fun q v hq => by rw [Nat.zero_add, (HX1d.out.drew.keeps hSw (fun h => h)).cell q]; simpa using hq) <;> rfl)) | ((first | (have hg := HF1d.out.blk.drew.keeps hSw (fun h => h); have y2 : W.cell? ⟨g, 2, none⟩ = some (.slice A3 ws.length c3) := hg.cell 2; have hl := hg.lt) | skip); go_simp; done) | ((first | (have hg := HF1d.out.blk.drew.keeps hSw (fun h => h); have y2 : W.cell? ⟨g, 2, none⟩ = some (.slice A3 ws.length c3) := hg.cell 2; have hl := hg.lt) | skip); go_simp; rfl))
  try simp only [Act.put, List.setIfInBounds_toArray, List.set_cons_zero, List.set_cons_succ]
  -- 4 Op.load 35 (Operand.tmp 3)
  refine wpMono_take' 4 (v := ?_) rfl (by kernel_rfl) (by kernel_rfl) (by kernel_rfl) (fun _ _ _ h => h) (by rfl) ?_ ?_
  rotate_left
  · (intro W hSw; first | ((refine exec_load_w (.tmp 3) ?_ w.heap.size 0 x.cells ?_ ?_ (fun q v hq => by rw [Nat.zero_add, (HX1d.out.drew.keeps hSw (fun h => h)).cell q]; simpa using hq) <;> rfl)) | ((first | (have hg := HF1d.out.blk.drew.keeps hSw (fun h => h); have y2 : W.cell? ⟨g, 2, none⟩ = some (.slice A3 ws.length c3) := hg.cell 2; have hl := hg.lt) | skip); go_simp; done) | ((first | (have hg := HF1d.out.blk.drew.keeps hSw (fun h => h); have y2 : W.cell? ⟨g, 2, none⟩ = some (.slice A3 ws.length c3) := hg.cell 2; have hl := hg.lt) | skip); go_simp; rfl))
  try simp only [Act.put, List.setIfInBounds_toArray, List.set_cons_zero, List.set_cons_succ]
  -- EFFECT 5 Op.call { callee := Callee.value (Operand.func 34), args := #[Operand.tmp 45, Operand.tmp 46, Operand.func 35], argTypes := #[25, 35, 82] }
  refine wpMono_one' 5 (by kernel_rfl) rfl (by rfl) (fun K hK => ?_)
  go_simp
  refine (search_w A3 ws.length c3 ws x w2.drew rfl (by omega) (show Reads w2.drew w2.drew.heap.size 10 A3 ws.length (ws.flatMap Wr.cells) from HRD.out.below (Below.refl _ _).drew) HP.out).mono ?_
  rintro e w3 ⟨k, h1, h2, h3, rfl, hb3⟩
  have HB3 := Lib.hid (hb3)
  have Hk := Lib.hid (show At_ ws x k from ⟨h1, h2, h3⟩)
  clear h1 h2 h3 hb3
  refine hK.out _ _ ?_ ?_
  · exact .of_below HB3.out
  clear hK K
  try simp only [Act.put, List.setIfInBounds_toArray, List.set_cons_zero, List.set_cons_succ]
  -- 6 Op.move (Operand.tmp 47)
  refine wpMono_take' 6 (v := ?_) rfl (by kernel_rfl) (by kernel_rfl) (by kernel_rfl) (fun _ _ _ h => h) (by rfl) ?_ ?_
  rotate_left
  · (intro W hSw; (first | (have hg := HF1d.out.blk.drew.keeps hSw (fun h => h); have y2 : W.cell? ⟨g, 2, none⟩ = some (.slice A3 ws.length c3) := hg.cell 2; have hl := hg.lt) | skip)
     go_simp; first | done | rfl)
  try simp only [Act.put, List.setIfInBounds_toArray, List.set_cons_zero, List.set_cons_succ]
  -- 7 Op.extract (Operand.tmp 41) 0
  refine wpMono_take' 7 (v := ?_) rfl (by kernel_rfl) (by kernel_rfl) (by kernel_rfl) (fun _ _ _ h => h) (by rfl) ?_ ?_
  rotate_left
  · (intro W hSw; (first | (have hg := HF1d.out.blk.drew.keeps hSw (fun h => h); have y2 : W.cell? ⟨g, 2, none⟩ = some (.slice A3 ws.length c3) := hg.cell 2; have hl := hg.lt) | skip)
     go_simp; first | done | rfl)
  try simp only [Act.put, List.setIfInBounds_toArray, List.set_cons_zero, List.set_cons_succ]
  -- 8 Op.extract (Operand.tmp 41) 1
  refine wpMono_take' 8 (v := ?_) rfl (by kernel_rfl) (by kernel_rfl) (by kernel_rfl) (fun _ _ _ h => h) (by rfl) ?_ ?_
  rotate_left
  · (intro W hSw; (first | (have hg := HF1d.out.blk.drew.keeps hSw (fun h => h); have y2 : W.cell? ⟨g, 2, none⟩ = some (.slice A3 ws.length c3) := hg.cell 2; have hl := hg.lt) | skip)
     go_simp; first | done | rfl)
  try simp only [Act.put, List.setIfInBounds_toArray, List.set_cons_zero, List.set_cons_succ]
  -- 9 Op.assign (Operand.tmp 48)
  refine wpMono_take' 9 (v := ?_) rfl (by kernel_rfl) (by kernel_rfl) (by kernel_rfl) (fun _ _ _ h => h) (by rfl) ?_ ?_
  rotate_left
  · (intro W hSw; (first | (have hg := HF1d.out.blk.drew.keeps hSw (fun h => h); have y2 : W.cell? ⟨g, 2, none⟩ = some (.slice A3 ws.length c3) := hg.cell 2; have hl := hg.lt) | skip)
     go_simp; first | done | rfl)
  try simp only [Act.put, List.setIfInBounds_toArray, List.set_cons_zero, List.set_cons_succ]
  -- 10 Op.assign (Operand.tmp 49)
  refine wpMono_take' 10 (v := ?_) rfl (by kernel_rfl) (by kernel_rfl) (by kernel_rfl) (fun _ _ _ h => h) (by rfl) ?_ ?_
  rotate_left
  · (intro W hSw; (first | (have hg := HF1d.out.blk.drew.keeps hSw (fun h => h); have y2 : W.cell? ⟨g, 2, none⟩ = some (.slice A3 ws.length c3) := hg.cell 2; have hl := hg.lt) | skip)
     go_simp; first | done | rfl)
  try simp only [Act.put, List.setIfInBounds_toArray, List.set_cons_zero, List.set_cons_succ]
  refine wpMono_done (by kernel_rfl) ?_ _
  have hw2 : Below w2.heap.size w2 w3 := below_ofDrew HB3.out
  have HBW := Lib.hid (below_step HB1d.out hw2)
  have HXW := Lib.hid (HX1d.out.below hw2 HX1d.out.lt)
  have HF3 := Lib.hid (HF1d.out.below hw2)
  have HV3 := Lib.hid ((HV1d.out.below hw2).more hw2.size)
  have HRD3 := Lib.hid (HRD.out.below hw2)
  have hs3 := hw2.size
  clear HB3 HB1d HX1d HF1d HV1d HRD hw2
  have hh : (decide (k < ws.length) && cmpW (ws[k]?.getD wrZ) x == 0) = hereB ws x k := by rw [hereB, List.getD_eq_getElem?_getD]
  rw [hh]
  cases hhb : hereB ws x k with
  | true =>
    have hoc : offC rg ap ws x k = 8 := by unfold offC; rw [if_neg (by rw [hr1]; simp [hq]), if_pos (.inl hhb)]
    clear hh
    go_wp2_with fail
    refine wp_region_mono nobody (by kernel_rfl) ?_
    -- 0 Op.move (Operand.tmp 10)
    refine wpMono_take' 0 (v := ?_) rfl (by kernel_rfl) (by kernel_rfl) (by kernel_rfl) (fun _ _ _ h => h) (by rfl) ?_ ?_
    rotate_left
    · (intro W hSw; skip
       go_simp; first | done | rfl)
    try simp only [Act.put, List.setIfInBounds_toArray, List.set_cons_zero, List.set_cons_succ]
    -- 1 Op.move (Operand.tmp 50)
    refine wpMono_take' 1 (v := ?_) rfl (by kernel_rfl) (by kernel_rfl) (by kernel_rfl) (fun _ _ _ h => h) (by rfl) ?_ ?_
    rotate_left
    · (intro W hSw; skip
       go_simp; first | done | rfl)
    try simp only [Act.put, List.setIfInBounds_toArray, List.set_cons_zero, List.set_cons_succ]
    -- 2 Op.fieldAddr 35 (Operand.tmp 3) 1
    refine wpMono_skip' 2 rfl (by kernel_rfl) (by kernel_rfl) (by kernel_rfl) (fun _ _ _ h => h) (by rfl) ?_
    try simp only [Act.put, List.setIfInBounds_toArray, List.set_cons_zero, List.set_cons_succ]
    -- 3 Op.load 3 (Operand.tmp 52)
    refine wpMono_skip' 3 rfl (by kernel_rfl) (by kernel_rfl) (by kernel_rfl) (fun _ _ _ h => h) (by rfl) ?_
    try simp only [Act.put, List.setIfInBounds_toArray, List.set_cons_zero, List.set_cons_succ]
    -- 4 Op.move (Operand.tmp 0)
    refine wpMono_skip' 4 rfl (by kernel_rfl) (by kernel_rfl) (by kernel_rfl) (fun _ _ _ h => h) (by rfl) ?_
    try simp only [Act.put, List.setIfInBounds_toArray, List.set_cons_zero, List.set_cons_succ]
    -- 5 Op.nilCheck (Operand.tmp 54)
    refine wpMono_skip' 5 rfl (by kernel_rfl) (by kernel_rfl) (by kernel_rfl) (fun _ _ _ h => h) (by rfl) ?_
    try simp only [Act.put, List.setIfInBounds_toArray, List.set_cons_zero, List.set_cons_succ]
    -- 6 Op.fieldAddr 76 (Operand.tmp 55) 1
    refine wpMono_skip' 6 rfl (by kernel_rfl) (by kernel_rfl) (by kernel_rfl) (fun _ _ _ h => h) (by rfl) ?_
    try simp only [Act.put, List.setIfInBounds_toArray, List.set_cons_zero, List.set_cons_succ]
    -- 7 Op.load 33 (Operand.tmp 56)
    refine wpMono_skip' 7 rfl (by kernel_rfl) (by kernel_rfl) (by kernel_rfl) (fun _ _ _ h => h) (by rfl) ?_
    try simp only [Act.put, List.setIfInBounds_toArray, List.set_cons_zero, List.set_cons_succ]
    -- 8 Op.fieldAddr 35 (Operand.tmp 3) 0
    refine wpMono_skip' 8 rfl (by kernel_rfl) (by kernel_rfl) (by kernel_rfl) (fun _ _ _ h => h) (by rfl) ?_
    try simp only [Act.put, List.setIfInBounds_toArray, List.set_cons_zero, List.set_cons_succ]
    -- 9 Op.load 3 (Operand.tmp 58)
    refine wpMono_skip' 9 rfl (by kernel_rfl) (by kernel_rfl) (by kernel_rfl) (fun _ _ _ h => h) (by rfl) ?_
    try simp only [Act.put, List.setIfInBounds_toArray, List.set_cons_zero, List.set_cons_succ]
    -- 10 Op.call { callee := Callee.value (Operand.func 36), args := #[Operand.tmp 57, Operand.tmp 
    refine wpMono_skip' 10 rfl (by kernel_rfl) (by kernel_rfl) (by kernel_rfl) (fun _ _ _ h => h) (by rfl) ?_
    try simp only [Act.put, List.setIfInBounds_toArray, List.set_cons_zero, List.set_cons_succ]
    -- 11 Op.binOp BinOp.leq 3 (Operand.tmp 53) (Operand.tmp 60) 3
    refine wpMono_skip' 11 rfl (by kernel_rfl) (by kernel_rfl) (by kernel_rfl) (fun _ _ _ h => h) (by rfl) ?_
    try simp only [Act.put, List.setIfInBounds_toArray, List.set_cons_zero, List.set_cons_succ]
    -- 12 Op.pick (Operand.tmp 51) (Operand.const (Value.bool true)) (Operand.tmp 61)
    refine wpMono_take' 12 (v := ?_) rfl (by kernel_rfl) (by kernel_rfl) (by kernel_rfl) (fun _ _ _ h => h) (by rfl) ?_ ?_
    rotate_left
    · (intro W hSw; skip
       go_simp; first | done | rfl)
    try simp only [Act.put, List.setIfInBounds_toArray, List.set_cons_zero, List.set_cons_succ]
    refine wpMono_done (by kernel_rfl) ?_ _
    go_wp2_with fail
    have HBd := Lib.hid (HBW.out.drew)
    refine (bad_offer w.heap.size x 8 _ HXW.out.drew).mono ?_
    rintro e w9 h9
    have HR9 := Lib.hid (show OfferR S g rg ap ws x w e w9 from ⟨k, Hk.out, .inl ⟨by rw [hoc]; decide, by rw [hoc]; exact h9.of HBd.out⟩⟩)
    obtain ⟨ge9, rfl, _⟩ := h9
    go_wp2
    exact bodyPost_ret (v := .tuple #[.slice none 0 0, .iface 96 (.pointer (some ⟨ge9, 0, none⟩))]) (by simp [results, Try.results14, go_sem]) rfl HR9.out
  | false =>
  clear hh
  obtain ⟨A1, c1, rfl, hva⟩ := HF3.out.vec
  have HVA := Lib.hid hva
  have ha16 := HF3.out.afew
  clear hva
  have r0 := hrp.r0
  have r1 := hrp.r1
  by_cases hle : x.n ≤ atV ap x.r
  · have hoc : offC rg ap ws x k = 8 := by unfold offC; rw [if_neg (by rw [hr1]; simp [hq]), if_pos (.inr hle)]
    have dle : decide (x.n ≤ atV ap x.r) = true := by simpa using hle
    go_wp2_with fail
    refine wp_region_mono nobody (by kernel_rfl) ?_
    -- 0 Op.move (Operand.tmp 10)
    refine wpMono_take' 0 (v := ?_) rfl (by kernel_rfl) (by kernel_rfl) (by kernel_rfl) (fun _ _ _ h => h) (by rfl) ?_ ?_
    rotate_left
    · (intro W hSw; (first | (have hg := HF3.out.blk.drew.keeps hSw (fun h => h); have hxx := HXW.out.drew.keeps hSw (fun h => h); have y1 : W.cell? ⟨g, 1, none⟩ = some (.slice A1 ap.length c1) := hg.cell 1; have x0 : W.cell? ⟨w.heap.size, 0, none⟩ = some (.int .i64 x.r) := hxx.cell 0; have x1 : W.cell? ⟨w.heap.size, 1, none⟩ = some (.int .i64 x.n) := hxx.cell 1; have hl := hg.lt; have hl2 := hxx.lt) | skip)
       go_simp; first | done | rfl)
    try simp only [Act.put, List.setIfInBounds_toArray, List.set_cons_zero, List.set_cons_succ]
    (try rw [dle])
    -- 1 Op.move (Operand.tmp 50)
    refine wpMono_take' 1 (v := ?_) rfl (by kernel_rfl) (by kernel_rfl) (by kernel_rfl) (fun _ _ _ h => h) (by rfl) ?_ ?_
    rotate_left
    · (intro W hSw; (first | (have hg := HF3.out.blk.drew.keeps hSw (fun h => h); have hxx := HXW.out.drew.keeps hSw (fun h => h); have y1 : W.cell? ⟨g, 1, none⟩ = some (.slice A1 ap.length c1) := hg.cell 1; have x0 : W.cell? ⟨w.heap.size, 0, none⟩ = some (.int .i64 x.r) := hxx.cell 0; have x1 : W.cell? ⟨w.heap.size, 1, none⟩ = some (.int .i64 x.n) := hxx.cell 1; have hl := hg.lt; have hl2 := hxx.lt) | skip)
       go_simp; first | done | rfl)
    try simp only [Act.put, List.setIfInBounds_toArray, List.set_cons_zero, List.set_cons_succ]
    (try rw [dle])
    -- 2 Op.fieldAddr 35 (Operand.tmp 3) 1
    refine wpMono_take' 2 (v := ?_) rfl (by kernel_rfl) (by kernel_rfl) (by kernel_rfl) (fun _ _ _ h => h) (by rfl) ?_ ?_
    rotate_left
    · (intro W hSw; (first | (have hg := HF3.out.blk.drew.keeps hSw (fun h => h); have hxx := HXW.out.drew.keeps hSw (fun h => h); have y1 : W.cell? ⟨g, 1, none⟩ = some (.slice A1 ap.length c1) := hg.cell 1; have x0 : W.cell? ⟨w.heap.size, 0, none⟩ = some (.int .i64 x.r) := hxx.cell 0; have x1 : W.cell? ⟨w.heap.size, 1, none⟩ = some (.int .i64 x.n) := hxx.cell 1; have hl := hg.lt; have hl2 := hxx.lt) | skip)
       go_simp; first | done | rfl)
    try simp only [Act.put, List.setIfInBounds_toArray, List.set_cons_zero, List.set_cons_succ]
    (try rw [dle])
    -- 3 Op.load 3 (Operand.tmp 52)
    refine wpMono_take' 3 (v := ?_) rfl (by kernel_rfl) (by kernel_rfl) (by kernel_rfl) (fun _ _ _ h => h) (by rfl) ?_ ?_
    rotate_left
    · (intro W hSw; (first | (have hg := HF3.out.blk.drew.keeps hSw (fun h => h); have hxx := HXW.out.drew.keeps hSw (fun h => h); have y1 : W.cell? ⟨g, 1, none⟩ = some (.slice A1 ap.length c1) := hg.cell 1; have x0 : W.cell? ⟨w.heap.size, 0, none⟩ = some (.int .i64 x.r) := hxx.cell 0; have x1 : W.cell? ⟨w.heap.size, 1, none⟩ = some (.int .i64 x.n) := hxx.cell 1; have hl := hg.lt; have hl2 := hxx.lt) | skip)
       go_simp; first | done | rfl)
    try simp only [Act.put, List.setIfInBounds_toArray, List.set_cons_zero, List.set_cons_succ]
    (try rw [dle])
    -- 4 Op.move (Operand.tmp 0)
    refine wpMono_take' 4 (v := ?_) rfl (by kernel_rfl) (by kernel_rfl) (by kernel_rfl) (fun _ _ _ h => h) (by rfl) ?_ ?_
    rotate_left
    · (intro W hSw; (first | (have hg := HF3.out.blk.drew.keeps hSw (fun h => h); have hxx := HXW.out.drew.keeps hSw (fun h => h); have y1 : W.cell? ⟨g, 1, none⟩ = some (.slice A1 ap.length c1) := hg.cell 1; have x0 : W.cell? ⟨w.heap.size, 0, none⟩ = some (.int .i64 x.r) := hxx.cell 0; have x1 : W.cell? ⟨w.heap.size, 1, none⟩ = some (.int .i64 x.n) := hxx.cell 1; have hl := hg.lt; have hl2 := hxx.lt) | skip)
       go_simp; first | done | rfl)
    try simp only [Act.put, List.setIfInBounds_toArray, List.set_cons_zero, List.set_cons_succ]
    (try rw [dle])
    -- 5 Op.nilCheck (Operand.tmp 54)
    refine wpMono_take' 5 (v := ?_) rfl (by kernel_rfl) (by kernel_rfl) (by kernel_rfl) (fun _ _ _ h => h) (by rfl) ?_ ?_
    rotate_left
    · (intro W hSw; (first | (have hg := HF3.out.blk.drew.keeps hSw (fun h => h); have hxx := HXW.out.drew.keeps hSw (fun h => h); have y1 : W.cell? ⟨g, 1, none⟩ = some (.slice A1 ap.length c1) := hg.cell 1; have x0 : W.cell? ⟨w.heap.size, 0, none⟩ = some (.int .i64 x.r) := hxx.cell 0; have x1 : W.cell? ⟨w.heap.size, 1, none⟩ = some (.int .i64 x.n) := hxx.cell 1; have hl := hg.lt; have hl2 := hxx.lt) | skip)
       go_simp; first | done | rfl)
    try simp only [Act.put, List.setIfInBounds_toArray, List.set_cons_zero, List.set_cons_succ]
    (try rw [dle])
    -- 6 Op.fieldAddr 76 (Operand.tmp 55) 1
    refine wpMono_take' 6 (v := ?_) rfl (by kernel_rfl) (by kernel_rfl) (by kernel_rfl) (fun _ _ _ h => h) (by rfl) ?_ ?_
    rotate_left
    · (intro W hSw; (first | (have hg := HF3.out.blk.drew.keeps hSw (fun h => h); have hxx := HXW.out.drew.keeps hSw (fun h => h); have y1 : W.cell? ⟨g, 1, none⟩ = some (.slice A1 ap.length c1) := hg.cell 1; have x0 : W.cell? ⟨w.heap.size, 0, none⟩ = some (.int .i64 x.r) := hxx.cell 0; have x1 : W.cell? ⟨w.heap.size, 1, none⟩ = some (.int .i64 x.n) := hxx.cell 1; have hl := hg.lt; have hl2 := hxx.lt) | skip)
       go_simp; first | done | rfl)
    try simp only [Act.put, List.setIfInBounds_toArray, List.set_cons_zero, List.set_cons_succ]
    (try rw [dle])
    -- 7 Op.load 33 (Operand.tmp 56)
    refine wpMono_take' 7 (v := ?_) rfl (by kernel_rfl) (by kernel_rfl) (by kernel_rfl) (fun _ _ _ h => h) (by rfl) ?_ ?_
    rotate_left
    · (intro W hSw; (first | (have hg := HF3.out.blk.drew.keeps hSw (fun h => h); have hxx := HXW.out.drew.keeps hSw (fun h => h); have y1 : W.cell? ⟨g, 1, none⟩ = some (.slice A1 ap.length c1) := hg.cell 1; have x0 : W.cell? ⟨w.heap.size, 0, none⟩ = some (.int .i64 x.r) := hxx.cell 0; have x1 : W.cell? ⟨w.heap.size, 1, none⟩ = some (.int .i64 x.n) := hxx.cell 1; have hl := hg.lt; have hl2 := hxx.lt) | skip)
       go_simp; first | done | rfl)
    try simp only [Act.put, List.setIfInBounds_toArray, List.set_cons_zero, List.set_cons_succ]
    (try rw [dle])
    -- 8 Op.fieldAddr 35 (Operand.tmp 3) 0
    refine wpMono_take' 8 (v := ?_) rfl (by kernel_rfl) (by kernel_rfl) (by kernel_rfl) (fun _ _ _ h => h) (by rfl) ?_ ?_
    rotate_left
    · (intro W hSw; (first | (have hg := HF3.out.blk.drew.keeps hSw (fun h => h); have hxx := HXW.out.drew.keeps hSw (fun h => h); have y1 : W.cell? ⟨g, 1, none⟩ = some (.slice A1 ap.length c1) := hg.cell 1; have x0 : W.cell? ⟨w.heap.size, 0, none⟩ = some (.int .i64 x.r) := hxx.cell 0; have x1 : W.cell? ⟨w.heap.size, 1, none⟩ = some (.int .i64 x.n) := hxx.cell 1; have hl := hg.lt; have hl2 := hxx.lt) | skip)
       go_simp; first | done | rfl)
    try simp only [Act.put, List.setIfInBounds_toArray, List.set_cons_zero, List.set_cons_succ]
    (try rw [dle])
    -- 9 Op.load 3 (Operand.tmp 58)
    refine wpMono_take' 9 (v := ?_) rfl (by kernel_rfl) (by kernel_rfl) (by kernel_rfl) (fun _ _ _ h => h) (by rfl) ?_ ?_
    rotate_left
    · (intro W hSw; (first | (have hg := HF3.out.blk.drew.keeps hSw (fun h => h); have hxx := HXW.out.drew.keeps hSw (fun h => h); have y1 : W.cell? ⟨g, 1, none⟩ = some (.slice A1 ap.length c1) := hg.cell 1; have x0 : W.cell? ⟨w.heap.size, 0, none⟩ = some (.int .i64 x.r) := hxx.cell 0; have x1 : W.cell? ⟨w.heap.size, 1, none⟩ = some (.int .i64 x.n) := hxx.cell 1; have hl := hg.lt; have hl2 := hxx.lt) | skip)
       go_simp; first | done | rfl)
    try simp only [Act.put, List.setIfInBounds_toArray, List.set_cons_zero, List.set_cons_succ]
    (try rw [dle])
    -- EFFECT 10 Op.call { callee := Callee.value (Operand.func 36), args := #[Operand.tmp 57, Operand.tmp 59], argTypes := #[33, 3] }
    refine wpMono_one' 10 (by kernel_rfl) rfl (by rfl) (fun K hK => ?_)
    go_simp
    refine (at_any A1 ap.length c1 ap x.r _ _ (HVA.out.below (Below.refl _ _).drew) (by omega)).mono ?_
    rintro e w4 ⟨rfl, rfl⟩
    refine hK.out _ _ ?_ ?_
    · exact Keeps.refl _ _
    clear hK K
    try simp only [Act.put, List.setIfInBounds_toArray, List.set_cons_zero, List.set_cons_succ]
    (try rw [dle])
    -- 11 Op.binOp BinOp.leq 3 (Operand.tmp 53) (Operand.tmp 60) 3
    refine wpMono_take' 11 (v := ?_) rfl (by kernel_rfl) (by kernel_rfl) (by kernel_rfl) (fun _ _ _ h => h) (by rfl) ?_ ?_
    rotate_left
    · (intro W hSw; (first | (have hg := HF3.out.blk.drew.keeps hSw (fun h => h); have hxx := HXW.out.drew.keeps hSw (fun h => h); have y1 : W.cell? ⟨g, 1, none⟩ = some (.slice A1 ap.length c1) := hg.cell 1; have x0 : W.cell? ⟨w.heap.size, 0, none⟩ = some (.int .i64 x.r) := hxx.cell 0; have x1 : W.cell? ⟨w.heap.size, 1, none⟩ = some (.int .i64 x.n) := hxx.cell 1; have hl := hg.lt; have hl2 := hxx.lt) | skip)
       go_simp; first | done | rfl)
    try simp only [Act.put, List.setIfInBounds_toArray, List.set_cons_zero, List.set_cons_succ]
    (try rw [dle])
    -- 12 Op.pick (Operand.tmp 51) (Operand.const (Value.bool true)) (Operand.tmp 61)
    refine wpMono_take' 12 (v := ?_) rfl (by kernel_rfl) (by kernel_rfl) (by kernel_rfl) (fun _ _ _ h => h) (by rfl) ?_ ?_
    rotate_left
    · (intro W hSw; (first | (have hg := HF3.out.blk.drew.keeps hSw (fun h => h); have hxx := HXW.out.drew.keeps hSw (fun h => h); have y1 : W.cell? ⟨g, 1, none⟩ = some (.slice A1 ap.length c1) := hg.cell 1; have x0 : W.cell? ⟨w.heap.size, 0, none⟩ = some (.int .i64 x.r) := hxx.cell 0; have x1 : W.cell? ⟨w.heap.size, 1, none⟩ = some (.int .i64 x.n) := hxx.cell 1; have hl := hg.lt; have hl2 := hxx.lt) | skip)
       go_simp; first | done | rfl)
    try simp only [Act.put, List.setIfInBounds_toArray, List.set_cons_zero, List.set_cons_succ]
    (try rw [dle])
    refine wpMono_done (by kernel_rfl) ?_ _
    go_wp2_with fail
    have HBd := Lib.hid (HBW.out.drew)
    refine (bad_offer w.heap.size x 8 _ HXW.out.drew).mono ?_
    rintro e w9 h9
    have HR9 := Lib.hid (show OfferR S g rg ap ws x w e w9 from ⟨k, Hk.out, .inl ⟨by rw [hoc]; decide, by rw [hoc]; exact h9.of HBd.out⟩⟩)
    obtain ⟨ge9, rfl, _⟩ := h9
    go_wp2
    exact bodyPost_ret (v := .tuple #[.slice none 0 0, .iface 96 (.pointer (some ⟨ge9, 0, none⟩))]) (by simp [results, Try.results14, go_sem]) rfl HR9.out
  have dle : decide (x.n ≤ atV ap x.r) = false := by simpa using hle
  go_wp2_with fail
  refine wp_region_mono nobody (by kernel_rfl) ?_
  -- 0 Op.move (Operand.tmp 10)
  refine wpMono_take' 0 (v := ?_) rfl (by kernel_rfl) (by kernel_rfl) (by kernel_rfl) (fun _ _ _ h => h) (by rfl) ?_ ?_
  rotate_left
  · (intro W hSw; (first | (have hg := HF3.out.blk.drew.keeps hSw (fun h => h); have hxx := HXW.out.drew.keeps hSw (fun h => h); have y1 : W.cell? ⟨g, 1, none⟩ = some (.slice A1 ap.length c1) := hg.cell 1; have x0 : W.cell? ⟨w.heap.size, 0, none⟩ = some (.int .i64 x.r) := hxx.cell 0; have x1 : W.cell? ⟨w.heap.size, 1, none⟩ = some (.int .i64 x.n) := hxx.cell 1; have hl := hg.lt; have hl2 := hxx.lt) | skip)
     go_simp; first | done | rfl)
  try simp only [Act.put, List.setIfInBounds_toArray, List.set_cons_zero, List.set_cons_succ]
  (try rw [dle])
  -- 1 Op.move (Operand.tmp 50)
  refine wpMono_take' 1 (v := ?_) rfl (by kernel_rfl) (by kernel_rfl) (by kernel_rfl) (fun _ _ _ h => h) (by rfl) ?_ ?_
  rotate_left
  · (intro W hSw; (first | (have hg := HF3.out.blk.drew.keeps hSw (fun h => h); have hxx := HXW.out.drew.keeps hSw (fun h => h); have y1 : W.cell? ⟨g, 1, none⟩ = some (.slice A1 ap.length c1) := hg.cell 1; have x0 : W.cell? ⟨w.heap.size, 0, none⟩ = some (.int .i64 x.r) := hxx.cell 0; have x1 : W.cell? ⟨w.heap.size, 1, none⟩ = some (.int .i64 x.n) := hxx.cell 1; have hl := hg.lt; have hl2 := hxx.lt) | skip)
     go_simp; first | done | rfl)
  try simp only [Act.put, List.setIfInBounds_toArray, List.set_cons_zero, List.set_cons_succ]
  (try rw [dle])
  -- 2 Op.fieldAddr 35 (Operand.tmp 3) 1
  refine wpMono_take' 2 (v := ?_) rfl (by kernel_rfl) (by kernel_rfl) (by kernel_rfl) (fun _ _ _ h => h) (by rfl) ?_ ?_
  rotate_left
  · (intro W hSw; (first | (have hg := HF3.out.blk.drew.keeps hSw (fun h => h); have hxx := HXW.out.drew.keeps hSw (fun h => h); have y1 : W.cell? ⟨g, 1, none⟩ = some (.slice A1 ap.length c1) := hg.cell 1; have x0 : W.cell? ⟨w.heap.size, 0, none⟩ = some (.int .i64 x.r) := hxx.cell 0; have x1 : W.cell? ⟨w.heap.size, 1, none⟩ = some (.int .i64 x.n) := hxx.cell 1; have hl := hg.lt; have hl2 := hxx.lt) | skip)
     go_simp; first | done | rfl)
  try simp only [Act.put, List.setIfInBounds_toArray, List.set_cons_zero, List.set_cons_succ]
  (try rw [dle])
  -- 3 Op.load 3 (Operand.tmp 52)
  refine wpMono_take' 3 (v := ?_) rfl (by kernel_rfl) (by kernel_rfl) (by kernel_rfl) (fun _ _ _ h => h) (by rfl) ?_ ?_
  rotate_left
  · (intro W hSw; (first | (have hg := HF3.out.blk.drew.keeps hSw (fun h => h); have hxx := HXW.out.drew.keeps hSw (fun h => h); have y1 : W.cell? ⟨g, 1, none⟩ = some (.slice A1 ap.length c1) := hg.cell 1; have x0 : W.cell? ⟨w.heap.size, 0, none⟩ = some (.int .i64 x.r) := hxx.cell 0; have x1 : W.cell? ⟨w.heap.size, 1, none⟩ = some (.int .i64 x.n) := hxx.cell 1; have hl := hg.lt; have hl2 := hxx.lt) | skip)
     go_simp; first | done | rfl)
  try simp only [Act.put, List.setIfInBounds_toArray, List.set_cons_zero, List.set_cons_succ]
  (try rw [dle])
  -- 4 Op.move (Operand.tmp 0)
  refine wpMono_take' 4 (v := ?_) rfl (by kernel_rfl) (by kernel_rfl) (by kernel_rfl) (fun _ _ _ h => h) (by rfl) ?_ ?_
  rotate_left
  · (intro W hSw; (first | (have hg := HF3.out.blk.drew.keeps hSw (fun h => h); have hxx := HXW.out.drew.keeps hSw (fun h => h); have y1 : W.cell? ⟨g, 1, none⟩ = some (.slice A1 ap.length c1) := hg.cell 1; have x0 : W.cell? ⟨w.heap.size, 0, none⟩ = some (.int .i64 x.r) := hxx.cell 0; have x1 : W.cell? ⟨w.heap.size, 1, none⟩ = some (.int .i64 x.n) := hxx.cell 1; have hl := hg.lt; have hl2 := hxx.lt) | skip)
     go_simp; first | done | rfl)
  try simp only [Act.put, List.setIfInBounds_toArray, List.set_cons_zero, List.set_cons_succ]
  (try rw [dle])
  -- 5 Op.nilCheck (Operand.tmp 54)
  refine wpMono_take' 5 (v := ?_) rfl (by kernel_rfl) (by kernel_rfl) (by kernel_rfl) (fun _ _ _ h => h) (by rfl) ?_ ?_
  rotate_left
  · (intro W hSw; (first | (have hg := HF3.out.blk.drew.keeps hSw (fun h => h); have hxx := HXW.out.drew.keeps hSw (fun h => h); have y1 : W.cell? ⟨g, 1, none⟩ = some (.slice A1 ap.length c1) := hg.cell 1; have x0 : W.cell? ⟨w.heap.size, 0, none⟩ = some (.int .i64 x.r) := hxx.cell 0; have x1 : W.cell? ⟨w.heap.size, 1, none⟩ = some (.int .i64 x.n) := hxx.cell 1; have hl := hg.lt; have hl2 := hxx.lt) | skip)
     go_simp; first | done | rfl)
  try simp only [Act.put, List.setIfInBounds_toArray, List.set_cons_zero, List.set_cons_succ]
  (try rw [dle])
  -- 6 Op.fieldAddr 76 (Operand.tmp 55) 1
  refine wpMono_take' 6 (v := ?_) rfl (by kernel_rfl) (by kernel_rfl) (by kernel_rfl) (fun _ _ _ h => h) (by rfl) ?_ ?_
  rotate_left
  · (intro W hSw; (first | (have hg := HF3.out.blk.drew.keeps hSw (fun h => h); have hxx := HXW.out.drew.keeps hSw (fun h => h); have y1 : W.cell? ⟨g, 1, none⟩ = some (.slice A1 ap.length c1) := hg.cell 1; have x0 : W.cell? ⟨w.heap.size, 0, none⟩ = some (.int .i64 x.r) := hxx.cell 0; have x1 : W.cell? ⟨w.heap.size, 1, none⟩ = some (.int .i64 x.n) := hxx.cell 1; have hl := hg.lt; have hl2 := hxx.lt) | skip)
     go_simp; first | done | rfl)
  try simp only [Act.put, List.setIfInBounds_toArray, List.set_cons_zero, List.set_cons_succ]
  (try rw [dle])
  -- 7 Op.load 33 (Operand.tmp 56)
  refine wpMono_take' 7 (v := ?_) rfl (by kernel_rfl) (by kernel_rfl) (by kernel_rfl) (fun _ _ _ h => h) (by rfl) ?_ ?_
  rotate_left
  · (intro W hSw; (first | (have hg := HF3.out.blk.drew.keeps hSw (fun h => h); have hxx := HXW.out.drew.keeps hSw (fun h => h); have y1 : W.cell? ⟨g, 1, none⟩ = some (.slice A1 ap.length c1) := hg.cell 1; have x0 : W.cell? ⟨w.heap.size, 0, none⟩ = some (.int .i64 x.r) := hxx.cell 0; have x1 : W.cell? ⟨w.heap.size, 1, none⟩ = some (.int .i64 x.n) := hxx.cell 1; have hl := hg.lt; have hl2 := hxx.lt) | skip)
     go_simp; first | done | rfl)
  try simp only [Act.put, List.setIfInBounds_toArray, List.set_cons_zero, List.set_cons_succ]
  (try rw [dle])
  -- 8 Op.fieldAddr 35 (Operand.tmp 3) 0
  refine wpMono_take' 8 (v := ?_) rfl (by kernel_rfl) (by kernel_rfl) (by kernel_rfl) (fun _ _ _ h => h) (by rfl) ?_ ?_
  rotate_left
  · (intro W hSw; (first | (have hg := HF3.out.blk.drew.keeps hSw (fun h => h); have hxx := HXW.out.drew.keeps hSw (fun h => h); have y1 : W.cell? ⟨g, 1, none⟩ = some (.slice A1 ap.length c1) := hg.cell 1; have x0 : W.cell? ⟨w.heap.size, 0, none⟩ = some (.int .i64 x.r) := hxx.cell 0; have x1 : W.cell? ⟨w.heap.size, 1, none⟩ = some (.int .i64 x.n) := hxx.cell 1; have hl := hg.lt; have hl2 := hxx.lt) | skip)
     go_simp; first | done | rfl)
  try simp only [Act.put, List.setIfInBounds_toArray, List.set_cons_zero, List.set_cons_succ]
  (try rw [dle])
  -- 9 Op.load 3 (Operand.tmp 58)
  refine wpMono_take' 9 (v := ?_) rfl (by kernel_rfl) (by kernel_rfl) (by kernel_rfl) (fun _ _ _ h => h) (by rfl) ?_ ?_
  rotate_left
  · (intro W hSw; (first | (have hg := HF3.out.blk.drew.keeps hSw (fun h => h); have hxx := HXW.out.drew.keeps hSw (fun h => h); have y1 : W.cell? ⟨g, 1, none⟩ = some (.slice A1 ap.length c1) := hg.cell 1; have x0 : W.cell? ⟨w.heap.size, 0, none⟩ = some (.int .i64 x.r) := hxx.cell 0; have x1 : W.cell? ⟨w.heap.size, 1, none⟩ = some (.int .i64 x.n) := hxx.cell 1; have hl := hg.lt; have hl2 := hxx.lt) | skip)
     go_simp; first | done | rfl)
  try simp only [Act.put, List.setIfInBounds_toArray, List.set_cons_zero, List.set_cons_succ]
  (try rw [dle])
  -- EFFECT 10 Op.call { callee := Callee.value (Operand.func 36), args := #[Operand.tmp 57, Operand.tmp 59], argTypes := #[33, 3] }
  refine wpMono_one' 10 (by kernel_rfl) rfl (by rfl) (fun K hK => ?_)
  go_simp
  refine (at_any A1 ap.length c1 ap x.r _ _ (HVA.out.below (Below.refl _ _).drew) (by omega)).mono ?_
  rintro e w4 ⟨rfl, rfl⟩
  refine hK.out _ _ ?_ ?_
  · exact Keeps.refl _ _
  clear hK K
  try simp only [Act.put, List.setIfInBounds_toArray, List.set_cons_zero, List.set_cons_succ]
  (try rw [dle])
  -- 11 Op.binOp BinOp.leq 3 (Operand.tmp 53) (Operand.tmp 60) 3
  refine wpMono_take' 11 (v := ?_) rfl (by kernel_rfl) (by kernel_rfl) (by kernel_rfl) (fun _ _ _ h => h) (by rfl) ?_ ?_
  rotate_left
  · (intro W hSw; (first | (have hg := HF3.out.blk.drew.keeps hSw (fun h => h); have hxx := HXW.out.drew.keeps hSw (fun h => h); have y1 : W.cell? ⟨g, 1, none⟩ = some (.slice A1 ap.length c1) := hg.cell 1; have x0 : W.cell? ⟨w.heap.size, 0, none⟩ = some (.int .i64 x.r) := hxx.cell 0; have x1 : W.cell? ⟨w.heap.size, 1, none⟩ = some (.int .i64 x.n) := hxx.cell 1; have hl := hg.lt; have hl2 := hxx.lt) | skip)
     go_simp; first | done | rfl)
  try simp only [Act.put, List.setIfInBounds_toArray, List.set_cons_zero, List.set_cons_succ]
  (try rw [dle])
  -- 12 Op.pick (Operand.tmp 51) (Operand.const (Value.bool true)) (Operand.tmp 61)
  refine wpMono_take' 12 (v := ?_) rfl (by kernel_rfl) (by kernel_rfl) (by kernel_rfl) (fun _ _ _ h => h) (by rfl) ?_ ?_
  rotate_left
  · (intro W hSw; (first | (have hg := HF3.out.blk.drew.keeps hSw (fun h => h); have hxx := HXW.out.drew.keeps hSw (fun h => h); have y1 : W.cell? ⟨g, 1, none⟩ = some (.slice A1 ap.length c1) := hg.cell 1; have x0 : W.cell? ⟨w.heap.size, 0, none⟩ = some (.int .i64 x.r) := hxx.cell 0; have x1 : W.cell? ⟨w.heap.size, 1, none⟩ = some (.int .i64 x.n) := hxx.cell 1; have hl := hg.lt; have hl2 := hxx.lt) | skip)
     go_simp; first | done | rfl)
  try simp only [Act.put, List.setIfInBounds_toArray, List.set_cons_zero, List.set_cons_succ]
  (try rw [dle])
  refine wpMono_done (by kernel_rfl) ?_ _
  have HB4 := Lib.hid HBW.out.drew
  have HX4 := Lib.hid HXW.out.drew
  have HF4 := Lib.hid (HF3.out.below (Below.refl _ _).drew)
  have HV4 := Lib.hid (show Vec w3.drew w3.drew.heap.size A2 n2 c2 x.z from HV3.out.below (Below.refl _ _).drew)
  have HA4 := Lib.hid (show Vec w3.drew w3.drew.heap.size A1 ap.length c1 ap from HVA.out.below (Below.refl _ _).drew)
  have HR4 := Lib.hid (show Reads w3.drew w3.drew.heap.size 10 A3 ws.length (ws.flatMap Wr.cells) from (HRD3.out.more hs3).below (Below.refl _ _).drew)
  have hs4 : w.heap.size < w3.drew.heap.size := HX4.out.lt
  clear HBW HXW HF3 HV3 HVA HRD3 hs3 dle
  generalize w3.drew = w4 at *
  have c2 : w4.cell? ⟨g, 2, none⟩ = some (.slice A3 ws.length c3) := HF4.out.blk.cell 2
  have gl4 := HF4.out.blk.lt
  go_wp2_with fail
  go_loopw [11, 13, 72] (fun m _ i wr => ∃ j : Nat, j ≤ ws.length ∧ i = .int .i64 j ∧ m = .int .i64 ((manyW (ws.take j) x : Nat) : Int) ∧ Below w4.heap.size w4 wr) (fun _ _ i _ => ws.length - (intOf i).toNat)
  case atStart => exact ⟨0, by omega, rfl, rfl, Below.refl _ _⟩
  case round =>
    obtain ⟨j, hjl, rfl, rfl, hbr⟩ := hrel
    have HBr := Lib.hid hbr
    have hsr := hbr.size
    clear hbr
    by_cases hlt : j < ws.length
    · have hmem : ws.getD j wrZ ∈ ws := by rw [List.getD_eq_getElem?_getD, List.getElem?_eq_getElem hlt]; exact List.getElem_mem hlt
      obtain ⟨b, off, rfl, hbl⟩ := HR4.out.at_some (by omega)
      have HE := Lib.hid (show ∀ q v, (ws.getD j wrZ).cells[q]? = some v → wr.cell? ⟨b, off + j * 10 + q, none⟩ = some v from fun q v hq => by
        have hq2 : q < 10 := by
          have := (List.getElem?_eq_some_iff.1 hq).1
          rwa [Wr.len] at this
        have h5 := Reads.thing Wr.cells Wr.len HR4.out (k := j) (x := ws.getD j wrZ) (by omega) (by rw [List.getD_eq_getElem?_getD, List.getElem?_eq_getElem hlt]; rfl) q hq2
        rw [HBr.out.cell (p := ⟨b, off + j * 10 + q, none⟩) hbl, h5, hq])
      have hmn : manyW (ws.take (j + 1)) x = manyW (ws.take j) x + if (ws.getD j wrZ).r == x.r then 1 else 0 := by
        unfold manyW
        rw [List.take_add_one, List.filter_append, List.length_append, List.getElem?_eq_getElem hlt, List.getD_eq_getElem?_getD, List.getElem?_eq_getElem hlt]
        simp only [Option.toList, Option.getD_some, List.filter_cons, List.filter_nil]
        split <;> rfl
      have hmk : manyW (ws.take j) x ≤ 1000 := by
        have h1 : manyW (ws.take j) x ≤ (ws.take j).length := List.length_filter_le _ _
        rw [List.length_take] at h1
        omega
      have hone : (ws.getD j wrZ).d.oneCell' = true := by
        obtain ⟨hn, _⟩ := HF4.out.num _ hmem
        obtain ⟨_, _, e⟩ := ownsRow_slice hn
        rw [e]; rfl
      have x0r : wr.cell? ⟨w.heap.size, 0, none⟩ = some (.int .i64 x.r) := (HX4.out.below HBr.out HX4.out.lt).cell 0
      have xlr : w.heap.size < wr.heap.size := by omega
      generalize ws.getD j wrZ = y at *
      have HMN := Lib.hid hmn
      generalize manyW (ws.take j) x = m at *
      clear hmem hmn
      cases hyx : y.r == x.r with
      | false =>
        go_wp2_with (first | ((with_reducible refine wpList_load_at ?_ 35 (.tmp 74) ?_ b (off + j * 10) y.cells ?_ Try.underlying35 ?_ ?_ HE.out ?_); rfl; rfl; rfl; rfl; (rw [Wr.len]; kernel_rfl)) | (refine wpList_store_blk rfl 35 (.tmp 13) (.tmp 75) rfl wr.heap.size y.cells rfl rfl (Blk.new wr 35 #[.int .i64 0, .int .i64 0, .int .i64 0, .int .i64 0, .slice none 0 0, .string ⟨#[]⟩, .string ⟨#[]⟩, .string ⟨#[]⟩, .bool false, .int .i64 0]) (by rw [Wr.len]; kernel_rfl) rfl (oneAll y hone) ?_; intro w9 ho9 hk9 hs9; clear hs9; have hb9 : Below wr.heap.size wr w9 := (below_new wr _).trans (hk9.below (fun i hi e => by omega) (by simp)); have e0 : w9.cell? ⟨wr.heap.size, 0, none⟩ = some (.int .i64 y.r) := ho9.cell 0; have x09 : w9.cell? ⟨w.heap.size, 0, none⟩ = some (.int .i64 x.r) := (hb9.cell (p := ⟨w.heap.size, 0, none⟩) xlr).trans x0r; have el9 := ho9.lt; have xl9 : w.heap.size < w9.heap.size := Nat.lt_of_lt_of_le xlr hb9.size; clear hk9))
        go_roundw
        case rel => exact ⟨j + 1, by omega, by go_num, by rw [HMN.out, hyx]; rfl, below_step HBr.out hb9⟩
        case measure => (simp [intOf]; try omega)
      | true =>
        go_wp2_with (first | ((with_reducible refine wpList_load_at ?_ 35 (.tmp 74) ?_ b (off + j * 10) y.cells ?_ Try.underlying35 ?_ ?_ HE.out ?_); rfl; rfl; rfl; rfl; (rw [Wr.len]; kernel_rfl)) | (refine wpList_store_blk rfl 35 (.tmp 13) (.tmp 75) rfl wr.heap.size y.cells rfl rfl (Blk.new wr 35 #[.int .i64 0, .int .i64 0, .int .i64 0, .int .i64 0, .slice none 0 0, .string ⟨#[]⟩, .string ⟨#[]⟩, .string ⟨#[]⟩, .bool false, .int .i64 0]) (by rw [Wr.len]; kernel_rfl) rfl (oneAll y hone) ?_; intro w9 ho9 hk9 hs9; clear hs9; have hb9 : Below wr.heap.size wr w9 := (below_new wr _).trans (hk9.below (fun i hi e => by omega) (by simp)); have e0 : w9.cell? ⟨wr.heap.size, 0, none⟩ = some (.int .i64 y.r) := ho9.cell 0; have x09 : w9.cell? ⟨w.heap.size, 0, none⟩ = some (.int .i64 x.r) := (hb9.cell (p := ⟨w.heap.size, 0, none⟩) xlr).trans x0r; have el9 := ho9.lt; have xl9 : w.heap.size < w9.heap.size := Nat.lt_of_lt_of_le xlr hb9.size; clear hk9))
        go_roundw
        case rel => exact ⟨j + 1, by omega, by go_num, by rw [HMN.out, hyx]; go_num, below_step HBr.out hb9⟩
        case measure => (simp [intOf]; try omega)
    · obtain rfl : j = ws.length := by omega
      rw [List.take_length]
      have HBn := Lib.hid HBr.out
      have HBW := Lib.hid (below_step HB4.out HBr.out)
      have HX5 := Lib.hid (HX4.out.below HBr.out HX4.out.lt)
      have HF5 := Lib.hid (HF4.out.below HBr.out)
      have HV5 := Lib.hid ((HV4.out.below HBr.out).more hsr)
      have HA5 := Lib.hid ((HA4.out.below HBr.out).more hsr)
      have hs5 : w.heap.size < wr.heap.size := HX5.out.lt
      have HQ5 := Lib.hid (show ∀ q v, x.cells[q]? = some v → wr.cell? ⟨w.heap.size, 0 + q, none⟩ = some v from fun q v hq => by rw [Nat.zero_add, HX5.out.cell q]; simpa using hq)
      clear HB4 HX4 HF4 HV4 HA4 HR4 HBr c2
      generalize hmy : manyW ws x = m at *
      by_cases hm16 : 16 ≤ m
      · go_wp2_with (first | ((with_reducible refine wpList_load_g ?_ 35 (.tmp 3) ?_ w.heap.size 0 x.cells ?_ Try.underlying35 ?_ ?_ HQ5.out ?_); rfl; rfl; rfl; rfl; (rw [Wr.len]; kernel_rfl)))
        refine (ready_any g rg A1 ap.length c1 ap (.slice A3 ws.length c3) x A2 n2 c2 wr HF5.out.blk HA5.out HHd.out HV5.out (by omega) h2 ⟨hrp.r0, hrp.r1⟩ ⟨hrp.n0, hrp.n1⟩).mono ?_
        rintro e w6 ⟨rfl, hb6⟩
        have HB6 := Lib.hid hb6
        have hoc0 : offC rg ap ws x k = if readyB ap x = false then 4 else 0 := by
          unfold offC
          rw [if_neg (by rw [hr1]; simp [hq]), if_neg (by rw [hhb]; simp; omega), hmy]
          simp [hm16]
        cases hrb : readyB ap x with
        | false =>
          have hoc : offC rg ap ws x k = 4 := by rw [hoc0, hrb]; rfl
          have HBW := Lib.hid (below_step HBW.out hb6)
          have HXW := Lib.hid (HX5.out.below hb6 HX5.out.lt)
          clear hb6
          go_wp2_with fail
          refine (bad_offer w.heap.size x 4 _ HXW.out).mono ?_
          rintro e w9 h9
          have HR9 := Lib.hid (show OfferR S g rg ap ws x w e w9 from ⟨k, Hk.out, .inl ⟨by rw [hoc]; decide, by rw [hoc]; exact h9.of HBW.out⟩⟩)
          obtain ⟨ge9, rfl, _⟩ := h9
          go_wp2
          exact bodyPost_ret (v := .tuple #[.slice none 0 0, .iface 96 (.pointer (some ⟨ge9, 0, none⟩))]) (by simp [results, Try.results14, go_sem]) rfl HR9.out
        | true =>
          have hoc : offC rg ap ws x k = 0 := by rw [hoc0, hrb]; rfl
          have HB7 := Lib.hid (below_step HBW.out hb6)
          have HX7 := Lib.hid (HX5.out.below hb6 HX5.out.lt)
          have HF7 := Lib.hid (HF5.out.below hb6)
          have HV7 := Lib.hid ((HV5.out.below hb6).more hb6.size)
          have hs7 : w.heap.size < w6.heap.size := HX7.out.lt
          clear hb6
          clear HB6 HBW HX5 HF5 HV5 HA5 HQ5
          go_wp2_with fail
          have hxg : ¬ (fun i => i = g ∨ (Value.slice A3 ws.length c3).ownBlock = some i) w.heap.size := fun e => e.elim (fun e => by have := HG.out; omega) (fun e => by have := HSM.out _ (HF7.out.inW _ e); omega)
          have hwb : ∀ i, (Value.slice A3 ws.length c3).ownBlock = some i → i < w6.heap.size := fun i hi => HF7.out.small i (HF7.out.inW i hi)
          have HN7 := Lib.hid (show Nums w6.drew w6.drew.heap.size x.d x.z from ⟨A2, n2, c2, HHd.out, HV7.out.1, Nat.le_trans HV7.out.2.1 HV7.out.2.2.1, HV7.out.2.2.2.1.below (Below.refl _ _).drew⟩)
          have HXG := Lib.hid hxg
          have HWB := Lib.hid hwb
          clear hxg hwb
          refine wp_region_monoJ (fun i => i = g ∨ (Value.slice A3 ws.length c3).ownBlock = some i) [9, 12] (by kernel_rfl) ?_
          -- 0 Op.move (Operand.tmp 0)
          refine wpMonoJ_take' 0 (v := ?_) rfl (by kernel_rfl) (by kernel_rfl) (by kernel_rfl) (by rfl) (fun _ _ _ h => h) (by rfl) ?_ ?_
          rotate_left
          · (intro W hSw; (first | (have hgW := HF7.out.blk.drew.keeps (X := nobody) hSw (fun h => h); have y2 : W.cell? ⟨g, 2, none⟩ = some (.slice A3 ws.length c3) := hgW.cell 2; have gl := hgW.lt) | skip)
             go_simp; first | done | rfl)
          try simp only [Act.put, List.setIfInBounds_toArray, List.set_cons_zero, List.set_cons_succ]
          -- 1 Op.move (Operand.tmp 0)
          refine wpMonoJ_take' 1 (v := ?_) rfl (by kernel_rfl) (by kernel_rfl) (by kernel_rfl) (by rfl) (fun _ _ _ h => h) (by rfl) ?_ ?_
          rotate_left
          · (intro W hSw; (first | (have hgW := HF7.out.blk.drew.keeps (X := nobody) hSw (fun h => h); have y2 : W.cell? ⟨g, 2, none⟩ = some (.slice A3 ws.length c3) := hgW.cell 2; have gl := hgW.lt) | skip)
             go_simp; first | done | rfl)
          try simp only [Act.put, List.setIfInBounds_toArray, List.set_cons_zero, List.set_cons_succ]
          -- 2 Op.nilCheck (Operand.tmp 97)
          refine wpMonoJ_take' 2 (v := ?_) rfl (by kernel_rfl) (by kernel_rfl) (by kernel_rfl) (by rfl) (fun _ _ _ h => h) (by rfl) ?_ ?_
          rotate_left
          · (intro W hSw; (first | (have hgW := HF7.out.blk.drew.keeps (X := nobody) hSw (fun h => h); have y2 : W.cell? ⟨g, 2, none⟩ = some (.slice A3 ws.length c3) := hgW.cell 2; have gl := hgW.lt) | skip)
             go_simp; first | done | rfl)
          try simp only [Act.put, List.setIfInBounds_toArray, List.set_cons_zero, List.set_cons_succ]
          -- 3 Op.fieldAddr 76 (Operand.tmp 98) 2
          refine wpMonoJ_take' 3 (v := ?_) rfl (by kernel_rfl) (by kernel_rfl) (by kernel_rfl) (by rfl) (fun _ _ _ h => h) (by rfl) ?_ ?_
          rotate_left
          · (intro W hSw; (first | (have hgW := HF7.out.blk.drew.keeps (X := nobody) hSw (fun h => h); have y2 : W.cell? ⟨g, 2, none⟩ = some (.slice A3 ws.length c3) := hgW.cell 2; have gl := hgW.lt) | skip)
             go_simp; first | done | rfl)
          try simp only [Act.put, List.setIfInBounds_toArray, List.set_cons_zero, List.set_cons_succ]
          -- 4 Op.load 25 (Operand.tmp 99)
          refine wpMonoJ_read' 4 [9, 10, 11, 12] (v := ?_) rfl (by kernel_rfl) (by kernel_rfl) (by kernel_rfl) (by rfl) (by kernel_rfl) (by rfl) (fun _ _ _ h => h) (by rfl) ?_ ?_
          rotate_left
          · (intro W hSw; first | ((refine exec_load_w (.tmp 3) ?_ w.heap.size 0 x.cells ?_ ?_ (fun q v hq => by rw [Nat.zero_add, (HX7.out.drew.keeps hSw HXG.out).cell q]; simpa using hq) <;> rfl)) | ((first | (have hgW := HF7.out.blk.drew.keeps (X := nobody) hSw (fun h => h); have y2 : W.cell? ⟨g, 2, none⟩ = some (.slice A3 ws.length c3) := hgW.cell 2; have gl := hgW.lt) | skip); go_simp; done) | ((first | (have hgW := HF7.out.blk.drew.keeps (X := nobody) hSw (fun h => h); have y2 : W.cell? ⟨g, 2, none⟩ = some (.slice A3 ws.length c3) := hgW.cell 2; have gl := hgW.lt) | skip); go_simp; rfl))
          try simp only [Act.put, List.setIfInBounds_toArray, List.set_cons_zero, List.set_cons_succ]
          -- 5 Op.move (Operand.tmp 9)
          refine wpMonoJ_take' 5 (v := ?_) rfl (by kernel_rfl) (by kernel_rfl) (by kernel_rfl) (by rfl) (fun _ _ _ h => h) (by rfl) ?_ ?_
          rotate_left
          · (intro W hSw; (first | (have hgW := HF7.out.blk.drew.keeps (X := nobody) hSw (fun h => h); have y2 : W.cell? ⟨g, 2, none⟩ = some (.slice A3 ws.length c3) := hgW.cell 2; have gl := hgW.lt) | skip)
             go_simp; first | done | rfl)
          try simp only [Act.put, List.setIfInBounds_toArray, List.set_cons_zero, List.set_cons_succ]
          -- 6 Op.load 35 (Operand.tmp 3)
          refine wpMonoJ_take' 6 (v := ?_) rfl (by kernel_rfl) (by kernel_rfl) (by kernel_rfl) (by rfl) (fun _ _ _ h => h) (by rfl) ?_ ?_
          rotate_left
          · (intro W hSw; first | ((refine exec_load_w (.tmp 3) ?_ w.heap.size 0 x.cells ?_ ?_ (fun q v hq => by rw [Nat.zero_add, (HX7.out.drew.keeps hSw HXG.out).cell q]; simpa using hq) <;> rfl)) | ((first | (have hgW := HF7.out.blk.drew.keeps (X := nobody) hSw (fun h => h); have y2 : W.cell? ⟨g, 2, none⟩ = some (.slice A3 ws.length c3) := hgW.cell 2; have gl := hgW.lt) | skip); go_simp; done) | ((first | (have hgW := HF7.out.blk.drew.keeps (X := nobody) hSw (fun h => h); have y2 : W.cell? ⟨g, 2, none⟩ = some (.slice A3 ws.length c3) := hgW.cell 2; have gl := hgW.lt) | skip); go_simp; rfl))
          try simp only [Act.put, List.setIfInBounds_toArray, List.set_cons_zero, List.set_cons_succ]
          -- EFFECT 7 Op.call { callee := Callee.value (Operand.func 39), args := #[Operand.tmp 102], argTypes := #[35] }
          refine wpMonoJ_one' 7 (by kernel_rfl) rfl (by rfl) (fun K hK => ?_)
          go_simp
          refine (clone_any x w6.drew HN7.out (by rw [HZ.out]; exact h2)).mono ?_
          rintro e w7 ⟨⟨d', rfl, hno7⟩, hb7⟩
          have HN8 := Lib.hid hno7
          have HB8 := Lib.hid (below_ofDrew hb7)
          obtain ⟨A6, c6, hd6⟩ := ownsRow_slice hno7.1
          have hone6 : d'.oneCell' = true := by rw [hd6]; rfl
          clear hd6
          have hs8 : w6.heap.size ≤ w7.heap.size := HB8.out.size
          have hf8 := HF7.out.below HB8.out
          clear hno7
          refine hK.out _ _ ?_ ?_
          · exact .of_below hb7
          clear hK K
          try simp only [Act.put, List.setIfInBounds_toArray, List.set_cons_zero, List.set_cons_succ]
          -- EFFECT 8 Op.buildSlice 25 1 #[(0, Operand.tmp 103)]
          refine wpMonoJ_one' 8 (by kernel_rfl) rfl (by rfl) (fun K hK => ?_)
          refine wp_one (.tmp 103) rfl ({ x with d := d' } : Wr) rfl ?_
          refine hK.out _ _ ?_ ?_
          · exact .alloc _
          clear hK K
          try simp only [Act.put, List.setIfInBounds_toArray, List.set_cons_zero, List.set_cons_succ]
          -- EFFECT 9 Op.call { callee := Callee.value (Operand.func 38), args := #[Operand.tmp 100, Operand.tmp 101, Operand.tmp 104], argTypes := #[25, 3, 25] }
          refine wpMonoJ_one' 9 (by kernel_rfl) rfl (by rfl) (fun K hK => ?_)
          go_simp
          have hb9 := below_new w7 (.cells ({ x with d := d' } : Wr).cells.toArray 35)
          have HF9 := Lib.hid (hf8.below hb9)
          have HN9 := Lib.hid (HN8.out.below hb9)
          have HB9 := Lib.hid (below_step HB8.out hb9)
          refine (insert_w (.slice A3 ws.length c3) ws.length 0 w7.heap.size 1 k ws ({ x with d := d' } : Wr) (w7.alloc (.cells ({ x with d := d' } : Wr).cells.toArray 35)) HF9.out.row rfl Hk.out.1 (by omega) (Nat.zero_le _) (Blk.new w7 35 ({ x with d := d' } : Wr).cells.toArray) (fun e => by have := HWB.out _ e; omega) hone6 (fun y hy => by
            obtain ⟨_, _, e⟩ := ownsRow_slice (HF9.out.num y hy).1
            rw [e]; rfl)).mono ?_
          clear hf8 hb9
          rintro e w9 ⟨v9, rfl, hrow9, hk9, hv9⟩
          obtain ⟨A9, c9, rfl⟩ := ownsRow_slice hrow9
          have HR9 := Lib.hid hrow9
          have HK9 := Lib.hid hk9
          have HV9 := Lib.hid hv9
          have hb10 := HF9.out.blk.keeps hk9 HF9.out.gw
          have d2 : w9.cell? ⟨g, 2, none⟩ = some (.slice A3 ws.length c3) := hb10.cell 2
          have f2 := hb10.frozen 2
          have gl9 := hb10.lt
          clear hrow9 hv9 hb10
          refine hK.out _ _ ?_ ?_
          · exact moved (hk9.more fun i _ e => .inr e) (by decide)
          clear hK K
          try simp only [Act.put, List.setIfInBounds_toArray, List.set_cons_zero, List.set_cons_succ]
          -- 10 Op.nilCheck (Operand.tmp 96)
          refine wpMonoJ_take' 10 (v := ?_) rfl (by kernel_rfl) (by kernel_rfl) (by kernel_rfl) (by rfl) (fun _ _ _ h => h) (by rfl) ?_ ?_
          rotate_left
          · (intro W hSw; (first | (have hgW := HF7.out.blk.drew.keeps (X := nobody) hSw (fun h => h); have y2 : W.cell? ⟨g, 2, none⟩ = some (.slice A3 ws.length c3) := hgW.cell 2; have gl := hgW.lt) | skip)
             go_simp; first | done | rfl)
          try simp only [Act.put, List.setIfInBounds_toArray, List.set_cons_zero, List.set_cons_succ]
          -- 11 Op.fieldAddr 76 (Operand.tmp 106) 2
          refine wpMonoJ_take' 11 (v := ?_) rfl (by kernel_rfl) (by kernel_rfl) (by kernel_rfl) (by rfl) (fun _ _ _ h => h) (by rfl) ?_ ?_
          rotate_left
          · (intro W hSw; (first | (have hgW := HF7.out.blk.drew.keeps (X := nobody) hSw (fun h => h); have y2 : W.cell? ⟨g, 2, none⟩ = some (.slice A3 ws.length c3) := hgW.cell 2; have gl := hgW.lt) | skip)
             go_simp; first | done | rfl)
          try simp only [Act.put, List.setIfInBounds_toArray, List.set_cons_zero, List.set_cons_succ]
          -- EFFECT 12 Op.store 25 (Operand.tmp 107) (Operand.tmp 105)
          refine wpMonoJ_one' 12 (by kernel_rfl) rfl (by rfl) (fun K hK => ?_)
          go_simp
          refine hK.out _ _ ?_ ?_
          · exact moved ((Keeps.set1 w9 g 2 _).more fun i _ e => .inl e) (by decide)
          clear hK K
          try simp only [Act.put]
          refine wpMonoJ_done (by kernel_rfl) ?_ _
          have hIN := HF9.out.insert HSM.out (by have := HB9.out.size; omega) hlen Hk.out.1 HR9.out HK9.out HV9.out (y := ({ x with d := d' } : Wr)) (HN9.out.base (Nat.le_of_lt hs7)) ⟨⟨hrp.r0, hrp.r1⟩, ⟨hrp.n0, hrp.n1⟩⟩
          have HKW := Lib.hid (show Keeps S w (w9.setCell ⟨g, 2, none⟩ (.slice A9 (ws.length + 1) c9)) from ((Keeps.of_below (below_step HB7.out HB9.out)).trans (HK9.out.more fun i _ e => HF9.out.inW i e)).trans ((Keeps.set1 w9 g 2 _).more fun i _ e => by rw [show i = g from e]; exact HF9.out.inG))
          have HIN := Lib.hid hIN
          generalize w9.setCell ⟨g, 2, none⟩ (.slice A9 (ws.length + 1) c9) = w10 at *
          clear hIN hk9 d2 f2
          go_wp2_with fail
          refine (drain_any g rg _ ap _ _ _ w10 HIN.out).mono ?_
          rintro e w11 ⟨vo, a, l, out, S3, rfl, hdr, hno⟩
          have HRR := Lib.hid (show OfferR S g rg ap ws x w (.returned (.tuple #[vo, .nilIface])) w11 from ⟨k, Hk.out, .inr ⟨hoc, d', vo, a, l, out, S3, rfl, hdr.from HKW.out (fun i hi => hi.1), hno⟩⟩)
          obtain ⟨A12, c12, rfl⟩ := ownsRow_slice hdr.2.2.1
          clear hdr hno
          go_wp2
          exact bodyPost_ret (v := .tuple #[.slice A12 out.length c12, .nilIface]) (by simp [results, Try.results14, go_sem]) rfl HRR.out
      · have hoc : offC rg ap ws x k = 0 := by
          unfold offC
          rw [if_neg (by rw [hr1]; simp [hq]), if_neg (by rw [hhb]; simp; omega), hmy]
          simp [hm16]
        have HB7 := HBW
        have HX7 := HX5
        have HF7 := HF5
        have HV7 := HV5
        have hs7 := hs5
        clear HBW HX5 HF5 HV5 HA5 HQ5
        go_wp2_with fail
        have hxg : ¬ (fun i => i = g ∨ (Value.slice A3 ws.length c3).ownBlock = some i) w.heap.size := fun e => e.elim (fun e => by have := HG.out; omega) (fun e => by have := HSM.out _ (HF7.out.inW _ e); omega)
        have hwb : ∀ i, (Value.slice A3 ws.length c3).ownBlock = some i → i < wr.heap.size := fun i hi => HF7.out.small i (HF7.out.inW i hi)
        have HN7 := Lib.hid (show Nums wr.drew wr.drew.heap.size x.d x.z from ⟨A2, n2, c2, HHd.out, HV7.out.1, Nat.le_trans HV7.out.2.1 HV7.out.2.2.1, HV7.out.2.2.2.1.below (Below.refl _ _).drew⟩)
        have HXG := Lib.hid hxg
        have HWB := Lib.hid hwb
        clear hxg hwb
        refine wp_region_monoJ (fun i => i = g ∨ (Value.slice A3 ws.length c3).ownBlock = some i) [9, 12] (by kernel_rfl) ?_
        -- 0 Op.move (Operand.tmp 0)
        refine wpMonoJ_take' 0 (v := ?_) rfl (by kernel_rfl) (by kernel_rfl) (by kernel_rfl) (by rfl) (fun _ _ _ h => h) (by rfl) ?_ ?_
        rotate_left
        · (intro W hSw; (first | (have hgW := HF7.out.blk.drew.keeps (X := nobody) hSw (fun h => h); have y2 : W.cell? ⟨g, 2, none⟩ = some (.slice A3 ws.length c3) := hgW.cell 2; have gl := hgW.lt) | skip)
           go_simp; first | done | rfl)
        try simp only [Act.put, List.setIfInBounds_toArray, List.set_cons_zero, List.set_cons_succ]
        -- 1 Op.move (Operand.tmp 0)
        refine wpMonoJ_take' 1 (v := ?_) rfl (by kernel_rfl) (by kernel_rfl) (by kernel_rfl) (by rfl) (fun _ _ _ h => h) (by rfl) ?_ ?_
        rotate_left
        · (intro W hSw; (first | (have hgW := HF7.out.blk.drew.keeps (X := nobody) hSw (fun h => h); have y2 : W.cell? ⟨g, 2, none⟩ = some (.slice A3 ws.length c3) := hgW.cell 2; have gl := hgW.lt) | skip)
           go_simp; first | done | rfl)
        try simp only [Act.put, List.setIfInBounds_toArray, List.set_cons_zero, List.set_cons_succ]
        -- 2 Op.nilCheck (Operand.tmp 97)
        refine wpMonoJ_take' 2 (v := ?_) rfl (by kernel_rfl) (by kernel_rfl) (by kernel_rfl) (by rfl) (fun _ _ _ h => h) (by rfl) ?_ ?_
        rotate_left
        · (intro W hSw; (first | (have hgW := HF7.out.blk.drew.keeps (X := nobody) hSw (fun h => h); have y2 : W.cell? ⟨g, 2, none⟩ = some (.slice A3 ws.length c3) := hgW.cell 2; have gl := hgW.lt) | skip)
           go_simp; first | done | rfl)
        try simp only [Act.put, List.setIfInBounds_toArray, List.set_cons_zero, List.set_cons_succ]
        -- 3 Op.fieldAddr 76 (Operand.tmp 98) 2
        refine wpMonoJ_take' 3 (v := ?_) rfl (by kernel_rfl) (by kernel_rfl) (by kernel_rfl) (by rfl) (fun _ _ _ h => h) (by rfl) ?_ ?_
        rotate_left
        · (intro W hSw; (first | (have hgW := HF7.out.blk.drew.keeps (X := nobody) hSw (fun h => h); have y2 : W.cell? ⟨g, 2, none⟩ = some (.slice A3 ws.length c3) := hgW.cell 2; have gl := hgW.lt) | skip)
           go_simp; first | done | rfl)
        try simp only [Act.put, List.setIfInBounds_toArray, List.set_cons_zero, List.set_cons_succ]
        -- 4 Op.load 25 (Operand.tmp 99)
        refine wpMonoJ_read' 4 [9, 10, 11, 12] (v := ?_) rfl (by kernel_rfl) (by kernel_rfl) (by kernel_rfl) (by rfl) (by kernel_rfl) (by rfl) (fun _ _ _ h => h) (by rfl) ?_ ?_
        rotate_left
        · (intro W hSw; first | ((refine exec_load_w (.tmp 3) ?_ w.heap.size 0 x.cells ?_ ?_ (fun q v hq => by rw [Nat.zero_add, (HX7.out.drew.keeps hSw HXG.out).cell q]; simpa using hq) <;> rfl)) | ((first | (have hgW := HF7.out.blk.drew.keeps (X := nobody) hSw (fun h => h); have y2 : W.cell? ⟨g, 2, none⟩ = some (.slice A3 ws.length c3) := hgW.cell 2; have gl := hgW.lt) | skip); go_simp; done) | ((first | (have hgW := HF7.out.blk.drew.keeps (X := nobody) hSw (fun h => h); have y2 : W.cell? ⟨g, 2, none⟩ = some (.slice A3 ws.length c3) := hgW.cell 2; have gl := hgW.lt) | skip); go_simp; rfl))
        try simp only [Act.put, List.setIfInBounds_toArray, List.set_cons_zero, List.set_cons_succ]
        -- 5 Op.move (Operand.tmp 9)
        refine wpMonoJ_take' 5 (v := ?_) rfl (by kernel_rfl) (by kernel_rfl) (by kernel_rfl) (by rfl) (fun _ _ _ h => h) (by rfl) ?_ ?_
        rotate_left
        · (intro W hSw; (first | (have hgW := HF7.out.blk.drew.keeps (X := nobody) hSw (fun h => h); have y2 : W.cell? ⟨g, 2, none⟩ = some (.slice A3 ws.length c3) := hgW.cell 2; have gl := hgW.lt) | skip)
           go_simp; first | done | rfl)
        try simp only [Act.put, List.setIfInBounds_toArray, List.set_cons_zero, List.set_cons_succ]
        -- 6 Op.load 35 (Operand.tmp 3)
        refine wpMonoJ_take' 6 (v := ?_) rfl (by kernel_rfl) (by kernel_rfl) (by kernel_rfl) (by rfl) (fun _ _ _ h => h) (by rfl) ?_ ?_
        rotate_left
        · (intro W hSw; first | ((refine exec_load_w (.tmp 3) ?_ w.heap.size 0 x.cells ?_ ?_ (fun q v hq => by rw [Nat.zero_add, (HX7.out.drew.keeps hSw HXG.out).cell q]; simpa using hq) <;> rfl)) | ((first | (have hgW := HF7.out.blk.drew.keeps (X := nobody) hSw (fun h => h); have y2 : W.cell? ⟨g, 2, none⟩ = some (.slice A3 ws.length c3) := hgW.cell 2; have gl := hgW.lt) | skip); go_simp; done) | ((first | (have hgW := HF7.out.blk.drew.keeps (X := nobody) hSw (fun h => h); have y2 : W.cell? ⟨g, 2, none⟩ = some (.slice A3 ws.length c3) := hgW.cell 2; have gl := hgW.lt) | skip); go_simp; rfl))
        try simp only [Act.put, List.setIfInBounds_toArray, List.set_cons_zero, List.set_cons_succ]
        -- EFFECT 7 Op.call { callee := Callee.value (Operand.func 39), args := #[Operand.tmp 102], argTypes := #[35] }
        refine wpMonoJ_one' 7 (by kernel_rfl) rfl (by rfl) (fun K hK => ?_)
        go_simp
        refine (clone_any x wr.drew HN7.out (by rw [HZ.out]; exact h2)).mono ?_
        rintro e w7 ⟨⟨d', rfl, hno7⟩, hb7⟩
        have HN8 := Lib.hid hno7
        have HB8 := Lib.hid (below_ofDrew hb7)
        obtain ⟨A6, c6, hd6⟩ := ownsRow_slice hno7.1
        have hone6 : d'.oneCell' = true := by rw [hd6]; rfl
        clear hd6
        have hs8 : wr.heap.size ≤ w7.heap.size := HB8.out.size
        have hf8 := HF7.out.below HB8.out
        clear hno7
        refine hK.out _ _ ?_ ?_
        · exact .of_below hb7
        clear hK K
        try simp only [Act.put, List.setIfInBounds_toArray, List.set_cons_zero, List.set_cons_succ]
        -- EFFECT 8 Op.buildSlice 25 1 #[(0, Operand.tmp 103)]
        refine wpMonoJ_one' 8 (by kernel_rfl) rfl (by rfl) (fun K hK => ?_)
        refine wp_one (.tmp 103) rfl ({ x with d := d' } : Wr) rfl ?_
        refine hK.out _ _ ?_ ?_
        · exact .alloc _
        clear hK K
        try simp only [Act.put, List.setIfInBounds_toArray, List.set_cons_zero, List.set_cons_succ]
        -- EFFECT 9 Op.call { callee := Callee.value (Operand.func 38), args := #[Operand.tmp 100, Operand.tmp 101, Operand.tmp 104], argTypes := #[25, 3, 25] }
        refine wpMonoJ_one' 9 (by kernel_rfl) rfl (by rfl) (fun K hK => ?_)
        go_simp
        have hb9 := below_new w7 (.cells ({ x with d := d' } : Wr).cells.toArray 35)
        have HF9 := Lib.hid (hf8.below hb9)
        have HN9 := Lib.hid (HN8.out.below hb9)
        have HB9 := Lib.hid (below_step HB8.out hb9)
        refine (insert_w (.slice A3 ws.length c3) ws.length 0 w7.heap.size 1 k ws ({ x with d := d' } : Wr) (w7.alloc (.cells ({ x with d := d' } : Wr).cells.toArray 35)) HF9.out.row rfl Hk.out.1 (by omega) (Nat.zero_le _) (Blk.new w7 35 ({ x with d := d' } : Wr).cells.toArray) (fun e => by have := HWB.out _ e; omega) hone6 (fun y hy => by
          obtain ⟨_, _, e⟩ := ownsRow_slice (HF9.out.num y hy).1
          rw [e]; rfl)).mono ?_
        clear hf8 hb9
        rintro e w9 ⟨v9, rfl, hrow9, hk9, hv9⟩
        obtain ⟨A9, c9, rfl⟩ := ownsRow_slice hrow9
        have HR9 := Lib.hid hrow9
        have HK9 := Lib.hid hk9
        have HV9 := Lib.hid hv9
        have hb10 := HF9.out.blk.keeps hk9 HF9.out.gw
        have d2 : w9.cell? ⟨g, 2, none⟩ = some (.slice A3 ws.length c3) := hb10.cell 2
        have f2 := hb10.frozen 2
        have gl9 := hb10.lt
        clear hrow9 hv9 hb10
        refine hK.out _ _ ?_ ?_
        · exact moved (hk9.more fun i _ e => .inr e) (by decide)
        clear hK K
        try simp only [Act.put, List.setIfInBounds_toArray, List.set_cons_zero, List.set_cons_succ]
        -- 10 Op.nilCheck (Operand.tmp 96)
        refine wpMonoJ_take' 10 (v := ?_) rfl (by kernel_rfl) (by kernel_rfl) (by kernel_rfl) (by rfl) (fun _ _ _ h => h) (by rfl) ?_ ?_
        rotate_left
        · (intro W hSw; (first | (have hgW := HF7.out.blk.drew.keeps (X := nobody) hSw (fun h => h); have y2 : W.cell? ⟨g, 2, none⟩ = some (.slice A3 ws.length c3) := hgW.cell 2; have gl := hgW.lt) | skip)
           go_simp; first | done | rfl)
        try simp only [Act.put, List.setIfInBounds_toArray, List.set_cons_zero, List.set_cons_succ]
        -- 11 Op.fieldAddr 76 (Operand.tmp 106) 2
        refine wpMonoJ_take' 11 (v := ?_) rfl (by kernel_rfl) (by kernel_rfl) (by kernel_rfl) (by rfl) (fun _ _ _ h => h) (by rfl) ?_ ?_
        rotate_left
        · (intro W hSw; (first | (have hgW := HF7.out.blk.drew.keeps (X := nobody) hSw (fun h => h); have y2 : W.cell? ⟨g, 2, none⟩ = some (.slice A3 ws.length c3) := hgW.cell 2; have gl := hgW.lt) | skip)
           go_simp; first | done | rfl)
        try simp only [Act.put, List.setIfInBounds_toArray, List.set_cons_zero, List.set_cons_succ]
        -- EFFECT 12 Op.store 25 (Operand.tmp 107) (Operand.tmp 105)
        refine wpMonoJ_one' 12 (by kernel_rfl) rfl (by rfl) (fun K hK => ?_)
        go_simp
        refine hK.out _ _ ?_ ?_
        · exact moved ((Keeps.set1 w9 g 2 _).more fun i _ e => .inl e) (by decide)
        clear hK K
        try simp only [Act.put]
        refine wpMonoJ_done (by kernel_rfl) ?_ _
        have hIN := HF9.out.insert HSM.out (by have := HB9.out.size; omega) hlen Hk.out.1 HR9.out HK9.out HV9.out (y := ({ x with d := d' } : Wr)) (HN9.out.base (Nat.le_of_lt hs7)) ⟨⟨hrp.r0, hrp.r1⟩, ⟨hrp.n0, hrp.n1⟩⟩
        have HKW := Lib.hid (show Keeps S w (w9.setCell ⟨g, 2, none⟩ (.slice A9 (ws.length + 1) c9)) from ((Keeps.of_below (below_step HB7.out HB9.out)).trans (HK9.out.more fun i _ e => HF9.out.inW i e)).trans ((Keeps.set1 w9 g 2 _).more fun i _ e => by rw [show i = g from e]; exact HF9.out.inG))
        have HIN := Lib.hid hIN
        generalize w9.setCell ⟨g, 2, none⟩ (.slice A9 (ws.length + 1) c9) = w10 at *
        clear hIN hk9 d2 f2
        go_wp2_with fail
        refine (drain_any g rg _ ap _ _ _ w10 HIN.out).mono ?_
        rintro e w11 ⟨vo, a, l, out, S3, rfl, hdr, hno⟩
        have HRR := Lib.hid (show OfferR S g rg ap ws x w (.returned (.tuple #[vo, .nilIface])) w11 from ⟨k, Hk.out, .inr ⟨hoc, d', vo, a, l, out, S3, rfl, hdr.from HKW.out (fun i hi => hi.1), hno⟩⟩)
        obtain ⟨A12, c12, rfl⟩ := ownsRow_slice hdr.2.2.1
        clear hdr hno
        go_wp2
        exact bodyPost_ret (v := .tuple #[.slice A12 out.length c12, .nilIface]) (by simp [results, Try.results14, go_sem]) rfl HRR.out
end Go.Proofs.Ytedkcpncomgboaa.dep
