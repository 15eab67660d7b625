/- The document's Offer: what it answers; the list behind it. -/
import Derived.Test.YtedkcpncomgboaaOwnRf
import Derived.Test.YtedkcpncomgboaaRightRef
namespace Go.Proofs.Ytedkcpncomgboaa.dep
open Go Go.RowKit Go.Proofs.Ytedkcpncomgboaa.base Go.Proofs.Ytedkcpncomgboaa.rowe Go.Proofs.Ytedkcpncomgboaa.wire Go.Proofs.Ytedkcpncomgboaa.vec Go.Proofs.Ytedkcpncomgboaa.cmp Go.Proofs.Ytedkcpncomgboaa.with_ Go.Proofs.Ytedkcpncomgboaa.ref Go.Proofs.Ytedkcpncomgboaa.monoj

theorem append_types {P : Program} {w : World} {t u ty e e' : TypeId} {i : TypeInfo} (ht : P.underlying t = some (.slice e)) (hu : P.underlying u = some (.slice e')) (hi : P.info? e = some i) (A : Option Addr) (n c : Nat) (x : Value) : (Builtin.append_ #[t, u] ty #[.slice A n c, x]).run P w = (Builtin.append_ #[t, t] ty #[.slice A n c, x]).run P w := by
  unfold Builtin.append_
  simp [run_underlying ht, run_underlying hu, sizeOf, typeInfo, hi]
theorem wpList_append_two {P : Program} {w : World} {ops : Array Oper} {rest : List Oper} {o : Oper} {a : Act} {Q : Exit → Act → World → Prop} (hgd : o.guard = none) (s x : Operand) (t u : TypeId)
    (ho : o.op = .call { callee := .builtin .append, args := #[s, x], argTypes := #[t, u] })
    (base : Nat) (e e' : TypeId) (i : TypeInfo) (z : Value) (size bytes : Nat) (ht : P.underlying t = some (.slice e)) (hu : P.underlying u = some (.slice e')) (hi : P.info? e = some i) (hz : i.zero = some z)
    (hsize : i.size = size) (hby : i.bytes = bytes) (hzs : z.cells.size = size) (hsz : 0 < size)
    (v : Value) (n : Nat) (xs : List Value) (hs : a.eval s = v) (hown : w.ownsRow base e size v n xs)
    (B : Nat) (A : Option Addr) (m c : Nat) (news : List Value) (hx : a.eval x = .slice A m c) (hr : Reads w B size A m news) (h1 : ∀ u ∈ news, u.oneCell' = true)
    (h63 : n + m ≤ maxLen) (hbytes : (n + m) * bytes ≤ 140737488355328) (hbase : base ≤ w.heap.size)
    (h : ∀ v' w', w'.ownsRow base e size v' (n + m) (xs ++ news) → w.grownBy w' v.ownBlock → (v'.ownBlock = v.ownBlock ∨ v'.ownBlock = some w.heap.size) → wpList P ops Q rest (a.put o.dst v') w') : wpList P ops Q (o :: rest) a w := by
  refine wpList_plain hgd fun K hK => ?_
  obtain ⟨v', w', hrun, h2, h3, h4⟩ := run_append_any (P := P) w base t o.type e i z size bytes ht hi hz hsize hby hzs hsz v n xs hown B A m c news hr h1 h63 hbytes hbase
  obtain ⟨Av, cv, rfl⟩ := ownsRow_slice hown
  unfold Oper.wp execOp
  simp only [ho, resolve, invoke, builtin, Sem.run_bind, Sem.run_pure, Result.andThen_ok, List.map_toArray, List.map_cons, List.map_nil, hs, hx, append_types ht hu hi, hrun]
  exact hK _ _ (h v' w' h2 h3 h4)
theorem cells10 {w : World} {g : Nat} {t : TypeId} {a0 a1 a2 a3 a4 a5 a6 a7 a8 a9 : Value} (h : Blk w g t #[a0, a1, a2, a3, a4, a5, a6, a7, a8, a9]) :
    w.cell? ⟨g, 0, none⟩ = some a0 ∧ w.cell? ⟨g, 1, none⟩ = some a1 ∧ w.cell? ⟨g, 2, none⟩ = some a2 ∧ w.cell? ⟨g, 3, none⟩ = some a3 ∧ w.cell? ⟨g, 4, none⟩ = some a4 ∧ w.cell? ⟨g, 5, none⟩ = some a5 ∧ w.cell? ⟨g, 6, none⟩ = some a6 ∧ w.cell? ⟨g, 7, none⟩ = some a7 ∧ w.cell? ⟨g, 8, none⟩ = some a8 ∧ w.cell? ⟨g, 9, none⟩ = some a9 :=
  ⟨h.cell 0, h.cell 1, h.cell 2, h.cell 3, h.cell 4, h.cell 5, h.cell 6, h.cell 7, h.cell 8, h.cell 9⟩
def OfferQ (R : Nat → Prop) (g : Nat) (rg : Int) (ap : List Int) (L : List Wr) (x : Wr) (w : World) (e : Ending) (w' : World) : Prop :=
  (offR rg ap L x ≠ 0 ∧ e = .returned (.tuple #[.slice none 0 0, .int .i64 (offR rg ap L x)]) ∧ Below w.heap.size w w') ∨
    (offR rg ap L x = 0 ∧ ∃ d' vo a l out R', e = .returned (.tuple #[vo, .int .i64 0]) ∧ DrainQ w R g rg ap (L ++ [({ x with d := d' } : Wr)]) vo w' a l out R' ∧ ∀ j, j < l.length → readyB a (l.getD j wrZ) = false)
set_option maxRecDepth 100000 in
set_option maxHeartbeats 8000000 in
theorem offer_ref (g : Nat) (rg : Int) (R : Nat → Prop) (ap : List Int) (L : List Wr) (va vl : Value) (x : Wr) (A2 : Option Addr) (n2 c2 : Nat) (w : World) (h : RIn w R g rg ap L va vl) (hd : x.d = .slice A2 n2 c2) (hx : Vec w w.heap.size A2 n2 c2 x.z) (h2 : n2 ≤ 1000000) (hlen : L.length < 1000) :
    Calls Try.prog 25 #[.pointer (some ⟨g, 0, none⟩), .agg ⟨x.cells⟩] w (OfferQ R g rg ap L x w) := by
  obtain ⟨xr, xn, xt, xs, d, xz, xe, xk, xv, xg, xl⟩ := x
  dsimp only at hd hx
  subst hd
  unfold Wr.cells
  dsimp only
  have hb0 := below_new w (.cells #[.int .i64 xr, .int .i64 xn, .int .i64 xt, .int .i64 xs, .slice A2 n2 c2, .string xe, .string xk, .string xv, .bool xg, .int .i64 xl] 35)
  have HX0 := Lib.hid (Blk.new w 35 #[.int .i64 xr, .int .i64 xn, .int .i64 xt, .int .i64 xs, .slice A2 n2 c2, .string xe, .string xk, .string xv, .bool xg, .int .i64 xl])
  have HF0 := Lib.hid (h.below hb0)
  have HV0 := Lib.hid ((hx.below hb0).more hb0.size)
  have HB0 := Lib.hid hb0
  have HSM := Lib.hid (show ∀ i, R i → i < w.heap.size from h.small)
  have hgx : g < w.heap.size := h.blk.lt
  have ha16 := h.afew
  have hap := h.apb xr
  clear h hx hb0
  go_enter Try.func25, Try.ntmps25
  go_wp2_with fail
  generalize w.alloc (.cells #[.int .i64 xr, .int .i64 xn, .int .i64 xt, .int .i64 xs, .slice A2 n2 c2, .string xe, .string xk, .string xv, .bool xg, .int .i64 xl] 35) = w0 at *
  cases hrt : rightB ⟨xr, xn, xt, xs, .slice A2 n2 c2, xz, xe, xk, xv, xg, xl⟩ with
  | false =>
    have hoc : offR rg ap L ⟨xr, xn, xt, xs, .slice A2 n2 c2, xz, xe, xk, xv, xg, xl⟩ = 1 := by unfold offR; rw [if_pos (.inl hrt)]
    have Hrt := Lib.hid hrt
    have HOC := Lib.hid hoc
    clear hrt hoc
    refine wp_region_mono nobody (by kernel_rfl) ?_
    -- 0 Op.load 35 (Operand.tmp 3)
    refine wpMono_take' 0 (v := ?_) rfl (by kernel_rfl) (by kernel_rfl) (by kernel_rfl) (fun _ _ _ h => h) (by rfl) ?_ ?_
    rotate_left
    · (intro W hSw; (first | (have hk := HX0.out.drew.keeps (X := nobody) hSw (fun h => h); obtain ⟨k0, k1, k2, k3, k4, k5, k6, k7, k8, k9⟩ := cells10 hk; have kl := hk.lt) | (have hk := (HX0.out.drew.below hb1 HX0.out.lt).keeps (X := nobody) hSw (fun h => h); have k0 : W.cell? ⟨w.heap.size, 0, none⟩ = some (.int .i64 xr) := hk.cell 0; have kl := hk.lt; have hg := (HF0.out.blk.drew.below hb1 HF0.out.blk.lt).keeps (X := nobody) hSw (fun h => h); have y0 : W.cell? ⟨g, 0, none⟩ = some (.int .i64 rg) := hg.cell 0; have gl := hg.lt) | skip)
       go_simp; first | done | rfl)
    try simp only [Act.put, List.setIfInBounds_toArray, List.set_cons_zero, List.set_cons_succ]
    (try rw [rfl])
    -- EFFECT 1 Op.call { callee := Callee.value (Operand.func 49), args := #[Operand.tmp 8], argTypes := #[35] }
    refine wpMono_one' 1 (by kernel_rfl) rfl (by rfl) (fun K hK => ?_)
    go_simp
    refine (right_ref ⟨xr, xn, xt, xs, .slice A2 n2 c2, xz, xe, xk, xv, xg, xl⟩ w0.drew ⟨A2, n2, c2, rfl, HV0.out.1, Nat.le_trans HV0.out.2.1 HV0.out.2.2.1, (show Vec w0.drew w0.drew.heap.size A2 n2 c2 xz from HV0.out.below (Below.refl _ w0).drew).2.2.2.1⟩).mono ?_
    rintro e w1 ⟨rfl, hb1⟩
    rw [Hrt.out]
    refine hK.out _ _ ?_ ?_
    · exact .of_below hb1
    clear hK K
    try simp only [Act.put, List.setIfInBounds_toArray, List.set_cons_zero, List.set_cons_succ]
    (try rw [rfl])
    -- 2 Op.unOp UnOp.not 4 (Operand.tmp 9)
    refine wpMono_take' 2 (v := ?_) rfl (by kernel_rfl) (by kernel_rfl) (by kernel_rfl) (fun _ _ _ h => h) (by rfl) ?_ ?_
    rotate_left
    · (intro W hSw; (first | (have hk := HX0.out.drew.keeps (X := nobody) hSw (fun h => h); obtain ⟨k0, k1, k2, k3, k4, k5, k6, k7, k8, k9⟩ := cells10 hk; have kl := hk.lt) | (have hk := (HX0.out.drew.below hb1 HX0.out.lt).keeps (X := nobody) hSw (fun h => h); have k0 : W.cell? ⟨w.heap.size, 0, none⟩ = some (.int .i64 xr) := hk.cell 0; have kl := hk.lt; have hg := (HF0.out.blk.drew.below hb1 HF0.out.blk.lt).keeps (X := nobody) hSw (fun h => h); have y0 : W.cell? ⟨g, 0, none⟩ = some (.int .i64 rg) := hg.cell 0; have gl := hg.lt) | skip)
       go_simp; first | done | rfl)
    try simp only [Act.put, List.setIfInBounds_toArray, List.set_cons_zero, List.set_cons_succ]
    (try rw [rfl])
    -- 3 Op.move (Operand.tmp 10)
    refine wpMono_take' 3 (v := ?_) rfl (by kernel_rfl) (by kernel_rfl) (by kernel_rfl) (fun _ _ _ h => h) (by rfl) ?_ ?_
    rotate_left
    · (intro W hSw; (first | (have hk := HX0.out.drew.keeps (X := nobody) hSw (fun h => h); obtain ⟨k0, k1, k2, k3, k4, k5, k6, k7, k8, k9⟩ := cells10 hk; have kl := hk.lt) | (have hk := (HX0.out.drew.below hb1 HX0.out.lt).keeps (X := nobody) hSw (fun h => h); have k0 : W.cell? ⟨w.heap.size, 0, none⟩ = some (.int .i64 xr) := hk.cell 0; have kl := hk.lt; have hg := (HF0.out.blk.drew.below hb1 HF0.out.blk.lt).keeps (X := nobody) hSw (fun h => h); have y0 : W.cell? ⟨g, 0, none⟩ = some (.int .i64 rg) := hg.cell 0; have gl := hg.lt) | skip)
       go_simp; first | done | rfl)
    try simp only [Act.put, List.setIfInBounds_toArray, List.set_cons_zero, List.set_cons_succ]
    (try rw [rfl])
    -- 4 Op.fieldAddr 35 (Operand.tmp 3) 0
    refine wpMono_skip' 4 rfl (by kernel_rfl) (by kernel_rfl) (by kernel_rfl) (fun _ _ _ h => h) (by rfl) ?_
    try simp only [Act.put, List.setIfInBounds_toArray, List.set_cons_zero, List.set_cons_succ]
    (try rw [rfl])
    -- 5 Op.load 3 (Operand.tmp 12)
    refine wpMono_skip' 5 rfl (by kernel_rfl) (by kernel_rfl) (by kernel_rfl) (fun _ _ _ h => h) (by rfl) ?_
    try simp only [Act.put, List.setIfInBounds_toArray, List.set_cons_zero, List.set_cons_succ]
    (try rw [rfl])
    -- 6 Op.move (Operand.tmp 0)
    refine wpMono_skip' 6 rfl (by kernel_rfl) (by kernel_rfl) (by kernel_rfl) (fun _ _ _ h => h) (by rfl) ?_
    try simp only [Act.put, List.setIfInBounds_toArray, List.set_cons_zero, List.set_cons_succ]
    (try rw [rfl])
    -- 7 Op.nilCheck (Operand.tmp 14)
    refine wpMono_skip' 7 rfl (by kernel_rfl) (by kernel_rfl) (by kernel_rfl) (fun _ _ _ h => h) (by rfl) ?_
    try simp only [Act.put, List.setIfInBounds_toArray, List.set_cons_zero, List.set_cons_succ]
    (try rw [rfl])
    -- 8 Op.fieldAddr 68 (Operand.tmp 15) 0
    refine wpMono_skip' 8 rfl (by kernel_rfl) (by kernel_rfl) (by kernel_rfl) (fun _ _ _ h => h) (by rfl) ?_
    try simp only [Act.put, List.setIfInBounds_toArray, List.set_cons_zero, List.set_cons_succ]
    (try rw [rfl])
    -- 9 Op.load 3 (Operand.tmp 16)
    refine wpMono_skip' 9 rfl (by kernel_rfl) (by kernel_rfl) (by kernel_rfl) (fun _ _ _ h => h) (by rfl) ?_
    try simp only [Act.put, List.setIfInBounds_toArray, List.set_cons_zero, List.set_cons_succ]
    (try rw [rfl])
    -- 10 Op.binOp BinOp.eql 3 (Operand.tmp 13) (Operand.tmp 17) 3
    refine wpMono_skip' 10 rfl (by kernel_rfl) (by kernel_rfl) (by kernel_rfl) (fun _ _ _ h => h) (by rfl) ?_
    try simp only [Act.put, List.setIfInBounds_toArray, List.set_cons_zero, List.set_cons_succ]
    (try rw [rfl])
    -- 11 Op.pick (Operand.tmp 11) (Operand.const (Value.bool true)) (Operand.tmp 18)
    refine wpMono_take' 11 (v := ?_) rfl (by kernel_rfl) (by kernel_rfl) (by kernel_rfl) (fun _ _ _ h => h) (by rfl) ?_ ?_
    rotate_left
    · (intro W hSw; (first | (have hk := HX0.out.drew.keeps (X := nobody) hSw (fun h => h); obtain ⟨k0, k1, k2, k3, k4, k5, k6, k7, k8, k9⟩ := cells10 hk; have kl := hk.lt) | (have hk := (HX0.out.drew.below hb1 HX0.out.lt).keeps (X := nobody) hSw (fun h => h); have k0 : W.cell? ⟨w.heap.size, 0, none⟩ = some (.int .i64 xr) := hk.cell 0; have kl := hk.lt; have hg := (HF0.out.blk.drew.below hb1 HF0.out.blk.lt).keeps (X := nobody) hSw (fun h => h); have y0 : W.cell? ⟨g, 0, none⟩ = some (.int .i64 rg) := hg.cell 0; have gl := hg.lt) | skip)
       go_simp; first | done | rfl)
    try simp only [Act.put, List.setIfInBounds_toArray, List.set_cons_zero, List.set_cons_succ]
    (try rw [rfl])
    refine wpMono_done (by kernel_rfl) ?_ _
    have hb01 : Below w0.heap.size w0 w1 := below_ofDrew hb1
    have HB1 := Lib.hid (below_step HB0.out hb01)
    have HX1 := Lib.hid (HX0.out.below hb01 HX0.out.lt)
    have HF1 := Lib.hid (HF0.out.below hb01)
    have HV1 := Lib.hid ((HV0.out.below hb01).more hb01.size)
    clear hb1 hb01 HX0 HF0 HV0 HB0
    have HRR := Lib.hid (show OfferQ R g rg ap L ⟨xr, xn, xt, xs, .slice A2 n2 c2, xz, xe, xk, xv, xg, xl⟩ w (.returned (.tuple #[.slice none 0 0, .int .i64 1])) w1 from .inl ⟨by rw [HOC.out]; decide, by rw [HOC.out], HB1.out⟩)
    go_wp2
    go_ret2
    exact HRR.out
  | true =>
  have Hrt := Lib.hid hrt
  clear hrt
  by_cases hq : xr = rg
  · have dq : (xr == rg) = true := by simpa using hq
    have HOC := Lib.hid (show offR rg ap L ⟨xr, xn, xt, xs, .slice A2 n2 c2, xz, xe, xk, xv, xg, xl⟩ = 1 from by unfold offR; rw [if_pos (.inr hq)])
    have HQ := Lib.hid hq
    clear hq
    refine wp_region_mono nobody (by kernel_rfl) ?_
    -- 0 Op.load 35 (Operand.tmp 3)
    refine wpMono_take' 0 (v := ?_) rfl (by kernel_rfl) (by kernel_rfl) (by kernel_rfl) (fun _ _ _ h => h) (by rfl) ?_ ?_
    rotate_left
    · (intro W hSw; (first | (have hk := HX0.out.drew.keeps (X := nobody) hSw (fun h => h); obtain ⟨k0, k1, k2, k3, k4, k5, k6, k7, k8, k9⟩ := cells10 hk; have kl := hk.lt) | (have hk := (HX0.out.drew.below hb1 HX0.out.lt).keeps (X := nobody) hSw (fun h => h); have k0 : W.cell? ⟨w.heap.size, 0, none⟩ = some (.int .i64 xr) := hk.cell 0; have kl := hk.lt; have hg := (HF0.out.blk.drew.below hb1 HF0.out.blk.lt).keeps (X := nobody) hSw (fun h => h); have y0 : W.cell? ⟨g, 0, none⟩ = some (.int .i64 rg) := hg.cell 0; have gl := hg.lt) | skip)
       go_simp; first | done | rfl)
    try simp only [Act.put, List.setIfInBounds_toArray, List.set_cons_zero, List.set_cons_succ]
    (try rw [dq])
    -- EFFECT 1 Op.call { callee := Callee.value (Operand.func 49), args := #[Operand.tmp 8], argTypes := #[35] }
    refine wpMono_one' 1 (by kernel_rfl) rfl (by rfl) (fun K hK => ?_)
    go_simp
    refine (right_ref ⟨xr, xn, xt, xs, .slice A2 n2 c2, xz, xe, xk, xv, xg, xl⟩ w0.drew ⟨A2, n2, c2, rfl, HV0.out.1, Nat.le_trans HV0.out.2.1 HV0.out.2.2.1, (show Vec w0.drew w0.drew.heap.size A2 n2 c2 xz from HV0.out.below (Below.refl _ w0).drew).2.2.2.1⟩).mono ?_
    rintro e w1 ⟨rfl, hb1⟩
    rw [Hrt.out]
    refine hK.out _ _ ?_ ?_
    · exact .of_below hb1
    clear hK K
    try simp only [Act.put, List.setIfInBounds_toArray, List.set_cons_zero, List.set_cons_succ]
    (try rw [dq])
    -- 2 Op.unOp UnOp.not 4 (Operand.tmp 9)
    refine wpMono_take' 2 (v := ?_) rfl (by kernel_rfl) (by kernel_rfl) (by kernel_rfl) (fun _ _ _ h => h) (by rfl) ?_ ?_
    rotate_left
    · (intro W hSw; (first | (have hk := HX0.out.drew.keeps (X := nobody) hSw (fun h => h); obtain ⟨k0, k1, k2, k3, k4, k5, k6, k7, k8, k9⟩ := cells10 hk; have kl := hk.lt) | (have hk := (HX0.out.drew.below hb1 HX0.out.lt).keeps (X := nobody) hSw (fun h => h); have k0 : W.cell? ⟨w.heap.size, 0, none⟩ = some (.int .i64 xr) := hk.cell 0; have kl := hk.lt; have hg := (HF0.out.blk.drew.below hb1 HF0.out.blk.lt).keeps (X := nobody) hSw (fun h => h); have y0 : W.cell? ⟨g, 0, none⟩ = some (.int .i64 rg) := hg.cell 0; have gl := hg.lt) | skip)
       go_simp; first | done | rfl)
    try simp only [Act.put, List.setIfInBounds_toArray, List.set_cons_zero, List.set_cons_succ]
    (try rw [dq])
    -- 3 Op.move (Operand.tmp 10)
    refine wpMono_take' 3 (v := ?_) rfl (by kernel_rfl) (by kernel_rfl) (by kernel_rfl) (fun _ _ _ h => h) (by rfl) ?_ ?_
    rotate_left
    · (intro W hSw; (first | (have hk := HX0.out.drew.keeps (X := nobody) hSw (fun h => h); obtain ⟨k0, k1, k2, k3, k4, k5, k6, k7, k8, k9⟩ := cells10 hk; have kl := hk.lt) | (have hk := (HX0.out.drew.below hb1 HX0.out.lt).keeps (X := nobody) hSw (fun h => h); have k0 : W.cell? ⟨w.heap.size, 0, none⟩ = some (.int .i64 xr) := hk.cell 0; have kl := hk.lt; have hg := (HF0.out.blk.drew.below hb1 HF0.out.blk.lt).keeps (X := nobody) hSw (fun h => h); have y0 : W.cell? ⟨g, 0, none⟩ = some (.int .i64 rg) := hg.cell 0; have gl := hg.lt) | skip)
       go_simp; first | done | rfl)
    try simp only [Act.put, List.setIfInBounds_toArray, List.set_cons_zero, List.set_cons_succ]
    (try rw [dq])
    -- 4 Op.fieldAddr 35 (Operand.tmp 3) 0
    refine wpMono_take' 4 (v := ?_) rfl (by kernel_rfl) (by kernel_rfl) (by kernel_rfl) (fun _ _ _ h => h) (by rfl) ?_ ?_
    rotate_left
    · (intro W hSw; (first | (have hk := HX0.out.drew.keeps (X := nobody) hSw (fun h => h); obtain ⟨k0, k1, k2, k3, k4, k5, k6, k7, k8, k9⟩ := cells10 hk; have kl := hk.lt) | (have hk := (HX0.out.drew.below hb1 HX0.out.lt).keeps (X := nobody) hSw (fun h => h); have k0 : W.cell? ⟨w.heap.size, 0, none⟩ = some (.int .i64 xr) := hk.cell 0; have kl := hk.lt; have hg := (HF0.out.blk.drew.below hb1 HF0.out.blk.lt).keeps (X := nobody) hSw (fun h => h); have y0 : W.cell? ⟨g, 0, none⟩ = some (.int .i64 rg) := hg.cell 0; have gl := hg.lt) | skip)
       go_simp; first | done | rfl)
    try simp only [Act.put, List.setIfInBounds_toArray, List.set_cons_zero, List.set_cons_succ]
    (try rw [dq])
    -- 5 Op.load 3 (Operand.tmp 12)
    refine wpMono_take' 5 (v := ?_) rfl (by kernel_rfl) (by kernel_rfl) (by kernel_rfl) (fun _ _ _ h => h) (by rfl) ?_ ?_
    rotate_left
    · (intro W hSw; (first | (have hk := HX0.out.drew.keeps (X := nobody) hSw (fun h => h); obtain ⟨k0, k1, k2, k3, k4, k5, k6, k7, k8, k9⟩ := cells10 hk; have kl := hk.lt) | (have hk := (HX0.out.drew.below hb1 HX0.out.lt).keeps (X := nobody) hSw (fun h => h); have k0 : W.cell? ⟨w.heap.size, 0, none⟩ = some (.int .i64 xr) := hk.cell 0; have kl := hk.lt; have hg := (HF0.out.blk.drew.below hb1 HF0.out.blk.lt).keeps (X := nobody) hSw (fun h => h); have y0 : W.cell? ⟨g, 0, none⟩ = some (.int .i64 rg) := hg.cell 0; have gl := hg.lt) | skip)
       go_simp; first | done | rfl)
    try simp only [Act.put, List.setIfInBounds_toArray, List.set_cons_zero, List.set_cons_succ]
    (try rw [dq])
    -- 6 Op.move (Operand.tmp 0)
    refine wpMono_take' 6 (v := ?_) rfl (by kernel_rfl) (by kernel_rfl) (by kernel_rfl) (fun _ _ _ h => h) (by rfl) ?_ ?_
    rotate_left
    · (intro W hSw; (first | (have hk := HX0.out.drew.keeps (X := nobody) hSw (fun h => h); obtain ⟨k0, k1, k2, k3, k4, k5, k6, k7, k8, k9⟩ := cells10 hk; have kl := hk.lt) | (have hk := (HX0.out.drew.below hb1 HX0.out.lt).keeps (X := nobody) hSw (fun h => h); have k0 : W.cell? ⟨w.heap.size, 0, none⟩ = some (.int .i64 xr) := hk.cell 0; have kl := hk.lt; have hg := (HF0.out.blk.drew.below hb1 HF0.out.blk.lt).keeps (X := nobody) hSw (fun h => h); have y0 : W.cell? ⟨g, 0, none⟩ = some (.int .i64 rg) := hg.cell 0; have gl := hg.lt) | skip)
       go_simp; first | done | rfl)
    try simp only [Act.put, List.setIfInBounds_toArray, List.set_cons_zero, List.set_cons_succ]
    (try rw [dq])
    -- 7 Op.nilCheck (Operand.tmp 14)
    refine wpMono_take' 7 (v := ?_) rfl (by kernel_rfl) (by kernel_rfl) (by kernel_rfl) (fun _ _ _ h => h) (by rfl) ?_ ?_
    rotate_left
    · (intro W hSw; (first | (have hk := HX0.out.drew.keeps (X := nobody) hSw (fun h => h); obtain ⟨k0, k1, k2, k3, k4, k5, k6, k7, k8, k9⟩ := cells10 hk; have kl := hk.lt) | (have hk := (HX0.out.drew.below hb1 HX0.out.lt).keeps (X := nobody) hSw (fun h => h); have k0 : W.cell? ⟨w.heap.size, 0, none⟩ = some (.int .i64 xr) := hk.cell 0; have kl := hk.lt; have hg := (HF0.out.blk.drew.below hb1 HF0.out.blk.lt).keeps (X := nobody) hSw (fun h => h); have y0 : W.cell? ⟨g, 0, none⟩ = some (.int .i64 rg) := hg.cell 0; have gl := hg.lt) | skip)
       go_simp; first | done | rfl)
    try simp only [Act.put, List.setIfInBounds_toArray, List.set_cons_zero, List.set_cons_succ]
    (try rw [dq])
    -- 8 Op.fieldAddr 68 (Operand.tmp 15) 0
    refine wpMono_take' 8 (v := ?_) rfl (by kernel_rfl) (by kernel_rfl) (by kernel_rfl) (fun _ _ _ h => h) (by rfl) ?_ ?_
    rotate_left
    · (intro W hSw; (first | (have hk := HX0.out.drew.keeps (X := nobody) hSw (fun h => h); obtain ⟨k0, k1, k2, k3, k4, k5, k6, k7, k8, k9⟩ := cells10 hk; have kl := hk.lt) | (have hk := (HX0.out.drew.below hb1 HX0.out.lt).keeps (X := nobody) hSw (fun h => h); have k0 : W.cell? ⟨w.heap.size, 0, none⟩ = some (.int .i64 xr) := hk.cell 0; have kl := hk.lt; have hg := (HF0.out.blk.drew.below hb1 HF0.out.blk.lt).keeps (X := nobody) hSw (fun h => h); have y0 : W.cell? ⟨g, 0, none⟩ = some (.int .i64 rg) := hg.cell 0; have gl := hg.lt) | skip)
       go_simp; first | done | rfl)
    try simp only [Act.put, List.setIfInBounds_toArray, List.set_cons_zero, List.set_cons_succ]
    (try rw [dq])
    -- 9 Op.load 3 (Operand.tmp 16)
    refine wpMono_take' 9 (v := ?_) rfl (by kernel_rfl) (by kernel_rfl) (by kernel_rfl) (fun _ _ _ h => h) (by rfl) ?_ ?_
    rotate_left
    · (intro W hSw; (first | (have hk := HX0.out.drew.keeps (X := nobody) hSw (fun h => h); obtain ⟨k0, k1, k2, k3, k4, k5, k6, k7, k8, k9⟩ := cells10 hk; have kl := hk.lt) | (have hk := (HX0.out.drew.below hb1 HX0.out.lt).keeps (X := nobody) hSw (fun h => h); have k0 : W.cell? ⟨w.heap.size, 0, none⟩ = some (.int .i64 xr) := hk.cell 0; have kl := hk.lt; have hg := (HF0.out.blk.drew.below hb1 HF0.out.blk.lt).keeps (X := nobody) hSw (fun h => h); have y0 : W.cell? ⟨g, 0, none⟩ = some (.int .i64 rg) := hg.cell 0; have gl := hg.lt) | skip)
       go_simp; first | done | rfl)
    try simp only [Act.put, List.setIfInBounds_toArray, List.set_cons_zero, List.set_cons_succ]
    (try rw [dq])
    -- 10 Op.binOp BinOp.eql 3 (Operand.tmp 13) (Operand.tmp 17) 3
    refine wpMono_take' 10 (v := ?_) rfl (by kernel_rfl) (by kernel_rfl) (by kernel_rfl) (fun _ _ _ h => h) (by rfl) ?_ ?_
    rotate_left
    · (intro W hSw; (first | (have hk := HX0.out.drew.keeps (X := nobody) hSw (fun h => h); obtain ⟨k0, k1, k2, k3, k4, k5, k6, k7, k8, k9⟩ := cells10 hk; have kl := hk.lt) | (have hk := (HX0.out.drew.below hb1 HX0.out.lt).keeps (X := nobody) hSw (fun h => h); have k0 : W.cell? ⟨w.heap.size, 0, none⟩ = some (.int .i64 xr) := hk.cell 0; have kl := hk.lt; have hg := (HF0.out.blk.drew.below hb1 HF0.out.blk.lt).keeps (X := nobody) hSw (fun h => h); have y0 : W.cell? ⟨g, 0, none⟩ = some (.int .i64 rg) := hg.cell 0; have gl := hg.lt) | skip)
       go_simp; first | done | rfl)
    try simp only [Act.put, List.setIfInBounds_toArray, List.set_cons_zero, List.set_cons_succ]
    (try rw [dq])
    -- 11 Op.pick (Operand.tmp 11) (Operand.const (Value.bool true)) (Operand.tmp 18)
    refine wpMono_take' 11 (v := ?_) rfl (by kernel_rfl) (by kernel_rfl) (by kernel_rfl) (fun _ _ _ h => h) (by rfl) ?_ ?_
    rotate_left
    · (intro W hSw; (first | (have hk := HX0.out.drew.keeps (X := nobody) hSw (fun h => h); obtain ⟨k0, k1, k2, k3, k4, k5, k6, k7, k8, k9⟩ := cells10 hk; have kl := hk.lt) | (have hk := (HX0.out.drew.below hb1 HX0.out.lt).keeps (X := nobody) hSw (fun h => h); have k0 : W.cell? ⟨w.heap.size, 0, none⟩ = some (.int .i64 xr) := hk.cell 0; have kl := hk.lt; have hg := (HF0.out.blk.drew.below hb1 HF0.out.blk.lt).keeps (X := nobody) hSw (fun h => h); have y0 : W.cell? ⟨g, 0, none⟩ = some (.int .i64 rg) := hg.cell 0; have gl := hg.lt) | skip)
       go_simp; first | done | rfl)
    try simp only [Act.put, List.setIfInBounds_toArray, List.set_cons_zero, List.set_cons_succ]
    (try rw [dq])
    refine wpMono_done (by kernel_rfl) ?_ _
    have hb01 : Below w0.heap.size w0 w1 := below_ofDrew hb1
    have HB1 := Lib.hid (below_step HB0.out hb01)
    have HX1 := Lib.hid (HX0.out.below hb01 HX0.out.lt)
    have HF1 := Lib.hid (HF0.out.below hb01)
    have HV1 := Lib.hid ((HV0.out.below hb01).more hb01.size)
    clear hb1 hb01 HX0 HF0 HV0 HB0
    have HRR := Lib.hid (show OfferQ R g rg ap L ⟨xr, xn, xt, xs, .slice A2 n2 c2, xz, xe, xk, xv, xg, xl⟩ w (.returned (.tuple #[.slice none 0 0, .int .i64 1])) w1 from .inl ⟨by rw [HOC.out]; decide, by rw [HOC.out], HB1.out⟩)
    go_wp2
    go_ret2
    exact HRR.out
  have dq : (xr == rg) = false := by simpa using hq
  have HQ := Lib.hid hq
  clear hq
  refine wp_region_mono nobody (by kernel_rfl) ?_
  -- 0 Op.load 35 (Operand.tmp 3)
  refine wpMono_take' 0 (v := ?_) rfl (by kernel_rfl) (by kernel_rfl) (by kernel_rfl) (fun _ _ _ h => h) (by rfl) ?_ ?_
  rotate_left
  · (intro W hSw; (first | (have hk := HX0.out.drew.keeps (X := nobody) hSw (fun h => h); obtain ⟨k0, k1, k2, k3, k4, k5, k6, k7, k8, k9⟩ := cells10 hk; have kl := hk.lt) | (have hk := (HX0.out.drew.below hb1 HX0.out.lt).keeps (X := nobody) hSw (fun h => h); have k0 : W.cell? ⟨w.heap.size, 0, none⟩ = some (.int .i64 xr) := hk.cell 0; have kl := hk.lt; have hg := (HF0.out.blk.drew.below hb1 HF0.out.blk.lt).keeps (X := nobody) hSw (fun h => h); have y0 : W.cell? ⟨g, 0, none⟩ = some (.int .i64 rg) := hg.cell 0; have gl := hg.lt) | skip)
     go_simp; first | done | rfl)
  try simp only [Act.put, List.setIfInBounds_toArray, List.set_cons_zero, List.set_cons_succ]
  (try rw [dq])
  -- EFFECT 1 Op.call { callee := Callee.value (Operand.func 49), args := #[Operand.tmp 8], argTypes := #[35] }
  refine wpMono_one' 1 (by kernel_rfl) rfl (by rfl) (fun K hK => ?_)
  go_simp
  refine (right_ref ⟨xr, xn, xt, xs, .slice A2 n2 c2, xz, xe, xk, xv, xg, xl⟩ w0.drew ⟨A2, n2, c2, rfl, HV0.out.1, Nat.le_trans HV0.out.2.1 HV0.out.2.2.1, (show Vec w0.drew w0.drew.heap.size A2 n2 c2 xz from HV0.out.below (Below.refl _ w0).drew).2.2.2.1⟩).mono ?_
  rintro e w1 ⟨rfl, hb1⟩
  rw [Hrt.out]
  refine hK.out _ _ ?_ ?_
  · exact .of_below hb1
  clear hK K
  try simp only [Act.put, List.setIfInBounds_toArray, List.set_cons_zero, List.set_cons_succ]
  (try rw [dq])
  -- 2 Op.unOp UnOp.not 4 (Operand.tmp 9)
  refine wpMono_take' 2 (v := ?_) rfl (by kernel_rfl) (by kernel_rfl) (by kernel_rfl) (fun _ _ _ h => h) (by rfl) ?_ ?_
  rotate_left
  · (intro W hSw; (first | (have hk := HX0.out.drew.keeps (X := nobody) hSw (fun h => h); obtain ⟨k0, k1, k2, k3, k4, k5, k6, k7, k8, k9⟩ := cells10 hk; have kl := hk.lt) | (have hk := (HX0.out.drew.below hb1 HX0.out.lt).keeps (X := nobody) hSw (fun h => h); have k0 : W.cell? ⟨w.heap.size, 0, none⟩ = some (.int .i64 xr) := hk.cell 0; have kl := hk.lt; have hg := (HF0.out.blk.drew.below hb1 HF0.out.blk.lt).keeps (X := nobody) hSw (fun h => h); have y0 : W.cell? ⟨g, 0, none⟩ = some (.int .i64 rg) := hg.cell 0; have gl := hg.lt) | skip)
     go_simp; first | done | rfl)
  try simp only [Act.put, List.setIfInBounds_toArray, List.set_cons_zero, List.set_cons_succ]
  (try rw [dq])
  -- 3 Op.move (Operand.tmp 10)
  refine wpMono_take' 3 (v := ?_) rfl (by kernel_rfl) (by kernel_rfl) (by kernel_rfl) (fun _ _ _ h => h) (by rfl) ?_ ?_
  rotate_left
  · (intro W hSw; (first | (have hk := HX0.out.drew.keeps (X := nobody) hSw (fun h => h); obtain ⟨k0, k1, k2, k3, k4, k5, k6, k7, k8, k9⟩ := cells10 hk; have kl := hk.lt) | (have hk := (HX0.out.drew.below hb1 HX0.out.lt).keeps (X := nobody) hSw (fun h => h); have k0 : W.cell? ⟨w.heap.size, 0, none⟩ = some (.int .i64 xr) := hk.cell 0; have kl := hk.lt; have hg := (HF0.out.blk.drew.below hb1 HF0.out.blk.lt).keeps (X := nobody) hSw (fun h => h); have y0 : W.cell? ⟨g, 0, none⟩ = some (.int .i64 rg) := hg.cell 0; have gl := hg.lt) | skip)
     go_simp; first | done | rfl)
  try simp only [Act.put, List.setIfInBounds_toArray, List.set_cons_zero, List.set_cons_succ]
  (try rw [dq])
  -- 4 Op.fieldAddr 35 (Operand.tmp 3) 0
  refine wpMono_take' 4 (v := ?_) rfl (by kernel_rfl) (by kernel_rfl) (by kernel_rfl) (fun _ _ _ h => h) (by rfl) ?_ ?_
  rotate_left
  · (intro W hSw; (first | (have hk := HX0.out.drew.keeps (X := nobody) hSw (fun h => h); obtain ⟨k0, k1, k2, k3, k4, k5, k6, k7, k8, k9⟩ := cells10 hk; have kl := hk.lt) | (have hk := (HX0.out.drew.below hb1 HX0.out.lt).keeps (X := nobody) hSw (fun h => h); have k0 : W.cell? ⟨w.heap.size, 0, none⟩ = some (.int .i64 xr) := hk.cell 0; have kl := hk.lt; have hg := (HF0.out.blk.drew.below hb1 HF0.out.blk.lt).keeps (X := nobody) hSw (fun h => h); have y0 : W.cell? ⟨g, 0, none⟩ = some (.int .i64 rg) := hg.cell 0; have gl := hg.lt) | skip)
     go_simp; first | done | rfl)
  try simp only [Act.put, List.setIfInBounds_toArray, List.set_cons_zero, List.set_cons_succ]
  (try rw [dq])
  -- 5 Op.load 3 (Operand.tmp 12)
  refine wpMono_take' 5 (v := ?_) rfl (by kernel_rfl) (by kernel_rfl) (by kernel_rfl) (fun _ _ _ h => h) (by rfl) ?_ ?_
  rotate_left
  · (intro W hSw; (first | (have hk := HX0.out.drew.keeps (X := nobody) hSw (fun h => h); obtain ⟨k0, k1, k2, k3, k4, k5, k6, k7, k8, k9⟩ := cells10 hk; have kl := hk.lt) | (have hk := (HX0.out.drew.below hb1 HX0.out.lt).keeps (X := nobody) hSw (fun h => h); have k0 : W.cell? ⟨w.heap.size, 0, none⟩ = some (.int .i64 xr) := hk.cell 0; have kl := hk.lt; have hg := (HF0.out.blk.drew.below hb1 HF0.out.blk.lt).keeps (X := nobody) hSw (fun h => h); have y0 : W.cell? ⟨g, 0, none⟩ = some (.int .i64 rg) := hg.cell 0; have gl := hg.lt) | skip)
     go_simp; first | done | rfl)
  try simp only [Act.put, List.setIfInBounds_toArray, List.set_cons_zero, List.set_cons_succ]
  (try rw [dq])
  -- 6 Op.move (Operand.tmp 0)
  refine wpMono_take' 6 (v := ?_) rfl (by kernel_rfl) (by kernel_rfl) (by kernel_rfl) (fun _ _ _ h => h) (by rfl) ?_ ?_
  rotate_left
  · (intro W hSw; (first | (have hk := HX0.out.drew.keeps (X := nobody) hSw (fun h => h); obtain ⟨k0, k1, k2, k3, k4, k5, k6, k7, k8, k9⟩ := cells10 hk; have kl := hk.lt) | (have hk := (HX0.out.drew.below hb1 HX0.out.lt).keeps (X := nobody) hSw (fun h => h); have k0 : W.cell? ⟨w.heap.size, 0, none⟩ = some (.int .i64 xr) := hk.cell 0; have kl := hk.lt; have hg := (HF0.out.blk.drew.below hb1 HF0.out.blk.lt).keeps (X := nobody) hSw (fun h => h); have y0 : W.cell? ⟨g, 0, none⟩ = some (.int .i64 rg) := hg.cell 0; have gl := hg.lt) | skip)
     go_simp; first | done | rfl)
  try simp only [Act.put, List.setIfInBounds_toArray, List.set_cons_zero, List.set_cons_succ]
  (try rw [dq])
  -- 7 Op.nilCheck (Operand.tmp 14)
  refine wpMono_take' 7 (v := ?_) rfl (by kernel_rfl) (by kernel_rfl) (by kernel_rfl) (fun _ _ _ h => h) (by rfl) ?_ ?_
  rotate_left
  · (intro W hSw; (first | (have hk := HX0.out.drew.keeps (X := nobody) hSw (fun h => h); obtain ⟨k0, k1, k2, k3, k4, k5, k6, k7, k8, k9⟩ := cells10 hk; have kl := hk.lt) | (have hk := (HX0.out.drew.below hb1 HX0.out.lt).keeps (X := nobody) hSw (fun h => h); have k0 : W.cell? ⟨w.heap.size, 0, none⟩ = some (.int .i64 xr) := hk.cell 0; have kl := hk.lt; have hg := (HF0.out.blk.drew.below hb1 HF0.out.blk.lt).keeps (X := nobody) hSw (fun h => h); have y0 : W.cell? ⟨g, 0, none⟩ = some (.int .i64 rg) := hg.cell 0; have gl := hg.lt) | skip)
     go_simp; first | done | rfl)
  try simp only [Act.put, List.setIfInBounds_toArray, List.set_cons_zero, List.set_cons_succ]
  (try rw [dq])
  -- 8 Op.fieldAddr 68 (Operand.tmp 15) 0
  refine wpMono_take' 8 (v := ?_) rfl (by kernel_rfl) (by kernel_rfl) (by kernel_rfl) (fun _ _ _ h => h) (by rfl) ?_ ?_
  rotate_left
  · (intro W hSw; (first | (have hk := HX0.out.drew.keeps (X := nobody) hSw (fun h => h); obtain ⟨k0, k1, k2, k3, k4, k5, k6, k7, k8, k9⟩ := cells10 hk; have kl := hk.lt) | (have hk := (HX0.out.drew.below hb1 HX0.out.lt).keeps (X := nobody) hSw (fun h => h); have k0 : W.cell? ⟨w.heap.size, 0, none⟩ = some (.int .i64 xr) := hk.cell 0; have kl := hk.lt; have hg := (HF0.out.blk.drew.below hb1 HF0.out.blk.lt).keeps (X := nobody) hSw (fun h => h); have y0 : W.cell? ⟨g, 0, none⟩ = some (.int .i64 rg) := hg.cell 0; have gl := hg.lt) | skip)
     go_simp; first | done | rfl)
  try simp only [Act.put, List.setIfInBounds_toArray, List.set_cons_zero, List.set_cons_succ]
  (try rw [dq])
  -- 9 Op.load 3 (Operand.tmp 16)
  refine wpMono_take' 9 (v := ?_) rfl (by kernel_rfl) (by kernel_rfl) (by kernel_rfl) (fun _ _ _ h => h) (by rfl) ?_ ?_
  rotate_left
  · (intro W hSw; (first | (have hk := HX0.out.drew.keeps (X := nobody) hSw (fun h => h); obtain ⟨k0, k1, k2, k3, k4, k5, k6, k7, k8, k9⟩ := cells10 hk; have kl := hk.lt) | (have hk := (HX0.out.drew.below hb1 HX0.out.lt).keeps (X := nobody) hSw (fun h => h); have k0 : W.cell? ⟨w.heap.size, 0, none⟩ = some (.int .i64 xr) := hk.cell 0; have kl := hk.lt; have hg := (HF0.out.blk.drew.below hb1 HF0.out.blk.lt).keeps (X := nobody) hSw (fun h => h); have y0 : W.cell? ⟨g, 0, none⟩ = some (.int .i64 rg) := hg.cell 0; have gl := hg.lt) | skip)
     go_simp; first | done | rfl)
  try simp only [Act.put, List.setIfInBounds_toArray, List.set_cons_zero, List.set_cons_succ]
  (try rw [dq])
  -- 10 Op.binOp BinOp.eql 3 (Operand.tmp 13) (Operand.tmp 17) 3
  refine wpMono_take' 10 (v := ?_) rfl (by kernel_rfl) (by kernel_rfl) (by kernel_rfl) (fun _ _ _ h => h) (by rfl) ?_ ?_
  rotate_left
  · (intro W hSw; (first | (have hk := HX0.out.drew.keeps (X := nobody) hSw (fun h => h); obtain ⟨k0, k1, k2, k3, k4, k5, k6, k7, k8, k9⟩ := cells10 hk; have kl := hk.lt) | (have hk := (HX0.out.drew.below hb1 HX0.out.lt).keeps (X := nobody) hSw (fun h => h); have k0 : W.cell? ⟨w.heap.size, 0, none⟩ = some (.int .i64 xr) := hk.cell 0; have kl := hk.lt; have hg := (HF0.out.blk.drew.below hb1 HF0.out.blk.lt).keeps (X := nobody) hSw (fun h => h); have y0 : W.cell? ⟨g, 0, none⟩ = some (.int .i64 rg) := hg.cell 0; have gl := hg.lt) | skip)
     go_simp; first | done | rfl)
  try simp only [Act.put, List.setIfInBounds_toArray, List.set_cons_zero, List.set_cons_succ]
  (try rw [dq])
  -- 11 Op.pick (Operand.tmp 11) (Operand.const (Value.bool true)) (Operand.tmp 18)
  refine wpMono_take' 11 (v := ?_) rfl (by kernel_rfl) (by kernel_rfl) (by kernel_rfl) (fun _ _ _ h => h) (by rfl) ?_ ?_
  rotate_left
  · (intro W hSw; (first | (have hk := HX0.out.drew.keeps (X := nobody) hSw (fun h => h); obtain ⟨k0, k1, k2, k3, k4, k5, k6, k7, k8, k9⟩ := cells10 hk; have kl := hk.lt) | (have hk := (HX0.out.drew.below hb1 HX0.out.lt).keeps (X := nobody) hSw (fun h => h); have k0 : W.cell? ⟨w.heap.size, 0, none⟩ = some (.int .i64 xr) := hk.cell 0; have kl := hk.lt; have hg := (HF0.out.blk.drew.below hb1 HF0.out.blk.lt).keeps (X := nobody) hSw (fun h => h); have y0 : W.cell? ⟨g, 0, none⟩ = some (.int .i64 rg) := hg.cell 0; have gl := hg.lt) | skip)
     go_simp; first | done | rfl)
  try simp only [Act.put, List.setIfInBounds_toArray, List.set_cons_zero, List.set_cons_succ]
  (try rw [dq])
  refine wpMono_done (by kernel_rfl) ?_ _
  have hb01 : Below w0.heap.size w0 w1 := below_ofDrew hb1
  have HB1 := Lib.hid (below_step HB0.out hb01)
  have HX1 := Lib.hid (HX0.out.below hb01 HX0.out.lt)
  have HF1 := Lib.hid (HF0.out.below hb01)
  have HV1 := Lib.hid ((HV0.out.below hb01).more hb01.size)
  clear hb1 hb01 HX0 HF0 HV0 HB0
  obtain ⟨A1, c1, hve, hva⟩ := HF1.out.vec
  subst hve
  have HA1 := Lib.hid hva
  clear hva
  by_cases hle : xn ≤ atV ap xr
  · have dle : decide (xn ≤ atV ap xr) = true := by simpa using hle
    have HOC := Lib.hid (show offR rg ap L ⟨xr, xn, xt, xs, .slice A2 n2 c2, xz, xe, xk, xv, xg, xl⟩ = 8 from by unfold offR; rw [if_neg (by rw [Hrt.out]; simpa using HQ.out), if_pos (.inr hle)])
    go_wp2_with fail
    refine wp_region_mono nobody (by kernel_rfl) ?_
    -- 0 Op.fieldAddr 35 (Operand.tmp 3) 1
    refine wpMono_take' 0 (v := ?_) rfl (by kernel_rfl) (by kernel_rfl) (by kernel_rfl) (fun _ _ _ h => h) (by rfl) ?_ ?_
    rotate_left
    · (intro W hSw; (first | (have hg := HF1.out.blk.drew.keeps (X := nobody) hSw (fun h => h); have hxx := HX1.out.drew.keeps (X := nobody) hSw (fun h => h); have y1 : W.cell? ⟨g, 1, none⟩ = some (.slice A1 ap.length c1) := hg.cell 1; have x0 : W.cell? ⟨w.heap.size, 0, none⟩ = some (.int .i64 xr) := hxx.cell 0; have x1 : W.cell? ⟨w.heap.size, 1, none⟩ = some (.int .i64 xn) := hxx.cell 1; have hl := hg.lt; have hl2 := hxx.lt) | skip)
       go_simp; first | done | rfl)
    try simp only [Act.put, List.setIfInBounds_toArray, List.set_cons_zero, List.set_cons_succ]
    (try rw [dle])
    -- 1 Op.load 3 (Operand.tmp 20)
    refine wpMono_take' 1 (v := ?_) rfl (by kernel_rfl) (by kernel_rfl) (by kernel_rfl) (fun _ _ _ h => h) (by rfl) ?_ ?_
    rotate_left
    · (intro W hSw; (first | (have hg := HF1.out.blk.drew.keeps (X := nobody) hSw (fun h => h); have hxx := HX1.out.drew.keeps (X := nobody) hSw (fun h => h); have y1 : W.cell? ⟨g, 1, none⟩ = some (.slice A1 ap.length c1) := hg.cell 1; have x0 : W.cell? ⟨w.heap.size, 0, none⟩ = some (.int .i64 xr) := hxx.cell 0; have x1 : W.cell? ⟨w.heap.size, 1, none⟩ = some (.int .i64 xn) := hxx.cell 1; have hl := hg.lt; have hl2 := hxx.lt) | skip)
       go_simp; first | done | rfl)
    try simp only [Act.put, List.setIfInBounds_toArray, List.set_cons_zero, List.set_cons_succ]
    (try rw [dle])
    -- 2 Op.move (Operand.tmp 0)
    refine wpMono_take' 2 (v := ?_) rfl (by kernel_rfl) (by kernel_rfl) (by kernel_rfl) (fun _ _ _ h => h) (by rfl) ?_ ?_
    rotate_left
    · (intro W hSw; (first | (have hg := HF1.out.blk.drew.keeps (X := nobody) hSw (fun h => h); have hxx := HX1.out.drew.keeps (X := nobody) hSw (fun h => h); have y1 : W.cell? ⟨g, 1, none⟩ = some (.slice A1 ap.length c1) := hg.cell 1; have x0 : W.cell? ⟨w.heap.size, 0, none⟩ = some (.int .i64 xr) := hxx.cell 0; have x1 : W.cell? ⟨w.heap.size, 1, none⟩ = some (.int .i64 xn) := hxx.cell 1; have hl := hg.lt; have hl2 := hxx.lt) | skip)
       go_simp; first | done | rfl)
    try simp only [Act.put, List.setIfInBounds_toArray, List.set_cons_zero, List.set_cons_succ]
    (try rw [dle])
    -- 3 Op.nilCheck (Operand.tmp 22)
    refine wpMono_take' 3 (v := ?_) rfl (by kernel_rfl) (by kernel_rfl) (by kernel_rfl) (fun _ _ _ h => h) (by rfl) ?_ ?_
    rotate_left
    · (intro W hSw; (first | (have hg := HF1.out.blk.drew.keeps (X := nobody) hSw (fun h => h); have hxx := HX1.out.drew.keeps (X := nobody) hSw (fun h => h); have y1 : W.cell? ⟨g, 1, none⟩ = some (.slice A1 ap.length c1) := hg.cell 1; have x0 : W.cell? ⟨w.heap.size, 0, none⟩ = some (.int .i64 xr) := hxx.cell 0; have x1 : W.cell? ⟨w.heap.size, 1, none⟩ = some (.int .i64 xn) := hxx.cell 1; have hl := hg.lt; have hl2 := hxx.lt) | skip)
       go_simp; first | done | rfl)
    try simp only [Act.put, List.setIfInBounds_toArray, List.set_cons_zero, List.set_cons_succ]
    (try rw [dle])
    -- 4 Op.fieldAddr 68 (Operand.tmp 23) 1
    refine wpMono_take' 4 (v := ?_) rfl (by kernel_rfl) (by kernel_rfl) (by kernel_rfl) (fun _ _ _ h => h) (by rfl) ?_ ?_
    rotate_left
    · (intro W hSw; (first | (have hg := HF1.out.blk.drew.keeps (X := nobody) hSw (fun h => h); have hxx := HX1.out.drew.keeps (X := nobody) hSw (fun h => h); have y1 : W.cell? ⟨g, 1, none⟩ = some (.slice A1 ap.length c1) := hg.cell 1; have x0 : W.cell? ⟨w.heap.size, 0, none⟩ = some (.int .i64 xr) := hxx.cell 0; have x1 : W.cell? ⟨w.heap.size, 1, none⟩ = some (.int .i64 xn) := hxx.cell 1; have hl := hg.lt; have hl2 := hxx.lt) | skip)
       go_simp; first | done | rfl)
    try simp only [Act.put, List.setIfInBounds_toArray, List.set_cons_zero, List.set_cons_succ]
    (try rw [dle])
    -- 5 Op.load 26 (Operand.tmp 24)
    refine wpMono_take' 5 (v := ?_) rfl (by kernel_rfl) (by kernel_rfl) (by kernel_rfl) (fun _ _ _ h => h) (by rfl) ?_ ?_
    rotate_left
    · (intro W hSw; (first | (have hg := HF1.out.blk.drew.keeps (X := nobody) hSw (fun h => h); have hxx := HX1.out.drew.keeps (X := nobody) hSw (fun h => h); have y1 : W.cell? ⟨g, 1, none⟩ = some (.slice A1 ap.length c1) := hg.cell 1; have x0 : W.cell? ⟨w.heap.size, 0, none⟩ = some (.int .i64 xr) := hxx.cell 0; have x1 : W.cell? ⟨w.heap.size, 1, none⟩ = some (.int .i64 xn) := hxx.cell 1; have hl := hg.lt; have hl2 := hxx.lt) | skip)
       go_simp; first | done | rfl)
    try simp only [Act.put, List.setIfInBounds_toArray, List.set_cons_zero, List.set_cons_succ]
    (try rw [dle])
    -- 6 Op.fieldAddr 35 (Operand.tmp 3) 0
    refine wpMono_take' 6 (v := ?_) rfl (by kernel_rfl) (by kernel_rfl) (by kernel_rfl) (fun _ _ _ h => h) (by rfl) ?_ ?_
    rotate_left
    · (intro W hSw; (first | (have hg := HF1.out.blk.drew.keeps (X := nobody) hSw (fun h => h); have hxx := HX1.out.drew.keeps (X := nobody) hSw (fun h => h); have y1 : W.cell? ⟨g, 1, none⟩ = some (.slice A1 ap.length c1) := hg.cell 1; have x0 : W.cell? ⟨w.heap.size, 0, none⟩ = some (.int .i64 xr) := hxx.cell 0; have x1 : W.cell? ⟨w.heap.size, 1, none⟩ = some (.int .i64 xn) := hxx.cell 1; have hl := hg.lt; have hl2 := hxx.lt) | skip)
       go_simp; first | done | rfl)
    try simp only [Act.put, List.setIfInBounds_toArray, List.set_cons_zero, List.set_cons_succ]
    (try rw [dle])
    -- 7 Op.load 3 (Operand.tmp 26)
    refine wpMono_take' 7 (v := ?_) rfl (by kernel_rfl) (by kernel_rfl) (by kernel_rfl) (fun _ _ _ h => h) (by rfl) ?_ ?_
    rotate_left
    · (intro W hSw; (first | (have hg := HF1.out.blk.drew.keeps (X := nobody) hSw (fun h => h); have hxx := HX1.out.drew.keeps (X := nobody) hSw (fun h => h); have y1 : W.cell? ⟨g, 1, none⟩ = some (.slice A1 ap.length c1) := hg.cell 1; have x0 : W.cell? ⟨w.heap.size, 0, none⟩ = some (.int .i64 xr) := hxx.cell 0; have x1 : W.cell? ⟨w.heap.size, 1, none⟩ = some (.int .i64 xn) := hxx.cell 1; have hl := hg.lt; have hl2 := hxx.lt) | skip)
       go_simp; first | done | rfl)
    try simp only [Act.put, List.setIfInBounds_toArray, List.set_cons_zero, List.set_cons_succ]
    (try rw [dle])
    -- EFFECT 8 Op.call { callee := Callee.value (Operand.func 8), args := #[Operand.tmp 25, Operand.tmp 27], argTypes := #[26, 3] }
    refine wpMono_one' 8 (by kernel_rfl) rfl (by rfl) (fun K hK => ?_)
    go_simp
    refine (at_ref A1 ap.length c1 ap xr w1.drew _ (show Vec w1.drew w1.drew.heap.size A1 ap.length c1 ap from HA1.out.below (Below.refl _ _).drew)).mono ?_
    rintro e w4 ⟨rfl, rfl⟩
    refine hK.out _ _ ?_ ?_
    · exact Keeps.refl _ _
    clear hK K
    try simp only [Act.put, List.setIfInBounds_toArray, List.set_cons_zero, List.set_cons_succ]
    (try rw [dle])
    -- 9 Op.binOp BinOp.leq 3 (Operand.tmp 21) (Operand.tmp 28) 3
    refine wpMono_take' 9 (v := ?_) rfl (by kernel_rfl) (by kernel_rfl) (by kernel_rfl) (fun _ _ _ h => h) (by rfl) ?_ ?_
    rotate_left
    · (intro W hSw; (first | (have hg := HF1.out.blk.drew.keeps (X := nobody) hSw (fun h => h); have hxx := HX1.out.drew.keeps (X := nobody) hSw (fun h => h); have y1 : W.cell? ⟨g, 1, none⟩ = some (.slice A1 ap.length c1) := hg.cell 1; have x0 : W.cell? ⟨w.heap.size, 0, none⟩ = some (.int .i64 xr) := hxx.cell 0; have x1 : W.cell? ⟨w.heap.size, 1, none⟩ = some (.int .i64 xn) := hxx.cell 1; have hl := hg.lt; have hl2 := hxx.lt) | skip)
       go_simp; first | done | rfl)
    try simp only [Act.put, List.setIfInBounds_toArray, List.set_cons_zero, List.set_cons_succ]
    (try rw [dle])
    refine wpMono_done (by kernel_rfl) ?_ _
    have HRR := Lib.hid (show OfferQ R g rg ap L ⟨xr, xn, xt, xs, .slice A2 n2 c2, xz, xe, xk, xv, xg, xl⟩ w (.returned (.tuple #[.slice none 0 0, .int .i64 8])) w1.drew from .inl ⟨by rw [HOC.out]; decide, by rw [HOC.out], HB1.out.drew⟩)
    go_wp2
    go_ret2
    exact HRR.out
  have dle : decide (xn ≤ atV ap xr) = false := by simpa using hle
  have HLE := Lib.hid hle
  clear hle
  go_wp2_with fail
  refine wp_region_mono nobody (by kernel_rfl) ?_
  -- 0 Op.fieldAddr 35 (Operand.tmp 3) 1
  refine wpMono_take' 0 (v := ?_) rfl (by kernel_rfl) (by kernel_rfl) (by kernel_rfl) (fun _ _ _ h => h) (by rfl) ?_ ?_
  rotate_left
  · (intro W hSw; (first | (have hg := HF1.out.blk.drew.keeps (X := nobody) hSw (fun h => h); have hxx := HX1.out.drew.keeps (X := nobody) hSw (fun h => h); have y1 : W.cell? ⟨g, 1, none⟩ = some (.slice A1 ap.length c1) := hg.cell 1; have x0 : W.cell? ⟨w.heap.size, 0, none⟩ = some (.int .i64 xr) := hxx.cell 0; have x1 : W.cell? ⟨w.heap.size, 1, none⟩ = some (.int .i64 xn) := hxx.cell 1; have hl := hg.lt; have hl2 := hxx.lt) | skip)
     go_simp; first | done | rfl)
  try simp only [Act.put, List.setIfInBounds_toArray, List.set_cons_zero, List.set_cons_succ]
  (try rw [dle])
  -- 1 Op.load 3 (Operand.tmp 20)
  refine wpMono_take' 1 (v := ?_) rfl (by kernel_rfl) (by kernel_rfl) (by kernel_rfl) (fun _ _ _ h => h) (by rfl) ?_ ?_
  rotate_left
  · (intro W hSw; (first | (have hg := HF1.out.blk.drew.keeps (X := nobody) hSw (fun h => h); have hxx := HX1.out.drew.keeps (X := nobody) hSw (fun h => h); have y1 : W.cell? ⟨g, 1, none⟩ = some (.slice A1 ap.length c1) := hg.cell 1; have x0 : W.cell? ⟨w.heap.size, 0, none⟩ = some (.int .i64 xr) := hxx.cell 0; have x1 : W.cell? ⟨w.heap.size, 1, none⟩ = some (.int .i64 xn) := hxx.cell 1; have hl := hg.lt; have hl2 := hxx.lt) | skip)
     go_simp; first | done | rfl)
  try simp only [Act.put, List.setIfInBounds_toArray, List.set_cons_zero, List.set_cons_succ]
  (try rw [dle])
  -- 2 Op.move (Operand.tmp 0)
  refine wpMono_take' 2 (v := ?_) rfl (by kernel_rfl) (by kernel_rfl) (by kernel_rfl) (fun _ _ _ h => h) (by rfl) ?_ ?_
  rotate_left
  · (intro W hSw; (first | (have hg := HF1.out.blk.drew.keeps (X := nobody) hSw (fun h => h); have hxx := HX1.out.drew.keeps (X := nobody) hSw (fun h => h); have y1 : W.cell? ⟨g, 1, none⟩ = some (.slice A1 ap.length c1) := hg.cell 1; have x0 : W.cell? ⟨w.heap.size, 0, none⟩ = some (.int .i64 xr) := hxx.cell 0; have x1 : W.cell? ⟨w.heap.size, 1, none⟩ = some (.int .i64 xn) := hxx.cell 1; have hl := hg.lt; have hl2 := hxx.lt) | skip)
     go_simp; first | done | rfl)
  try simp only [Act.put, List.setIfInBounds_toArray, List.set_cons_zero, List.set_cons_succ]
  (try rw [dle])
  -- 3 Op.nilCheck (Operand.tmp 22)
  refine wpMono_take' 3 (v := ?_) rfl (by kernel_rfl) (by kernel_rfl) (by kernel_rfl) (fun _ _ _ h => h) (by rfl) ?_ ?_
  rotate_left
  · (intro W hSw; (first | (have hg := HF1.out.blk.drew.keeps (X := nobody) hSw (fun h => h); have hxx := HX1.out.drew.keeps (X := nobody) hSw (fun h => h); have y1 : W.cell? ⟨g, 1, none⟩ = some (.slice A1 ap.length c1) := hg.cell 1; have x0 : W.cell? ⟨w.heap.size, 0, none⟩ = some (.int .i64 xr) := hxx.cell 0; have x1 : W.cell? ⟨w.heap.size, 1, none⟩ = some (.int .i64 xn) := hxx.cell 1; have hl := hg.lt; have hl2 := hxx.lt) | skip)
     go_simp; first | done | rfl)
  try simp only [Act.put, List.setIfInBounds_toArray, List.set_cons_zero, List.set_cons_succ]
  (try rw [dle])
  -- 4 Op.fieldAddr 68 (Operand.tmp 23) 1
  refine wpMono_take' 4 (v := ?_) rfl (by kernel_rfl) (by kernel_rfl) (by kernel_rfl) (fun _ _ _ h => h) (by rfl) ?_ ?_
  rotate_left
  · (intro W hSw; (first | (have hg := HF1.out.blk.drew.keeps (X := nobody) hSw (fun h => h); have hxx := HX1.out.drew.keeps (X := nobody) hSw (fun h => h); have y1 : W.cell? ⟨g, 1, none⟩ = some (.slice A1 ap.length c1) := hg.cell 1; have x0 : W.cell? ⟨w.heap.size, 0, none⟩ = some (.int .i64 xr) := hxx.cell 0; have x1 : W.cell? ⟨w.heap.size, 1, none⟩ = some (.int .i64 xn) := hxx.cell 1; have hl := hg.lt; have hl2 := hxx.lt) | skip)
     go_simp; first | done | rfl)
  try simp only [Act.put, List.setIfInBounds_toArray, List.set_cons_zero, List.set_cons_succ]
  (try rw [dle])
  -- 5 Op.load 26 (Operand.tmp 24)
  refine wpMono_take' 5 (v := ?_) rfl (by kernel_rfl) (by kernel_rfl) (by kernel_rfl) (fun _ _ _ h => h) (by rfl) ?_ ?_
  rotate_left
  · (intro W hSw; (first | (have hg := HF1.out.blk.drew.keeps (X := nobody) hSw (fun h => h); have hxx := HX1.out.drew.keeps (X := nobody) hSw (fun h => h); have y1 : W.cell? ⟨g, 1, none⟩ = some (.slice A1 ap.length c1) := hg.cell 1; have x0 : W.cell? ⟨w.heap.size, 0, none⟩ = some (.int .i64 xr) := hxx.cell 0; have x1 : W.cell? ⟨w.heap.size, 1, none⟩ = some (.int .i64 xn) := hxx.cell 1; have hl := hg.lt; have hl2 := hxx.lt) | skip)
     go_simp; first | done | rfl)
  try simp only [Act.put, List.setIfInBounds_toArray, List.set_cons_zero, List.set_cons_succ]
  (try rw [dle])
  -- 6 Op.fieldAddr 35 (Operand.tmp 3) 0
  refine wpMono_take' 6 (v := ?_) rfl (by kernel_rfl) (by kernel_rfl) (by kernel_rfl) (fun _ _ _ h => h) (by rfl) ?_ ?_
  rotate_left
  · (intro W hSw; (first | (have hg := HF1.out.blk.drew.keeps (X := nobody) hSw (fun h => h); have hxx := HX1.out.drew.keeps (X := nobody) hSw (fun h => h); have y1 : W.cell? ⟨g, 1, none⟩ = some (.slice A1 ap.length c1) := hg.cell 1; have x0 : W.cell? ⟨w.heap.size, 0, none⟩ = some (.int .i64 xr) := hxx.cell 0; have x1 : W.cell? ⟨w.heap.size, 1, none⟩ = some (.int .i64 xn) := hxx.cell 1; have hl := hg.lt; have hl2 := hxx.lt) | skip)
     go_simp; first | done | rfl)
  try simp only [Act.put, List.setIfInBounds_toArray, List.set_cons_zero, List.set_cons_succ]
  (try rw [dle])
  -- 7 Op.load 3 (Operand.tmp 26)
  refine wpMono_take' 7 (v := ?_) rfl (by kernel_rfl) (by kernel_rfl) (by kernel_rfl) (fun _ _ _ h => h) (by rfl) ?_ ?_
  rotate_left
  · (intro W hSw; (first | (have hg := HF1.out.blk.drew.keeps (X := nobody) hSw (fun h => h); have hxx := HX1.out.drew.keeps (X := nobody) hSw (fun h => h); have y1 : W.cell? ⟨g, 1, none⟩ = some (.slice A1 ap.length c1) := hg.cell 1; have x0 : W.cell? ⟨w.heap.size, 0, none⟩ = some (.int .i64 xr) := hxx.cell 0; have x1 : W.cell? ⟨w.heap.size, 1, none⟩ = some (.int .i64 xn) := hxx.cell 1; have hl := hg.lt; have hl2 := hxx.lt) | skip)
     go_simp; first | done | rfl)
  try simp only [Act.put, List.setIfInBounds_toArray, List.set_cons_zero, List.set_cons_succ]
  (try rw [dle])
  -- EFFECT 8 Op.call { callee := Callee.value (Operand.func 8), args := #[Operand.tmp 25, Operand.tmp 27], argTypes := #[26, 3] }
  refine wpMono_one' 8 (by kernel_rfl) rfl (by rfl) (fun K hK => ?_)
  go_simp
  refine (at_ref A1 ap.length c1 ap xr w1.drew _ (show Vec w1.drew w1.drew.heap.size A1 ap.length c1 ap from HA1.out.below (Below.refl _ _).drew)).mono ?_
  rintro e w4 ⟨rfl, rfl⟩
  refine hK.out _ _ ?_ ?_
  · exact Keeps.refl _ _
  clear hK K
  try simp only [Act.put, List.setIfInBounds_toArray, List.set_cons_zero, List.set_cons_succ]
  (try rw [dle])
  -- 9 Op.binOp BinOp.leq 3 (Operand.tmp 21) (Operand.tmp 28) 3
  refine wpMono_take' 9 (v := ?_) rfl (by kernel_rfl) (by kernel_rfl) (by kernel_rfl) (fun _ _ _ h => h) (by rfl) ?_ ?_
  rotate_left
  · (intro W hSw; (first | (have hg := HF1.out.blk.drew.keeps (X := nobody) hSw (fun h => h); have hxx := HX1.out.drew.keeps (X := nobody) hSw (fun h => h); have y1 : W.cell? ⟨g, 1, none⟩ = some (.slice A1 ap.length c1) := hg.cell 1; have x0 : W.cell? ⟨w.heap.size, 0, none⟩ = some (.int .i64 xr) := hxx.cell 0; have x1 : W.cell? ⟨w.heap.size, 1, none⟩ = some (.int .i64 xn) := hxx.cell 1; have hl := hg.lt; have hl2 := hxx.lt) | skip)
     go_simp; first | done | rfl)
  try simp only [Act.put, List.setIfInBounds_toArray, List.set_cons_zero, List.set_cons_succ]
  (try rw [dle])
  refine wpMono_done (by kernel_rfl) ?_ _
  have HB2 := Lib.hid HB1.out.drew
  have HX2 := Lib.hid HX1.out.drew
  have HF2 := Lib.hid (HF1.out.below (Below.refl _ _).drew)
  have HV2 := Lib.hid (show Vec w1.drew w1.drew.heap.size A2 n2 c2 xz from HV1.out.below (Below.refl _ _).drew)
  have HA2 := Lib.hid (show Vec w1.drew w1.drew.heap.size A1 ap.length c1 ap from HA1.out.below (Below.refl _ _).drew)
  have hs2 : w.heap.size < w1.drew.heap.size := HX2.out.lt
  clear HB1 HX1 HF1 HV1 HA1 dle
  generalize w1.drew = w2 at *
  obtain ⟨A3, c3, rfl, hrd⟩ := HF2.out.reads
  have HRD := Lib.hid hrd
  clear hrd
  have y2 : w2.cell? ⟨g, 2, none⟩ = some (.slice A3 L.length c3) := HF2.out.blk.cell 2
  have yl2 := HF2.out.blk.lt
  go_wp2_with fail
  go_loopw [6, 7] (fun m i wr => ∃ k : Nat, k ≤ L.length ∧ i = .int .i64 k ∧ m = .int .i64 ((manyW (L.take k) ⟨xr, xn, xt, xs, .slice A2 n2 c2, xz, xe, xk, xv, xg, xl⟩ : Nat) : Int) ∧ (∀ y ∈ L.take k, ¬ (y.r = xr ∧ y.n = xn)) ∧ Below w2.heap.size w2 wr) (fun _ i _ => L.length - (intOf i).toNat)
  case atStart => exact ⟨0, by omega, rfl, rfl, (fun y hy => by simp at hy), Below.refl _ _⟩
  case round =>
    obtain ⟨k, hk, rfl, rfl, hno, hbr⟩ := hrel
    have HBR := Lib.hid hbr
    have HNO := Lib.hid hno
    have hsr := hbr.size
    have z2 : wr.cell? ⟨g, 2, none⟩ = some (.slice A3 L.length c3) := (hbr.cell (p := ⟨g, 2, none⟩) yl2).trans y2
    have zl : g < wr.heap.size := Nat.lt_of_lt_of_le yl2 hsr
    have HXR := Lib.hid (HX2.out.below hbr HX2.out.lt)
    have HGR := Lib.hid (HF2.out.blk.below hbr yl2)
    clear hbr hno
    by_cases hlt : k < L.length
    · obtain ⟨b, off, rfl, hbl⟩ := HRD.out.at_some (by omega)
      have hE : ∀ p v, (L.getD k wrZ).cells[p]? = some v → wr.cell? ⟨b, off + k * 10 + p, none⟩ = some v := fun p v hp => by
        have hp2 : p < 10 := by
          have := (List.getElem?_eq_some_iff.1 hp).1
          rwa [Wr.len] at this
        have h5 := Reads.thing Wr.cells Wr.len HRD.out (k := k) (x := L.getD k wrZ) (by omega) (by rw [List.getD_eq_getElem?_getD, List.getElem?_eq_getElem hlt]; rfl) p hp2
        rw [HBR.out.cell (p := ⟨b, off + k * 10 + p, none⟩) hbl, h5, hp]
      have hbr2 : b < wr.heap.size := Nat.lt_of_lt_of_le hbl hsr
      have hmn : manyW (L.take (k + 1)) ⟨xr, xn, xt, xs, .slice A2 n2 c2, xz, xe, xk, xv, xg, xl⟩ = manyW (L.take k) ⟨xr, xn, xt, xs, .slice A2 n2 c2, xz, xe, xk, xv, xg, xl⟩ + if (L.getD k wrZ).r == xr then 1 else 0 := by
        unfold manyW
        rw [List.take_add_one, List.filter_append, List.length_append, List.getElem?_eq_getElem hlt, List.getD_eq_getElem?_getD, List.getElem?_eq_getElem hlt]
        simp only [Option.toList, Option.getD_some, List.filter_cons, List.filter_nil]
        split <;> rfl
      have hmk : manyW (L.take k) ⟨xr, xn, xt, xs, .slice A2 n2 c2, xz, xe, xk, xv, xg, xl⟩ ≤ 1000 := by
        have h1 : manyW (L.take k) ⟨xr, xn, xt, xs, .slice A2 n2 c2, xz, xe, xk, xv, xg, xl⟩ ≤ (L.take k).length := List.length_filter_le _ _
        rw [List.length_take] at h1
        omega
      have hnx : ¬ ((L.getD k wrZ).r = xr ∧ (L.getD k wrZ).n = xn) → ∀ y ∈ L.take (k + 1), ¬ (y.r = xr ∧ y.n = xn) := fun hy y hm => by
        rw [List.take_add_one, List.getElem?_eq_getElem hlt] at hm
        rcases List.mem_append.1 hm with hm | hm
        · exact HNO.out y hm
        · have e : y = L.getD k wrZ := by rw [List.getD_eq_getElem?_getD, List.getElem?_eq_getElem hlt]; simpa using hm
          rw [e]; exact hy
      have hhas : (L.getD k wrZ).r = xr → (L.getD k wrZ).n = xn → hasB L ⟨xr, xn, xt, xs, .slice A2 n2 c2, xz, xe, xk, xv, xg, xl⟩ = true := fun h1 h2 => hasB_iff.2 ⟨_, getD_mem hlt, h1, h2⟩
      have x0 : wr.cell? ⟨b, off + k * 10, none⟩ = some (.int .i64 (L.getD k wrZ).r) := hE 0 _ rfl
      have x1 : wr.cell? ⟨b, off + k * 10 + 1, none⟩ = some (.int .i64 (L.getD k wrZ).n) := hE 1 _ rfl
      generalize L.getD k wrZ = y at *
      generalize manyW (L.take k) ⟨xr, xn, xt, xs, .slice A2 n2 c2, xz, xe, xk, xv, xg, xl⟩ = m at *
      have HMN := Lib.hid hmn
      have HNX := Lib.hid hnx
      have HHAS := Lib.hid hhas
      clear hE hmn hnx hhas
      cases hyr : y.r == xr with
      | false =>
        have HYR := Lib.hid hyr
        go_wp2_with fail
        refine wp_region_mono nobody (by kernel_rfl) ?_
        -- 0 Op.move (Operand.tmp 0)
        refine wpMono_take' 0 (v := ?_) rfl (by kernel_rfl) (by kernel_rfl) (by kernel_rfl) (fun _ _ _ h => h) (by rfl) ?_ ?_
        rotate_left
        · (intro W hSw; (have hcW := hSw.cells; have q2 : W.cell? ⟨g, 2, none⟩ = some (.slice (some ⟨b, off, none⟩) L.length c3) := (hcW g 2 zl).trans z2; have q0 : W.cell? ⟨b, off + k * 10, none⟩ = some (.int .i64 y.r) := (hcW b _ hbr2).trans x0; have hxx := HXR.out.drew.keeps (X := nobody) hSw (fun h => h); have p0 : W.cell? ⟨w.heap.size, 0, none⟩ = some (.int .i64 xr) := hxx.cell 0; have pl := hxx.lt)
           go_simp; first | done | rfl)
        try simp only [Act.put, List.setIfInBounds_toArray, List.set_cons_zero, List.set_cons_succ]
        (try rw [hyr])
        -- 1 Op.nilCheck (Operand.tmp 39)
        refine wpMono_take' 1 (v := ?_) rfl (by kernel_rfl) (by kernel_rfl) (by kernel_rfl) (fun _ _ _ h => h) (by rfl) ?_ ?_
        rotate_left
        · (intro W hSw; (have hcW := hSw.cells; have q2 : W.cell? ⟨g, 2, none⟩ = some (.slice (some ⟨b, off, none⟩) L.length c3) := (hcW g 2 zl).trans z2; have q0 : W.cell? ⟨b, off + k * 10, none⟩ = some (.int .i64 y.r) := (hcW b _ hbr2).trans x0; have hxx := HXR.out.drew.keeps (X := nobody) hSw (fun h => h); have p0 : W.cell? ⟨w.heap.size, 0, none⟩ = some (.int .i64 xr) := hxx.cell 0; have pl := hxx.lt)
           go_simp; first | done | rfl)
        try simp only [Act.put, List.setIfInBounds_toArray, List.set_cons_zero, List.set_cons_succ]
        (try rw [hyr])
        -- 2 Op.fieldAddr 68 (Operand.tmp 40) 2
        refine wpMono_take' 2 (v := ?_) rfl (by kernel_rfl) (by kernel_rfl) (by kernel_rfl) (fun _ _ _ h => h) (by rfl) ?_ ?_
        rotate_left
        · (intro W hSw; (have hcW := hSw.cells; have q2 : W.cell? ⟨g, 2, none⟩ = some (.slice (some ⟨b, off, none⟩) L.length c3) := (hcW g 2 zl).trans z2; have q0 : W.cell? ⟨b, off + k * 10, none⟩ = some (.int .i64 y.r) := (hcW b _ hbr2).trans x0; have hxx := HXR.out.drew.keeps (X := nobody) hSw (fun h => h); have p0 : W.cell? ⟨w.heap.size, 0, none⟩ = some (.int .i64 xr) := hxx.cell 0; have pl := hxx.lt)
           go_simp; first | done | rfl)
        try simp only [Act.put, List.setIfInBounds_toArray, List.set_cons_zero, List.set_cons_succ]
        (try rw [hyr])
        -- 3 Op.load 25 (Operand.tmp 41)
        refine wpMono_take' 3 (v := ?_) rfl (by kernel_rfl) (by kernel_rfl) (by kernel_rfl) (fun _ _ _ h => h) (by rfl) ?_ ?_
        rotate_left
        · (intro W hSw; (have hcW := hSw.cells; have q2 : W.cell? ⟨g, 2, none⟩ = some (.slice (some ⟨b, off, none⟩) L.length c3) := (hcW g 2 zl).trans z2; have q0 : W.cell? ⟨b, off + k * 10, none⟩ = some (.int .i64 y.r) := (hcW b _ hbr2).trans x0; have hxx := HXR.out.drew.keeps (X := nobody) hSw (fun h => h); have p0 : W.cell? ⟨w.heap.size, 0, none⟩ = some (.int .i64 xr) := hxx.cell 0; have pl := hxx.lt)
           go_simp; first | done | rfl)
        try simp only [Act.put, List.setIfInBounds_toArray, List.set_cons_zero, List.set_cons_succ]
        (try rw [hyr])
        -- 4 Op.move (Operand.tmp 7)
        refine wpMono_take' 4 (v := ?_) rfl (by kernel_rfl) (by kernel_rfl) (by kernel_rfl) (fun _ _ _ h => h) (by rfl) ?_ ?_
        rotate_left
        · (intro W hSw; (have hcW := hSw.cells; have q2 : W.cell? ⟨g, 2, none⟩ = some (.slice (some ⟨b, off, none⟩) L.length c3) := (hcW g 2 zl).trans z2; have q0 : W.cell? ⟨b, off + k * 10, none⟩ = some (.int .i64 y.r) := (hcW b _ hbr2).trans x0; have hxx := HXR.out.drew.keeps (X := nobody) hSw (fun h => h); have p0 : W.cell? ⟨w.heap.size, 0, none⟩ = some (.int .i64 xr) := hxx.cell 0; have pl := hxx.lt)
           go_simp; first | done | rfl)
        try simp only [Act.put, List.setIfInBounds_toArray, List.set_cons_zero, List.set_cons_succ]
        (try rw [hyr])
        -- 5 Op.indexAddr 25 (Operand.tmp 42) (Operand.tmp 43)
        refine wpMono_take' 5 (v := ?_) rfl (by kernel_rfl) (by kernel_rfl) (by kernel_rfl) (fun _ _ _ h => h) (by rfl) ?_ ?_
        rotate_left
        · (intro W hSw; (have hcW := hSw.cells; have q2 : W.cell? ⟨g, 2, none⟩ = some (.slice (some ⟨b, off, none⟩) L.length c3) := (hcW g 2 zl).trans z2; have q0 : W.cell? ⟨b, off + k * 10, none⟩ = some (.int .i64 y.r) := (hcW b _ hbr2).trans x0; have hxx := HXR.out.drew.keeps (X := nobody) hSw (fun h => h); have p0 : W.cell? ⟨w.heap.size, 0, none⟩ = some (.int .i64 xr) := hxx.cell 0; have pl := hxx.lt)
           go_simp; first | done | rfl)
        try simp only [Act.put, List.setIfInBounds_toArray, List.set_cons_zero, List.set_cons_succ]
        (try rw [hyr])
        -- 6 Op.fieldAddr 35 (Operand.tmp 44) 0
        refine wpMono_take' 6 (v := ?_) rfl (by kernel_rfl) (by kernel_rfl) (by kernel_rfl) (fun _ _ _ h => h) (by rfl) ?_ ?_
        rotate_left
        · (intro W hSw; (have hcW := hSw.cells; have q2 : W.cell? ⟨g, 2, none⟩ = some (.slice (some ⟨b, off, none⟩) L.length c3) := (hcW g 2 zl).trans z2; have q0 : W.cell? ⟨b, off + k * 10, none⟩ = some (.int .i64 y.r) := (hcW b _ hbr2).trans x0; have hxx := HXR.out.drew.keeps (X := nobody) hSw (fun h => h); have p0 : W.cell? ⟨w.heap.size, 0, none⟩ = some (.int .i64 xr) := hxx.cell 0; have pl := hxx.lt)
           go_simp; first | done | rfl)
        try simp only [Act.put, List.setIfInBounds_toArray, List.set_cons_zero, List.set_cons_succ]
        (try rw [hyr])
        -- 7 Op.load 3 (Operand.tmp 45)
        refine wpMono_take' 7 (v := ?_) rfl (by kernel_rfl) (by kernel_rfl) (by kernel_rfl) (fun _ _ _ h => h) (by rfl) ?_ ?_
        rotate_left
        · (intro W hSw; (have hcW := hSw.cells; have q2 : W.cell? ⟨g, 2, none⟩ = some (.slice (some ⟨b, off, none⟩) L.length c3) := (hcW g 2 zl).trans z2; have q0 : W.cell? ⟨b, off + k * 10, none⟩ = some (.int .i64 y.r) := (hcW b _ hbr2).trans x0; have hxx := HXR.out.drew.keeps (X := nobody) hSw (fun h => h); have p0 : W.cell? ⟨w.heap.size, 0, none⟩ = some (.int .i64 xr) := hxx.cell 0; have pl := hxx.lt)
           go_simp; first | done | rfl)
        try simp only [Act.put, List.setIfInBounds_toArray, List.set_cons_zero, List.set_cons_succ]
        (try rw [hyr])
        -- 8 Op.fieldAddr 35 (Operand.tmp 3) 0
        refine wpMono_take' 8 (v := ?_) rfl (by kernel_rfl) (by kernel_rfl) (by kernel_rfl) (fun _ _ _ h => h) (by rfl) ?_ ?_
        rotate_left
        · (intro W hSw; (have hcW := hSw.cells; have q2 : W.cell? ⟨g, 2, none⟩ = some (.slice (some ⟨b, off, none⟩) L.length c3) := (hcW g 2 zl).trans z2; have q0 : W.cell? ⟨b, off + k * 10, none⟩ = some (.int .i64 y.r) := (hcW b _ hbr2).trans x0; have hxx := HXR.out.drew.keeps (X := nobody) hSw (fun h => h); have p0 : W.cell? ⟨w.heap.size, 0, none⟩ = some (.int .i64 xr) := hxx.cell 0; have pl := hxx.lt)
           go_simp; first | done | rfl)
        try simp only [Act.put, List.setIfInBounds_toArray, List.set_cons_zero, List.set_cons_succ]
        (try rw [hyr])
        -- 9 Op.load 3 (Operand.tmp 47)
        refine wpMono_take' 9 (v := ?_) rfl (by kernel_rfl) (by kernel_rfl) (by kernel_rfl) (fun _ _ _ h => h) (by rfl) ?_ ?_
        rotate_left
        · (intro W hSw; (have hcW := hSw.cells; have q2 : W.cell? ⟨g, 2, none⟩ = some (.slice (some ⟨b, off, none⟩) L.length c3) := (hcW g 2 zl).trans z2; have q0 : W.cell? ⟨b, off + k * 10, none⟩ = some (.int .i64 y.r) := (hcW b _ hbr2).trans x0; have hxx := HXR.out.drew.keeps (X := nobody) hSw (fun h => h); have p0 : W.cell? ⟨w.heap.size, 0, none⟩ = some (.int .i64 xr) := hxx.cell 0; have pl := hxx.lt)
           go_simp; first | done | rfl)
        try simp only [Act.put, List.setIfInBounds_toArray, List.set_cons_zero, List.set_cons_succ]
        (try rw [hyr])
        -- 10 Op.binOp BinOp.eql 3 (Operand.tmp 46) (Operand.tmp 48) 3
        refine wpMono_take' 10 (v := ?_) rfl (by kernel_rfl) (by kernel_rfl) (by kernel_rfl) (fun _ _ _ h => h) (by rfl) ?_ ?_
        rotate_left
        · (intro W hSw; (have hcW := hSw.cells; have q2 : W.cell? ⟨g, 2, none⟩ = some (.slice (some ⟨b, off, none⟩) L.length c3) := (hcW g 2 zl).trans z2; have q0 : W.cell? ⟨b, off + k * 10, none⟩ = some (.int .i64 y.r) := (hcW b _ hbr2).trans x0; have hxx := HXR.out.drew.keeps (X := nobody) hSw (fun h => h); have p0 : W.cell? ⟨w.heap.size, 0, none⟩ = some (.int .i64 xr) := hxx.cell 0; have pl := hxx.lt)
           go_simp; first | done | rfl)
        try simp only [Act.put, List.setIfInBounds_toArray, List.set_cons_zero, List.set_cons_succ]
        (try rw [hyr])
        refine wpMono_done (by kernel_rfl) ?_ _
        go_wp2_with fail
        go_roundw
        case rel => exact ⟨k + 1, by omega, by go_num, by rw [HMN.out, HYR.out]; rfl, HNX.out (fun h => by have := HYR.out; simp at this; exact this h.1), HBR.out.drew⟩
        case measure => (simp [intOf]; try omega)
      | true =>
        have HYR := Lib.hid hyr
        have hyr2 : y.r = xr := by simpa using hyr
        have HYR2 := Lib.hid hyr2
        clear hyr2
        go_wp2_with fail
        refine wp_region_mono nobody (by kernel_rfl) ?_
        -- 0 Op.move (Operand.tmp 0)
        refine wpMono_take' 0 (v := ?_) rfl (by kernel_rfl) (by kernel_rfl) (by kernel_rfl) (fun _ _ _ h => h) (by rfl) ?_ ?_
        rotate_left
        · (intro W hSw; (have hcW := hSw.cells; have q2 : W.cell? ⟨g, 2, none⟩ = some (.slice (some ⟨b, off, none⟩) L.length c3) := (hcW g 2 zl).trans z2; have q0 : W.cell? ⟨b, off + k * 10, none⟩ = some (.int .i64 y.r) := (hcW b _ hbr2).trans x0; have hxx := HXR.out.drew.keeps (X := nobody) hSw (fun h => h); have p0 : W.cell? ⟨w.heap.size, 0, none⟩ = some (.int .i64 xr) := hxx.cell 0; have pl := hxx.lt)
           go_simp; first | done | rfl)
        try simp only [Act.put, List.setIfInBounds_toArray, List.set_cons_zero, List.set_cons_succ]
        (try rw [hyr])
        -- 1 Op.nilCheck (Operand.tmp 39)
        refine wpMono_take' 1 (v := ?_) rfl (by kernel_rfl) (by kernel_rfl) (by kernel_rfl) (fun _ _ _ h => h) (by rfl) ?_ ?_
        rotate_left
        · (intro W hSw; (have hcW := hSw.cells; have q2 : W.cell? ⟨g, 2, none⟩ = some (.slice (some ⟨b, off, none⟩) L.length c3) := (hcW g 2 zl).trans z2; have q0 : W.cell? ⟨b, off + k * 10, none⟩ = some (.int .i64 y.r) := (hcW b _ hbr2).trans x0; have hxx := HXR.out.drew.keeps (X := nobody) hSw (fun h => h); have p0 : W.cell? ⟨w.heap.size, 0, none⟩ = some (.int .i64 xr) := hxx.cell 0; have pl := hxx.lt)
           go_simp; first | done | rfl)
        try simp only [Act.put, List.setIfInBounds_toArray, List.set_cons_zero, List.set_cons_succ]
        (try rw [hyr])
        -- 2 Op.fieldAddr 68 (Operand.tmp 40) 2
        refine wpMono_take' 2 (v := ?_) rfl (by kernel_rfl) (by kernel_rfl) (by kernel_rfl) (fun _ _ _ h => h) (by rfl) ?_ ?_
        rotate_left
        · (intro W hSw; (have hcW := hSw.cells; have q2 : W.cell? ⟨g, 2, none⟩ = some (.slice (some ⟨b, off, none⟩) L.length c3) := (hcW g 2 zl).trans z2; have q0 : W.cell? ⟨b, off + k * 10, none⟩ = some (.int .i64 y.r) := (hcW b _ hbr2).trans x0; have hxx := HXR.out.drew.keeps (X := nobody) hSw (fun h => h); have p0 : W.cell? ⟨w.heap.size, 0, none⟩ = some (.int .i64 xr) := hxx.cell 0; have pl := hxx.lt)
           go_simp; first | done | rfl)
        try simp only [Act.put, List.setIfInBounds_toArray, List.set_cons_zero, List.set_cons_succ]
        (try rw [hyr])
        -- 3 Op.load 25 (Operand.tmp 41)
        refine wpMono_take' 3 (v := ?_) rfl (by kernel_rfl) (by kernel_rfl) (by kernel_rfl) (fun _ _ _ h => h) (by rfl) ?_ ?_
        rotate_left
        · (intro W hSw; (have hcW := hSw.cells; have q2 : W.cell? ⟨g, 2, none⟩ = some (.slice (some ⟨b, off, none⟩) L.length c3) := (hcW g 2 zl).trans z2; have q0 : W.cell? ⟨b, off + k * 10, none⟩ = some (.int .i64 y.r) := (hcW b _ hbr2).trans x0; have hxx := HXR.out.drew.keeps (X := nobody) hSw (fun h => h); have p0 : W.cell? ⟨w.heap.size, 0, none⟩ = some (.int .i64 xr) := hxx.cell 0; have pl := hxx.lt)
           go_simp; first | done | rfl)
        try simp only [Act.put, List.setIfInBounds_toArray, List.set_cons_zero, List.set_cons_succ]
        (try rw [hyr])
        -- 4 Op.move (Operand.tmp 7)
        refine wpMono_take' 4 (v := ?_) rfl (by kernel_rfl) (by kernel_rfl) (by kernel_rfl) (fun _ _ _ h => h) (by rfl) ?_ ?_
        rotate_left
        · (intro W hSw; (have hcW := hSw.cells; have q2 : W.cell? ⟨g, 2, none⟩ = some (.slice (some ⟨b, off, none⟩) L.length c3) := (hcW g 2 zl).trans z2; have q0 : W.cell? ⟨b, off + k * 10, none⟩ = some (.int .i64 y.r) := (hcW b _ hbr2).trans x0; have hxx := HXR.out.drew.keeps (X := nobody) hSw (fun h => h); have p0 : W.cell? ⟨w.heap.size, 0, none⟩ = some (.int .i64 xr) := hxx.cell 0; have pl := hxx.lt)
           go_simp; first | done | rfl)
        try simp only [Act.put, List.setIfInBounds_toArray, List.set_cons_zero, List.set_cons_succ]
        (try rw [hyr])
        -- 5 Op.indexAddr 25 (Operand.tmp 42) (Operand.tmp 43)
        refine wpMono_take' 5 (v := ?_) rfl (by kernel_rfl) (by kernel_rfl) (by kernel_rfl) (fun _ _ _ h => h) (by rfl) ?_ ?_
        rotate_left
        · (intro W hSw; (have hcW := hSw.cells; have q2 : W.cell? ⟨g, 2, none⟩ = some (.slice (some ⟨b, off, none⟩) L.length c3) := (hcW g 2 zl).trans z2; have q0 : W.cell? ⟨b, off + k * 10, none⟩ = some (.int .i64 y.r) := (hcW b _ hbr2).trans x0; have hxx := HXR.out.drew.keeps (X := nobody) hSw (fun h => h); have p0 : W.cell? ⟨w.heap.size, 0, none⟩ = some (.int .i64 xr) := hxx.cell 0; have pl := hxx.lt)
           go_simp; first | done | rfl)
        try simp only [Act.put, List.setIfInBounds_toArray, List.set_cons_zero, List.set_cons_succ]
        (try rw [hyr])
        -- 6 Op.fieldAddr 35 (Operand.tmp 44) 0
        refine wpMono_take' 6 (v := ?_) rfl (by kernel_rfl) (by kernel_rfl) (by kernel_rfl) (fun _ _ _ h => h) (by rfl) ?_ ?_
        rotate_left
        · (intro W hSw; (have hcW := hSw.cells; have q2 : W.cell? ⟨g, 2, none⟩ = some (.slice (some ⟨b, off, none⟩) L.length c3) := (hcW g 2 zl).trans z2; have q0 : W.cell? ⟨b, off + k * 10, none⟩ = some (.int .i64 y.r) := (hcW b _ hbr2).trans x0; have hxx := HXR.out.drew.keeps (X := nobody) hSw (fun h => h); have p0 : W.cell? ⟨w.heap.size, 0, none⟩ = some (.int .i64 xr) := hxx.cell 0; have pl := hxx.lt)
           go_simp; first | done | rfl)
        try simp only [Act.put, List.setIfInBounds_toArray, List.set_cons_zero, List.set_cons_succ]
        (try rw [hyr])
        -- 7 Op.load 3 (Operand.tmp 45)
        refine wpMono_take' 7 (v := ?_) rfl (by kernel_rfl) (by kernel_rfl) (by kernel_rfl) (fun _ _ _ h => h) (by rfl) ?_ ?_
        rotate_left
        · (intro W hSw; (have hcW := hSw.cells; have q2 : W.cell? ⟨g, 2, none⟩ = some (.slice (some ⟨b, off, none⟩) L.length c3) := (hcW g 2 zl).trans z2; have q0 : W.cell? ⟨b, off + k * 10, none⟩ = some (.int .i64 y.r) := (hcW b _ hbr2).trans x0; have hxx := HXR.out.drew.keeps (X := nobody) hSw (fun h => h); have p0 : W.cell? ⟨w.heap.size, 0, none⟩ = some (.int .i64 xr) := hxx.cell 0; have pl := hxx.lt)
           go_simp; first | done | rfl)
        try simp only [Act.put, List.setIfInBounds_toArray, List.set_cons_zero, List.set_cons_succ]
        (try rw [hyr])
        -- 8 Op.fieldAddr 35 (Operand.tmp 3) 0
        refine wpMono_take' 8 (v := ?_) rfl (by kernel_rfl) (by kernel_rfl) (by kernel_rfl) (fun _ _ _ h => h) (by rfl) ?_ ?_
        rotate_left
        · (intro W hSw; (have hcW := hSw.cells; have q2 : W.cell? ⟨g, 2, none⟩ = some (.slice (some ⟨b, off, none⟩) L.length c3) := (hcW g 2 zl).trans z2; have q0 : W.cell? ⟨b, off + k * 10, none⟩ = some (.int .i64 y.r) := (hcW b _ hbr2).trans x0; have hxx := HXR.out.drew.keeps (X := nobody) hSw (fun h => h); have p0 : W.cell? ⟨w.heap.size, 0, none⟩ = some (.int .i64 xr) := hxx.cell 0; have pl := hxx.lt)
           go_simp; first | done | rfl)
        try simp only [Act.put, List.setIfInBounds_toArray, List.set_cons_zero, List.set_cons_succ]
        (try rw [hyr])
        -- 9 Op.load 3 (Operand.tmp 47)
        refine wpMono_take' 9 (v := ?_) rfl (by kernel_rfl) (by kernel_rfl) (by kernel_rfl) (fun _ _ _ h => h) (by rfl) ?_ ?_
        rotate_left
        · (intro W hSw; (have hcW := hSw.cells; have q2 : W.cell? ⟨g, 2, none⟩ = some (.slice (some ⟨b, off, none⟩) L.length c3) := (hcW g 2 zl).trans z2; have q0 : W.cell? ⟨b, off + k * 10, none⟩ = some (.int .i64 y.r) := (hcW b _ hbr2).trans x0; have hxx := HXR.out.drew.keeps (X := nobody) hSw (fun h => h); have p0 : W.cell? ⟨w.heap.size, 0, none⟩ = some (.int .i64 xr) := hxx.cell 0; have pl := hxx.lt)
           go_simp; first | done | rfl)
        try simp only [Act.put, List.setIfInBounds_toArray, List.set_cons_zero, List.set_cons_succ]
        (try rw [hyr])
        -- 10 Op.binOp BinOp.eql 3 (Operand.tmp 46) (Operand.tmp 48) 3
        refine wpMono_take' 10 (v := ?_) rfl (by kernel_rfl) (by kernel_rfl) (by kernel_rfl) (fun _ _ _ h => h) (by rfl) ?_ ?_
        rotate_left
        · (intro W hSw; (have hcW := hSw.cells; have q2 : W.cell? ⟨g, 2, none⟩ = some (.slice (some ⟨b, off, none⟩) L.length c3) := (hcW g 2 zl).trans z2; have q0 : W.cell? ⟨b, off + k * 10, none⟩ = some (.int .i64 y.r) := (hcW b _ hbr2).trans x0; have hxx := HXR.out.drew.keeps (X := nobody) hSw (fun h => h); have p0 : W.cell? ⟨w.heap.size, 0, none⟩ = some (.int .i64 xr) := hxx.cell 0; have pl := hxx.lt)
           go_simp; first | done | rfl)
        try simp only [Act.put, List.setIfInBounds_toArray, List.set_cons_zero, List.set_cons_succ]
        (try rw [hyr])
        refine wpMono_done (by kernel_rfl) ?_ _
        cases hyn : y.n == xn with
        | false =>
          have HYN := Lib.hid hyn
          go_wp2_with fail
          refine wp_region_mono nobody (by kernel_rfl) ?_
          -- 0 Op.move (Operand.tmp 0)
          refine wpMono_take' 0 (v := ?_) rfl (by kernel_rfl) (by kernel_rfl) (by kernel_rfl) (fun _ _ _ h => h) (by rfl) ?_ ?_
          rotate_left
          · (intro W hSw; (have hcW := hSw.cells; have q2 : W.cell? ⟨g, 2, none⟩ = some (.slice (some ⟨b, off, none⟩) L.length c3) := (hcW g 2 zl).trans z2; have q1 : W.cell? ⟨b, off + k * 10 + 1, none⟩ = some (.int .i64 y.n) := (hcW b _ hbr2).trans x1; have hxx := HXR.out.drew.drew.keeps (X := nobody) hSw (fun h => h); have p1 : W.cell? ⟨w.heap.size, 1, none⟩ = some (.int .i64 xn) := hxx.cell 1; have pl := hxx.lt)
             go_simp; first | done | rfl)
          try simp only [Act.put, List.setIfInBounds_toArray, List.set_cons_zero, List.set_cons_succ]
          (try rw [hyn])
          -- 1 Op.nilCheck (Operand.tmp 52)
          refine wpMono_take' 1 (v := ?_) rfl (by kernel_rfl) (by kernel_rfl) (by kernel_rfl) (fun _ _ _ h => h) (by rfl) ?_ ?_
          rotate_left
          · (intro W hSw; (have hcW := hSw.cells; have q2 : W.cell? ⟨g, 2, none⟩ = some (.slice (some ⟨b, off, none⟩) L.length c3) := (hcW g 2 zl).trans z2; have q1 : W.cell? ⟨b, off + k * 10 + 1, none⟩ = some (.int .i64 y.n) := (hcW b _ hbr2).trans x1; have hxx := HXR.out.drew.drew.keeps (X := nobody) hSw (fun h => h); have p1 : W.cell? ⟨w.heap.size, 1, none⟩ = some (.int .i64 xn) := hxx.cell 1; have pl := hxx.lt)
             go_simp; first | done | rfl)
          try simp only [Act.put, List.setIfInBounds_toArray, List.set_cons_zero, List.set_cons_succ]
          (try rw [hyn])
          -- 2 Op.fieldAddr 68 (Operand.tmp 53) 2
          refine wpMono_take' 2 (v := ?_) rfl (by kernel_rfl) (by kernel_rfl) (by kernel_rfl) (fun _ _ _ h => h) (by rfl) ?_ ?_
          rotate_left
          · (intro W hSw; (have hcW := hSw.cells; have q2 : W.cell? ⟨g, 2, none⟩ = some (.slice (some ⟨b, off, none⟩) L.length c3) := (hcW g 2 zl).trans z2; have q1 : W.cell? ⟨b, off + k * 10 + 1, none⟩ = some (.int .i64 y.n) := (hcW b _ hbr2).trans x1; have hxx := HXR.out.drew.drew.keeps (X := nobody) hSw (fun h => h); have p1 : W.cell? ⟨w.heap.size, 1, none⟩ = some (.int .i64 xn) := hxx.cell 1; have pl := hxx.lt)
             go_simp; first | done | rfl)
          try simp only [Act.put, List.setIfInBounds_toArray, List.set_cons_zero, List.set_cons_succ]
          (try rw [hyn])
          -- 3 Op.load 25 (Operand.tmp 54)
          refine wpMono_take' 3 (v := ?_) rfl (by kernel_rfl) (by kernel_rfl) (by kernel_rfl) (fun _ _ _ h => h) (by rfl) ?_ ?_
          rotate_left
          · (intro W hSw; (have hcW := hSw.cells; have q2 : W.cell? ⟨g, 2, none⟩ = some (.slice (some ⟨b, off, none⟩) L.length c3) := (hcW g 2 zl).trans z2; have q1 : W.cell? ⟨b, off + k * 10 + 1, none⟩ = some (.int .i64 y.n) := (hcW b _ hbr2).trans x1; have hxx := HXR.out.drew.drew.keeps (X := nobody) hSw (fun h => h); have p1 : W.cell? ⟨w.heap.size, 1, none⟩ = some (.int .i64 xn) := hxx.cell 1; have pl := hxx.lt)
             go_simp; first | done | rfl)
          try simp only [Act.put, List.setIfInBounds_toArray, List.set_cons_zero, List.set_cons_succ]
          (try rw [hyn])
          -- 4 Op.move (Operand.tmp 7)
          refine wpMono_take' 4 (v := ?_) rfl (by kernel_rfl) (by kernel_rfl) (by kernel_rfl) (fun _ _ _ h => h) (by rfl) ?_ ?_
          rotate_left
          · (intro W hSw; (have hcW := hSw.cells; have q2 : W.cell? ⟨g, 2, none⟩ = some (.slice (some ⟨b, off, none⟩) L.length c3) := (hcW g 2 zl).trans z2; have q1 : W.cell? ⟨b, off + k * 10 + 1, none⟩ = some (.int .i64 y.n) := (hcW b _ hbr2).trans x1; have hxx := HXR.out.drew.drew.keeps (X := nobody) hSw (fun h => h); have p1 : W.cell? ⟨w.heap.size, 1, none⟩ = some (.int .i64 xn) := hxx.cell 1; have pl := hxx.lt)
             go_simp; first | done | rfl)
          try simp only [Act.put, List.setIfInBounds_toArray, List.set_cons_zero, List.set_cons_succ]
          (try rw [hyn])
          -- 5 Op.indexAddr 25 (Operand.tmp 55) (Operand.tmp 56)
          refine wpMono_take' 5 (v := ?_) rfl (by kernel_rfl) (by kernel_rfl) (by kernel_rfl) (fun _ _ _ h => h) (by rfl) ?_ ?_
          rotate_left
          · (intro W hSw; (have hcW := hSw.cells; have q2 : W.cell? ⟨g, 2, none⟩ = some (.slice (some ⟨b, off, none⟩) L.length c3) := (hcW g 2 zl).trans z2; have q1 : W.cell? ⟨b, off + k * 10 + 1, none⟩ = some (.int .i64 y.n) := (hcW b _ hbr2).trans x1; have hxx := HXR.out.drew.drew.keeps (X := nobody) hSw (fun h => h); have p1 : W.cell? ⟨w.heap.size, 1, none⟩ = some (.int .i64 xn) := hxx.cell 1; have pl := hxx.lt)
             go_simp; first | done | rfl)
          try simp only [Act.put, List.setIfInBounds_toArray, List.set_cons_zero, List.set_cons_succ]
          (try rw [hyn])
          -- 6 Op.fieldAddr 35 (Operand.tmp 57) 1
          refine wpMono_take' 6 (v := ?_) rfl (by kernel_rfl) (by kernel_rfl) (by kernel_rfl) (fun _ _ _ h => h) (by rfl) ?_ ?_
          rotate_left
          · (intro W hSw; (have hcW := hSw.cells; have q2 : W.cell? ⟨g, 2, none⟩ = some (.slice (some ⟨b, off, none⟩) L.length c3) := (hcW g 2 zl).trans z2; have q1 : W.cell? ⟨b, off + k * 10 + 1, none⟩ = some (.int .i64 y.n) := (hcW b _ hbr2).trans x1; have hxx := HXR.out.drew.drew.keeps (X := nobody) hSw (fun h => h); have p1 : W.cell? ⟨w.heap.size, 1, none⟩ = some (.int .i64 xn) := hxx.cell 1; have pl := hxx.lt)
             go_simp; first | done | rfl)
          try simp only [Act.put, List.setIfInBounds_toArray, List.set_cons_zero, List.set_cons_succ]
          (try rw [hyn])
          -- 7 Op.load 3 (Operand.tmp 58)
          refine wpMono_take' 7 (v := ?_) rfl (by kernel_rfl) (by kernel_rfl) (by kernel_rfl) (fun _ _ _ h => h) (by rfl) ?_ ?_
          rotate_left
          · (intro W hSw; (have hcW := hSw.cells; have q2 : W.cell? ⟨g, 2, none⟩ = some (.slice (some ⟨b, off, none⟩) L.length c3) := (hcW g 2 zl).trans z2; have q1 : W.cell? ⟨b, off + k * 10 + 1, none⟩ = some (.int .i64 y.n) := (hcW b _ hbr2).trans x1; have hxx := HXR.out.drew.drew.keeps (X := nobody) hSw (fun h => h); have p1 : W.cell? ⟨w.heap.size, 1, none⟩ = some (.int .i64 xn) := hxx.cell 1; have pl := hxx.lt)
             go_simp; first | done | rfl)
          try simp only [Act.put, List.setIfInBounds_toArray, List.set_cons_zero, List.set_cons_succ]
          (try rw [hyn])
          -- 8 Op.fieldAddr 35 (Operand.tmp 3) 1
          refine wpMono_take' 8 (v := ?_) rfl (by kernel_rfl) (by kernel_rfl) (by kernel_rfl) (fun _ _ _ h => h) (by rfl) ?_ ?_
          rotate_left
          · (intro W hSw; (have hcW := hSw.cells; have q2 : W.cell? ⟨g, 2, none⟩ = some (.slice (some ⟨b, off, none⟩) L.length c3) := (hcW g 2 zl).trans z2; have q1 : W.cell? ⟨b, off + k * 10 + 1, none⟩ = some (.int .i64 y.n) := (hcW b _ hbr2).trans x1; have hxx := HXR.out.drew.drew.keeps (X := nobody) hSw (fun h => h); have p1 : W.cell? ⟨w.heap.size, 1, none⟩ = some (.int .i64 xn) := hxx.cell 1; have pl := hxx.lt)
             go_simp; first | done | rfl)
          try simp only [Act.put, List.setIfInBounds_toArray, List.set_cons_zero, List.set_cons_succ]
          (try rw [hyn])
          -- 9 Op.load 3 (Operand.tmp 60)
          refine wpMono_take' 9 (v := ?_) rfl (by kernel_rfl) (by kernel_rfl) (by kernel_rfl) (fun _ _ _ h => h) (by rfl) ?_ ?_
          rotate_left
          · (intro W hSw; (have hcW := hSw.cells; have q2 : W.cell? ⟨g, 2, none⟩ = some (.slice (some ⟨b, off, none⟩) L.length c3) := (hcW g 2 zl).trans z2; have q1 : W.cell? ⟨b, off + k * 10 + 1, none⟩ = some (.int .i64 y.n) := (hcW b _ hbr2).trans x1; have hxx := HXR.out.drew.drew.keeps (X := nobody) hSw (fun h => h); have p1 : W.cell? ⟨w.heap.size, 1, none⟩ = some (.int .i64 xn) := hxx.cell 1; have pl := hxx.lt)
             go_simp; first | done | rfl)
          try simp only [Act.put, List.setIfInBounds_toArray, List.set_cons_zero, List.set_cons_succ]
          (try rw [hyn])
          -- 10 Op.binOp BinOp.eql 3 (Operand.tmp 59) (Operand.tmp 61) 3
          refine wpMono_take' 10 (v := ?_) rfl (by kernel_rfl) (by kernel_rfl) (by kernel_rfl) (fun _ _ _ h => h) (by rfl) ?_ ?_
          rotate_left
          · (intro W hSw; (have hcW := hSw.cells; have q2 : W.cell? ⟨g, 2, none⟩ = some (.slice (some ⟨b, off, none⟩) L.length c3) := (hcW g 2 zl).trans z2; have q1 : W.cell? ⟨b, off + k * 10 + 1, none⟩ = some (.int .i64 y.n) := (hcW b _ hbr2).trans x1; have hxx := HXR.out.drew.drew.keeps (X := nobody) hSw (fun h => h); have p1 : W.cell? ⟨w.heap.size, 1, none⟩ = some (.int .i64 xn) := hxx.cell 1; have pl := hxx.lt)
             go_simp; first | done | rfl)
          try simp only [Act.put, List.setIfInBounds_toArray, List.set_cons_zero, List.set_cons_succ]
          (try rw [hyn])
          refine wpMono_done (by kernel_rfl) ?_ _
          go_wp2_with fail
          go_roundw
          case rel => exact ⟨k + 1, by omega, by go_num, by rw [HMN.out, HYR.out]; go_num, HNX.out (fun h => by have := HYN.out; simp at this; exact this h.2), HBR.out.drew.drew⟩
          case measure => (simp [intOf]; try omega)
        | true =>
          have hyn2 : y.n = xn := by simpa using hyn
          have HOC := Lib.hid (show offR rg ap L ⟨xr, xn, xt, xs, .slice A2 n2 c2, xz, xe, xk, xv, xg, xl⟩ = 8 from by unfold offR; rw [if_neg (by rw [Hrt.out]; simpa using HQ.out), if_pos (.inl (HHAS.out HYR2.out hyn2))])
          clear hyn2
          go_wp2_with fail
          refine wp_region_mono nobody (by kernel_rfl) ?_
          -- 0 Op.move (Operand.tmp 0)
          refine wpMono_take' 0 (v := ?_) rfl (by kernel_rfl) (by kernel_rfl) (by kernel_rfl) (fun _ _ _ h => h) (by rfl) ?_ ?_
          rotate_left
          · (intro W hSw; (have hcW := hSw.cells; have q2 : W.cell? ⟨g, 2, none⟩ = some (.slice (some ⟨b, off, none⟩) L.length c3) := (hcW g 2 zl).trans z2; have q1 : W.cell? ⟨b, off + k * 10 + 1, none⟩ = some (.int .i64 y.n) := (hcW b _ hbr2).trans x1; have hxx := HXR.out.drew.drew.keeps (X := nobody) hSw (fun h => h); have p1 : W.cell? ⟨w.heap.size, 1, none⟩ = some (.int .i64 xn) := hxx.cell 1; have pl := hxx.lt)
             go_simp; first | done | rfl)
          try simp only [Act.put, List.setIfInBounds_toArray, List.set_cons_zero, List.set_cons_succ]
          (try rw [hyn])
          -- 1 Op.nilCheck (Operand.tmp 52)
          refine wpMono_take' 1 (v := ?_) rfl (by kernel_rfl) (by kernel_rfl) (by kernel_rfl) (fun _ _ _ h => h) (by rfl) ?_ ?_
          rotate_left
          · (intro W hSw; (have hcW := hSw.cells; have q2 : W.cell? ⟨g, 2, none⟩ = some (.slice (some ⟨b, off, none⟩) L.length c3) := (hcW g 2 zl).trans z2; have q1 : W.cell? ⟨b, off + k * 10 + 1, none⟩ = some (.int .i64 y.n) := (hcW b _ hbr2).trans x1; have hxx := HXR.out.drew.drew.keeps (X := nobody) hSw (fun h => h); have p1 : W.cell? ⟨w.heap.size, 1, none⟩ = some (.int .i64 xn) := hxx.cell 1; have pl := hxx.lt)
             go_simp; first | done | rfl)
          try simp only [Act.put, List.setIfInBounds_toArray, List.set_cons_zero, List.set_cons_succ]
          (try rw [hyn])
          -- 2 Op.fieldAddr 68 (Operand.tmp 53) 2
          refine wpMono_take' 2 (v := ?_) rfl (by kernel_rfl) (by kernel_rfl) (by kernel_rfl) (fun _ _ _ h => h) (by rfl) ?_ ?_
          rotate_left
          · (intro W hSw; (have hcW := hSw.cells; have q2 : W.cell? ⟨g, 2, none⟩ = some (.slice (some ⟨b, off, none⟩) L.length c3) := (hcW g 2 zl).trans z2; have q1 : W.cell? ⟨b, off + k * 10 + 1, none⟩ = some (.int .i64 y.n) := (hcW b _ hbr2).trans x1; have hxx := HXR.out.drew.drew.keeps (X := nobody) hSw (fun h => h); have p1 : W.cell? ⟨w.heap.size, 1, none⟩ = some (.int .i64 xn) := hxx.cell 1; have pl := hxx.lt)
             go_simp; first | done | rfl)
          try simp only [Act.put, List.setIfInBounds_toArray, List.set_cons_zero, List.set_cons_succ]
          (try rw [hyn])
          -- 3 Op.load 25 (Operand.tmp 54)
          refine wpMono_take' 3 (v := ?_) rfl (by kernel_rfl) (by kernel_rfl) (by kernel_rfl) (fun _ _ _ h => h) (by rfl) ?_ ?_
          rotate_left
          · (intro W hSw; (have hcW := hSw.cells; have q2 : W.cell? ⟨g, 2, none⟩ = some (.slice (some ⟨b, off, none⟩) L.length c3) := (hcW g 2 zl).trans z2; have q1 : W.cell? ⟨b, off + k * 10 + 1, none⟩ = some (.int .i64 y.n) := (hcW b _ hbr2).trans x1; have hxx := HXR.out.drew.drew.keeps (X := nobody) hSw (fun h => h); have p1 : W.cell? ⟨w.heap.size, 1, none⟩ = some (.int .i64 xn) := hxx.cell 1; have pl := hxx.lt)
             go_simp; first | done | rfl)
          try simp only [Act.put, List.setIfInBounds_toArray, List.set_cons_zero, List.set_cons_succ]
          (try rw [hyn])
          -- 4 Op.move (Operand.tmp 7)
          refine wpMono_take' 4 (v := ?_) rfl (by kernel_rfl) (by kernel_rfl) (by kernel_rfl) (fun _ _ _ h => h) (by rfl) ?_ ?_
          rotate_left
          · (intro W hSw; (have hcW := hSw.cells; have q2 : W.cell? ⟨g, 2, none⟩ = some (.slice (some ⟨b, off, none⟩) L.length c3) := (hcW g 2 zl).trans z2; have q1 : W.cell? ⟨b, off + k * 10 + 1, none⟩ = some (.int .i64 y.n) := (hcW b _ hbr2).trans x1; have hxx := HXR.out.drew.drew.keeps (X := nobody) hSw (fun h => h); have p1 : W.cell? ⟨w.heap.size, 1, none⟩ = some (.int .i64 xn) := hxx.cell 1; have pl := hxx.lt)
             go_simp; first | done | rfl)
          try simp only [Act.put, List.setIfInBounds_toArray, List.set_cons_zero, List.set_cons_succ]
          (try rw [hyn])
          -- 5 Op.indexAddr 25 (Operand.tmp 55) (Operand.tmp 56)
          refine wpMono_take' 5 (v := ?_) rfl (by kernel_rfl) (by kernel_rfl) (by kernel_rfl) (fun _ _ _ h => h) (by rfl) ?_ ?_
          rotate_left
          · (intro W hSw; (have hcW := hSw.cells; have q2 : W.cell? ⟨g, 2, none⟩ = some (.slice (some ⟨b, off, none⟩) L.length c3) := (hcW g 2 zl).trans z2; have q1 : W.cell? ⟨b, off + k * 10 + 1, none⟩ = some (.int .i64 y.n) := (hcW b _ hbr2).trans x1; have hxx := HXR.out.drew.drew.keeps (X := nobody) hSw (fun h => h); have p1 : W.cell? ⟨w.heap.size, 1, none⟩ = some (.int .i64 xn) := hxx.cell 1; have pl := hxx.lt)
             go_simp; first | done | rfl)
          try simp only [Act.put, List.setIfInBounds_toArray, List.set_cons_zero, List.set_cons_succ]
          (try rw [hyn])
          -- 6 Op.fieldAddr 35 (Operand.tmp 57) 1
          refine wpMono_take' 6 (v := ?_) rfl (by kernel_rfl) (by kernel_rfl) (by kernel_rfl) (fun _ _ _ h => h) (by rfl) ?_ ?_
          rotate_left
          · (intro W hSw; (have hcW := hSw.cells; have q2 : W.cell? ⟨g, 2, none⟩ = some (.slice (some ⟨b, off, none⟩) L.length c3) := (hcW g 2 zl).trans z2; have q1 : W.cell? ⟨b, off + k * 10 + 1, none⟩ = some (.int .i64 y.n) := (hcW b _ hbr2).trans x1; have hxx := HXR.out.drew.drew.keeps (X := nobody) hSw (fun h => h); have p1 : W.cell? ⟨w.heap.size, 1, none⟩ = some (.int .i64 xn) := hxx.cell 1; have pl := hxx.lt)
             go_simp; first | done | rfl)
          try simp only [Act.put, List.setIfInBounds_toArray, List.set_cons_zero, List.set_cons_succ]
          (try rw [hyn])
          -- 7 Op.load 3 (Operand.tmp 58)
          refine wpMono_take' 7 (v := ?_) rfl (by kernel_rfl) (by kernel_rfl) (by kernel_rfl) (fun _ _ _ h => h) (by rfl) ?_ ?_
          rotate_left
          · (intro W hSw; (have hcW := hSw.cells; have q2 : W.cell? ⟨g, 2, none⟩ = some (.slice (some ⟨b, off, none⟩) L.length c3) := (hcW g 2 zl).trans z2; have q1 : W.cell? ⟨b, off + k * 10 + 1, none⟩ = some (.int .i64 y.n) := (hcW b _ hbr2).trans x1; have hxx := HXR.out.drew.drew.keeps (X := nobody) hSw (fun h => h); have p1 : W.cell? ⟨w.heap.size, 1, none⟩ = some (.int .i64 xn) := hxx.cell 1; have pl := hxx.lt)
             go_simp; first | done | rfl)
          try simp only [Act.put, List.setIfInBounds_toArray, List.set_cons_zero, List.set_cons_succ]
          (try rw [hyn])
          -- 8 Op.fieldAddr 35 (Operand.tmp 3) 1
          refine wpMono_take' 8 (v := ?_) rfl (by kernel_rfl) (by kernel_rfl) (by kernel_rfl) (fun _ _ _ h => h) (by rfl) ?_ ?_
          rotate_left
          · (intro W hSw; (have hcW := hSw.cells; have q2 : W.cell? ⟨g, 2, none⟩ = some (.slice (some ⟨b, off, none⟩) L.length c3) := (hcW g 2 zl).trans z2; have q1 : W.cell? ⟨b, off + k * 10 + 1, none⟩ = some (.int .i64 y.n) := (hcW b _ hbr2).trans x1; have hxx := HXR.out.drew.drew.keeps (X := nobody) hSw (fun h => h); have p1 : W.cell? ⟨w.heap.size, 1, none⟩ = some (.int .i64 xn) := hxx.cell 1; have pl := hxx.lt)
             go_simp; first | done | rfl)
          try simp only [Act.put, List.setIfInBounds_toArray, List.set_cons_zero, List.set_cons_succ]
          (try rw [hyn])
          -- 9 Op.load 3 (Operand.tmp 60)
          refine wpMono_take' 9 (v := ?_) rfl (by kernel_rfl) (by kernel_rfl) (by kernel_rfl) (fun _ _ _ h => h) (by rfl) ?_ ?_
          rotate_left
          · (intro W hSw; (have hcW := hSw.cells; have q2 : W.cell? ⟨g, 2, none⟩ = some (.slice (some ⟨b, off, none⟩) L.length c3) := (hcW g 2 zl).trans z2; have q1 : W.cell? ⟨b, off + k * 10 + 1, none⟩ = some (.int .i64 y.n) := (hcW b _ hbr2).trans x1; have hxx := HXR.out.drew.drew.keeps (X := nobody) hSw (fun h => h); have p1 : W.cell? ⟨w.heap.size, 1, none⟩ = some (.int .i64 xn) := hxx.cell 1; have pl := hxx.lt)
             go_simp; first | done | rfl)
          try simp only [Act.put, List.setIfInBounds_toArray, List.set_cons_zero, List.set_cons_succ]
          (try rw [hyn])
          -- 10 Op.binOp BinOp.eql 3 (Operand.tmp 59) (Operand.tmp 61) 3
          refine wpMono_take' 10 (v := ?_) rfl (by kernel_rfl) (by kernel_rfl) (by kernel_rfl) (fun _ _ _ h => h) (by rfl) ?_ ?_
          rotate_left
          · (intro W hSw; (have hcW := hSw.cells; have q2 : W.cell? ⟨g, 2, none⟩ = some (.slice (some ⟨b, off, none⟩) L.length c3) := (hcW g 2 zl).trans z2; have q1 : W.cell? ⟨b, off + k * 10 + 1, none⟩ = some (.int .i64 y.n) := (hcW b _ hbr2).trans x1; have hxx := HXR.out.drew.drew.keeps (X := nobody) hSw (fun h => h); have p1 : W.cell? ⟨w.heap.size, 1, none⟩ = some (.int .i64 xn) := hxx.cell 1; have pl := hxx.lt)
             go_simp; first | done | rfl)
          try simp only [Act.put, List.setIfInBounds_toArray, List.set_cons_zero, List.set_cons_succ]
          (try rw [hyn])
          refine wpMono_done (by kernel_rfl) ?_ _
          have HRR := Lib.hid (show OfferQ R g rg ap L ⟨xr, xn, xt, xs, .slice A2 n2 c2, xz, xe, xk, xv, xg, xl⟩ w (.returned (.tuple #[.slice none 0 0, .int .i64 8])) wr.drew.drew from .inl ⟨by rw [HOC.out]; decide, by rw [HOC.out], (below_step HB2.out HBR.out.drew.drew)⟩)
          go_wp2
          go_ret2
          exact HRR.out
    · obtain rfl : k = L.length := by omega
      rw [List.take_length] at HNO
      rw [List.take_length]
      have hnb : hasB L ⟨xr, xn, xt, xs, .slice A2 n2 c2, xz, xe, xk, xv, xg, xl⟩ = false := by
        rw [Bool.eq_false_iff]
        intro h
        obtain ⟨y, hy, h1, h2⟩ := hasB_iff.1 h
        exact HNO.out y hy ⟨h1, h2⟩
      have hrp := right_parts Hrt.out
      have HRP := Lib.hid hrp
      have hoc0 : offR rg ap L ⟨xr, xn, xt, xs, .slice A2 n2 c2, xz, xe, xk, xv, xg, xl⟩ = if 16 ≤ manyW L ⟨xr, xn, xt, xs, .slice A2 n2 c2, xz, xe, xk, xv, xg, xl⟩ ∧ readyB ap ⟨xr, xn, xt, xs, .slice A2 n2 c2, xz, xe, xk, xv, xg, xl⟩ = false then 4 else 0 := by
        unfold offR
        rw [if_neg (by rw [Hrt.out]; simpa using HQ.out), if_neg (by rw [hnb]; have := HLE.out; simp; omega)]
      have HOC0 := Lib.hid hoc0
      clear hnb hrp hoc0
      have HBT := Lib.hid (below_step HB2.out HBR.out)
      have HXT := HXR
      have HFT := Lib.hid (HF2.out.below HBR.out)
      have HVT := Lib.hid ((HV2.out.below HBR.out).more hsr)
      have HAT := Lib.hid ((HA2.out.below HBR.out).more hsr)
      obtain ⟨m, hm⟩ : ∃ m, manyW L ⟨xr, xn, xt, xs, .slice A2 n2 c2, xz, xe, xk, xv, xg, xl⟩ = m := ⟨_, rfl⟩
      have HM := Lib.hid hm
      rw [hm]
      clear hm HB2 HX2 HF2 HV2 HA2 HRD HNO HBR HXR HGR
      by_cases h16 : 16 ≤ m
      · have d16 : decide ((16 : Int) ≤ (m : Int)) = true := by simp; omega
        obtain ⟨k0, k1, k2, k3, k4, k5, k6, k7, k8, k9⟩ := cells10 HXT.out
        have kl := HXT.out.lt
        go_wp2_with fail
        refine (ready_ref g rg A1 ap.length c1 ap _ ⟨xr, xn, xt, xs, .slice A2 n2 c2, xz, xe, xk, xv, xg, xl⟩ A2 n2 c2 wr HFT.out.blk HAT.out rfl HVT.out (by omega) h2 hap).mono ?_
        rintro e w6 ⟨rfl, hb6⟩
        have HB6 := Lib.hid (below_step HBT.out hb6)
        have HX6 := Lib.hid (HXT.out.below hb6 HXT.out.lt)
        have HF6 := Lib.hid (HFT.out.below hb6)
        have HV6 := Lib.hid ((HVT.out.below hb6).more hb6.size)
        clear hb6 k0 k1 k2 k3 k4 k5 k6 k7 k8 k9 kl HBT HXT HFT HVT HAT z2 zl y2 yl2
        cases hrb : readyB ap ⟨xr, xn, xt, xs, .slice A2 n2 c2, xz, xe, xk, xv, xg, xl⟩ with
        | false =>
          have HOC := Lib.hid (show offR rg ap L ⟨xr, xn, xt, xs, .slice A2 n2 c2, xz, xe, xk, xv, xg, xl⟩ = 4 from by rw [HOC0.out, HM.out, hrb]; simp [h16])
          clear hrb
          have HRR := Lib.hid (show OfferQ R g rg ap L ⟨xr, xn, xt, xs, .slice A2 n2 c2, xz, xe, xk, xv, xg, xl⟩ w (.returned (.tuple #[.slice none 0 0, .int .i64 4])) w6 from .inl ⟨by rw [HOC.out]; decide, by rw [HOC.out], HB6.out⟩)
          go_wp2
          go_ret2
          exact HRR.out
        | true =>
          have HOC := Lib.hid (show offR rg ap L ⟨xr, xn, xt, xs, .slice A2 n2 c2, xz, xe, xk, xv, xg, xl⟩ = 0 from by rw [HOC0.out, hrb]; simp)
          clear hrb
          have HBT := HB6
          have HXT := HX6
          have HFT := HF6
          have HVT := HV6
          clear HB6 HX6 HF6 HV6
          have hsT : w.heap.size < w6.heap.size := HXT.out.lt
          have q4 : w6.cell? ⟨w.heap.size, 4, none⟩ = some (.slice A2 n2 c2) := HXT.out.cell 4
          obtain ⟨i1, hi1, hy0, hy1, hy2⟩ := info_parts Go.Proofs.Ytedkcpncomgboaa.vec.int_info
          have hone : ∀ u ∈ enc xz, u.oneCell' = true := fun u hu => by
            obtain ⟨z, _, rfl⟩ := List.mem_map.1 hu
            rfl
          have HVR := Lib.hid (show Reads w6 w6.heap.size 1 A2 n2 (enc xz) from HVT.out.2.2.2.1)
          have HZL := Lib.hid (show xz.length = n2 from HVT.out.1)
          go_wp2_with (at_builtin; refine wpList_append_two rfl (.tmp 71) (.tmp 73) 26 33 rfl w6.heap.size 3 3 i1 _ 1 8 Try.underlying26 Try.underlying33 hi1 hy0 hy1 hy2 rfl (by decide) (.slice (some ⟨w6.heap.size, 0, none⟩) 0 0) 0 [] rfl (ownsRow_new0 _ _ _ _) w6.heap.size A2 n2 c2 _ rfl (HVR.out.alloc (Nat.le_refl _) _) hone (by unfold maxLen; omega) (by omega) (by simp) ?_; intro v3 w3 hown3 hg3 ho3; simp only [Nat.zero_add, List.nil_append] at hown3; obtain ⟨A4, c4, rfl⟩ := ownsRow_slice hown3; have hb3 : Below w6.heap.size w6 w3 := (below_new w6 (.cells #[] 3)).trans ((Keeps.grown (X := fun i => w6.heap.size ≤ i) hg3 (fun g hg => .inl (by simp [Value.ownBlock] at hg; omega))).below (fun i hi e => by omega) (by simp)); have hx3 := HXT.out.below hb3 HXT.out.lt; have p4 : w3.cell? ⟨w.heap.size, 4, none⟩ = some (.slice A2 n2 c2) := hx3.cell 4; have pf := hx3.frozen 4; have pl := hx3.lt; have HX3 := Lib.hid hx3; have HB3 := Lib.hid hb3; have Hown3 := Lib.hid hown3; clear hown3 hg3 ho3 hb3 hx3)
          have hgx3 : Keeps (· = w.heap.size) w3 (w3.setCell ⟨w.heap.size, 4, none⟩ (.slice A4 n2 c4)) := Keeps.set1 w3 w.heap.size 4 _
          have HF4 := Lib.hid ((HFT.out.below HB3.out).keeps hgx3 (fun i hi e => by have := HSM.out i hi; omega))
          have hx4 : Blk (w3.setCell ⟨w.heap.size, 4, none⟩ (.slice A4 n2 c4)) w.heap.size 35 #[.int .i64 xr, .int .i64 xn, .int .i64 xt, .int .i64 xs, .slice A4 n2 c4, .string xe, .string xk, .string xv, .bool xg, .int .i64 xl] := by
            have := HX3.out.set_ 4 (.slice A4 n2 c4)
            simpa using this
          have HX4 := Lib.hid hx4
          have HN4 := Lib.hid (show NumsO (w3.setCell ⟨w.heap.size, 4, none⟩ (.slice A4 n2 c4)) w6.heap.size (.slice A4 n2 c4) xz from
            ⟨by rw [HZL.out]; exact own_keeps Hown3.out hgx3 (fun i hi e => by have := (Hown3.out.lt _ hi).1; omega), by have := HZL.out; omega⟩)
          have HB4 := Lib.hid ((below_step HBT.out HB3.out).setCell (p := ⟨w.heap.size, 4, none⟩) (Nat.le_refl _) (.slice A4 n2 c4))
          have hs4 : w6.heap.size ≤ (w3.setCell ⟨w.heap.size, 4, none⟩ (.slice A4 n2 c4)).heap.size := by have := HB3.out.size; simpa using this
          have hxl4 : w.heap.size < (w3.setCell ⟨w.heap.size, 4, none⟩ (.slice A4 n2 c4)).heap.size := HX4.out.lt
          clear hx4 hgx3 HX3 HXT HFT HBT HVT Hown3 HB3 q4 p4 pf hone HVR
          generalize w3.setCell ⟨w.heap.size, 4, none⟩ (.slice A4 n2 c4) = w4 at *
          have cg3 : w4.cell? ⟨g, 2, none⟩ = some (.slice A3 L.length c3) := HF4.out.blk.cell 2
          have hgl4 := HF4.out.blk.lt
          have hgx2 : g ≠ w.heap.size := by omega
          obtain ⟨i0, hi0, hz⟩ := Option.map_eq_some_iff.1 write_info
          simp only [Prod.mk.injEq] at hz
          obtain ⟨hz0, hz1, hz2⟩ := hz
          have Hi0 := Lib.hid hi0
          have Hz0 := Lib.hid hz0
          have Hz1 := Lib.hid hz1
          have Hz2 := Lib.hid hz2
          clear hi0 hz0 hz1 hz2
          have HrL := Lib.hid (show Reads w4 w4.heap.size 10 A3 L.length (L.flatMap Wr.cells) from Reads.of_own HF4.out.row)
          have honeL : ∀ u ∈ L.flatMap Wr.cells, u.oneCell' = true := by
            intro u hu
            obtain ⟨x, hx, hu⟩ := List.mem_flatMap.1 hu
            exact oneW x (nums_one (HF4.out.num x hx).nums) u hu
          have HoneL := Lib.hid honeL
          clear honeL
          go_wp2_with fail
          refine wp_region_monoJ (fun b => b ≠ w.heap.size) [6, 9, 12] (by kernel_rfl) ?_
          -- 0 Op.move (Operand.tmp 0)
          refine wpMonoJ_take' 0 (v := ?_) rfl (by kernel_rfl) (by kernel_rfl) (by kernel_rfl) (by rfl) (fun _ _ _ h => h) (by rfl) ?_ ?_
          rotate_left
          · (intro W hSw; first | (have hcW := hSw.cells; try simp only [World.size_drew, World.cell?_drew] at hcW) | (have hxW := HX4.out.drew.keeps hSw (fun h => h rfl); obtain ⟨e0, e1, e2, e3, e4, e5, e6, e7, e8, e9⟩ := cells10 hxW; have exl := hxW.lt) | skip
             go_simp; first | done | rfl)
          try simp only [Act.put, List.setIfInBounds_toArray, List.set_cons_zero, List.set_cons_succ]
          -- 2 Op.move (Operand.tmp 0)
          refine wpMonoJ_take' 2 (v := ?_) rfl (by kernel_rfl) (by kernel_rfl) (by kernel_rfl) (by rfl) (fun _ _ _ h => h) (by rfl) ?_ ?_
          rotate_left
          · (intro W hSw; first | (have hcW := hSw.cells; try simp only [World.size_drew, World.cell?_drew] at hcW) | (have hxW := HX4.out.drew.keeps hSw (fun h => h rfl); obtain ⟨e0, e1, e2, e3, e4, e5, e6, e7, e8, e9⟩ := cells10 hxW; have exl := hxW.lt) | skip
             go_simp; first | done | rfl)
          try simp only [Act.put, List.setIfInBounds_toArray, List.set_cons_zero, List.set_cons_succ]
          -- 3 Op.nilCheck (Operand.tmp 78)
          refine wpMonoJ_take' 3 (v := ?_) rfl (by kernel_rfl) (by kernel_rfl) (by kernel_rfl) (by rfl) (fun _ _ _ h => h) (by rfl) ?_ ?_
          rotate_left
          · (intro W hSw; first | (have hcW := hSw.cells; try simp only [World.size_drew, World.cell?_drew] at hcW) | (have hxW := HX4.out.drew.keeps hSw (fun h => h rfl); obtain ⟨e0, e1, e2, e3, e4, e5, e6, e7, e8, e9⟩ := cells10 hxW; have exl := hxW.lt) | skip
             go_simp; first | done | rfl)
          try simp only [Act.put, List.setIfInBounds_toArray, List.set_cons_zero, List.set_cons_succ]
          -- 4 Op.fieldAddr 68 (Operand.tmp 79) 2
          refine wpMonoJ_take' 4 (v := ?_) rfl (by kernel_rfl) (by kernel_rfl) (by kernel_rfl) (by rfl) (fun _ _ _ h => h) (by rfl) ?_ ?_
          rotate_left
          · (intro W hSw; first | (have hcW := hSw.cells; try simp only [World.size_drew, World.cell?_drew] at hcW) | (have hxW := HX4.out.drew.keeps hSw (fun h => h rfl); obtain ⟨e0, e1, e2, e3, e4, e5, e6, e7, e8, e9⟩ := cells10 hxW; have exl := hxW.lt) | skip
             go_simp; first | done | rfl)
          try simp only [Act.put, List.setIfInBounds_toArray, List.set_cons_zero, List.set_cons_succ]
          -- 5 Op.load 25 (Operand.tmp 80)
          refine wpMonoJ_read' 5 [6, 9, 10, 11, 12] (v := ?_) rfl (by kernel_rfl) (by kernel_rfl) (by kernel_rfl) (by rfl) (by kernel_rfl) (by rfl) (fun _ _ _ h => h) (by rfl) ?_ ?_
          rotate_left
          · (intro W hSw; first | (have hcW := hSw.cells; try simp only [World.size_drew, World.cell?_drew] at hcW) | (have hxW := HX4.out.drew.keeps hSw (fun h => h rfl); obtain ⟨e0, e1, e2, e3, e4, e5, e6, e7, e8, e9⟩ := cells10 hxW; have exl := hxW.lt) | skip
             go_simp; first | done | rfl)
          try simp only [Act.put, List.setIfInBounds_toArray, List.set_cons_zero, List.set_cons_succ]
          -- 7 Op.load 35 (Operand.tmp 3)
          refine wpMonoJ_take' 7 (v := ?_) rfl (by kernel_rfl) (by kernel_rfl) (by kernel_rfl) (by rfl) (fun _ _ _ h => h) (by rfl) ?_ ?_
          rotate_left
          · (intro W hSw; first | (have hcW := hSw.cells; try simp only [World.size_drew, World.cell?_drew] at hcW) | (have hxW := HX4.out.drew.keeps hSw (fun h => h rfl); obtain ⟨e0, e1, e2, e3, e4, e5, e6, e7, e8, e9⟩ := cells10 hxW; have exl := hxW.lt) | skip
             go_simp; first | done | rfl)
          try simp only [Act.put, List.setIfInBounds_toArray, List.set_cons_zero, List.set_cons_succ]
          refine wpMonoJ_two' 1 8 (by kernel_rfl) rfl (by rfl) rfl (by rfl) (fun K hK => ?_) (fun K hK => ?_)
          · skip
            go_simp
            have hrow : (w4.alloc (.cells #[] 35)).drew.ownsRow w4.heap.size 35 10 (.slice (some ⟨w4.heap.size, 0, none⟩) 0 0) 0 [] := own_keeps (ownsRow_new0 w4 35 10 #[]) (X := nobody) Keeps.drew (fun _ _ h => h)
            have hbw : Below w4.heap.size w4 (w4.alloc (.cells #[] 35)).drew := (below_new w4 _).drew
            refine hK.out _ _ ⟨rfl, rfl, rfl, by simp, fun i hi _ => Below.heap_alloc w4 _ i hi⟩ ?_
            clear hK K
            try simp only [Act.put, List.setIfInBounds_toArray, List.set_cons_zero, List.set_cons_succ]
            generalize (w4.alloc (.cells #[] 35)).drew = W1 at *
            have Hrow := Lib.hid hrow
            have HBW := Lib.hid hbw
            clear hrow hbw
            refine wpMonoJ_two' 6 8 (by kernel_rfl) rfl (by rfl) rfl (by rfl) (fun K hK => ?_) (fun K hK => ?_)
            · skip
              have hr6 : Reads W1 w4.heap.size 10 A3 L.length (L.flatMap Wr.cells) := HrL.out.below HBW.out
              refine wp_append_any _ (.tmp 77) (.tmp 81) _ (by rfl) w4.heap.size 35 i0 _ 10 120 Try.underlying25 Hi0.out Hz0.out Hz1.out Hz2.out rfl (by omega) (.slice (some ⟨w4.heap.size, 0, none⟩) 0 0) 0 [] (by rfl) Hrow.out w4.heap.size A3 L.length c3 _ (by rfl) hr6 HoneL.out (by unfold maxLen; omega) (by omega) HBW.out.size fun v6 w6 ho6 hg6 hv6 => ?_
              simp only [Nat.zero_add, List.nil_append] at ho6
              obtain ⟨A6, c6, rfl⟩ := ownsRow_slice ho6
              have hb6 : Below w4.heap.size w4 w6 := HBW.out.trans ((Keeps.grown (X := fun i => w4.heap.size ≤ i) hg6 (fun i hi => .inl (Hrow.out.lt _ hi).1)).below (fun i hi e => by omega) HBW.out.size)
              have hgr6 : ∀ i, (Value.slice (some ⟨w4.heap.size, 0, none⟩) 0 0).ownBlock = some i → i ≠ w.heap.size := fun i hi => by have := (Hrow.out.lt _ hi).1; omega
              have Ho6 := Lib.hid ho6
              have Hb6 := Lib.hid hb6
              have Hg6 := Lib.hid hg6
              clear hr6 ho6 hb6
              refine hK.out _ _ (moved (.grown hg6 fun i hi => .inl (hgr6 i hi)) (by decide)) ?_
              clear hK K
              try simp only [Act.put, List.setIfInBounds_toArray, List.set_cons_zero, List.set_cons_succ]
              clear hg6 hv6 hgr6
              refine wpMonoJ_one' 8 (by kernel_rfl) rfl (by rfl) (fun K hK => ?_)
              clear HBW
              have HBW := Hb6
              go_simp
              have hb8 : Below (w6).heap.size w6 ((w6).alloc (.cells #[.int .i64 xr, .int .i64 xn, .int .i64 xt, .int .i64 xs, .slice A4 n2 c4, .string xe, .string xk, .string xv, .bool xg, .int .i64 xl] 35)) := below_new _ _
              have H8 := Lib.hid (Blk.new w6 35 #[.int .i64 xr, .int .i64 xn, .int .i64 xt, .int .i64 xs, .slice A4 n2 c4, .string xe, .string xk, .string xv, .bool xg, .int .i64 xl])
              have HBV := Lib.hid (HBW.out.trans (hb8.mono HBW.out.size))
              refine hK.out _ _ (Keeps.alloc _) ?_
              clear hK K
              try simp only [Act.put, List.setIfInBounds_toArray, List.set_cons_zero, List.set_cons_succ]
              have ho7 := own_below Ho6.out hb8
              have h8 := H8.out
              have hbv := HBV.out
              clear hb8 H8 HBV HBW Ho6
              generalize w6.alloc (.cells #[.int .i64 xr, .int .i64 xn, .int .i64 xt, .int .i64 xs, .slice A4 n2 c4, .string xe, .string xk, .string xv, .bool xg, .int .i64 xl] 35) = V at *
              have Ho6 := Lib.hid ho7
              have H8 := Lib.hid h8
              have HBW := Lib.hid hbv
              clear ho7 h8 hbv
              refine wpMonoJ_one' 9 (by kernel_rfl) rfl (by rfl) (fun K hK => ?_)
              have hr9 := reads_blk (n := 1) (size := 10) H8.out rfl
              refine wp_append_any _ (.tmp 82) (.tmp 84) _ (by rfl) w4.heap.size 35 i0 _ 10 120 Try.underlying25 Hi0.out Hz0.out Hz1.out Hz2.out rfl (by omega) (.slice A6 L.length c6) L.length _ (by rfl) Ho6.out _ _ 1 1 (Wr.cells ⟨xr, xn, xt, xs, .slice A4 n2 c4, xz, xe, xk, xv, xg, xl⟩) (by rfl) hr9 (oneW _ rfl) (by unfold maxLen; omega) (by omega) HBW.out.size fun v9 w9 ho9 hg9 hv9 => ?_
              obtain ⟨A9, c9, rfl⟩ := ownsRow_slice ho9
              have Hb9 := Lib.hid (HBW.out.trans ((Keeps.grown (X := fun i => w4.heap.size ≤ i) hg9 (fun i hi => .inl (Ho6.out.lt _ hi).1)).below (fun i hi e => by omega) HBW.out.size))
              have hgr9 : ∀ i, (Value.slice A6 L.length c6).ownBlock = some i → i ≠ w.heap.size := fun i hi => by have := (Ho6.out.lt _ hi).1; omega
              have Ho9 := Lib.hid ho9
              refine hK.out _ _ (moved (.grown hg9 fun i hi => .inl (hgr9 i hi)) (by decide)) ?_
              clear hK K
              try simp only [Act.put, List.setIfInBounds_toArray, List.set_cons_zero, List.set_cons_succ]
              clear hr9 ho9 hg9 hv9 hgr9
              have hf9 := HF4.out.blk.below Hb9.out HF4.out.blk.lt
              have p3 : w9.cell? ⟨g, 2, none⟩ = _ := hf9.cell 2
              have pf := hf9.frozen 2
              have pl9 := hf9.lt
              clear hf9
              refine wpMonoJ_take' 10 (v := ?_) rfl (by kernel_rfl) (by kernel_rfl) (by kernel_rfl) (by rfl) (fun _ _ _ h => h) (by rfl) ?_ ?_
              rotate_left
              · (intro W hSw
                 go_simp; first | done | rfl)
              try simp only [Act.put, List.setIfInBounds_toArray, List.set_cons_zero, List.set_cons_succ]
              refine wpMonoJ_take' 11 (v := ?_) rfl (by kernel_rfl) (by kernel_rfl) (by kernel_rfl) (by rfl) (fun _ _ _ h => h) (by rfl) ?_ ?_
              rotate_left
              · (intro W hSw
                 go_simp; first | done | rfl)
              try simp only [Act.put, List.setIfInBounds_toArray, List.set_cons_zero, List.set_cons_succ]
              refine wpMonoJ_one' 12 (by kernel_rfl) rfl (by rfl) (fun K hK => ?_)
              go_simp
              refine hK.out _ _ (moved (.setCell (.inl hgx2) _) (by decide)) ?_
              clear hK K
              try simp only [Act.put, List.setIfInBounds_toArray, List.set_cons_zero, List.set_cons_succ]
              refine wpMonoJ_done (by kernel_rfl) ?_ _
              have hs9 := Hb9.out.size
              have HF5 := Lib.hid (HF4.out.putL (R' := fun i => (R i ∨ w.heap.size ≤ i) ∧ i < w9.heap.size) (L' := L ++ [(⟨xr, xn, xt, xs, .slice A4 n2 c4, xz, xe, xk, xv, xg, xl⟩ : Wr)]) (vl' := .slice A9 (L.length + 1) c9) Hb9.out (by
                  have h := Ho9.out
                  rw [List.length_append, List.flatMap_append]
                  simpa using h) (by rw [List.length_append]; simp; omega)
                (fun y hy => by
                  rcases List.mem_append.1 hy with hy | hy
                  · exact ⟨.inl hy, HF4.out.rng y hy⟩
                  · rw [List.mem_singleton.1 hy]
                    exact ⟨.inr ⟨(HN4.out.below Hb9.out).base (Nat.zero_le _), fun i hi => ⟨.inr (by have := (HN4.out.1.lt i hi).1; omega), by have := (HN4.out.1.lt i hi).2; omega⟩⟩, ⟨HRP.out.r0, HRP.out.r1⟩, ⟨HRP.out.n0, HRP.out.n1⟩⟩)
                (fun i hi => ⟨.inl hi, by have := HF4.out.small i hi; omega⟩) (fun i h1 h2 => ⟨.inr (by omega), h2⟩) (fun i hi => hi.2))
              have HKW := Lib.hid (show Keeps R w (w9.setCell ⟨g, 2, none⟩ (.slice A9 (L.length + 1) c9)) from ((Keeps.of_below HB4.out).trans (.of_below Hb9.out)).trans ((Keeps.set1 w9 g 2 _).more fun i _ e => by rw [show i = g from e]; exact HF4.out.inG))
              clear p3 pf pl9 Ho9 Hb9 Ho6 Hg6 Hb6 H8 HBW Hrow
              go_wp2_with fail
              generalize w9.setCell ⟨g, 2, none⟩ (.slice A9 (L.length + 1) c9) = w5 at *
              refine (drain_ref g rg _ ap (L ++ [(⟨xr, xn, xt, xs, .slice A4 n2 c4, xz, xe, xk, xv, xg, xl⟩ : Wr)]) _ _ w5 HF5.out).mono ?_
              rintro e w14 ⟨vo, a, l, out, S3, rfl, hdr, hno⟩
              have HRR := Lib.hid (show OfferQ R g rg ap L ⟨xr, xn, xt, xs, .slice A2 n2 c2, xz, xe, xk, xv, xg, xl⟩ w (.returned (.tuple #[vo, .int .i64 0])) w14 from .inr ⟨HOC.out, .slice A4 n2 c4, vo, a, l, out, S3, rfl, hdr.from HKW.out (fun i hi => hi.1), hno⟩)
              obtain ⟨A14, c14, rfl⟩ := ownsRow_slice hdr.2.2.1
              clear hdr hno
              go_wp2
              go_ret2
              exact HRR.out
            · skip
              go_simp
              have hb8 : Below (W1).heap.size W1 ((W1).alloc (.cells #[.int .i64 xr, .int .i64 xn, .int .i64 xt, .int .i64 xs, .slice A4 n2 c4, .string xe, .string xk, .string xv, .bool xg, .int .i64 xl] 35)) := below_new _ _
              have H8 := Lib.hid (Blk.new W1 35 #[.int .i64 xr, .int .i64 xn, .int .i64 xt, .int .i64 xs, .slice A4 n2 c4, .string xe, .string xk, .string xv, .bool xg, .int .i64 xl])
              have HBV := Lib.hid (HBW.out.trans (hb8.mono HBW.out.size))
              refine hK.out _ _ (Keeps.alloc _) ?_
              clear hK K
              try simp only [Act.put, List.setIfInBounds_toArray, List.set_cons_zero, List.set_cons_succ]
              have hrow := own_below Hrow.out hb8
              have h8 := H8.out
              have hbv := HBV.out
              have hne : W1.heap.size ≠ w4.heap.size := by have h : w4.heap.size < W1.heap.size := (Hrow.out.lt _ rfl).2; omega
              clear hb8 H8 HBV HBW Hrow
              generalize W1.alloc (.cells #[.int .i64 xr, .int .i64 xn, .int .i64 xt, .int .i64 xs, .slice A4 n2 c4, .string xe, .string xk, .string xv, .bool xg, .int .i64 xl] 35) = V at *
              have Hrow := Lib.hid hrow
              have H8 := Lib.hid h8
              have HBW := Lib.hid hbv
              clear hrow h8 hbv
              refine wpMonoJ_one' 6 (by kernel_rfl) rfl (by rfl) (fun K hK => ?_)
              have hr6 : Reads V w4.heap.size 10 A3 L.length (L.flatMap Wr.cells) := HrL.out.below HBW.out
              refine wp_append_any _ (.tmp 77) (.tmp 81) _ (by rfl) w4.heap.size 35 i0 _ 10 120 Try.underlying25 Hi0.out Hz0.out Hz1.out Hz2.out rfl (by omega) (.slice (some ⟨w4.heap.size, 0, none⟩) 0 0) 0 [] (by rfl) Hrow.out w4.heap.size A3 L.length c3 _ (by rfl) hr6 HoneL.out (by unfold maxLen; omega) (by omega) HBW.out.size fun v6 w6 ho6 hg6 hv6 => ?_
              simp only [Nat.zero_add, List.nil_append] at ho6
              obtain ⟨A6, c6, rfl⟩ := ownsRow_slice ho6
              have hb6 : Below w4.heap.size w4 w6 := HBW.out.trans ((Keeps.grown (X := fun i => w4.heap.size ≤ i) hg6 (fun i hi => .inl (Hrow.out.lt _ hi).1)).below (fun i hi e => by omega) HBW.out.size)
              have hgr6 : ∀ i, (Value.slice (some ⟨w4.heap.size, 0, none⟩) 0 0).ownBlock = some i → i ≠ w.heap.size := fun i hi => by have := (Hrow.out.lt _ hi).1; omega
              have Ho6 := Lib.hid ho6
              have Hb6 := Lib.hid hb6
              have Hg6 := Lib.hid hg6
              clear hr6 ho6 hb6
              refine hK.out _ _ (moved (.grown hg6 fun i hi => .inl (hgr6 i hi)) (by decide)) ?_
              clear hK K
              try simp only [Act.put, List.setIfInBounds_toArray, List.set_cons_zero, List.set_cons_succ]
              clear hg6 hv6 hgr6
              have h8 := H8.out.grown Hg6.out (fun e => by injection e with e; exact hne e)
              clear H8 HBW
              have H8 := Lib.hid h8
              have HBW := Hb6
              clear h8
              refine wpMonoJ_one' 9 (by kernel_rfl) rfl (by rfl) (fun K hK => ?_)
              have hr9 := reads_blk (n := 1) (size := 10) H8.out rfl
              refine wp_append_any _ (.tmp 82) (.tmp 84) _ (by rfl) w4.heap.size 35 i0 _ 10 120 Try.underlying25 Hi0.out Hz0.out Hz1.out Hz2.out rfl (by omega) (.slice A6 L.length c6) L.length _ (by rfl) Ho6.out _ _ 1 1 (Wr.cells ⟨xr, xn, xt, xs, .slice A4 n2 c4, xz, xe, xk, xv, xg, xl⟩) (by rfl) hr9 (oneW _ rfl) (by unfold maxLen; omega) (by omega) HBW.out.size fun v9 w9 ho9 hg9 hv9 => ?_
              obtain ⟨A9, c9, rfl⟩ := ownsRow_slice ho9
              have Hb9 := Lib.hid (HBW.out.trans ((Keeps.grown (X := fun i => w4.heap.size ≤ i) hg9 (fun i hi => .inl (Ho6.out.lt _ hi).1)).below (fun i hi e => by omega) HBW.out.size))
              have hgr9 : ∀ i, (Value.slice A6 L.length c6).ownBlock = some i → i ≠ w.heap.size := fun i hi => by have := (Ho6.out.lt _ hi).1; omega
              have Ho9 := Lib.hid ho9
              refine hK.out _ _ (moved (.grown hg9 fun i hi => .inl (hgr9 i hi)) (by decide)) ?_
              clear hK K
              try simp only [Act.put, List.setIfInBounds_toArray, List.set_cons_zero, List.set_cons_succ]
              clear hr9 ho9 hg9 hv9 hgr9
              have hf9 := HF4.out.blk.below Hb9.out HF4.out.blk.lt
              have p3 : w9.cell? ⟨g, 2, none⟩ = _ := hf9.cell 2
              have pf := hf9.frozen 2
              have pl9 := hf9.lt
              clear hf9
              refine wpMonoJ_take' 10 (v := ?_) rfl (by kernel_rfl) (by kernel_rfl) (by kernel_rfl) (by rfl) (fun _ _ _ h => h) (by rfl) ?_ ?_
              rotate_left
              · (intro W hSw
                 go_simp; first | done | rfl)
              try simp only [Act.put, List.setIfInBounds_toArray, List.set_cons_zero, List.set_cons_succ]
              refine wpMonoJ_take' 11 (v := ?_) rfl (by kernel_rfl) (by kernel_rfl) (by kernel_rfl) (by rfl) (fun _ _ _ h => h) (by rfl) ?_ ?_
              rotate_left
              · (intro W hSw
                 go_simp; first | done | rfl)
              try simp only [Act.put, List.setIfInBounds_toArray, List.set_cons_zero, List.set_cons_succ]
              refine wpMonoJ_one' 12 (by kernel_rfl) rfl (by rfl) (fun K hK => ?_)
              go_simp
              refine hK.out _ _ (moved (.setCell (.inl hgx2) _) (by decide)) ?_
              clear hK K
              try simp only [Act.put, List.setIfInBounds_toArray, List.set_cons_zero, List.set_cons_succ]
              refine wpMonoJ_done (by kernel_rfl) ?_ _
              have hs9 := Hb9.out.size
              have HF5 := Lib.hid (HF4.out.putL (R' := fun i => (R i ∨ w.heap.size ≤ i) ∧ i < w9.heap.size) (L' := L ++ [(⟨xr, xn, xt, xs, .slice A4 n2 c4, xz, xe, xk, xv, xg, xl⟩ : Wr)]) (vl' := .slice A9 (L.length + 1) c9) Hb9.out (by
                  have h := Ho9.out
                  rw [List.length_append, List.flatMap_append]
                  simpa using h) (by rw [List.length_append]; simp; omega)
                (fun y hy => by
                  rcases List.mem_append.1 hy with hy | hy
                  · exact ⟨.inl hy, HF4.out.rng y hy⟩
                  · rw [List.mem_singleton.1 hy]
                    exact ⟨.inr ⟨(HN4.out.below Hb9.out).base (Nat.zero_le _), fun i hi => ⟨.inr (by have := (HN4.out.1.lt i hi).1; omega), by have := (HN4.out.1.lt i hi).2; omega⟩⟩, ⟨HRP.out.r0, HRP.out.r1⟩, ⟨HRP.out.n0, HRP.out.n1⟩⟩)
                (fun i hi => ⟨.inl hi, by have := HF4.out.small i hi; omega⟩) (fun i h1 h2 => ⟨.inr (by omega), h2⟩) (fun i hi => hi.2))
              have HKW := Lib.hid (show Keeps R w (w9.setCell ⟨g, 2, none⟩ (.slice A9 (L.length + 1) c9)) from ((Keeps.of_below HB4.out).trans (.of_below Hb9.out)).trans ((Keeps.set1 w9 g 2 _).more fun i _ e => by rw [show i = g from e]; exact HF4.out.inG))
              clear p3 pf pl9 Ho9 Hb9 Ho6 Hg6 Hb6 H8 HBW Hrow
              go_wp2_with fail
              generalize w9.setCell ⟨g, 2, none⟩ (.slice A9 (L.length + 1) c9) = w5 at *
              refine (drain_ref g rg _ ap (L ++ [(⟨xr, xn, xt, xs, .slice A4 n2 c4, xz, xe, xk, xv, xg, xl⟩ : Wr)]) _ _ w5 HF5.out).mono ?_
              rintro e w14 ⟨vo, a, l, out, S3, rfl, hdr, hno⟩
              have HRR := Lib.hid (show OfferQ R g rg ap L ⟨xr, xn, xt, xs, .slice A2 n2 c2, xz, xe, xk, xv, xg, xl⟩ w (.returned (.tuple #[vo, .int .i64 0])) w14 from .inr ⟨HOC.out, .slice A4 n2 c4, vo, a, l, out, S3, rfl, hdr.from HKW.out (fun i hi => hi.1), hno⟩)
              obtain ⟨A14, c14, rfl⟩ := ownsRow_slice hdr.2.2.1
              clear hdr hno
              go_wp2
              go_ret2
              exact HRR.out
          · skip
            go_simp
            have h8 : Blk (w4.alloc (.cells #[.int .i64 xr, .int .i64 xn, .int .i64 xt, .int .i64 xs, .slice A4 n2 c4, .string xe, .string xk, .string xv, .bool xg, .int .i64 xl] 35)).drew w4.heap.size 35 #[.int .i64 xr, .int .i64 xn, .int .i64 xt, .int .i64 xs, .slice A4 n2 c4, .string xe, .string xk, .string xv, .bool xg, .int .i64 xl] := (Blk.new w4 35 #[.int .i64 xr, .int .i64 xn, .int .i64 xt, .int .i64 xs, .slice A4 n2 c4, .string xe, .string xk, .string xv, .bool xg, .int .i64 xl])
            have hbw : Below w4.heap.size w4 (w4.alloc (.cells #[.int .i64 xr, .int .i64 xn, .int .i64 xt, .int .i64 xs, .slice A4 n2 c4, .string xe, .string xk, .string xv, .bool xg, .int .i64 xl] 35)).drew := (below_new w4 _).drew
            refine hK.out _ _ ⟨rfl, rfl, rfl, by simp, fun i hi _ => Below.heap_alloc w4 _ i hi⟩ ?_
            clear hK K
            try simp only [Act.put, List.setIfInBounds_toArray, List.set_cons_zero, List.set_cons_succ]
            generalize (w4.alloc (.cells #[.int .i64 xr, .int .i64 xn, .int .i64 xt, .int .i64 xs, .slice A4 n2 c4, .string xe, .string xk, .string xv, .bool xg, .int .i64 xl] 35)).drew = V1 at *
            refine wpMonoJ_one' 1 (by kernel_rfl) rfl (by rfl) (fun K hK => ?_)
            go_simp
            have hrow : (V1.alloc (.cells #[] 35)).ownsRow w4.heap.size 35 10 (.slice (some ⟨V1.heap.size, 0, none⟩) 0 0) 0 [] := by
              obtain ⟨q1, q2⟩ := ownsRow_new0 V1 35 10 #[] (n := 0)
              refine ⟨q1, q2.imp id ?_⟩
              rintro ⟨g', cap, cur, e, q3, q4⟩
              exact ⟨g', cap, cur, e, Nat.le_trans hbw.size q3, q4⟩
            have hbv : Below w4.heap.size w4 (V1.alloc (.cells #[] 35)) := hbw.alloc hbw.size _
            have h8' := h8.alloc (.cells #[] 35)
            have hne : w4.heap.size ≠ V1.heap.size := by have := h8.lt; omega
            refine hK.out _ _ (Keeps.alloc _) ?_
            clear hK K
            try simp only [Act.put, List.setIfInBounds_toArray, List.set_cons_zero, List.set_cons_succ]
            clear h8 hbw
            generalize V1.alloc (.cells #[] 35) = V at *
            have Hrow := Lib.hid hrow
            have H8 := Lib.hid h8'
            have HBW := Lib.hid hbv
            clear hrow h8' hbv
            refine wpMonoJ_one' 6 (by kernel_rfl) rfl (by rfl) (fun K hK => ?_)
            have hr6 : Reads V w4.heap.size 10 A3 L.length (L.flatMap Wr.cells) := HrL.out.below HBW.out
            refine wp_append_any _ (.tmp 77) (.tmp 81) _ (by rfl) w4.heap.size 35 i0 _ 10 120 Try.underlying25 Hi0.out Hz0.out Hz1.out Hz2.out rfl (by omega) (.slice (some ⟨V1.heap.size, 0, none⟩) 0 0) 0 [] (by rfl) Hrow.out w4.heap.size A3 L.length c3 _ (by rfl) hr6 HoneL.out (by unfold maxLen; omega) (by omega) HBW.out.size fun v6 w6 ho6 hg6 hv6 => ?_
            simp only [Nat.zero_add, List.nil_append] at ho6
            obtain ⟨A6, c6, rfl⟩ := ownsRow_slice ho6
            have hb6 : Below w4.heap.size w4 w6 := HBW.out.trans ((Keeps.grown (X := fun i => w4.heap.size ≤ i) hg6 (fun i hi => .inl (Hrow.out.lt _ hi).1)).below (fun i hi e => by omega) HBW.out.size)
            have hgr6 : ∀ i, (Value.slice (some ⟨V1.heap.size, 0, none⟩) 0 0).ownBlock = some i → i ≠ w.heap.size := fun i hi => by have := (Hrow.out.lt _ hi).1; omega
            have Ho6 := Lib.hid ho6
            have Hb6 := Lib.hid hb6
            have Hg6 := Lib.hid hg6
            clear hr6 ho6 hb6
            refine hK.out _ _ (moved (.grown hg6 fun i hi => .inl (hgr6 i hi)) (by decide)) ?_
            clear hK K
            try simp only [Act.put, List.setIfInBounds_toArray, List.set_cons_zero, List.set_cons_succ]
            clear hg6 hv6 hgr6
            have h8 := H8.out.grown Hg6.out (fun e => by injection e with e; exact hne e)
            clear H8 HBW
            have H8 := Lib.hid h8
            have HBW := Hb6
            clear h8
            refine wpMonoJ_one' 9 (by kernel_rfl) rfl (by rfl) (fun K hK => ?_)
            have hr9 := reads_blk (n := 1) (size := 10) H8.out rfl
            refine wp_append_any _ (.tmp 82) (.tmp 84) _ (by rfl) w4.heap.size 35 i0 _ 10 120 Try.underlying25 Hi0.out Hz0.out Hz1.out Hz2.out rfl (by omega) (.slice A6 L.length c6) L.length _ (by rfl) Ho6.out _ _ 1 1 (Wr.cells ⟨xr, xn, xt, xs, .slice A4 n2 c4, xz, xe, xk, xv, xg, xl⟩) (by rfl) hr9 (oneW _ rfl) (by unfold maxLen; omega) (by omega) HBW.out.size fun v9 w9 ho9 hg9 hv9 => ?_
            obtain ⟨A9, c9, rfl⟩ := ownsRow_slice ho9
            have Hb9 := Lib.hid (HBW.out.trans ((Keeps.grown (X := fun i => w4.heap.size ≤ i) hg9 (fun i hi => .inl (Ho6.out.lt _ hi).1)).below (fun i hi e => by omega) HBW.out.size))
            have hgr9 : ∀ i, (Value.slice A6 L.length c6).ownBlock = some i → i ≠ w.heap.size := fun i hi => by have := (Ho6.out.lt _ hi).1; omega
            have Ho9 := Lib.hid ho9
            refine hK.out _ _ (moved (.grown hg9 fun i hi => .inl (hgr9 i hi)) (by decide)) ?_
            clear hK K
            try simp only [Act.put, List.setIfInBounds_toArray, List.set_cons_zero, List.set_cons_succ]
            clear hr9 ho9 hg9 hv9 hgr9
            have hf9 := HF4.out.blk.below Hb9.out HF4.out.blk.lt
            have p3 : w9.cell? ⟨g, 2, none⟩ = _ := hf9.cell 2
            have pf := hf9.frozen 2
            have pl9 := hf9.lt
            clear hf9
            refine wpMonoJ_take' 10 (v := ?_) rfl (by kernel_rfl) (by kernel_rfl) (by kernel_rfl) (by rfl) (fun _ _ _ h => h) (by rfl) ?_ ?_
            rotate_left
            · (intro W hSw
               go_simp; first | done | rfl)
            try simp only [Act.put, List.setIfInBounds_toArray, List.set_cons_zero, List.set_cons_succ]
            refine wpMonoJ_take' 11 (v := ?_) rfl (by kernel_rfl) (by kernel_rfl) (by kernel_rfl) (by rfl) (fun _ _ _ h => h) (by rfl) ?_ ?_
            rotate_left
            · (intro W hSw
               go_simp; first | done | rfl)
            try simp only [Act.put, List.setIfInBounds_toArray, List.set_cons_zero, List.set_cons_succ]
            refine wpMonoJ_one' 12 (by kernel_rfl) rfl (by rfl) (fun K hK => ?_)
            go_simp
            refine hK.out _ _ (moved (.setCell (.inl hgx2) _) (by decide)) ?_
            clear hK K
            try simp only [Act.put, List.setIfInBounds_toArray, List.set_cons_zero, List.set_cons_succ]
            refine wpMonoJ_done (by kernel_rfl) ?_ _
            have hs9 := Hb9.out.size
            have HF5 := Lib.hid (HF4.out.putL (R' := fun i => (R i ∨ w.heap.size ≤ i) ∧ i < w9.heap.size) (L' := L ++ [(⟨xr, xn, xt, xs, .slice A4 n2 c4, xz, xe, xk, xv, xg, xl⟩ : Wr)]) (vl' := .slice A9 (L.length + 1) c9) Hb9.out (by
                have h := Ho9.out
                rw [List.length_append, List.flatMap_append]
                simpa using h) (by rw [List.length_append]; simp; omega)
              (fun y hy => by
                rcases List.mem_append.1 hy with hy | hy
                · exact ⟨.inl hy, HF4.out.rng y hy⟩
                · rw [List.mem_singleton.1 hy]
                  exact ⟨.inr ⟨(HN4.out.below Hb9.out).base (Nat.zero_le _), fun i hi => ⟨.inr (by have := (HN4.out.1.lt i hi).1; omega), by have := (HN4.out.1.lt i hi).2; omega⟩⟩, ⟨HRP.out.r0, HRP.out.r1⟩, ⟨HRP.out.n0, HRP.out.n1⟩⟩)
              (fun i hi => ⟨.inl hi, by have := HF4.out.small i hi; omega⟩) (fun i h1 h2 => ⟨.inr (by omega), h2⟩) (fun i hi => hi.2))
            have HKW := Lib.hid (show Keeps R w (w9.setCell ⟨g, 2, none⟩ (.slice A9 (L.length + 1) c9)) from ((Keeps.of_below HB4.out).trans (.of_below Hb9.out)).trans ((Keeps.set1 w9 g 2 _).more fun i _ e => by rw [show i = g from e]; exact HF4.out.inG))
            clear p3 pf pl9 Ho9 Hb9 Ho6 Hg6 Hb6 H8 HBW Hrow
            go_wp2_with fail
            generalize w9.setCell ⟨g, 2, none⟩ (.slice A9 (L.length + 1) c9) = w5 at *
            refine (drain_ref g rg _ ap (L ++ [(⟨xr, xn, xt, xs, .slice A4 n2 c4, xz, xe, xk, xv, xg, xl⟩ : Wr)]) _ _ w5 HF5.out).mono ?_
            rintro e w14 ⟨vo, a, l, out, S3, rfl, hdr, hno⟩
            have HRR := Lib.hid (show OfferQ R g rg ap L ⟨xr, xn, xt, xs, .slice A2 n2 c2, xz, xe, xk, xv, xg, xl⟩ w (.returned (.tuple #[vo, .int .i64 0])) w14 from .inr ⟨HOC.out, .slice A4 n2 c4, vo, a, l, out, S3, rfl, hdr.from HKW.out (fun i hi => hi.1), hno⟩)
            obtain ⟨A14, c14, rfl⟩ := ownsRow_slice hdr.2.2.1
            clear hdr hno
            go_wp2
            go_ret2
            exact HRR.out
      · have d16 : decide ((16 : Int) ≤ (m : Int)) = false := by simp; omega
        have HOC := Lib.hid (show offR rg ap L ⟨xr, xn, xt, xs, .slice A2 n2 c2, xz, xe, xk, xv, xg, xl⟩ = 0 from by rw [HOC0.out, HM.out]; simp [h16])
        clear y2 yl2 HAT
        have hsT : w.heap.size < wr.heap.size := HXT.out.lt
        have q4 : wr.cell? ⟨w.heap.size, 4, none⟩ = some (.slice A2 n2 c2) := HXT.out.cell 4
        obtain ⟨i1, hi1, hy0, hy1, hy2⟩ := info_parts Go.Proofs.Ytedkcpncomgboaa.vec.int_info
        have hone : ∀ u ∈ enc xz, u.oneCell' = true := fun u hu => by
          obtain ⟨z, _, rfl⟩ := List.mem_map.1 hu
          rfl
        have HVR := Lib.hid (show Reads wr wr.heap.size 1 A2 n2 (enc xz) from HVT.out.2.2.2.1)
        have HZL := Lib.hid (show xz.length = n2 from HVT.out.1)
        go_wp2_with (at_builtin; refine wpList_append_two rfl (.tmp 71) (.tmp 73) 26 33 rfl wr.heap.size 3 3 i1 _ 1 8 Try.underlying26 Try.underlying33 hi1 hy0 hy1 hy2 rfl (by decide) (.slice (some ⟨wr.heap.size, 0, none⟩) 0 0) 0 [] rfl (ownsRow_new0 _ _ _ _) wr.heap.size A2 n2 c2 _ rfl (HVR.out.alloc (Nat.le_refl _) _) hone (by unfold maxLen; omega) (by omega) (by simp) ?_; intro v3 w3 hown3 hg3 ho3; simp only [Nat.zero_add, List.nil_append] at hown3; obtain ⟨A4, c4, rfl⟩ := ownsRow_slice hown3; have hb3 : Below wr.heap.size wr w3 := (below_new wr (.cells #[] 3)).trans ((Keeps.grown (X := fun i => wr.heap.size ≤ i) hg3 (fun g hg => .inl (by simp [Value.ownBlock] at hg; omega))).below (fun i hi e => by omega) (by simp)); have hx3 := HXT.out.below hb3 HXT.out.lt; have p4 : w3.cell? ⟨w.heap.size, 4, none⟩ = some (.slice A2 n2 c2) := hx3.cell 4; have pf := hx3.frozen 4; have pl := hx3.lt; have HX3 := Lib.hid hx3; have HB3 := Lib.hid hb3; have Hown3 := Lib.hid hown3; clear hown3 hg3 ho3 hb3 hx3)
        have hgx3 : Keeps (· = w.heap.size) w3 (w3.setCell ⟨w.heap.size, 4, none⟩ (.slice A4 n2 c4)) := Keeps.set1 w3 w.heap.size 4 _
        have HF4 := Lib.hid ((HFT.out.below HB3.out).keeps hgx3 (fun i hi e => by have := HSM.out i hi; omega))
        have hx4 : Blk (w3.setCell ⟨w.heap.size, 4, none⟩ (.slice A4 n2 c4)) w.heap.size 35 #[.int .i64 xr, .int .i64 xn, .int .i64 xt, .int .i64 xs, .slice A4 n2 c4, .string xe, .string xk, .string xv, .bool xg, .int .i64 xl] := by
          have := HX3.out.set_ 4 (.slice A4 n2 c4)
          simpa using this
        have HX4 := Lib.hid hx4
        have HN4 := Lib.hid (show NumsO (w3.setCell ⟨w.heap.size, 4, none⟩ (.slice A4 n2 c4)) wr.heap.size (.slice A4 n2 c4) xz from
          ⟨by rw [HZL.out]; exact own_keeps Hown3.out hgx3 (fun i hi e => by have := (Hown3.out.lt _ hi).1; omega), by have := HZL.out; omega⟩)
        have HB4 := Lib.hid ((below_step HBT.out HB3.out).setCell (p := ⟨w.heap.size, 4, none⟩) (Nat.le_refl _) (.slice A4 n2 c4))
        have hs4 : wr.heap.size ≤ (w3.setCell ⟨w.heap.size, 4, none⟩ (.slice A4 n2 c4)).heap.size := by have := HB3.out.size; simpa using this
        have hxl4 : w.heap.size < (w3.setCell ⟨w.heap.size, 4, none⟩ (.slice A4 n2 c4)).heap.size := HX4.out.lt
        clear hx4 hgx3 HX3 HXT HFT HBT HVT Hown3 HB3 q4 p4 pf hone HVR
        generalize w3.setCell ⟨w.heap.size, 4, none⟩ (.slice A4 n2 c4) = w4 at *
        have cg3 : w4.cell? ⟨g, 2, none⟩ = some (.slice A3 L.length c3) := HF4.out.blk.cell 2
        have hgl4 := HF4.out.blk.lt
        have hgx2 : g ≠ w.heap.size := by omega
        obtain ⟨i0, hi0, hz⟩ := Option.map_eq_some_iff.1 write_info
        simp only [Prod.mk.injEq] at hz
        obtain ⟨hz0, hz1, hz2⟩ := hz
        have Hi0 := Lib.hid hi0
        have Hz0 := Lib.hid hz0
        have Hz1 := Lib.hid hz1
        have Hz2 := Lib.hid hz2
        clear hi0 hz0 hz1 hz2
        have HrL := Lib.hid (show Reads w4 w4.heap.size 10 A3 L.length (L.flatMap Wr.cells) from Reads.of_own HF4.out.row)
        have honeL : ∀ u ∈ L.flatMap Wr.cells, u.oneCell' = true := by
          intro u hu
          obtain ⟨x, hx, hu⟩ := List.mem_flatMap.1 hu
          exact oneW x (nums_one (HF4.out.num x hx).nums) u hu
        have HoneL := Lib.hid honeL
        clear honeL
        go_wp2_with fail
        refine wp_region_monoJ (fun b => b ≠ w.heap.size) [6, 9, 12] (by kernel_rfl) ?_
        -- 0 Op.move (Operand.tmp 0)
        refine wpMonoJ_take' 0 (v := ?_) rfl (by kernel_rfl) (by kernel_rfl) (by kernel_rfl) (by rfl) (fun _ _ _ h => h) (by rfl) ?_ ?_
        rotate_left
        · (intro W hSw; first | (have hcW := hSw.cells; try simp only [World.size_drew, World.cell?_drew] at hcW) | (have hxW := HX4.out.drew.keeps hSw (fun h => h rfl); obtain ⟨e0, e1, e2, e3, e4, e5, e6, e7, e8, e9⟩ := cells10 hxW; have exl := hxW.lt) | skip
           go_simp; first | done | rfl)
        try simp only [Act.put, List.setIfInBounds_toArray, List.set_cons_zero, List.set_cons_succ]
        -- 2 Op.move (Operand.tmp 0)
        refine wpMonoJ_take' 2 (v := ?_) rfl (by kernel_rfl) (by kernel_rfl) (by kernel_rfl) (by rfl) (fun _ _ _ h => h) (by rfl) ?_ ?_
        rotate_left
        · (intro W hSw; first | (have hcW := hSw.cells; try simp only [World.size_drew, World.cell?_drew] at hcW) | (have hxW := HX4.out.drew.keeps hSw (fun h => h rfl); obtain ⟨e0, e1, e2, e3, e4, e5, e6, e7, e8, e9⟩ := cells10 hxW; have exl := hxW.lt) | skip
           go_simp; first | done | rfl)
        try simp only [Act.put, List.setIfInBounds_toArray, List.set_cons_zero, List.set_cons_succ]
        -- 3 Op.nilCheck (Operand.tmp 78)
        refine wpMonoJ_take' 3 (v := ?_) rfl (by kernel_rfl) (by kernel_rfl) (by kernel_rfl) (by rfl) (fun _ _ _ h => h) (by rfl) ?_ ?_
        rotate_left
        · (intro W hSw; first | (have hcW := hSw.cells; try simp only [World.size_drew, World.cell?_drew] at hcW) | (have hxW := HX4.out.drew.keeps hSw (fun h => h rfl); obtain ⟨e0, e1, e2, e3, e4, e5, e6, e7, e8, e9⟩ := cells10 hxW; have exl := hxW.lt) | skip
           go_simp; first | done | rfl)
        try simp only [Act.put, List.setIfInBounds_toArray, List.set_cons_zero, List.set_cons_succ]
        -- 4 Op.fieldAddr 68 (Operand.tmp 79) 2
        refine wpMonoJ_take' 4 (v := ?_) rfl (by kernel_rfl) (by kernel_rfl) (by kernel_rfl) (by rfl) (fun _ _ _ h => h) (by rfl) ?_ ?_
        rotate_left
        · (intro W hSw; first | (have hcW := hSw.cells; try simp only [World.size_drew, World.cell?_drew] at hcW) | (have hxW := HX4.out.drew.keeps hSw (fun h => h rfl); obtain ⟨e0, e1, e2, e3, e4, e5, e6, e7, e8, e9⟩ := cells10 hxW; have exl := hxW.lt) | skip
           go_simp; first | done | rfl)
        try simp only [Act.put, List.setIfInBounds_toArray, List.set_cons_zero, List.set_cons_succ]
        -- 5 Op.load 25 (Operand.tmp 80)
        refine wpMonoJ_read' 5 [6, 9, 10, 11, 12] (v := ?_) rfl (by kernel_rfl) (by kernel_rfl) (by kernel_rfl) (by rfl) (by kernel_rfl) (by rfl) (fun _ _ _ h => h) (by rfl) ?_ ?_
        rotate_left
        · (intro W hSw; first | (have hcW := hSw.cells; try simp only [World.size_drew, World.cell?_drew] at hcW) | (have hxW := HX4.out.drew.keeps hSw (fun h => h rfl); obtain ⟨e0, e1, e2, e3, e4, e5, e6, e7, e8, e9⟩ := cells10 hxW; have exl := hxW.lt) | skip
           go_simp; first | done | rfl)
        try simp only [Act.put, List.setIfInBounds_toArray, List.set_cons_zero, List.set_cons_succ]
        -- 7 Op.load 35 (Operand.tmp 3)
        refine wpMonoJ_take' 7 (v := ?_) rfl (by kernel_rfl) (by kernel_rfl) (by kernel_rfl) (by rfl) (fun _ _ _ h => h) (by rfl) ?_ ?_
        rotate_left
        · (intro W hSw; first | (have hcW := hSw.cells; try simp only [World.size_drew, World.cell?_drew] at hcW) | (have hxW := HX4.out.drew.keeps hSw (fun h => h rfl); obtain ⟨e0, e1, e2, e3, e4, e5, e6, e7, e8, e9⟩ := cells10 hxW; have exl := hxW.lt) | skip
           go_simp; first | done | rfl)
        try simp only [Act.put, List.setIfInBounds_toArray, List.set_cons_zero, List.set_cons_succ]
        refine wpMonoJ_two' 1 8 (by kernel_rfl) rfl (by rfl) rfl (by rfl) (fun K hK => ?_) (fun K hK => ?_)
        · skip
          go_simp
          have hrow : (w4.alloc (.cells #[] 35)).drew.ownsRow w4.heap.size 35 10 (.slice (some ⟨w4.heap.size, 0, none⟩) 0 0) 0 [] := own_keeps (ownsRow_new0 w4 35 10 #[]) (X := nobody) Keeps.drew (fun _ _ h => h)
          have hbw : Below w4.heap.size w4 (w4.alloc (.cells #[] 35)).drew := (below_new w4 _).drew
          refine hK.out _ _ ⟨rfl, rfl, rfl, by simp, fun i hi _ => Below.heap_alloc w4 _ i hi⟩ ?_
          clear hK K
          try simp only [Act.put, List.setIfInBounds_toArray, List.set_cons_zero, List.set_cons_succ]
          generalize (w4.alloc (.cells #[] 35)).drew = W1 at *
          have Hrow := Lib.hid hrow
          have HBW := Lib.hid hbw
          clear hrow hbw
          refine wpMonoJ_two' 6 8 (by kernel_rfl) rfl (by rfl) rfl (by rfl) (fun K hK => ?_) (fun K hK => ?_)
          · skip
            have hr6 : Reads W1 w4.heap.size 10 A3 L.length (L.flatMap Wr.cells) := HrL.out.below HBW.out
            refine wp_append_any _ (.tmp 77) (.tmp 81) _ (by rfl) w4.heap.size 35 i0 _ 10 120 Try.underlying25 Hi0.out Hz0.out Hz1.out Hz2.out rfl (by omega) (.slice (some ⟨w4.heap.size, 0, none⟩) 0 0) 0 [] (by rfl) Hrow.out w4.heap.size A3 L.length c3 _ (by rfl) hr6 HoneL.out (by unfold maxLen; omega) (by omega) HBW.out.size fun v6 w6 ho6 hg6 hv6 => ?_
            simp only [Nat.zero_add, List.nil_append] at ho6
            obtain ⟨A6, c6, rfl⟩ := ownsRow_slice ho6
            have hb6 : Below w4.heap.size w4 w6 := HBW.out.trans ((Keeps.grown (X := fun i => w4.heap.size ≤ i) hg6 (fun i hi => .inl (Hrow.out.lt _ hi).1)).below (fun i hi e => by omega) HBW.out.size)
            have hgr6 : ∀ i, (Value.slice (some ⟨w4.heap.size, 0, none⟩) 0 0).ownBlock = some i → i ≠ w.heap.size := fun i hi => by have := (Hrow.out.lt _ hi).1; omega
            have Ho6 := Lib.hid ho6
            have Hb6 := Lib.hid hb6
            have Hg6 := Lib.hid hg6
            clear hr6 ho6 hb6
            refine hK.out _ _ (moved (.grown hg6 fun i hi => .inl (hgr6 i hi)) (by decide)) ?_
            clear hK K
            try simp only [Act.put, List.setIfInBounds_toArray, List.set_cons_zero, List.set_cons_succ]
            clear hg6 hv6 hgr6
            refine wpMonoJ_one' 8 (by kernel_rfl) rfl (by rfl) (fun K hK => ?_)
            clear HBW
            have HBW := Hb6
            go_simp
            have hb8 : Below (w6).heap.size w6 ((w6).alloc (.cells #[.int .i64 xr, .int .i64 xn, .int .i64 xt, .int .i64 xs, .slice A4 n2 c4, .string xe, .string xk, .string xv, .bool xg, .int .i64 xl] 35)) := below_new _ _
            have H8 := Lib.hid (Blk.new w6 35 #[.int .i64 xr, .int .i64 xn, .int .i64 xt, .int .i64 xs, .slice A4 n2 c4, .string xe, .string xk, .string xv, .bool xg, .int .i64 xl])
            have HBV := Lib.hid (HBW.out.trans (hb8.mono HBW.out.size))
            refine hK.out _ _ (Keeps.alloc _) ?_
            clear hK K
            try simp only [Act.put, List.setIfInBounds_toArray, List.set_cons_zero, List.set_cons_succ]
            have ho7 := own_below Ho6.out hb8
            have h8 := H8.out
            have hbv := HBV.out
            clear hb8 H8 HBV HBW Ho6
            generalize w6.alloc (.cells #[.int .i64 xr, .int .i64 xn, .int .i64 xt, .int .i64 xs, .slice A4 n2 c4, .string xe, .string xk, .string xv, .bool xg, .int .i64 xl] 35) = V at *
            have Ho6 := Lib.hid ho7
            have H8 := Lib.hid h8
            have HBW := Lib.hid hbv
            clear ho7 h8 hbv
            refine wpMonoJ_one' 9 (by kernel_rfl) rfl (by rfl) (fun K hK => ?_)
            have hr9 := reads_blk (n := 1) (size := 10) H8.out rfl
            refine wp_append_any _ (.tmp 82) (.tmp 84) _ (by rfl) w4.heap.size 35 i0 _ 10 120 Try.underlying25 Hi0.out Hz0.out Hz1.out Hz2.out rfl (by omega) (.slice A6 L.length c6) L.length _ (by rfl) Ho6.out _ _ 1 1 (Wr.cells ⟨xr, xn, xt, xs, .slice A4 n2 c4, xz, xe, xk, xv, xg, xl⟩) (by rfl) hr9 (oneW _ rfl) (by unfold maxLen; omega) (by omega) HBW.out.size fun v9 w9 ho9 hg9 hv9 => ?_
            obtain ⟨A9, c9, rfl⟩ := ownsRow_slice ho9
            have Hb9 := Lib.hid (HBW.out.trans ((Keeps.grown (X := fun i => w4.heap.size ≤ i) hg9 (fun i hi => .inl (Ho6.out.lt _ hi).1)).below (fun i hi e => by omega) HBW.out.size))
            have hgr9 : ∀ i, (Value.slice A6 L.length c6).ownBlock = some i → i ≠ w.heap.size := fun i hi => by have := (Ho6.out.lt _ hi).1; omega
            have Ho9 := Lib.hid ho9
            refine hK.out _ _ (moved (.grown hg9 fun i hi => .inl (hgr9 i hi)) (by decide)) ?_
            clear hK K
            try simp only [Act.put, List.setIfInBounds_toArray, List.set_cons_zero, List.set_cons_succ]
            clear hr9 ho9 hg9 hv9 hgr9
            have hf9 := HF4.out.blk.below Hb9.out HF4.out.blk.lt
            have p3 : w9.cell? ⟨g, 2, none⟩ = _ := hf9.cell 2
            have pf := hf9.frozen 2
            have pl9 := hf9.lt
            clear hf9
            refine wpMonoJ_take' 10 (v := ?_) rfl (by kernel_rfl) (by kernel_rfl) (by kernel_rfl) (by rfl) (fun _ _ _ h => h) (by rfl) ?_ ?_
            rotate_left
            · (intro W hSw
               go_simp; first | done | rfl)
            try simp only [Act.put, List.setIfInBounds_toArray, List.set_cons_zero, List.set_cons_succ]
            refine wpMonoJ_take' 11 (v := ?_) rfl (by kernel_rfl) (by kernel_rfl) (by kernel_rfl) (by rfl) (fun _ _ _ h => h) (by rfl) ?_ ?_
            rotate_left
            · (intro W hSw
               go_simp; first | done | rfl)
            try simp only [Act.put, List.setIfInBounds_toArray, List.set_cons_zero, List.set_cons_succ]
            refine wpMonoJ_one' 12 (by kernel_rfl) rfl (by rfl) (fun K hK => ?_)
            go_simp
            refine hK.out _ _ (moved (.setCell (.inl hgx2) _) (by decide)) ?_
            clear hK K
            try simp only [Act.put, List.setIfInBounds_toArray, List.set_cons_zero, List.set_cons_succ]
            refine wpMonoJ_done (by kernel_rfl) ?_ _
            have hs9 := Hb9.out.size
            have HF5 := Lib.hid (HF4.out.putL (R' := fun i => (R i ∨ w.heap.size ≤ i) ∧ i < w9.heap.size) (L' := L ++ [(⟨xr, xn, xt, xs, .slice A4 n2 c4, xz, xe, xk, xv, xg, xl⟩ : Wr)]) (vl' := .slice A9 (L.length + 1) c9) Hb9.out (by
                have h := Ho9.out
                rw [List.length_append, List.flatMap_append]
                simpa using h) (by rw [List.length_append]; simp; omega)
              (fun y hy => by
                rcases List.mem_append.1 hy with hy | hy
                · exact ⟨.inl hy, HF4.out.rng y hy⟩
                · rw [List.mem_singleton.1 hy]
                  exact ⟨.inr ⟨(HN4.out.below Hb9.out).base (Nat.zero_le _), fun i hi => ⟨.inr (by have := (HN4.out.1.lt i hi).1; omega), by have := (HN4.out.1.lt i hi).2; omega⟩⟩, ⟨HRP.out.r0, HRP.out.r1⟩, ⟨HRP.out.n0, HRP.out.n1⟩⟩)
              (fun i hi => ⟨.inl hi, by have := HF4.out.small i hi; omega⟩) (fun i h1 h2 => ⟨.inr (by omega), h2⟩) (fun i hi => hi.2))
            have HKW := Lib.hid (show Keeps R w (w9.setCell ⟨g, 2, none⟩ (.slice A9 (L.length + 1) c9)) from ((Keeps.of_below HB4.out).trans (.of_below Hb9.out)).trans ((Keeps.set1 w9 g 2 _).more fun i _ e => by rw [show i = g from e]; exact HF4.out.inG))
            clear p3 pf pl9 Ho9 Hb9 Ho6 Hg6 Hb6 H8 HBW Hrow
            go_wp2_with fail
            generalize w9.setCell ⟨g, 2, none⟩ (.slice A9 (L.length + 1) c9) = w5 at *
            refine (drain_ref g rg _ ap (L ++ [(⟨xr, xn, xt, xs, .slice A4 n2 c4, xz, xe, xk, xv, xg, xl⟩ : Wr)]) _ _ w5 HF5.out).mono ?_
            rintro e w14 ⟨vo, a, l, out, S3, rfl, hdr, hno⟩
            have HRR := Lib.hid (show OfferQ R g rg ap L ⟨xr, xn, xt, xs, .slice A2 n2 c2, xz, xe, xk, xv, xg, xl⟩ w (.returned (.tuple #[vo, .int .i64 0])) w14 from .inr ⟨HOC.out, .slice A4 n2 c4, vo, a, l, out, S3, rfl, hdr.from HKW.out (fun i hi => hi.1), hno⟩)
            obtain ⟨A14, c14, rfl⟩ := ownsRow_slice hdr.2.2.1
            clear hdr hno
            go_wp2
            go_ret2
            exact HRR.out
          · skip
            go_simp
            have hb8 : Below (W1).heap.size W1 ((W1).alloc (.cells #[.int .i64 xr, .int .i64 xn, .int .i64 xt, .int .i64 xs, .slice A4 n2 c4, .string xe, .string xk, .string xv, .bool xg, .int .i64 xl] 35)) := below_new _ _
            have H8 := Lib.hid (Blk.new W1 35 #[.int .i64 xr, .int .i64 xn, .int .i64 xt, .int .i64 xs, .slice A4 n2 c4, .string xe, .string xk, .string xv, .bool xg, .int .i64 xl])
            have HBV := Lib.hid (HBW.out.trans (hb8.mono HBW.out.size))
            refine hK.out _ _ (Keeps.alloc _) ?_
            clear hK K
            try simp only [Act.put, List.setIfInBounds_toArray, List.set_cons_zero, List.set_cons_succ]
            have hrow := own_below Hrow.out hb8
            have h8 := H8.out
            have hbv := HBV.out
            have hne : W1.heap.size ≠ w4.heap.size := by have h : w4.heap.size < W1.heap.size := (Hrow.out.lt _ rfl).2; omega
            clear hb8 H8 HBV HBW Hrow
            generalize W1.alloc (.cells #[.int .i64 xr, .int .i64 xn, .int .i64 xt, .int .i64 xs, .slice A4 n2 c4, .string xe, .string xk, .string xv, .bool xg, .int .i64 xl] 35) = V at *
            have Hrow := Lib.hid hrow
            have H8 := Lib.hid h8
            have HBW := Lib.hid hbv
            clear hrow h8 hbv
            refine wpMonoJ_one' 6 (by kernel_rfl) rfl (by rfl) (fun K hK => ?_)
            have hr6 : Reads V w4.heap.size 10 A3 L.length (L.flatMap Wr.cells) := HrL.out.below HBW.out
            refine wp_append_any _ (.tmp 77) (.tmp 81) _ (by rfl) w4.heap.size 35 i0 _ 10 120 Try.underlying25 Hi0.out Hz0.out Hz1.out Hz2.out rfl (by omega) (.slice (some ⟨w4.heap.size, 0, none⟩) 0 0) 0 [] (by rfl) Hrow.out w4.heap.size A3 L.length c3 _ (by rfl) hr6 HoneL.out (by unfold maxLen; omega) (by omega) HBW.out.size fun v6 w6 ho6 hg6 hv6 => ?_
            simp only [Nat.zero_add, List.nil_append] at ho6
            obtain ⟨A6, c6, rfl⟩ := ownsRow_slice ho6
            have hb6 : Below w4.heap.size w4 w6 := HBW.out.trans ((Keeps.grown (X := fun i => w4.heap.size ≤ i) hg6 (fun i hi => .inl (Hrow.out.lt _ hi).1)).below (fun i hi e => by omega) HBW.out.size)
            have hgr6 : ∀ i, (Value.slice (some ⟨w4.heap.size, 0, none⟩) 0 0).ownBlock = some i → i ≠ w.heap.size := fun i hi => by have := (Hrow.out.lt _ hi).1; omega
            have Ho6 := Lib.hid ho6
            have Hb6 := Lib.hid hb6
            have Hg6 := Lib.hid hg6
            clear hr6 ho6 hb6
            refine hK.out _ _ (moved (.grown hg6 fun i hi => .inl (hgr6 i hi)) (by decide)) ?_
            clear hK K
            try simp only [Act.put, List.setIfInBounds_toArray, List.set_cons_zero, List.set_cons_succ]
            clear hg6 hv6 hgr6
            have h8 := H8.out.grown Hg6.out (fun e => by injection e with e; exact hne e)
            clear H8 HBW
            have H8 := Lib.hid h8
            have HBW := Hb6
            clear h8
            refine wpMonoJ_one' 9 (by kernel_rfl) rfl (by rfl) (fun K hK => ?_)
            have hr9 := reads_blk (n := 1) (size := 10) H8.out rfl
            refine wp_append_any _ (.tmp 82) (.tmp 84) _ (by rfl) w4.heap.size 35 i0 _ 10 120 Try.underlying25 Hi0.out Hz0.out Hz1.out Hz2.out rfl (by omega) (.slice A6 L.length c6) L.length _ (by rfl) Ho6.out _ _ 1 1 (Wr.cells ⟨xr, xn, xt, xs, .slice A4 n2 c4, xz, xe, xk, xv, xg, xl⟩) (by rfl) hr9 (oneW _ rfl) (by unfold maxLen; omega) (by omega) HBW.out.size fun v9 w9 ho9 hg9 hv9 => ?_
            obtain ⟨A9, c9, rfl⟩ := ownsRow_slice ho9
            have Hb9 := Lib.hid (HBW.out.trans ((Keeps.grown (X := fun i => w4.heap.size ≤ i) hg9 (fun i hi => .inl (Ho6.out.lt _ hi).1)).below (fun i hi e => by omega) HBW.out.size))
            have hgr9 : ∀ i, (Value.slice A6 L.length c6).ownBlock = some i → i ≠ w.heap.size := fun i hi => by have := (Ho6.out.lt _ hi).1; omega
            have Ho9 := Lib.hid ho9
            refine hK.out _ _ (moved (.grown hg9 fun i hi => .inl (hgr9 i hi)) (by decide)) ?_
            clear hK K
            try simp only [Act.put, List.setIfInBounds_toArray, List.set_cons_zero, List.set_cons_succ]
            clear hr9 ho9 hg9 hv9 hgr9
            have hf9 := HF4.out.blk.below Hb9.out HF4.out.blk.lt
            have p3 : w9.cell? ⟨g, 2, none⟩ = _ := hf9.cell 2
            have pf := hf9.frozen 2
            have pl9 := hf9.lt
            clear hf9
            refine wpMonoJ_take' 10 (v := ?_) rfl (by kernel_rfl) (by kernel_rfl) (by kernel_rfl) (by rfl) (fun _ _ _ h => h) (by rfl) ?_ ?_
            rotate_left
            · (intro W hSw
               go_simp; first | done | rfl)
            try simp only [Act.put, List.setIfInBounds_toArray, List.set_cons_zero, List.set_cons_succ]
            refine wpMonoJ_take' 11 (v := ?_) rfl (by kernel_rfl) (by kernel_rfl) (by kernel_rfl) (by rfl) (fun _ _ _ h => h) (by rfl) ?_ ?_
            rotate_left
            · (intro W hSw
               go_simp; first | done | rfl)
            try simp only [Act.put, List.setIfInBounds_toArray, List.set_cons_zero, List.set_cons_succ]
            refine wpMonoJ_one' 12 (by kernel_rfl) rfl (by rfl) (fun K hK => ?_)
            go_simp
            refine hK.out _ _ (moved (.setCell (.inl hgx2) _) (by decide)) ?_
            clear hK K
            try simp only [Act.put, List.setIfInBounds_toArray, List.set_cons_zero, List.set_cons_succ]
            refine wpMonoJ_done (by kernel_rfl) ?_ _
            have hs9 := Hb9.out.size
            have HF5 := Lib.hid (HF4.out.putL (R' := fun i => (R i ∨ w.heap.size ≤ i) ∧ i < w9.heap.size) (L' := L ++ [(⟨xr, xn, xt, xs, .slice A4 n2 c4, xz, xe, xk, xv, xg, xl⟩ : Wr)]) (vl' := .slice A9 (L.length + 1) c9) Hb9.out (by
                have h := Ho9.out
                rw [List.length_append, List.flatMap_append]
                simpa using h) (by rw [List.length_append]; simp; omega)
              (fun y hy => by
                rcases List.mem_append.1 hy with hy | hy
                · exact ⟨.inl hy, HF4.out.rng y hy⟩
                · rw [List.mem_singleton.1 hy]
                  exact ⟨.inr ⟨(HN4.out.below Hb9.out).base (Nat.zero_le _), fun i hi => ⟨.inr (by have := (HN4.out.1.lt i hi).1; omega), by have := (HN4.out.1.lt i hi).2; omega⟩⟩, ⟨HRP.out.r0, HRP.out.r1⟩, ⟨HRP.out.n0, HRP.out.n1⟩⟩)
              (fun i hi => ⟨.inl hi, by have := HF4.out.small i hi; omega⟩) (fun i h1 h2 => ⟨.inr (by omega), h2⟩) (fun i hi => hi.2))
            have HKW := Lib.hid (show Keeps R w (w9.setCell ⟨g, 2, none⟩ (.slice A9 (L.length + 1) c9)) from ((Keeps.of_below HB4.out).trans (.of_below Hb9.out)).trans ((Keeps.set1 w9 g 2 _).more fun i _ e => by rw [show i = g from e]; exact HF4.out.inG))
            clear p3 pf pl9 Ho9 Hb9 Ho6 Hg6 Hb6 H8 HBW Hrow
            go_wp2_with fail
            generalize w9.setCell ⟨g, 2, none⟩ (.slice A9 (L.length + 1) c9) = w5 at *
            refine (drain_ref g rg _ ap (L ++ [(⟨xr, xn, xt, xs, .slice A4 n2 c4, xz, xe, xk, xv, xg, xl⟩ : Wr)]) _ _ w5 HF5.out).mono ?_
            rintro e w14 ⟨vo, a, l, out, S3, rfl, hdr, hno⟩
            have HRR := Lib.hid (show OfferQ R g rg ap L ⟨xr, xn, xt, xs, .slice A2 n2 c2, xz, xe, xk, xv, xg, xl⟩ w (.returned (.tuple #[vo, .int .i64 0])) w14 from .inr ⟨HOC.out, .slice A4 n2 c4, vo, a, l, out, S3, rfl, hdr.from HKW.out (fun i hi => hi.1), hno⟩)
            obtain ⟨A14, c14, rfl⟩ := ownsRow_slice hdr.2.2.1
            clear hdr hno
            go_wp2
            go_ret2
            exact HRR.out
        · skip
          go_simp
          have h8 : Blk (w4.alloc (.cells #[.int .i64 xr, .int .i64 xn, .int .i64 xt, .int .i64 xs, .slice A4 n2 c4, .string xe, .string xk, .string xv, .bool xg, .int .i64 xl] 35)).drew w4.heap.size 35 #[.int .i64 xr, .int .i64 xn, .int .i64 xt, .int .i64 xs, .slice A4 n2 c4, .string xe, .string xk, .string xv, .bool xg, .int .i64 xl] := (Blk.new w4 35 #[.int .i64 xr, .int .i64 xn, .int .i64 xt, .int .i64 xs, .slice A4 n2 c4, .string xe, .string xk, .string xv, .bool xg, .int .i64 xl])
          have hbw : Below w4.heap.size w4 (w4.alloc (.cells #[.int .i64 xr, .int .i64 xn, .int .i64 xt, .int .i64 xs, .slice A4 n2 c4, .string xe, .string xk, .string xv, .bool xg, .int .i64 xl] 35)).drew := (below_new w4 _).drew
          refine hK.out _ _ ⟨rfl, rfl, rfl, by simp, fun i hi _ => Below.heap_alloc w4 _ i hi⟩ ?_
          clear hK K
          try simp only [Act.put, List.setIfInBounds_toArray, List.set_cons_zero, List.set_cons_succ]
          generalize (w4.alloc (.cells #[.int .i64 xr, .int .i64 xn, .int .i64 xt, .int .i64 xs, .slice A4 n2 c4, .string xe, .string xk, .string xv, .bool xg, .int .i64 xl] 35)).drew = V1 at *
          refine wpMonoJ_one' 1 (by kernel_rfl) rfl (by rfl) (fun K hK => ?_)
          go_simp
          have hrow : (V1.alloc (.cells #[] 35)).ownsRow w4.heap.size 35 10 (.slice (some ⟨V1.heap.size, 0, none⟩) 0 0) 0 [] := by
            obtain ⟨q1, q2⟩ := ownsRow_new0 V1 35 10 #[] (n := 0)
            refine ⟨q1, q2.imp id ?_⟩
            rintro ⟨g', cap, cur, e, q3, q4⟩
            exact ⟨g', cap, cur, e, Nat.le_trans hbw.size q3, q4⟩
          have hbv : Below w4.heap.size w4 (V1.alloc (.cells #[] 35)) := hbw.alloc hbw.size _
          have h8' := h8.alloc (.cells #[] 35)
          have hne : w4.heap.size ≠ V1.heap.size := by have := h8.lt; omega
          refine hK.out _ _ (Keeps.alloc _) ?_
          clear hK K
          try simp only [Act.put, List.setIfInBounds_toArray, List.set_cons_zero, List.set_cons_succ]
          clear h8 hbw
          generalize V1.alloc (.cells #[] 35) = V at *
          have Hrow := Lib.hid hrow
          have H8 := Lib.hid h8'
          have HBW := Lib.hid hbv
          clear hrow h8' hbv
          refine wpMonoJ_one' 6 (by kernel_rfl) rfl (by rfl) (fun K hK => ?_)
          have hr6 : Reads V w4.heap.size 10 A3 L.length (L.flatMap Wr.cells) := HrL.out.below HBW.out
          refine wp_append_any _ (.tmp 77) (.tmp 81) _ (by rfl) w4.heap.size 35 i0 _ 10 120 Try.underlying25 Hi0.out Hz0.out Hz1.out Hz2.out rfl (by omega) (.slice (some ⟨V1.heap.size, 0, none⟩) 0 0) 0 [] (by rfl) Hrow.out w4.heap.size A3 L.length c3 _ (by rfl) hr6 HoneL.out (by unfold maxLen; omega) (by omega) HBW.out.size fun v6 w6 ho6 hg6 hv6 => ?_
          simp only [Nat.zero_add, List.nil_append] at ho6
          obtain ⟨A6, c6, rfl⟩ := ownsRow_slice ho6
          have hb6 : Below w4.heap.size w4 w6 := HBW.out.trans ((Keeps.grown (X := fun i => w4.heap.size ≤ i) hg6 (fun i hi => .inl (Hrow.out.lt _ hi).1)).below (fun i hi e => by omega) HBW.out.size)
          have hgr6 : ∀ i, (Value.slice (some ⟨V1.heap.size, 0, none⟩) 0 0).ownBlock = some i → i ≠ w.heap.size := fun i hi => by have := (Hrow.out.lt _ hi).1; omega
          have Ho6 := Lib.hid ho6
          have Hb6 := Lib.hid hb6
          have Hg6 := Lib.hid hg6
          clear hr6 ho6 hb6
          refine hK.out _ _ (moved (.grown hg6 fun i hi => .inl (hgr6 i hi)) (by decide)) ?_
          clear hK K
          try simp only [Act.put, List.setIfInBounds_toArray, List.set_cons_zero, List.set_cons_succ]
          clear hg6 hv6 hgr6
          have h8 := H8.out.grown Hg6.out (fun e => by injection e with e; exact hne e)
          clear H8 HBW
          have H8 := Lib.hid h8
          have HBW := Hb6
          clear h8
          refine wpMonoJ_one' 9 (by kernel_rfl) rfl (by rfl) (fun K hK => ?_)
          have hr9 := reads_blk (n := 1) (size := 10) H8.out rfl
          refine wp_append_any _ (.tmp 82) (.tmp 84) _ (by rfl) w4.heap.size 35 i0 _ 10 120 Try.underlying25 Hi0.out Hz0.out Hz1.out Hz2.out rfl (by omega) (.slice A6 L.length c6) L.length _ (by rfl) Ho6.out _ _ 1 1 (Wr.cells ⟨xr, xn, xt, xs, .slice A4 n2 c4, xz, xe, xk, xv, xg, xl⟩) (by rfl) hr9 (oneW _ rfl) (by unfold maxLen; omega) (by omega) HBW.out.size fun v9 w9 ho9 hg9 hv9 => ?_
          obtain ⟨A9, c9, rfl⟩ := ownsRow_slice ho9
          have Hb9 := Lib.hid (HBW.out.trans ((Keeps.grown (X := fun i => w4.heap.size ≤ i) hg9 (fun i hi => .inl (Ho6.out.lt _ hi).1)).below (fun i hi e => by omega) HBW.out.size))
          have hgr9 : ∀ i, (Value.slice A6 L.length c6).ownBlock = some i → i ≠ w.heap.size := fun i hi => by have := (Ho6.out.lt _ hi).1; omega
          have Ho9 := Lib.hid ho9
          refine hK.out _ _ (moved (.grown hg9 fun i hi => .inl (hgr9 i hi)) (by decide)) ?_
          clear hK K
          try simp only [Act.put, List.setIfInBounds_toArray, List.set_cons_zero, List.set_cons_succ]
          clear hr9 ho9 hg9 hv9 hgr9
          have hf9 := HF4.out.blk.below Hb9.out HF4.out.blk.lt
          have p3 : w9.cell? ⟨g, 2, none⟩ = _ := hf9.cell 2
          have pf := hf9.frozen 2
          have pl9 := hf9.lt
          clear hf9
          refine wpMonoJ_take' 10 (v := ?_) rfl (by kernel_rfl) (by kernel_rfl) (by kernel_rfl) (by rfl) (fun _ _ _ h => h) (by rfl) ?_ ?_
          rotate_left
          · (intro W hSw
             go_simp; first | done | rfl)
          try simp only [Act.put, List.setIfInBounds_toArray, List.set_cons_zero, List.set_cons_succ]
          refine wpMonoJ_take' 11 (v := ?_) rfl (by kernel_rfl) (by kernel_rfl) (by kernel_rfl) (by rfl) (fun _ _ _ h => h) (by rfl) ?_ ?_
          rotate_left
          · (intro W hSw
             go_simp; first | done | rfl)
          try simp only [Act.put, List.setIfInBounds_toArray, List.set_cons_zero, List.set_cons_succ]
          refine wpMonoJ_one' 12 (by kernel_rfl) rfl (by rfl) (fun K hK => ?_)
          go_simp
          refine hK.out _ _ (moved (.setCell (.inl hgx2) _) (by decide)) ?_
          clear hK K
          try simp only [Act.put, List.setIfInBounds_toArray, List.set_cons_zero, List.set_cons_succ]
          refine wpMonoJ_done (by kernel_rfl) ?_ _
          have hs9 := Hb9.out.size
          have HF5 := Lib.hid (HF4.out.putL (R' := fun i => (R i ∨ w.heap.size ≤ i) ∧ i < w9.heap.size) (L' := L ++ [(⟨xr, xn, xt, xs, .slice A4 n2 c4, xz, xe, xk, xv, xg, xl⟩ : Wr)]) (vl' := .slice A9 (L.length + 1) c9) Hb9.out (by
              have h := Ho9.out
              rw [List.length_append, List.flatMap_append]
              simpa using h) (by rw [List.length_append]; simp; omega)
            (fun y hy => by
              rcases List.mem_append.1 hy with hy | hy
              · exact ⟨.inl hy, HF4.out.rng y hy⟩
              · rw [List.mem_singleton.1 hy]
                exact ⟨.inr ⟨(HN4.out.below Hb9.out).base (Nat.zero_le _), fun i hi => ⟨.inr (by have := (HN4.out.1.lt i hi).1; omega), by have := (HN4.out.1.lt i hi).2; omega⟩⟩, ⟨HRP.out.r0, HRP.out.r1⟩, ⟨HRP.out.n0, HRP.out.n1⟩⟩)
            (fun i hi => ⟨.inl hi, by have := HF4.out.small i hi; omega⟩) (fun i h1 h2 => ⟨.inr (by omega), h2⟩) (fun i hi => hi.2))
          have HKW := Lib.hid (show Keeps R w (w9.setCell ⟨g, 2, none⟩ (.slice A9 (L.length + 1) c9)) from ((Keeps.of_below HB4.out).trans (.of_below Hb9.out)).trans ((Keeps.set1 w9 g 2 _).more fun i _ e => by rw [show i = g from e]; exact HF4.out.inG))
          clear p3 pf pl9 Ho9 Hb9 Ho6 Hg6 Hb6 H8 HBW Hrow
          go_wp2_with fail
          generalize w9.setCell ⟨g, 2, none⟩ (.slice A9 (L.length + 1) c9) = w5 at *
          refine (drain_ref g rg _ ap (L ++ [(⟨xr, xn, xt, xs, .slice A4 n2 c4, xz, xe, xk, xv, xg, xl⟩ : Wr)]) _ _ w5 HF5.out).mono ?_
          rintro e w14 ⟨vo, a, l, out, S3, rfl, hdr, hno⟩
          have HRR := Lib.hid (show OfferQ R g rg ap L ⟨xr, xn, xt, xs, .slice A2 n2 c2, xz, xe, xk, xv, xg, xl⟩ w (.returned (.tuple #[vo, .int .i64 0])) w14 from .inr ⟨HOC.out, .slice A4 n2 c4, vo, a, l, out, S3, rfl, hdr.from HKW.out (fun i hi => hi.1), hno⟩)
          obtain ⟨A14, c14, rfl⟩ := ownsRow_slice hdr.2.2.1
          clear hdr hno
          go_wp2
          go_ret2
          exact HRR.out
end Go.Proofs.Ytedkcpncomgboaa.dep
