/- Writes in new memory: slices.Clone and feed's clone. -/
import Derived.Test.YtedkcpncomgboaaWr
namespace Go.Proofs.Ytedkcpncomgboaa.wire
open Go.RowKit Go.Proofs.Ytedkcpncomgboaa.base Go.Proofs.Ytedkcpncomgboaa.rowe Go.Proofs.Ytedkcpncomgboaa.err

/-- numbers in a row of one's own, made behind lo -/
def NumsO (w : World) (lo : Nat) (d : Value) (zs : List Int) : Prop := w.ownsRow lo 3 1 d zs.length (zs.map (Value.int .i64)) ∧ zs.length ≤ 1000000
theorem NumsO.nums {w : World} {lo : Nat} {d : Value} {zs : List Int} (h : NumsO w lo d zs) : Nums w w.heap.size d zs := by
  obtain ⟨h, hm⟩ := h
  obtain ⟨A, c, rfl⟩ := ownsRow_slice h
  exact ⟨A, _, c, rfl, rfl, by unfold maxLen; omega, Reads.of_own h⟩
theorem NumsO.keeps {X : Nat → Prop} {w w' : World} {lo : Nat} {d : Value} {zs : List Int} (h : NumsO w lo d zs) (hk : Keeps X w w') (hx : ∀ g, d.ownBlock = some g → ¬ X g) : NumsO w' lo d zs := by
  refine ⟨⟨h.1.1, h.1.2.imp id ?_⟩, h.2⟩
  rintro ⟨g, cap, cur, rfl, h1, h2, h3⟩
  exact ⟨g, cap, cur, rfl, h1, (hk.block g (heap_lt h2) (hx g rfl)).trans h2, h3⟩
theorem NumsO.below {w w' : World} {lo : Nat} {d : Value} {zs : List Int} (h : NumsO w lo d zs) (hb : Below w.heap.size w w') : NumsO w' lo d zs := h.keeps (X := nobody) (.of_below hb) (fun _ _ h => h)
theorem NumsO.base {w : World} {lo lo' : Nat} {d : Value} {zs : List Int} (h : NumsO w lo d zs) (hl : lo' ≤ lo) : NumsO w lo' d zs := by
  refine ⟨⟨h.1.1, h.1.2.imp id ?_⟩, h.2⟩
  rintro ⟨g, cap, cur, rfl, h1, h2⟩
  exact ⟨g, cap, cur, rfl, by omega, h2⟩
theorem equalIn_nil {P : Program} (w : World) (d : Nat) (t e : TypeId) (a : Option Addr) (l c : Nat) (h : P.underlying t = some (.slice e)) : (Op.equalIn (d + 1) t (.slice a l c) (.slice none 0 0)).run P w = .ok a.isNone w := by
  cases a <;> simp [Op.equalIn, run_underlying h]
theorem eql_nil {P : Program} (w : World) (t e : TypeId) (a : Option Addr) (l c : Nat) (h : P.underlying t = some (.slice e)) : (binOp .eql t (.slice a l c) (.slice none 0 0)).run P w = .ok (.bool a.isNone) w := by
  have h2 : (Op.equal t (.slice a l c) (.slice none 0 0)).run P w = .ok a.isNone w := equalIn_nil w 9999 t e a l c h
  simp [binOp, h2]
theorem int_info : (Try.prog.info? 3).map (fun i => (i.zero, i.size, i.bytes)) = some (some (.int .i64 0), 1, 8) := by kernel_rfl
set_option maxRecDepth 10000 in
theorem clone_ints (d : Value) (zs : List Int) (w : World) (hd : Nums w w.heap.size d zs) (h6 : zs.length ≤ 1000000) :
    Calls Try.prog 52 #[d] w fun e w' => (∃ d', e = .returned d' ∧ NumsO w' w.heap.size d' zs) ∧ Below w.heap.size w w' := by
  obtain ⟨i0, hi, hz⟩ := Option.map_eq_some_iff.1 int_info
  simp only [Prod.mk.injEq] at hz
  obtain ⟨hz0, hz1, hz2⟩ := hz
  obtain ⟨A, m, c, rfl, hl, hm, hr⟩ := hd
  cases A with
  | none =>
    have h0 : m = 0 := by
      rcases Nat.eq_zero_or_pos m with h | h
      · exact h
      · obtain ⟨_, _, e, _⟩ := hr.at_some h; cases e
    subst h0
    have hzs : zs = [] := List.eq_nil_of_length_eq_zero hl
    subst hzs
    clear hr
    have hcmp := eql_nil (P := Try.prog) w 33 3 none 0 c (Try.underlying33)
    go_enter Try.func52, Try.ntmps52
    go_wp2
    go_ret
    exact ⟨⟨_, rfl, ⟨rfl, .inl ⟨rfl, rfl⟩⟩, by simp⟩, Below.refl _ _⟩
  | some a =>
    have hone : ∀ u ∈ zs.map (Value.int .i64), u.oneCell' = true := by
      intro u hu
      obtain ⟨z, _, rfl⟩ := List.mem_map.1 hu
      rfl
    have hcmp := eql_nil (P := Try.prog) w 33 3 (some a) m c (Try.underlying33)
    have Hr := Lib.hid hr
    have Hone := Lib.hid hone
    have Hl := Lib.hid hl
    clear hr hone hl
    go_enter Try.func52, Try.ntmps52
    go_wp2_with (at_builtin; refine wpList_append_any _ rfl (.tmp 5) (.tmp 6) _ rfl w.heap.size 3 i0 _ 1 8 Try.underlying33 hi hz0 hz1 hz2 rfl (by decide) (.slice (some ⟨w.heap.size, 0, none⟩) 0 0) 0 [] rfl (ownsRow_new0 _ _ _ _) w.heap.size (some a) m c _ rfl (Hr.out.alloc (Nat.le_refl _) _) Hone.out (by unfold maxLen; have := Hl.out; omega) (by have := Hl.out; omega) (by simp) ?_; intro v1 w5 hown1 hg1 ho1; simp only [Nat.zero_add, List.nil_append] at hown1; obtain ⟨A1, c1, rfl⟩ := ownsRow_slice hown1; have Hown1 := Lib.hid hown1; have Hg1 := Lib.hid hg1; clear hown1 hg1)
    go_ret
    refine ⟨⟨_, rfl, by rw [Hl.out]; exact Hown1.out, h6⟩, (below_new w (.cells #[] 3)).trans ?_⟩
    have hk : Keeps (fun i => w.heap.size ≤ i) (w.alloc (.cells #[] 3)) w5 := .grown Hg1.out fun g hg => .inl (by simp [Value.ownBlock] at hg; omega)
    exact hk.below (fun i hi e => by omega) (by simp)
theorem write_und : ∃ fs, Try.prog.underlying 35 = some (.struct fs) := ⟨_, Try.underlying35⟩
def CloneR (x : Wr) (w : World) (e : Ending) (w' : World) : Prop := (∃ d', e = .returned (.agg ⟨({ x with d := d' } : Wr).cells⟩) ∧ NumsO w' w.heap.size d' x.z) ∧ Below w.heap.size w w'
set_option maxRecDepth 10000 in
theorem clone_any (x : Wr) (w : World) (hd : Nums w w.heap.size x.d x.z) (h6 : x.z.length ≤ 1000000) :
    Calls Try.prog 39 #[.agg ⟨x.cells⟩] w (CloneR x w) := by
  obtain ⟨r, n, t, s, d, zs, se, k, v, g, l⟩ := x
  dsimp only at hd h6
  have hW2 : Below w.heap.size w ((w.alloc (.cells #[.int .i64 r, .int .i64 n, .int .i64 t, .int .i64 s, d, .string se, .string k, .string v, .bool g, .int .i64 l] 35)).alloc (.cells #[.int .i64 0, .int .i64 0, .int .i64 0, .int .i64 0, .slice none 0 0, .string ⟨#[]⟩, .string ⟨#[]⟩, .string ⟨#[]⟩, .bool false, .int .i64 0] 35)) := below_alloc (below_new _ _) _
  have HD := Lib.hid ((hd.below hW2).more hW2.size)
  have HW2 := Lib.hid hW2
  clear hd hW2
  unfold Wr.cells
  dsimp only
  go_enter Try.func39, Try.ntmps39
  go_wp2_with fail
  refine (clone_ints d zs _ HD.out h6).mono ?_
  rintro e w1 ⟨⟨d', rfl, hd'⟩, hb1⟩
  have hx := ((Blk.new w 35 #[.int .i64 r, .int .i64 n, .int .i64 t, .int .i64 s, d, .string se, .string k, .string v, .bool g, .int .i64 l]).alloc (.cells #[.int .i64 0, .int .i64 0, .int .i64 0, .int .i64 0, .slice none 0 0, .string ⟨#[]⟩, .string ⟨#[]⟩, .string ⟨#[]⟩, .bool false, .int .i64 0] 35)).below hb1 (by simp <;> omega)
  have hy := (Blk.newAt (w.alloc (.cells #[.int .i64 r, .int .i64 n, .int .i64 t, .int .i64 s, d, .string se, .string k, .string v, .bool g, .int .i64 l] 35)) 35 #[.int .i64 0, .int .i64 0, .int .i64 0, .int .i64 0, .slice none 0 0, .string ⟨#[]⟩, .string ⟨#[]⟩, .string ⟨#[]⟩, .bool false, .int .i64 0] (g := w.heap.size + 1) (by simp)).below hb1 (by simp)
  have hbb := HW2.out.trans (hb1.mono (HW2.out.size))
  obtain ⟨A1, c1, rfl⟩ := ownsRow_slice hd'.1
  have k0 : w1.cell? ⟨w.heap.size, 4, none⟩ = _ := hx.cell 4
  have k1 := hx.frozen 4
  have k2 := hx.lt
  simp at k0
  have hx2 := hx.set_ 4 (.slice A1 zs.length c1)
  have hy2 := hy.far (p := ⟨w.heap.size, 4, none⟩) (by simp) (.slice A1 zs.length c1)
  have hd2 := hd'.keeps (Keeps.set1 w1 w.heap.size 4 (.slice A1 zs.length c1)) (fun i hi e => by have := (hd'.1.lt _ hi).1; simp at this; omega)
  have hb2 := hbb.setCell (p := ⟨w.heap.size, 4, none⟩) (Nat.le_refl _) (.slice A1 zs.length c1)
  have Hx2 := Lib.hid hx2
  have Hy2 := Lib.hid hy2
  have Hd2 := Lib.hid hd2
  have Hb2 := Lib.hid hb2
  clear hx2 hy2 hd2 hb2
  clear hx hy hbb hd' hb1
  go_wp2_with (first | (refine wpList_load_at rfl 35 (.tmp 1) rfl w.heap.size 0 (Wr.cells ⟨r, n, t, s, .slice A1 zs.length c1, zs, se, k, v, g, l⟩) rfl Try.underlying35 rfl (by kernel_rfl) (fun j v hj => by rw [Nat.zero_add, Hx2.out.cell j]; simpa [Wr.cells] using hj) ?_) | (refine wpList_store_blk rfl 35 (.tmp 2) (.tmp 7) rfl (w.heap.size + 1) (Wr.cells ⟨r, n, t, s, .slice A1 zs.length c1, zs, se, k, v, g, l⟩) rfl rfl Hy2.out (by kernel_rfl) rfl rfl ?_; intro w9 ho9 hk9 hs9))
  refine bodyPost_ret (v := .agg ⟨Wr.cells ⟨r, n, t, s, .slice A1 zs.length c1, zs, se, k, v, g, l⟩⟩) (results_cell_row (P := Try.prog) rfl _ _ (w.heap.size + 1) 35 _ (0, 0) _ rfl ho9 Try.underlying35 rfl (by kernel_rfl)) rfl ⟨⟨_, rfl, ?_⟩, ?_⟩
  · exact (Hd2.out.keeps hk9 (fun i hi e => by have := (Hd2.out.1.lt _ hi).1; simp at this; omega)).base (by simp; omega)
  · exact Hb2.out.trans (hk9.below (fun i hi e => by omega) (by have := Hb2.out.size; exact this))
end Go.Proofs.Ytedkcpncomgboaa.wire
