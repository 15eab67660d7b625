/- What waits, in new memory; an inbox like it. -/
import Derived.Test.YtedkcpncomgboaaSome
import Derived.Test.YtedkcpncomgboaaOffer
namespace Go.Proofs.Ytedkcpncomgboaa.dep
open Go Go.RowKit Go.Proofs.Ytedkcpncomgboaa.base Go.Proofs.Ytedkcpncomgboaa.rowe Go.Proofs.Ytedkcpncomgboaa.wire Go.Proofs.Ytedkcpncomgboaa.vec Go.Proofs.Ytedkcpncomgboaa.cmp Go.Proofs.Ytedkcpncomgboaa.with_ Go.Proofs.Ytedkcpncomgboaa.monoj

theorem InF.rw {w : World} {S : Nat → Prop} {g : Nat} {rg : Int} {ap : List Int} {ws : List Wr} {va vw : Value} (h : InF w S g rg ap ws va vw) : RW w vw ws := by
  obtain ⟨A, c, rfl, hr⟩ := h.reads
  refine ⟨A, c, rfl, Nat.le_trans h.wfew (by omega), ?_, hr, fun x hx => ⟨(h.num x hx).nums, (h.num x hx).2⟩⟩
  rcases h.row.2 with ⟨e, h0⟩ | ⟨g, cap, cur, e, h1, h2, h3, _⟩
  · rw [h0]; exact Nat.zero_le _
  · injection e with _ _ e; omega
theorem waits_any (g : Nat) (rg : Int) (S : Nat → Prop) (ap : List Int) (ws : List Wr) (va vw : Value) (w : World) (h : InF w S g rg ap ws va vw) :
    Calls Try.prog 15 #[.pointer (some ⟨g, 0, none⟩)] w (SomeR ws w) := by
  have q2 : w.cell? ⟨g, 2, none⟩ = some vw := h.blk.cell 2
  have ql := h.blk.lt
  have HRW := Lib.hid h.rw
  obtain ⟨A, c, rfl, _⟩ := h.reads
  clear h
  go_enter Try.func15, Try.ntmps15
  go_wp2_with fail
  refine (some_any _ ws w HRW.out).mono ?_
  rintro e w1 ⟨⟨v, L', rfl, hab, hO⟩, hb⟩
  obtain ⟨A1, c1, rfl⟩ := ownsRow_slice hO.row
  have HR := Lib.hid (show SomeR ws w (.returned (.slice A1 L'.length c1)) w1 from ⟨⟨_, L', rfl, hab, hO⟩, hb⟩)
  clear hab hO hb
  go_wp2
  go_ret
  exact HR.out
/-- an inbox like it, in new memory -/
def CopyR (rg : Int) (ap : List Int) (ws : List Wr) (w : World) (e : Ending) (w' : World) : Prop :=
  ∃ g S ws' va vw, e = .returned (.pointer (some ⟨g, 0, none⟩)) ∧ InF w' S g rg (trimL ap) ws' va vw ∧ ws'.map Wr.abs = ws.map Wr.abs ∧ (∀ i, S i → w.heap.size ≤ i) ∧ Below w.heap.size w w'
theorem abs_mem {L L' : List Wr} (h : L'.map Wr.abs = L.map Wr.abs) {x : Wr} (hx : x ∈ L') : ∃ y ∈ L, x.abs = y.abs := by
  have : x.abs ∈ L'.map Wr.abs := List.mem_map_of_mem hx
  rw [h] at this
  obtain ⟨y, hy, e⟩ := List.mem_map.1 this
  exact ⟨y, hy, e.symm⟩
theorem trim_len (zs : List Int) : (trimL zs).length ≤ zs.length := by unfold trimL; rw [List.length_take]; omega
theorem InF.copied {w w1 w2 : World} {rg : Int} {ap : List Int} {ws L' : List Wr} {v1 v2 : Value} (hal : ap.length ≤ 16) (hwl : ws.length ≤ 1000) (hrng : ∀ x ∈ ws, (1 ≤ x.r ∧ x.r ≤ 16) ∧ (1 ≤ x.n ∧ x.n ≤ 1099511627776))
    (hb1 : Below w.heap.size w w1) (h1 : w1.ownsRow w.heap.size 3 1 v1 (trimL ap).length (enc (trimL ap))) (hb2 : Below w1.heap.size w1 w2) (hab : L'.map Wr.abs = ws.map Wr.abs) (hO : OW w2 (since w1 w2) w1.heap.size v2 L') :
    CopyR rg ap ws w (.returned (.pointer (some ⟨w2.heap.size, 0, none⟩))) (w2.alloc (.cells #[.int .i64 rg, v1, v2] 76)) := by
  have hb3 := below_new w2 (.cells #[.int .i64 rg, v1, v2] 76)
  have hs1 := hb1.size
  have hs2 := hb2.size
  have hlt1 : ∀ i, v1.ownBlock = some i → w.heap.size ≤ i ∧ i < w1.heap.size := fun i hi => h1.lt i hi
  have hlt2 : ∀ i, v2.ownBlock = some i → w1.heap.size ≤ i ∧ i < w2.heap.size := fun i hi => hO.row.lt i hi
  have hltn : ∀ x ∈ L', ∀ i, x.d.ownBlock = some i → w1.heap.size ≤ i ∧ i < w2.heap.size := fun x hx i hi => (hO.nums x hx).1.lt i hi
  have hll : L'.length = ws.length := by have := congrArg List.length hab; simpa using this
  refine ⟨_, fun i => w.heap.size ≤ i ∧ i < w2.heap.size + 1, L', v1, v2, rfl, ?_, hab, fun i hi => hi.1, (hb1.trans (hb2.mono hs1)).trans (hb3.mono (by omega))⟩
  exact
  { blk := Blk.new w2 76 #[.int .i64 rg, v1, v2]
    app := own_keeps (own_low h1 (Nat.zero_le _)) (X := nobody) (.of_below (hb2.trans (hb3.mono hs2))) (fun _ _ h => h)
    afew := Nat.le_trans (trim_len ap) hal
    row := own_keeps (own_low hO.row (Nat.zero_le _)) (X := nobody) (.of_below hb3) (fun _ _ h => h)
    wfew := by omega
    num := fun x hx => ((hO.nums x hx).base (Nat.zero_le _)).below hb3
    rng := fun x hx => by
      obtain ⟨y, hy, e⟩ := abs_mem hab hx
      have hr : x.r = y.r := show x.abs.r = y.abs.r by rw [e]
      have hn : x.n = y.n := show x.abs.n = y.abs.n by rw [e]
      rw [hr, hn]
      exact hrng y hy
    inG := ⟨by omega, by omega⟩
    inA := fun i hi => by have := hlt1 i hi; omega
    inW := fun i hi => by have := hlt2 i hi; omega
    inN := fun x hx i hi => by have := hltn x hx i hi; omega
    ga := fun e => by have := hlt1 _ e; omega
    gw := fun e => by have := hlt2 _ e; omega
    gn := fun x hx e => by have := hltn x hx _ e; omega
    aw := fun i hi e => by have := hlt1 i hi; have := hlt2 i e; omega
    nw := fun x hx i hi => own_apart (hO.nums x hx).1 hO.row (by decide) i hi
    small := fun i hi => by simpa using hi.2 }
set_option maxRecDepth 100000 in
set_option maxHeartbeats 1000000 in
theorem copy_any (g : Nat) (rg : Int) (S : Nat → Prop) (ap : List Int) (ws : List Wr) (va vw : Value) (w : World) (h : InF w S g rg ap ws va vw) :
    Calls Try.prog 24 #[.pointer (some ⟨g, 0, none⟩)] w (CopyR rg ap ws w) := by
  have ql := h.blk.lt
  have HB0 := Lib.hid h.blk
  obtain ⟨A, c, rfl, hv⟩ := h.vec
  have hal := h.afew
  have HV := Lib.hid hv
  have HW := Lib.hid h.rw
  have HF := Lib.hid h
  obtain ⟨A2, c2, rfl, _⟩ := h.reads
  clear h hv
  go_enter Try.func24, Try.ntmps24
  go_wp2_with fail
  refine wp_region_mono nobody (by kernel_rfl) ?_
  -- 0 Op.move (Operand.tmp 0)
  refine wpMono_take' 0 (v := ?_) rfl (by kernel_rfl) (by kernel_rfl) (by kernel_rfl) (fun _ _ _ h => h) (by rfl) ?_ ?_
  rotate_left
  · (intro W hSw; (first | (have hk := HB0.out.drew.keeps (X := nobody) hSw (fun h => h); have q0 : W.cell? ⟨g, 0, none⟩ = some (.int .i64 rg) := hk.cell 0; have q1 : W.cell? ⟨g, 1, none⟩ = some (.slice A ap.length c) := hk.cell 1; have q2 : W.cell? ⟨g, 2, none⟩ = some (.slice A2 ws.length c2) := hk.cell 2; have hl := hk.lt) | (have hk := (HB0.out.drew.below HB1.out HB0.out.lt).keeps (X := nobody) hSw (fun h => h); have q0 : W.cell? ⟨g, 0, none⟩ = some (.int .i64 rg) := hk.cell 0; have q1 : W.cell? ⟨g, 1, none⟩ = some (.slice A ap.length c) := hk.cell 1; have q2 : W.cell? ⟨g, 2, none⟩ = some (.slice A2 ws.length c2) := hk.cell 2; have hl := hk.lt) | skip)
     go_simp; first | done | rfl)
  try simp only [Act.put, List.setIfInBounds_toArray, List.set_cons_zero, List.set_cons_succ]
  -- 1 Op.nilCheck (Operand.tmp 5)
  refine wpMono_take' 1 (v := ?_) rfl (by kernel_rfl) (by kernel_rfl) (by kernel_rfl) (fun _ _ _ h => h) (by rfl) ?_ ?_
  rotate_left
  · (intro W hSw; (first | (have hk := HB0.out.drew.keeps (X := nobody) hSw (fun h => h); have q0 : W.cell? ⟨g, 0, none⟩ = some (.int .i64 rg) := hk.cell 0; have q1 : W.cell? ⟨g, 1, none⟩ = some (.slice A ap.length c) := hk.cell 1; have q2 : W.cell? ⟨g, 2, none⟩ = some (.slice A2 ws.length c2) := hk.cell 2; have hl := hk.lt) | (have hk := (HB0.out.drew.below HB1.out HB0.out.lt).keeps (X := nobody) hSw (fun h => h); have q0 : W.cell? ⟨g, 0, none⟩ = some (.int .i64 rg) := hk.cell 0; have q1 : W.cell? ⟨g, 1, none⟩ = some (.slice A ap.length c) := hk.cell 1; have q2 : W.cell? ⟨g, 2, none⟩ = some (.slice A2 ws.length c2) := hk.cell 2; have hl := hk.lt) | skip)
     go_simp; first | done | rfl)
  try simp only [Act.put, List.setIfInBounds_toArray, List.set_cons_zero, List.set_cons_succ]
  -- 2 Op.fieldAddr 76 (Operand.tmp 6) 0
  refine wpMono_take' 2 (v := ?_) rfl (by kernel_rfl) (by kernel_rfl) (by kernel_rfl) (fun _ _ _ h => h) (by rfl) ?_ ?_
  rotate_left
  · (intro W hSw; (first | (have hk := HB0.out.drew.keeps (X := nobody) hSw (fun h => h); have q0 : W.cell? ⟨g, 0, none⟩ = some (.int .i64 rg) := hk.cell 0; have q1 : W.cell? ⟨g, 1, none⟩ = some (.slice A ap.length c) := hk.cell 1; have q2 : W.cell? ⟨g, 2, none⟩ = some (.slice A2 ws.length c2) := hk.cell 2; have hl := hk.lt) | (have hk := (HB0.out.drew.below HB1.out HB0.out.lt).keeps (X := nobody) hSw (fun h => h); have q0 : W.cell? ⟨g, 0, none⟩ = some (.int .i64 rg) := hk.cell 0; have q1 : W.cell? ⟨g, 1, none⟩ = some (.slice A ap.length c) := hk.cell 1; have q2 : W.cell? ⟨g, 2, none⟩ = some (.slice A2 ws.length c2) := hk.cell 2; have hl := hk.lt) | skip)
     go_simp; first | done | rfl)
  try simp only [Act.put, List.setIfInBounds_toArray, List.set_cons_zero, List.set_cons_succ]
  -- 3 Op.load 3 (Operand.tmp 7)
  refine wpMono_take' 3 (v := ?_) rfl (by kernel_rfl) (by kernel_rfl) (by kernel_rfl) (fun _ _ _ h => h) (by rfl) ?_ ?_
  rotate_left
  · (intro W hSw; (first | (have hk := HB0.out.drew.keeps (X := nobody) hSw (fun h => h); have q0 : W.cell? ⟨g, 0, none⟩ = some (.int .i64 rg) := hk.cell 0; have q1 : W.cell? ⟨g, 1, none⟩ = some (.slice A ap.length c) := hk.cell 1; have q2 : W.cell? ⟨g, 2, none⟩ = some (.slice A2 ws.length c2) := hk.cell 2; have hl := hk.lt) | (have hk := (HB0.out.drew.below HB1.out HB0.out.lt).keeps (X := nobody) hSw (fun h => h); have q0 : W.cell? ⟨g, 0, none⟩ = some (.int .i64 rg) := hk.cell 0; have q1 : W.cell? ⟨g, 1, none⟩ = some (.slice A ap.length c) := hk.cell 1; have q2 : W.cell? ⟨g, 2, none⟩ = some (.slice A2 ws.length c2) := hk.cell 2; have hl := hk.lt) | skip)
     go_simp; first | done | rfl)
  try simp only [Act.put, List.setIfInBounds_toArray, List.set_cons_zero, List.set_cons_succ]
  -- 4 Op.move (Operand.tmp 0)
  refine wpMono_take' 4 (v := ?_) rfl (by kernel_rfl) (by kernel_rfl) (by kernel_rfl) (fun _ _ _ h => h) (by rfl) ?_ ?_
  rotate_left
  · (intro W hSw; (first | (have hk := HB0.out.drew.keeps (X := nobody) hSw (fun h => h); have q0 : W.cell? ⟨g, 0, none⟩ = some (.int .i64 rg) := hk.cell 0; have q1 : W.cell? ⟨g, 1, none⟩ = some (.slice A ap.length c) := hk.cell 1; have q2 : W.cell? ⟨g, 2, none⟩ = some (.slice A2 ws.length c2) := hk.cell 2; have hl := hk.lt) | (have hk := (HB0.out.drew.below HB1.out HB0.out.lt).keeps (X := nobody) hSw (fun h => h); have q0 : W.cell? ⟨g, 0, none⟩ = some (.int .i64 rg) := hk.cell 0; have q1 : W.cell? ⟨g, 1, none⟩ = some (.slice A ap.length c) := hk.cell 1; have q2 : W.cell? ⟨g, 2, none⟩ = some (.slice A2 ws.length c2) := hk.cell 2; have hl := hk.lt) | skip)
     go_simp; first | done | rfl)
  try simp only [Act.put, List.setIfInBounds_toArray, List.set_cons_zero, List.set_cons_succ]
  -- 5 Op.nilCheck (Operand.tmp 9)
  refine wpMono_take' 5 (v := ?_) rfl (by kernel_rfl) (by kernel_rfl) (by kernel_rfl) (fun _ _ _ h => h) (by rfl) ?_ ?_
  rotate_left
  · (intro W hSw; (first | (have hk := HB0.out.drew.keeps (X := nobody) hSw (fun h => h); have q0 : W.cell? ⟨g, 0, none⟩ = some (.int .i64 rg) := hk.cell 0; have q1 : W.cell? ⟨g, 1, none⟩ = some (.slice A ap.length c) := hk.cell 1; have q2 : W.cell? ⟨g, 2, none⟩ = some (.slice A2 ws.length c2) := hk.cell 2; have hl := hk.lt) | (have hk := (HB0.out.drew.below HB1.out HB0.out.lt).keeps (X := nobody) hSw (fun h => h); have q0 : W.cell? ⟨g, 0, none⟩ = some (.int .i64 rg) := hk.cell 0; have q1 : W.cell? ⟨g, 1, none⟩ = some (.slice A ap.length c) := hk.cell 1; have q2 : W.cell? ⟨g, 2, none⟩ = some (.slice A2 ws.length c2) := hk.cell 2; have hl := hk.lt) | skip)
     go_simp; first | done | rfl)
  try simp only [Act.put, List.setIfInBounds_toArray, List.set_cons_zero, List.set_cons_succ]
  -- 6 Op.fieldAddr 76 (Operand.tmp 10) 1
  refine wpMono_take' 6 (v := ?_) rfl (by kernel_rfl) (by kernel_rfl) (by kernel_rfl) (fun _ _ _ h => h) (by rfl) ?_ ?_
  rotate_left
  · (intro W hSw; (first | (have hk := HB0.out.drew.keeps (X := nobody) hSw (fun h => h); have q0 : W.cell? ⟨g, 0, none⟩ = some (.int .i64 rg) := hk.cell 0; have q1 : W.cell? ⟨g, 1, none⟩ = some (.slice A ap.length c) := hk.cell 1; have q2 : W.cell? ⟨g, 2, none⟩ = some (.slice A2 ws.length c2) := hk.cell 2; have hl := hk.lt) | (have hk := (HB0.out.drew.below HB1.out HB0.out.lt).keeps (X := nobody) hSw (fun h => h); have q0 : W.cell? ⟨g, 0, none⟩ = some (.int .i64 rg) := hk.cell 0; have q1 : W.cell? ⟨g, 1, none⟩ = some (.slice A ap.length c) := hk.cell 1; have q2 : W.cell? ⟨g, 2, none⟩ = some (.slice A2 ws.length c2) := hk.cell 2; have hl := hk.lt) | skip)
     go_simp; first | done | rfl)
  try simp only [Act.put, List.setIfInBounds_toArray, List.set_cons_zero, List.set_cons_succ]
  -- 7 Op.load 33 (Operand.tmp 11)
  refine wpMono_take' 7 (v := ?_) rfl (by kernel_rfl) (by kernel_rfl) (by kernel_rfl) (fun _ _ _ h => h) (by rfl) ?_ ?_
  rotate_left
  · (intro W hSw; (first | (have hk := HB0.out.drew.keeps (X := nobody) hSw (fun h => h); have q0 : W.cell? ⟨g, 0, none⟩ = some (.int .i64 rg) := hk.cell 0; have q1 : W.cell? ⟨g, 1, none⟩ = some (.slice A ap.length c) := hk.cell 1; have q2 : W.cell? ⟨g, 2, none⟩ = some (.slice A2 ws.length c2) := hk.cell 2; have hl := hk.lt) | (have hk := (HB0.out.drew.below HB1.out HB0.out.lt).keeps (X := nobody) hSw (fun h => h); have q0 : W.cell? ⟨g, 0, none⟩ = some (.int .i64 rg) := hk.cell 0; have q1 : W.cell? ⟨g, 1, none⟩ = some (.slice A ap.length c) := hk.cell 1; have q2 : W.cell? ⟨g, 2, none⟩ = some (.slice A2 ws.length c2) := hk.cell 2; have hl := hk.lt) | skip)
     go_simp; first | done | rfl)
  try simp only [Act.put, List.setIfInBounds_toArray, List.set_cons_zero, List.set_cons_succ]
  -- 9 Op.move (Operand.tmp 0)
  refine wpMono_take' 9 (v := ?_) rfl (by kernel_rfl) (by kernel_rfl) (by kernel_rfl) (fun _ _ _ h => h) (by rfl) ?_ ?_
  rotate_left
  · (intro W hSw; (first | (have hk := HB0.out.drew.keeps (X := nobody) hSw (fun h => h); have q0 : W.cell? ⟨g, 0, none⟩ = some (.int .i64 rg) := hk.cell 0; have q1 : W.cell? ⟨g, 1, none⟩ = some (.slice A ap.length c) := hk.cell 1; have q2 : W.cell? ⟨g, 2, none⟩ = some (.slice A2 ws.length c2) := hk.cell 2; have hl := hk.lt) | (have hk := (HB0.out.drew.below HB1.out HB0.out.lt).keeps (X := nobody) hSw (fun h => h); have q0 : W.cell? ⟨g, 0, none⟩ = some (.int .i64 rg) := hk.cell 0; have q1 : W.cell? ⟨g, 1, none⟩ = some (.slice A ap.length c) := hk.cell 1; have q2 : W.cell? ⟨g, 2, none⟩ = some (.slice A2 ws.length c2) := hk.cell 2; have hl := hk.lt) | skip)
     go_simp; first | done | rfl)
  try simp only [Act.put, List.setIfInBounds_toArray, List.set_cons_zero, List.set_cons_succ]
  -- 10 Op.nilCheck (Operand.tmp 14)
  refine wpMono_take' 10 (v := ?_) rfl (by kernel_rfl) (by kernel_rfl) (by kernel_rfl) (fun _ _ _ h => h) (by rfl) ?_ ?_
  rotate_left
  · (intro W hSw; (first | (have hk := HB0.out.drew.keeps (X := nobody) hSw (fun h => h); have q0 : W.cell? ⟨g, 0, none⟩ = some (.int .i64 rg) := hk.cell 0; have q1 : W.cell? ⟨g, 1, none⟩ = some (.slice A ap.length c) := hk.cell 1; have q2 : W.cell? ⟨g, 2, none⟩ = some (.slice A2 ws.length c2) := hk.cell 2; have hl := hk.lt) | (have hk := (HB0.out.drew.below HB1.out HB0.out.lt).keeps (X := nobody) hSw (fun h => h); have q0 : W.cell? ⟨g, 0, none⟩ = some (.int .i64 rg) := hk.cell 0; have q1 : W.cell? ⟨g, 1, none⟩ = some (.slice A ap.length c) := hk.cell 1; have q2 : W.cell? ⟨g, 2, none⟩ = some (.slice A2 ws.length c2) := hk.cell 2; have hl := hk.lt) | skip)
     go_simp; first | done | rfl)
  try simp only [Act.put, List.setIfInBounds_toArray, List.set_cons_zero, List.set_cons_succ]
  -- 11 Op.fieldAddr 76 (Operand.tmp 15) 2
  refine wpMono_take' 11 (v := ?_) rfl (by kernel_rfl) (by kernel_rfl) (by kernel_rfl) (fun _ _ _ h => h) (by rfl) ?_ ?_
  rotate_left
  · (intro W hSw; (first | (have hk := HB0.out.drew.keeps (X := nobody) hSw (fun h => h); have q0 : W.cell? ⟨g, 0, none⟩ = some (.int .i64 rg) := hk.cell 0; have q1 : W.cell? ⟨g, 1, none⟩ = some (.slice A ap.length c) := hk.cell 1; have q2 : W.cell? ⟨g, 2, none⟩ = some (.slice A2 ws.length c2) := hk.cell 2; have hl := hk.lt) | (have hk := (HB0.out.drew.below HB1.out HB0.out.lt).keeps (X := nobody) hSw (fun h => h); have q0 : W.cell? ⟨g, 0, none⟩ = some (.int .i64 rg) := hk.cell 0; have q1 : W.cell? ⟨g, 1, none⟩ = some (.slice A ap.length c) := hk.cell 1; have q2 : W.cell? ⟨g, 2, none⟩ = some (.slice A2 ws.length c2) := hk.cell 2; have hl := hk.lt) | skip)
     go_simp; first | done | rfl)
  try simp only [Act.put, List.setIfInBounds_toArray, List.set_cons_zero, List.set_cons_succ]
  -- 12 Op.load 25 (Operand.tmp 16)
  refine wpMono_take' 12 (v := ?_) rfl (by kernel_rfl) (by kernel_rfl) (by kernel_rfl) (fun _ _ _ h => h) (by rfl) ?_ ?_
  rotate_left
  · (intro W hSw; (first | (have hk := HB0.out.drew.keeps (X := nobody) hSw (fun h => h); have q0 : W.cell? ⟨g, 0, none⟩ = some (.int .i64 rg) := hk.cell 0; have q1 : W.cell? ⟨g, 1, none⟩ = some (.slice A ap.length c) := hk.cell 1; have q2 : W.cell? ⟨g, 2, none⟩ = some (.slice A2 ws.length c2) := hk.cell 2; have hl := hk.lt) | (have hk := (HB0.out.drew.below HB1.out HB0.out.lt).keeps (X := nobody) hSw (fun h => h); have q0 : W.cell? ⟨g, 0, none⟩ = some (.int .i64 rg) := hk.cell 0; have q1 : W.cell? ⟨g, 1, none⟩ = some (.slice A ap.length c) := hk.cell 1; have q2 : W.cell? ⟨g, 2, none⟩ = some (.slice A2 ws.length c2) := hk.cell 2; have hl := hk.lt) | skip)
     go_simp; first | done | rfl)
  try simp only [Act.put, List.setIfInBounds_toArray, List.set_cons_zero, List.set_cons_succ]
  -- EFFECT 8 Op.call { callee := Callee.value (Operand.func 30), args := #[Operand.tmp 12], argTypes := #[33] }
  refine wpMono_one' 8 (by kernel_rfl) rfl (by rfl) (fun K hK => ?_)
  go_simp
  refine (trim_any A ap.length c ap w.drew (show Vec w.drew w.drew.heap.size A ap.length c ap from HV.out.below (Below.refl _ w).drew) (by omega)).mono ?_
  rintro e w1 ⟨v1, rfl, hown1, hb1⟩
  obtain ⟨A3, c3, rfl⟩ := ownsRow_slice hown1
  have HO1 := Lib.hid hown1
  have HB1 := Lib.hid hb1
  clear hown1 hb1
  refine hK.out _ _ ?_ ?_
  · exact .of_below HB1.out
  clear hK K
  try simp only [Act.put, List.setIfInBounds_toArray, List.set_cons_zero, List.set_cons_succ]
  -- EFFECT 13 Op.call { callee := Callee.value (Operand.func 41), args := #[Operand.tmp 17], argTypes := #[25] }
  refine wpMono_one' 13 (by kernel_rfl) rfl (by rfl) (fun K hK => ?_)
  go_simp
  refine (some_any _ ws w1 ((show RW w.drew _ ws from HW.out.below (Below.refl _ w).drew).below HB1.out)).mono ?_
  rintro e w2 ⟨⟨v2, L', rfl, hab, hO⟩, hb2⟩
  obtain ⟨A4, c4, rfl⟩ := ownsRow_slice hO.row
  have HAB := Lib.hid hab
  have HO2 := Lib.hid hO
  have HB2 := Lib.hid hb2
  clear hab hO hb2
  refine hK.out _ _ ?_ ?_
  · exact .of_below HB2.out
  clear hK K
  try simp only [Act.put, List.setIfInBounds_toArray, List.set_cons_zero, List.set_cons_succ]
  -- 14 Op.build 76 #[(0, Operand.tmp 8), (1, Operand.tmp 13), (2, Operand.tmp 18)]
  refine wpMono_take' 14 (v := ?_) rfl (by kernel_rfl) (by kernel_rfl) (by kernel_rfl) (fun _ _ _ h => h) (by rfl) ?_ ?_
  rotate_left
  · (intro W hSw; (first | (have hk := HB0.out.drew.keeps (X := nobody) hSw (fun h => h); have q0 : W.cell? ⟨g, 0, none⟩ = some (.int .i64 rg) := hk.cell 0; have q1 : W.cell? ⟨g, 1, none⟩ = some (.slice A ap.length c) := hk.cell 1; have q2 : W.cell? ⟨g, 2, none⟩ = some (.slice A2 ws.length c2) := hk.cell 2; have hl := hk.lt) | (have hk := (HB0.out.drew.below HB1.out HB0.out.lt).keeps (X := nobody) hSw (fun h => h); have q0 : W.cell? ⟨g, 0, none⟩ = some (.int .i64 rg) := hk.cell 0; have q1 : W.cell? ⟨g, 1, none⟩ = some (.slice A ap.length c) := hk.cell 1; have q2 : W.cell? ⟨g, 2, none⟩ = some (.slice A2 ws.length c2) := hk.cell 2; have hl := hk.lt) | skip)
     go_simp; first | done | rfl)
  try simp only [Act.put, List.setIfInBounds_toArray, List.set_cons_zero, List.set_cons_succ]
  -- EFFECT 15 Op.box 76 (Operand.tmp 19)
  refine wpMono_one' 15 (by kernel_rfl) rfl (by rfl) (fun K hK => ?_)
  go_simp
  refine hK.out _ _ ?_ ?_
  · exact .alloc _
  clear hK K
  try simp only [Act.put, List.setIfInBounds_toArray, List.set_cons_zero, List.set_cons_succ]
  -- 16 Op.assign (Operand.tmp 20)
  refine wpMono_take' 16 (v := ?_) rfl (by kernel_rfl) (by kernel_rfl) (by kernel_rfl) (fun _ _ _ h => h) (by rfl) ?_ ?_
  rotate_left
  · (intro W hSw; (first | (have hk := HB0.out.drew.keeps (X := nobody) hSw (fun h => h); have q0 : W.cell? ⟨g, 0, none⟩ = some (.int .i64 rg) := hk.cell 0; have q1 : W.cell? ⟨g, 1, none⟩ = some (.slice A ap.length c) := hk.cell 1; have q2 : W.cell? ⟨g, 2, none⟩ = some (.slice A2 ws.length c2) := hk.cell 2; have hl := hk.lt) | (have hk := (HB0.out.drew.below HB1.out HB0.out.lt).keeps (X := nobody) hSw (fun h => h); have q0 : W.cell? ⟨g, 0, none⟩ = some (.int .i64 rg) := hk.cell 0; have q1 : W.cell? ⟨g, 1, none⟩ = some (.slice A ap.length c) := hk.cell 1; have q2 : W.cell? ⟨g, 2, none⟩ = some (.slice A2 ws.length c2) := hk.cell 2; have hl := hk.lt) | skip)
     go_simp; first | done | rfl)
  try simp only [Act.put, List.setIfInBounds_toArray, List.set_cons_zero, List.set_cons_succ]
  refine wpMono_done (by kernel_rfl) ?_ _
  have HR := Lib.hid (InF.copied (w := w) (rg := rg) hal HF.out.wfew HF.out.rng (below_ofDrew HB1.out) HO1.out HB2.out HAB.out HO2.out)
  clear HAB HO2 HB2 HO1 HB1
  go_wp2
  go_ret
  exact HR.out
end Go.Proofs.Ytedkcpncomgboaa.dep
