/- The walk of the law RegSame: it returns true; nothing that was there is written. -/
import Derived.Test.YtbknkajlajbifaaSameLaw
import Derived.Test.YtbknkajlajbifaaWRegAboves
import Derived.Test.YtbknkajlajbifaaWRegMerges
import Derived.Test.YtbknkajlajbifaaRowE
namespace Go.Proofs.Ytbknkajlajbifaa.wRegSame
open Go.RowKit Go.Proofs.Ytbknkajlajbifaa.base Go.Proofs.Ytbknkajlajbifaa.rowe Go.Proofs.Ytbknkajlajbifaa.cmp Go.Proofs.Ytbknkajlajbifaa.above Go.Proofs.Ytbknkajlajbifaa.merge Go.Proofs.Ytbknkajlajbifaa.awake Go.Proofs.Ytbknkajlajbifaa.law Go.Proofs.Ytbknkajlajbifaa.samelaw
open Go.Proofs.Ytbknkajlajbifaa.wRegAboves (open_cells)

theorem cell_info : (Try.prog.info? 28).map (fun i => (i.zero, i.size, i.bytes)) = some (some (.agg #[.int .i64 0, .int .i64 0, .string ⟨#[]⟩, .bool false, .int .i64 0]), 5, 48) := by kernel_rfl
theorem own_keeps' {X : Nat → Prop} {w w' : World} {base : Nat} {e : TypeId} {size n : Nat} {v : Value} {xs : List Value} (h : w.ownsRow base e size v n xs) (hk : Keeps X w w') (hx : ∀ g, v.ownBlock = some g → ¬ X g) : w'.ownsRow base e size v n xs := by
  refine ⟨h.1, h.2.imp id ?_⟩
  rintro ⟨g, cap, cur, rfl, h1, h2, h3⟩
  exact ⟨g, cap, cur, rfl, h1, (hk.block g (heap_lt h2) (hx g rfl)).trans h2, h3⟩
theorem own_ge {w : World} {base : Nat} {e : TypeId} {size n : Nat} {v : Value} {xs : List Value} (h : w.ownsRow base e size v n xs) {g : Nat} (hg : v.ownBlock = some g) : base ≤ g := by
  rcases h.2 with ⟨rfl, _⟩ | ⟨g', cap, cur, rfl, h1, _⟩
  · cases hg
  · simp [Value.ownBlock] at hg; omega
structure St (W : World) (gw go S0 : Nat) (cs : Array Value) : Prop where
  want : Blk W gw 28 cs
  one : Blk W go 28 cs
  size : S0 ≤ W.heap.size
theorem St.keeps {W W' : World} {gw go S0 gb : Nat} {cs : Array Value} (h : St W gw go S0 cs) (hk : Keeps (fun i => i = gb ∨ S0 ≤ i) W W') (h1 : gw ≠ gb) (h2 : go ≠ gb) (h3 : gw < S0) (h4 : go < S0) : St W' gw go S0 cs :=
  ⟨h.want.keeps hk (by omega), h.one.keeps hk (by omega), Nat.le_trans h.size hk.size⟩
theorem merge_L (A : Option Addr) (len cap : Nat) (cs : List C) (w : World) (hl : cs.length = len) (hm : len ≤ maxLen) (hr : Reads w w.heap.size 5 A len (cs.flatMap C.cells)) :
    Calls Try.prog 13 #[.slice A len cap] w fun e w' => e = .returned (cval (mergeL cs)) ∧ Below w.heap.size w w' := by
  have := merge_any A len cap cs w hl hm hr
  rw [← hl] at this
  rwa [← hl]
theorem turn_ok (x : Int) (n : Nat) (h : 0 < n) (hn : n ≤ 60) : ∃ k : Nat, k < n ∧ (x.tmod n + n).tmod n = k ∧ IntKind.i64.wrap (x.tmod n + n) = x.tmod n + n := by
  have h1 : -(n : Int) < x.tmod n := by have := Int.lt_tmod_of_pos x (show (0 : Int) < n by omega); omega
  have h2 : x.tmod n < n := Int.tmod_lt_of_pos x (by omega)
  have h3 : (x.tmod n + n).tmod n = (x.tmod n + n) % n := Int.tmod_eq_emod_of_nonneg (by omega)
  have h4 := Int.emod_lt_of_pos (x.tmod n + n) (show (0 : Int) < n by omega)
  have h5 := Int.emod_nonneg (x.tmod n + n) (show (n : Int) ≠ 0 by omega)
  exact ⟨((x.tmod n + n) % n).toNat, by omega, by rw [h3]; omega, IntWalk.i64_in _ (by omega)⟩
set_option maxRecDepth 100000 in
set_option maxHeartbeats 16000000 in
theorem walk (v0 : Value) (v1 : Value) (v2 : Value) (w : World) (a0 : Arg Try.prog w 22 v0) (a1 : Arg Try.prog w 3 v1) (a2 : Arg Try.prog w 3 v2) :
    Calls Try.prog 5 #[v0, v1, v2] w fun e w' => e = .returned (.bool true) ∧ Below w.heap.size w w' := by
  obtain ⟨A, len, cap, cs, rfl, hl, hm, hlc, hcm, hr⟩ := open_cells a0
  obtain ⟨x, rfl, hx⟩ := a1.int Try.underlying3
  obtain ⟨y, rfl, hy⟩ := a2.int Try.underlying3
  clear a0 a1 a2
  have hx := Go.bounds_i64 hx
  have hy := Go.bounds_i64 hy
  obtain ⟨i0, hi, hz0, hz1, hz2⟩ := info_parts cell_info
  have hm' := hm
  unfold maxLen at hm hcm
  by_cases hs : greatB cs = true ∨ len = 0
  · go_enter Try.func5, Try.ntmps5
    go_wp2_with fail
    refine (awake_any _).mono ?_
    rintro e w1 ⟨rfl, hb1⟩
    go_wp2_with fail
    refine (great_any _ len cap cs _ hl hm' (by exact (hr.below hb1).more hb1.size)).mono ?_
    rintro e w2 ⟨rfl, hb2⟩
    have hB := Lib.hid (hb1.trans (hb2.mono hb1.size))
    clear hr hb1 hb2
    cases hg : greatB cs with
    | true =>
      clear hs
      go_wp2
      go_ret
      exact ⟨rfl, hB.out⟩
    | false =>
      have h0 : len = 0 := hs.resolve_left (by rw [hg]; simp)
      clear hs
      subst h0
      go_wp2
      go_ret
      exact ⟨rfl, hB.out⟩
  · have hg : greatB cs = false := by
      cases h : greatB cs with
      | true => exact absurd (.inl h) hs
      | false => rfl
    have hn0 : 0 < len := by omega
    have hl60 : len ≤ 60 := by
      unfold greatB at hg
      simp only [Bool.or_eq_false_iff, decide_eq_false_iff_not] at hg
      omega
    have hne : cs ≠ [] := by intro e; rw [e] at hl; simp at hl; omega
    obtain ⟨b, off, hA, hblt, hc0⟩ := hr.2 hn0
    subst hA
    have Hl := Lib.hid hl; clear hl
    have Hr := Lib.hid hr; clear hr hc0
    have Hg := Lib.hid hg; clear hg hs
    have Hne := Lib.hid hne; clear hne
    obtain ⟨k, hk, hkx, hkw⟩ := turn_ok x len hn0 hl60
    obtain ⟨c, hc, hcy, hcw⟩ := turn_ok y len hn0 hl60
    have hlen0 : ¬ len = 0 := by omega
    obtain ⟨⟨wt, wq, wv, wg, wl⟩, hW⟩ : ∃ W : C, mergeL cs = W := ⟨_, rfl⟩
    have HW := Lib.hid hW; clear hW
    have h0 : ((len : Int) == 0) = false := by simp; omega
    go_enter Try.func5, Try.ntmps5
    go_wp2_with fail
    refine (awake_any _).mono ?_
    rintro e w1 ⟨rfl, hb1⟩
    go_wp2_with fail
    refine (great_any _ len cap cs _ Hl.out hm' (by exact (Hr.out.below hb1).more hb1.size)).mono ?_
    rintro e w2 ⟨rfl, hb2⟩
    rw [Hg.out]
    have hb2' := hb1.trans (hb2.mono hb1.size)
    go_wp2_with fail
    refine (merge_L _ len cap cs _ Hl.out hm' (by exact (Hr.out.below hb2').more hb2'.size)).mono ?_
    rintro e w3 ⟨rfl, hb3⟩
    rw [HW.out]
    unfold cval
    dsimp only
    have hb3' := hb2'.trans (hb3.mono hb2'.size)
    have Hb3 := Lib.hid hb3'
    clear hb1 hb2 hb2' hb3 hb3'
    go_wp2_with fail
    refine wp_region_mono nobody (by kernel_rfl) ?_
    -- 0 Op.move (Operand.tmp 1)
    refine wpMono_take' 0 (v := ?_) rfl (by kernel_rfl) (by kernel_rfl) (by kernel_rfl) (fun _ _ _ h => h) (by rfl) ?_ ?_
    rotate_left
    · (intro W hSw; have hcW := hSw.cells; try simp only [World.size_drew, World.cell?_drew] at hcW
       go_simp; first | done | rfl)
    try simp only [Act.put, List.setIfInBounds_toArray, List.set_cons_zero, List.set_cons_succ]
    -- 1 Op.move (Operand.tmp 8)
    refine wpMono_take' 1 (v := ?_) rfl (by kernel_rfl) (by kernel_rfl) (by kernel_rfl) (fun _ _ _ h => h) (by rfl) ?_ ?_
    rotate_left
    · (intro W hSw; have hcW := hSw.cells; try simp only [World.size_drew, World.cell?_drew] at hcW
       go_simp; first | done | rfl)
    try simp only [Act.put, List.setIfInBounds_toArray, List.set_cons_zero, List.set_cons_succ]
    -- 2 Op.binOp BinOp.rem 3 (Operand.tmp 29) (Operand.tmp 30) 3
    refine wpMono_take' 2 (v := ?_) rfl (by kernel_rfl) (by kernel_rfl) (by kernel_rfl) (fun _ _ _ h => h) (by rfl) ?_ ?_
    rotate_left
    · (intro W hSw; have hcW := hSw.cells; try simp only [World.size_drew, World.cell?_drew] at hcW
       go_simp; first | done | rfl)
    try simp only [Act.put, List.setIfInBounds_toArray, List.set_cons_zero, List.set_cons_succ]
    -- 3 Op.move (Operand.tmp 8)
    refine wpMono_take' 3 (v := ?_) rfl (by kernel_rfl) (by kernel_rfl) (by kernel_rfl) (fun _ _ _ h => h) (by rfl) ?_ ?_
    rotate_left
    · (intro W hSw; have hcW := hSw.cells; try simp only [World.size_drew, World.cell?_drew] at hcW
       go_simp; first | done | rfl)
    try simp only [Act.put, List.setIfInBounds_toArray, List.set_cons_zero, List.set_cons_succ]
    -- 4 Op.binOp BinOp.add 3 (Operand.tmp 31) (Operand.tmp 32) 3
    refine wpMono_take' 4 (v := ?_) rfl (by kernel_rfl) (by kernel_rfl) (by kernel_rfl) (fun _ _ _ h => h) (by rfl) ?_ ?_
    rotate_left
    · (intro W hSw; have hcW := hSw.cells; try simp only [World.size_drew, World.cell?_drew] at hcW
       go_simp; first | done | rfl)
    try simp only [Act.put, List.setIfInBounds_toArray, List.set_cons_zero, List.set_cons_succ]
    -- 5 Op.move (Operand.tmp 8)
    refine wpMono_take' 5 (v := ?_) rfl (by kernel_rfl) (by kernel_rfl) (by kernel_rfl) (fun _ _ _ h => h) (by rfl) ?_ ?_
    rotate_left
    · (intro W hSw; have hcW := hSw.cells; try simp only [World.size_drew, World.cell?_drew] at hcW
       go_simp; first | done | rfl)
    try simp only [Act.put, List.setIfInBounds_toArray, List.set_cons_zero, List.set_cons_succ]
    -- 6 Op.binOp BinOp.rem 3 (Operand.tmp 33) (Operand.tmp 34) 3
    refine wpMono_take' 6 (v := ?_) rfl (by kernel_rfl) (by kernel_rfl) (by kernel_rfl) (fun _ _ _ h => h) (by rfl) ?_ ?_
    rotate_left
    · (intro W hSw; have hcW := hSw.cells; try simp only [World.size_drew, World.cell?_drew] at hcW
       go_simp; first | done | rfl)
    try simp only [Act.put, List.setIfInBounds_toArray, List.set_cons_zero, List.set_cons_succ]
    -- 7 Op.move (Operand.tmp 2)
    refine wpMono_take' 7 (v := ?_) rfl (by kernel_rfl) (by kernel_rfl) (by kernel_rfl) (fun _ _ _ h => h) (by rfl) ?_ ?_
    rotate_left
    · (intro W hSw; have hcW := hSw.cells; try simp only [World.size_drew, World.cell?_drew] at hcW
       go_simp; first | done | rfl)
    try simp only [Act.put, List.setIfInBounds_toArray, List.set_cons_zero, List.set_cons_succ]
    -- 8 Op.move (Operand.tmp 8)
    refine wpMono_take' 8 (v := ?_) rfl (by kernel_rfl) (by kernel_rfl) (by kernel_rfl) (fun _ _ _ h => h) (by rfl) ?_ ?_
    rotate_left
    · (intro W hSw; have hcW := hSw.cells; try simp only [World.size_drew, World.cell?_drew] at hcW
       go_simp; first | done | rfl)
    try simp only [Act.put, List.setIfInBounds_toArray, List.set_cons_zero, List.set_cons_succ]
    -- 9 Op.binOp BinOp.rem 3 (Operand.tmp 36) (Operand.tmp 37) 3
    refine wpMono_take' 9 (v := ?_) rfl (by kernel_rfl) (by kernel_rfl) (by kernel_rfl) (fun _ _ _ h => h) (by rfl) ?_ ?_
    rotate_left
    · (intro W hSw; have hcW := hSw.cells; try simp only [World.size_drew, World.cell?_drew] at hcW
       go_simp; first | done | rfl)
    try simp only [Act.put, List.setIfInBounds_toArray, List.set_cons_zero, List.set_cons_succ]
    -- 10 Op.move (Operand.tmp 8)
    refine wpMono_take' 10 (v := ?_) rfl (by kernel_rfl) (by kernel_rfl) (by kernel_rfl) (fun _ _ _ h => h) (by rfl) ?_ ?_
    rotate_left
    · (intro W hSw; have hcW := hSw.cells; try simp only [World.size_drew, World.cell?_drew] at hcW
       go_simp; first | done | rfl)
    try simp only [Act.put, List.setIfInBounds_toArray, List.set_cons_zero, List.set_cons_succ]
    -- 11 Op.binOp BinOp.add 3 (Operand.tmp 38) (Operand.tmp 39) 3
    refine wpMono_take' 11 (v := ?_) rfl (by kernel_rfl) (by kernel_rfl) (by kernel_rfl) (fun _ _ _ h => h) (by rfl) ?_ ?_
    rotate_left
    · (intro W hSw; have hcW := hSw.cells; try simp only [World.size_drew, World.cell?_drew] at hcW
       go_simp; first | done | rfl)
    try simp only [Act.put, List.setIfInBounds_toArray, List.set_cons_zero, List.set_cons_succ]
    -- 12 Op.move (Operand.tmp 8)
    refine wpMono_take' 12 (v := ?_) rfl (by kernel_rfl) (by kernel_rfl) (by kernel_rfl) (fun _ _ _ h => h) (by rfl) ?_ ?_
    rotate_left
    · (intro W hSw; have hcW := hSw.cells; try simp only [World.size_drew, World.cell?_drew] at hcW
       go_simp; first | done | rfl)
    try simp only [Act.put, List.setIfInBounds_toArray, List.set_cons_zero, List.set_cons_succ]
    -- 13 Op.binOp BinOp.rem 3 (Operand.tmp 40) (Operand.tmp 41) 3
    refine wpMono_take' 13 (v := ?_) rfl (by kernel_rfl) (by kernel_rfl) (by kernel_rfl) (fun _ _ _ h => h) (by rfl) ?_ ?_
    rotate_left
    · (intro W hSw; have hcW := hSw.cells; try simp only [World.size_drew, World.cell?_drew] at hcW
       go_simp; first | done | rfl)
    try simp only [Act.put, List.setIfInBounds_toArray, List.set_cons_zero, List.set_cons_succ]
    -- 14 Op.assign (Operand.tmp 35)
    refine wpMono_take' 14 (v := ?_) rfl (by kernel_rfl) (by kernel_rfl) (by kernel_rfl) (fun _ _ _ h => h) (by rfl) ?_ ?_
    rotate_left
    · (intro W hSw; have hcW := hSw.cells; try simp only [World.size_drew, World.cell?_drew] at hcW
       go_simp; first | done | rfl)
    try simp only [Act.put, List.setIfInBounds_toArray, List.set_cons_zero, List.set_cons_succ]
    -- 15 Op.assign (Operand.tmp 42)
    refine wpMono_take' 15 (v := ?_) rfl (by kernel_rfl) (by kernel_rfl) (by kernel_rfl) (fun _ _ _ h => h) (by rfl) ?_ ?_
    rotate_left
    · (intro W hSw; have hcW := hSw.cells; try simp only [World.size_drew, World.cell?_drew] at hcW
       go_simp; first | done | rfl)
    try simp only [Act.put, List.setIfInBounds_toArray, List.set_cons_zero, List.set_cons_succ]
    refine wpMono_done (by kernel_rfl) ?_ _
    have hwant := (Blk.new w3 28 #[.int .i64 wt, .int .i64 wq, .string wv, .bool wg, .int .i64 wl]).drew
    have hb4 := (Hb3.out.alloc Hb3.out.size (.cells #[.int .i64 wt, .int .i64 wq, .string wv, .bool wg, .int .i64 wl] 28)).drew
    have hgw : w.heap.size ≤ w3.heap.size := Hb3.out.size
    clear Hb3 hkx hkw hcy hcw
    generalize (w3.alloc (.cells #[.int .i64 wt, .int .i64 wq, .string wv, .bool wg, .int .i64 wl] 28)).drew = w4 at hwant hb4 ⊢
    generalize w3.heap.size = gw at *
    have hgw4 : gw < w4.heap.size := hwant.lt
    have Hwant4 := Lib.hid hwant; clear hwant
    have Hb4 := Lib.hid hb4; clear hb4
    have hone : ∀ u ∈ cs.flatMap C.cells, u.oneCell' = true := by
      intro u hu
      obtain ⟨c, _, hu⟩ := List.mem_flatMap.1 hu
      simp [C.cells] at hu
      rcases hu with rfl | rfl | rfl | rfl | rfl <;> rfl
    have Hone := Lib.hid hone; clear hone
    have hb4s := Hb4.out.size
    go_wp2_with (at_builtin; refine wpList_append_any _ rfl (.tmp 43) (.tmp 44) _ rfl (w4.heap.size) 28 i0 _ 5 48 Try.underlying22 hi hz0 hz1 hz2 rfl (by omega) (.slice (some ⟨w4.heap.size, 0, none⟩) 0 0) 0 [] rfl (ownsRow_new0 _ _ _ _) w.heap.size _ len cap (cs.flatMap C.cells) rfl ((Hr.out.below Hb4.out).alloc hb4s (.cells #[] 28)) Hone.out (by unfold maxLen; omega) (by omega) (by simp) ?_; intro v5 w5 hown hg _; simp only [Nat.zero_add, List.nil_append] at hown; obtain ⟨gb, cb, rfl, hgb, hgbs⟩ := hown.form (by omega))
    have hb5 : Below w.heap.size w w5 := (Hb4.out.alloc hb4s _).grown hg (by simpa using Nat.le_succ_of_le hb4s) (by simpa [Value.ownBlock] using hb4s)
    have hwant5 : Blk w5 gw 28 #[.int .i64 wt, .int .i64 wq, .string wv, .bool wg, .int .i64 wl] := (Hwant4.out.alloc _).grown hg (by simp [Value.ownBlock]; omega)
    have Hown5 := Lib.hid hown; clear hown
    have Hb5 := Lib.hid hb5; clear hb5 hg
    have Hwant5 := Lib.hid hwant5; clear hwant5 Hwant4 Hb4
    go_wp2
    go_loopw [12, 48] (fun _ i wr' => ∃ n : Nat, n ≤ len ∧ i = .int .i64 n ∧ wr'.ownsRow w4.heap.size 28 5 (.slice (some ⟨gb, 0, none⟩) len cb) len ((half cs n).flatMap C.cells) ∧ Blk wr' gw 28 #[.int .i64 wt, .int .i64 wq, .string wv, .bool wg, .int .i64 wl] ∧ Below w.heap.size w wr') (fun _ i _ => len - (intOf i).toNat)
    case atStart => exact ⟨0, by omega, rfl, by simpa [half] using Hown5.out, Hwant5.out, Hb5.out⟩
    case round =>
      clear Hown5 Hb5 Hwant5 hgbs
      obtain ⟨n, hn, rfl, hown, hwant, hb⟩ := hrel
      by_cases hlt : n < len
      · obtain ⟨b', off', hA, _, hcl⟩ := (Hr.out.below hb).2 (by omega)
        injection hA with hA; injection hA with hA1 hA2 _
        subst hA1 hA2
        have hnc : cs.length - 1 - n < cs.length := by rw [Hl.out]; omega
        have hst := half_set cs n (by rw [Hl.out]; omega)
        obtain ⟨c0, c1, c2, c3, c4⟩ := cells_at hcl hnc
        generalize cs[cs.length - 1 - n] = d at *
        rw [Hl.out] at c0 c1 c2 c3 c4
        obtain ⟨t, r, v, g, l⟩ := d
        dsimp only at c0 c1 c2 c3 c4
        have Hown := Lib.hid hown
        have Hwant := Lib.hid hwant
        have Hb := Lib.hid hb
        have Hst := Lib.hid hst
        have hgne : gw ≠ gb := by omega
        have hgbw : w.heap.size ≤ gb := by omega
        clear hst hown hwant hb hcl
        go_wp2_with (refine wpList_store_own rfl 28 (.tmp 60) (.tmp 59) rfl C.cells C.len n ⟨t, r, v, g, l⟩ rfl rfl Hown.out (by rw [half_len, Hl.out]) hlt (by kernel_rfl) rfl ?_; intro w9 ho9 hk9 hs9)
        rw [Hst.out] at ho9
        have Ho9 := Lib.hid ho9
        have Hw9 := Lib.hid (Hwant.out.keeps hk9 hgne)
        have Hb9 := Lib.hid (Hb.out.trans (hk9.below (B := w.heap.size) (fun i hi e => by omega) Hb.out.size))
        clear ho9 hk9
        go_wp2
        go_roundw
        case rel => exact ⟨n + 1, by omega, by go_num, Ho9.out, Hw9.out, Hb9.out⟩
        case measure => simp [intOf]; omega
      · obtain rfl : len = n := by omega
        have hha := half_all cs
        rw [Hl.out] at hha
        rw [hha] at hown
        obtain ⟨b', off', hA, _, hcl⟩ := (Hr.out.below hb).2 (by omega)
        injection hA with hA; injection hA with hA1 hA2 _
        subst hA1 hA2
        have hkc : k < cs.length := by rw [Hl.out]; omega
        obtain ⟨c0, c1, c2, c3, c4⟩ := cells_at hcl hkc
        have hone0 := one_all cs k hkc
        rw [Hl.out] at hone0
        generalize cs[k] = d at *
        have Hone0 := Lib.hid hone0
        obtain ⟨t, r, v, g, l⟩ := d
        dsimp only at c0 c1 c2 c3 c4
        have hgne : gw ≠ gb := by omega
        have hgwr : gw < wr.heap.size := hwant.lt
        have hgbr : gb < wr.heap.size := by
          rcases hown.2 with ⟨e, _⟩ | ⟨g', _, _, e, _, e2, _⟩
          · cases e
          · injection e with e; injection e with e; injection e with e; subst e; exact heap_lt e2
        have hgbw : w.heap.size ≤ gb := by omega
        have hb1s := hb.size
        have Hown := Lib.hid hown
        have Hwant := Lib.hid hwant
        have Hb := Lib.hid hb
        clear hone0 hown hwant hb hcl hha
        obtain ⟨wo, rfl⟩ : ∃ wo : World, wo = wr := ⟨_, rfl⟩
        go_wp2
        go_loopw [15, 68] (fun _ i wr' => ∃ n : Nat, n ≤ len ∧ i = .int .i64 n ∧ wr'.ownsRow w4.heap.size 28 5 (.slice (some ⟨gb, 0, none⟩) len cb) len (cs.reverse.flatMap C.cells) ∧ Blk wr' gw 28 #[.int .i64 wt, .int .i64 wq, .string wv, .bool wg, .int .i64 wl] ∧ Blk wr' wo.heap.size 28 (oneAt cs ⟨t, r, v, g, l⟩ n).cells.toArray ∧ Below w.heap.size w wr') (fun _ i _ => len - (intOf i).toNat)
        case atStart => exact ⟨0, by omega, rfl, own_keeps Hown.out (X := nobody) (Keeps.alloc _) (fun _ _ h => h), Hwant.out.alloc _, Blk.newAt _ 28 _ rfl, Hb.out.alloc hb1s _⟩
        case round =>
          clear Hown Hwant Hb c0 c1 c2 c3 c4
          obtain ⟨n, hn, rfl, hown, hwant, ho, hb⟩ := hrel
          have hwos : wo.heap.size < wr.heap.size := ho.lt
          have hb1s' : w.heap.size ≤ wr.heap.size := by omega
          by_cases hlt : n < len
          · obtain ⟨b', off', hA, _, hcl⟩ := (Hr.out.below hb).2 (by omega)
            injection hA with hA; injection hA with hA1 hA2 _
            subst hA1 hA2
            have hnc : n < cs.length := by rw [Hl.out]; omega
            obtain ⟨c0, c1, c2, c3, c4⟩ := cells_at hcl hnc
            have hst : oneAt cs ⟨t, r, v, g, l⟩ (n + 1) = mergeL [cs[n], oneAt cs ⟨t, r, v, g, l⟩ n] := by
              show mergeL [cs.getD n zeroC, _] = _
              rw [List.getD_eq_getElem?_getD, List.getElem?_eq_getElem hnc]; rfl
            generalize cs[n] = d at *
            generalize oneAt cs ⟨t, r, v, g, l⟩ n = o at *
            obtain ⟨t1, r1, v1, g1, l1⟩ := d
            obtain ⟨t2, r2, v2, g2, l2⟩ := o
            dsimp only at c0 c1 c2 c3 c4
            obtain ⟨k0, k1, k2, k3, k4⟩ := Blk.cells5 (by exact ho : Blk wr wo.heap.size 28 #[.int .i64 t2, .int .i64 r2, .string v2, .bool g2, .int .i64 l2])
            have Hst := Lib.hid hst
            have Hown := Lib.hid hown
            have Hwant := Lib.hid hwant
            have Ho := Lib.hid ho
            have Hb := Lib.hid hb
            clear hst hown hwant ho hb hcl
            go_wp2_with fail
            refine (merge_L (some ⟨wr.heap.size + 1, 0, none⟩) 2 2 [⟨t1, r1, v1, g1, l1⟩, ⟨t2, r2, v2, g2, l2⟩] _ rfl (by decide) (by exact Reads.newAt _ _ _ _ (by simp) rfl)).mono ?_
            rintro e w7 ⟨rfl, hb7⟩
            rw [← Hst.out]
            generalize hn3 : oneAt cs ⟨t, r, v, g, l⟩ (n + 1) = o3
            have Hn3 := Lib.hid hn3; clear hn3 Hst
            obtain ⟨t3, r3, v3, g3, l3⟩ := o3
            unfold cval
            dsimp only
            have hs7 := hb7.size
            simp only [World.size_alloc] at hs7
            have Hown7 := Lib.hid (own_below (own_keeps Hown.out (X := nobody) ((Keeps.alloc _).trans (Keeps.alloc _)) (fun _ _ h => h)) hb7)
            have Hwant7 := Lib.hid (((Hwant.out.alloc _).alloc _).below hb7 (by simp; omega))
            have ho7 := ((Ho.out.alloc _).alloc _).below hb7 (by simp; omega)
            have Hb7 := Lib.hid ((((Hb.out.alloc (by omega) _).alloc (by simp; omega) _)).trans (hb7.mono (by simp; omega)))
            clear hb7 Hown Hwant Ho Hb
            go_wp2_with (refine wpList_store_blk rfl 28 (.tmp 13) (.tmp 75) rfl wo.heap.size (C.cells ⟨t3, r3, v3, g3, l3⟩) rfl rfl ho7 (by kernel_rfl) rfl rfl ?_; intro w9 ho9 hk9 hs9)
            have Hw9 := Lib.hid (Hwant7.out.keeps hk9 (by omega))
            have Hown9 := Lib.hid (own_keeps' Hown7.out hk9 (fun i hi he => by injection hi with hi; simp at hi; omega))
            have Ho9 := Lib.hid ho9
            have Hb9 := Lib.hid (Hb7.out.trans (hk9.below (B := w.heap.size) (fun i hi e => by omega) Hb7.out.size))
            clear ho9 hk9
            go_wp2
            go_roundw
            case rel => exact ⟨n + 1, by omega, by go_num, Hown9.out, Hw9.out, by rw [Hn3.out]; exact Ho9.out, Hb9.out⟩
            case measure => simp [intOf]; omega
          · obtain rfl : len = n := by omega
            rw [Hone0.out, HW.out] at ho
            have hgbwr : gb < wr.heap.size := by omega
            have hgob : wo.heap.size ≠ gb := by omega
            have hgwS : gw < wr.heap.size := by omega
            have hgoS : wo.heap.size < wr.heap.size := hwos
            have Hst := Lib.hid (show St wr.drew gw wo.heap.size wr.heap.size #[.int .i64 wt, .int .i64 wq, .string wv, .bool wg, .int .i64 wl] from ⟨hwant.drew, ho.drew, Nat.le_refl _⟩)
            have HB := Lib.hid hb.drew
            have Hown := Lib.hid (own_keeps' hown (X := nobody) Keeps.drew (fun _ _ h => h))
            clear hwant ho hb hown
            have hk1 : k ≤ len := by omega
            have hk2 : k ≤ cap := by omega
            have hk3 : ¬ cap = k := by omega
            have hk4 : c ≤ len := by omega
            have hk5 : c ≤ cap := by omega
            have hk6 : ¬ cap = c := by omega
            obtain ⟨⟨m1, m2, m3, m4, m5⟩, hM1⟩ : ∃ W : C, mergeL (cs.take c) = W := ⟨_, rfl⟩
            obtain ⟨⟨n1, n2, n3, n4, n5⟩, hM2⟩ : ∃ W : C, mergeL (cs.drop c) = W := ⟨_, rfl⟩
            have HM1 := Lib.hid hM1
            have HM2 := Lib.hid hM2
            clear hM1 hM2
            by_cases hc0 : c = 0
            · have d0 : ((c : Int) == 0) = true := by simp [hc0]
              go_wp2_with fail
              refine wp_region_mono (fun i => i = gb ∨ wr.heap.size ≤ i) (by kernel_rfl) ?_
              -- 1 Op.move (Operand.tmp 0)
              refine wpMono_take' 1 (v := ?_) rfl (by kernel_rfl) (by kernel_rfl) (by kernel_rfl) (fun _ _ _ h => h) (by rfl) ?_ ?_
              rotate_left
              · (intro W hSw; try (have hsW := Hst.out.keeps hSw hgne hgob hgwS hgoS; obtain ⟨e0, e1, e2, e3, e4⟩ := Blk.cells5 hsW.want; obtain ⟨j0, j1, j2, j3, j4⟩ := Blk.cells5 hsW.one)
                 go_simp; first | done | rfl)
              try simp only [Act.put, List.setIfInBounds_toArray, List.set_cons_zero, List.set_cons_succ]
              -- 2 Op.move (Operand.tmp 9)
              refine wpMono_take' 2 (v := ?_) rfl (by kernel_rfl) (by kernel_rfl) (by kernel_rfl) (fun _ _ _ h => h) (by rfl) ?_ ?_
              rotate_left
              · (intro W hSw; try (have hsW := Hst.out.keeps hSw hgne hgob hgwS hgoS; obtain ⟨e0, e1, e2, e3, e4⟩ := Blk.cells5 hsW.want; obtain ⟨j0, j1, j2, j3, j4⟩ := Blk.cells5 hsW.one)
                 go_simp; first | done | rfl)
              try simp only [Act.put, List.setIfInBounds_toArray, List.set_cons_zero, List.set_cons_succ]
              -- 3 Op.slice 22 (Operand.tmp 78) (some (Operand.tmp 79)) none none
              refine wpMono_take' 3 (v := ?_) rfl (by kernel_rfl) (by kernel_rfl) (by kernel_rfl) (fun _ _ _ h => h) (by rfl) ?_ ?_
              rotate_left
              · (intro W hSw; try (have hsW := Hst.out.keeps hSw hgne hgob hgwS hgoS; obtain ⟨e0, e1, e2, e3, e4⟩ := Blk.cells5 hsW.want; obtain ⟨j0, j1, j2, j3, j4⟩ := Blk.cells5 hsW.one)
                 go_simp; first | done | rfl)
              try simp only [Act.put, List.setIfInBounds_toArray, List.set_cons_zero, List.set_cons_succ]
              -- 5 Op.move (Operand.tmp 0)
              refine wpMono_take' 5 (v := ?_) rfl (by kernel_rfl) (by kernel_rfl) (by kernel_rfl) (fun _ _ _ h => h) (by rfl) ?_ ?_
              rotate_left
              · (intro W hSw; try (have hsW := Hst.out.keeps hSw hgne hgob hgwS hgoS; obtain ⟨e0, e1, e2, e3, e4⟩ := Blk.cells5 hsW.want; obtain ⟨j0, j1, j2, j3, j4⟩ := Blk.cells5 hsW.one)
                 go_simp; first | done | rfl)
              try simp only [Act.put, List.setIfInBounds_toArray, List.set_cons_zero, List.set_cons_succ]
              -- 6 Op.move (Operand.tmp 9)
              refine wpMono_take' 6 (v := ?_) rfl (by kernel_rfl) (by kernel_rfl) (by kernel_rfl) (fun _ _ _ h => h) (by rfl) ?_ ?_
              rotate_left
              · (intro W hSw; try (have hsW := Hst.out.keeps hSw hgne hgob hgwS hgoS; obtain ⟨e0, e1, e2, e3, e4⟩ := Blk.cells5 hsW.want; obtain ⟨j0, j1, j2, j3, j4⟩ := Blk.cells5 hsW.one)
                 go_simp; first | done | rfl)
              try simp only [Act.put, List.setIfInBounds_toArray, List.set_cons_zero, List.set_cons_succ]
              -- 7 Op.slice 22 (Operand.tmp 82) none (some (Operand.tmp 83)) none
              refine wpMono_take' 7 (v := ?_) rfl (by kernel_rfl) (by kernel_rfl) (by kernel_rfl) (fun _ _ _ h => h) (by rfl) ?_ ?_
              rotate_left
              · (intro W hSw; try (have hsW := Hst.out.keeps hSw hgne hgob hgwS hgoS; obtain ⟨e0, e1, e2, e3, e4⟩ := Blk.cells5 hsW.want; obtain ⟨j0, j1, j2, j3, j4⟩ := Blk.cells5 hsW.one)
                 go_simp; first | done | rfl)
              try simp only [Act.put, List.setIfInBounds_toArray, List.set_cons_zero, List.set_cons_succ]
              -- 10 Op.load 28 (Operand.tmp 7)
              refine wpMono_take' 10 (v := ?_) rfl (by kernel_rfl) (by kernel_rfl) (by kernel_rfl) (fun _ _ _ h => h) (by rfl) ?_ ?_
              rotate_left
              · (intro W hSw; try (have hsW := Hst.out.keeps hSw hgne hgob hgwS hgoS; obtain ⟨e0, e1, e2, e3, e4⟩ := Blk.cells5 hsW.want; obtain ⟨j0, j1, j2, j3, j4⟩ := Blk.cells5 hsW.one)
                 go_simp; first | done | rfl)
              try simp only [Act.put, List.setIfInBounds_toArray, List.set_cons_zero, List.set_cons_succ]
              -- EFFECT 0 Op.buildSlice 22 0 #[]
              refine wpMono_one' 0 (by kernel_rfl) rfl (by rfl) (fun K hK => ?_)
              go_simp
              have hk0 : Keeps (fun i => wr.heap.size ≤ i) wr.drew (wr.alloc (.cells #[] 28)).drew := ⟨rfl, rfl, rfl, by simp, fun i hi _ => Below.heap_alloc wr _ i hi⟩
              have hkn : Keeps (fun i => wr.heap.size ≤ i) _ _ := hk0
              have hstn := Hst.out.keeps (hkn.more fun i _ h => Or.inr h) hgne hgob hgwS hgoS
              have hbn := HB.out.trans (hkn.below (B := w.heap.size) (fun i hi e => by omega) HB.out.size)
              have hon := own_keeps' Hown.out hkn (fun i hi he => by injection hi with hi; simp at hi; omega)
              clear Hst HB Hown
              have Hst := Lib.hid hstn
              have HB := Lib.hid hbn
              have Hown := Lib.hid hon
              clear hstn hbn hon
              have Hrow0 := Lib.hid (show (wr.alloc (.cells #[] 28)).drew.ownsRow wr.heap.size 28 5 (.slice (some ⟨wr.heap.size, 0, none⟩) 0 0) 0 [] from own_keeps' (ownsRow_new0 wr 28 5 #[]) (X := nobody) Keeps.drew (fun _ _ h => h))
              refine hK.out _ _ ?_ ?_
              · exact hkn.more fun i _ h => .inr h
              clear hK K
              try simp only [Act.put, List.setIfInBounds_toArray, List.set_cons_zero, List.set_cons_succ]
              -- EFFECT 4 Op.call { callee := Callee.builtin Builtin.append, args := #[Operand.tmp 77, Operand.tmp 80], argTypes := #[22, 22] }
              refine wpMono_one' 4 (by kernel_rfl) rfl (by rfl) (fun K hK => ?_)
              refine wp_append_any _ (.tmp 77) (.tmp 80) _ (by rfl) wr.heap.size 28 i0 _ 5 48 Try.underlying22 hi hz0 hz1 hz2 rfl (by omega) (.slice (some ⟨wr.heap.size, 0, none⟩) 0 0) 0 [] (by rfl) Hrow0.out _ _ (len - k) _ ((cs.drop k).flatMap C.cells) (by rfl) (Reads.dropAt C.cells C.len (k := k) (Hr.out.below HB.out) hk) (fun u hu => Hone.out u (by rw [← flat_drop C.cells C.len] at hu; exact List.mem_of_mem_drop hu)) (by unfold maxLen; omega) (by omega) (by simp) fun v81 w81 ho81 hg81 hv81 => ?_
              simp only [Nat.zero_add, List.nil_append] at ho81
              have hkn : Keeps (fun i => wr.heap.size ≤ i) _ _ := (.grown hg81 (fun g hg => .inl (own_ge Hrow0.out hg)))
              have hstn := Hst.out.keeps (hkn.more fun i _ h => Or.inr h) hgne hgob hgwS hgoS
              have hbn := HB.out.trans (hkn.below (B := w.heap.size) (fun i hi e => by omega) HB.out.size)
              have hon := own_keeps' Hown.out hkn (fun i hi he => by injection hi with hi; simp at hi; omega)
              clear Hst HB Hown
              have Hst := Lib.hid hstn
              have HB := Lib.hid hbn
              have Hown := Lib.hid hon
              clear hstn hbn hon
              refine hK.out _ _ ?_ ?_
              · exact hkn.more fun i _ h => .inr h
              clear hK K
              try simp only [Act.put, List.setIfInBounds_toArray, List.set_cons_zero, List.set_cons_succ]
              -- EFFECT 8 Op.call { callee := Callee.builtin Builtin.append, args := #[Operand.tmp 81, Operand.tmp 84], argTypes := #[22, 22] }
              refine wpMono_one' 8 (by kernel_rfl) rfl (by rfl) (fun K hK => ?_)
              refine wp_append_any _ (.tmp 81) (.tmp 84) _ (by rfl) wr.heap.size 28 i0 _ 5 48 Try.underlying22 hi hz0 hz1 hz2 rfl (by omega) v81 (len - k) _ (by rfl) ho81 _ _ k _ ((cs.take k).flatMap C.cells) (by rfl) (Reads.takeAt C.cells C.len (k := k) (Hr.out.below HB.out) (by omega) hn0) (fun u hu => Hone.out u (by rw [← flat_take C.cells C.len] at hu; exact List.mem_of_mem_take hu)) (by unfold maxLen; omega) (by omega) Hst.out.size fun v85 w85 ho85 hg85 hv85 => ?_
              rw [← List.flatMap_append, Nat.sub_add_cancel hk1] at ho85
              obtain ⟨g85, c85, rfl, hgg85, _⟩ := ho85.form (by omega)
              have hkn : Keeps (fun i => wr.heap.size ≤ i) _ _ := (.grown hg85 (fun g hg => .inl (own_ge ho81 hg)))
              have hstn := Hst.out.keeps (hkn.more fun i _ h => Or.inr h) hgne hgob hgwS hgoS
              have hbn := HB.out.trans (hkn.below (B := w.heap.size) (fun i hi e => by omega) HB.out.size)
              have hon := own_keeps' Hown.out hkn (fun i hi he => by injection hi with hi; simp at hi; omega)
              clear Hst HB Hown
              have Hst := Lib.hid hstn
              have HB := Lib.hid hbn
              have Hown := Lib.hid hon
              clear hstn hbn hon
              refine hK.out _ _ ?_ ?_
              · exact hkn.more fun i _ h => .inr h
              clear hK K
              try simp only [Act.put, List.setIfInBounds_toArray, List.set_cons_zero, List.set_cons_succ]
              -- EFFECT 9 Op.call { callee := Callee.value (Operand.func 13), args := #[Operand.tmp 85], argTypes := #[22] }
              refine wpMono_one' 9 (by kernel_rfl) rfl (by rfl) (fun K hK => ?_)
              go_simp
              refine (merge_L (some ⟨g85, 0, none⟩) len c85 (cs.drop k ++ cs.take k) _ (by simp [Hl.out]; omega) (by unfold maxLen; omega) (Reads.of_own ho85)).mono ?_
              rintro e w86 ⟨rfl, hb86⟩
              rw [(turned cs Hne.out k).trans HW.out]
              unfold cval
              dsimp only
              have hkn : Keeps (fun i => wr.heap.size ≤ i) _ _ := (.of_below hb86)
              have hstn := Hst.out.keeps (hkn.more fun i _ h => Or.inr h) hgne hgob hgwS hgoS
              have hbn := HB.out.trans (hkn.below (B := w.heap.size) (fun i hi e => by omega) HB.out.size)
              have hon := own_keeps' Hown.out hkn (fun i hi he => by injection hi with hi; simp at hi; omega)
              clear Hst HB Hown
              have Hst := Lib.hid hstn
              have HB := Lib.hid hbn
              have Hown := Lib.hid hon
              clear hstn hbn hon
              refine hK.out _ _ ?_ ?_
              · exact hkn.more fun i _ h => .inr h
              clear hK K
              try simp only [Act.put, List.setIfInBounds_toArray, List.set_cons_zero, List.set_cons_succ]
              -- 11 Op.binOp BinOp.eql 28 (Operand.tmp 86) (Operand.tmp 87) 28
              refine wpMono_take' 11 (v := ?_) rfl (by kernel_rfl) (by kernel_rfl) (by kernel_rfl) (fun _ _ _ h => h) (by rfl) ?_ ?_
              rotate_left
              · (intro W hSw; try (have hsW := Hst.out.keeps hSw hgne hgob hgwS hgoS; obtain ⟨e0, e1, e2, e3, e4⟩ := Blk.cells5 hsW.want; obtain ⟨j0, j1, j2, j3, j4⟩ := Blk.cells5 hsW.one)
                 go_simp; first | done | rfl)
              try simp only [Act.put, List.setIfInBounds_toArray, List.set_cons_zero, List.set_cons_succ]
              -- 12 Op.move (Operand.tmp 88)
              refine wpMono_take' 12 (v := ?_) rfl (by kernel_rfl) (by kernel_rfl) (by kernel_rfl) (fun _ _ _ h => h) (by rfl) ?_ ?_
              rotate_left
              · (intro W hSw; try (have hsW := Hst.out.keeps hSw hgne hgob hgwS hgoS; obtain ⟨e0, e1, e2, e3, e4⟩ := Blk.cells5 hsW.want; obtain ⟨j0, j1, j2, j3, j4⟩ := Blk.cells5 hsW.one)
                 go_simp; first | done | rfl)
              try simp only [Act.put, List.setIfInBounds_toArray, List.set_cons_zero, List.set_cons_succ]
              -- 13 Op.move (Operand.tmp 11)
              refine wpMono_take' 13 (v := ?_) rfl (by kernel_rfl) (by kernel_rfl) (by kernel_rfl) (fun _ _ _ h => h) (by rfl) ?_ ?_
              rotate_left
              · (intro W hSw; try (have hsW := Hst.out.keeps hSw hgne hgob hgwS hgoS; obtain ⟨e0, e1, e2, e3, e4⟩ := Blk.cells5 hsW.want; obtain ⟨j0, j1, j2, j3, j4⟩ := Blk.cells5 hsW.one)
                 go_simp; first | done | rfl)
              try simp only [Act.put, List.setIfInBounds_toArray, List.set_cons_zero, List.set_cons_succ]
              -- 15 Op.load 28 (Operand.tmp 7)
              refine wpMono_take' 15 (v := ?_) rfl (by kernel_rfl) (by kernel_rfl) (by kernel_rfl) (fun _ _ _ h => h) (by rfl) ?_ ?_
              rotate_left
              · (intro W hSw; try (have hsW := Hst.out.keeps hSw hgne hgob hgwS hgoS; obtain ⟨e0, e1, e2, e3, e4⟩ := Blk.cells5 hsW.want; obtain ⟨j0, j1, j2, j3, j4⟩ := Blk.cells5 hsW.one)
                 go_simp; first | done | rfl)
              try simp only [Act.put, List.setIfInBounds_toArray, List.set_cons_zero, List.set_cons_succ]
              -- EFFECT 14 Op.call { callee := Callee.value (Operand.func 13), args := #[Operand.tmp 90], argTypes := #[22] }
              refine wpMono_one' 14 (by kernel_rfl) rfl (by rfl) (fun K hK => ?_)
              go_simp
              refine (merge_L (some ⟨gb, 0, none⟩) len cb cs.reverse _ (by simp [Hl.out]) (by unfold maxLen; omega) (Reads.of_own Hown.out)).mono ?_
              rintro e w91 ⟨rfl, hb91⟩
              rw [(back cs Hne.out).trans HW.out]
              unfold cval
              dsimp only
              have hkn : Keeps (fun i => wr.heap.size ≤ i) _ _ := (.of_below hb91)
              have hstn := Hst.out.keeps (hkn.more fun i _ h => Or.inr h) hgne hgob hgwS hgoS
              have hbn := HB.out.trans (hkn.below (B := w.heap.size) (fun i hi e => by omega) HB.out.size)
              have hon := own_keeps' Hown.out hkn (fun i hi he => by injection hi with hi; simp at hi; omega)
              clear Hst HB Hown
              have Hst := Lib.hid hstn
              have HB := Lib.hid hbn
              have Hown := Lib.hid hon
              clear hstn hbn hon
              refine hK.out _ _ ?_ ?_
              · exact hkn.more fun i _ h => .inr h
              clear hK K
              try simp only [Act.put, List.setIfInBounds_toArray, List.set_cons_zero, List.set_cons_succ]
              -- 16 Op.binOp BinOp.eql 28 (Operand.tmp 91) (Operand.tmp 92) 28
              refine wpMono_take' 16 (v := ?_) rfl (by kernel_rfl) (by kernel_rfl) (by kernel_rfl) (fun _ _ _ h => h) (by rfl) ?_ ?_
              rotate_left
              · (intro W hSw; try (have hsW := Hst.out.keeps hSw hgne hgob hgwS hgoS; obtain ⟨e0, e1, e2, e3, e4⟩ := Blk.cells5 hsW.want; obtain ⟨j0, j1, j2, j3, j4⟩ := Blk.cells5 hsW.one)
                 go_simp; first | done | rfl)
              try simp only [Act.put, List.setIfInBounds_toArray, List.set_cons_zero, List.set_cons_succ]
              -- 17 Op.pick (Operand.tmp 89) (Operand.tmp 93) (Operand.const (Value.bool false))
              refine wpMono_take' 17 (v := ?_) rfl (by kernel_rfl) (by kernel_rfl) (by kernel_rfl) (fun _ _ _ h => h) (by rfl) ?_ ?_
              rotate_left
              · (intro W hSw; try (have hsW := Hst.out.keeps hSw hgne hgob hgwS hgoS; obtain ⟨e0, e1, e2, e3, e4⟩ := Blk.cells5 hsW.want; obtain ⟨j0, j1, j2, j3, j4⟩ := Blk.cells5 hsW.one)
                 go_simp; first | done | rfl)
              try simp only [Act.put, List.setIfInBounds_toArray, List.set_cons_zero, List.set_cons_succ]
              -- 18 Op.move (Operand.tmp 94)
              refine wpMono_take' 18 (v := ?_) rfl (by kernel_rfl) (by kernel_rfl) (by kernel_rfl) (fun _ _ _ h => h) (by rfl) ?_ ?_
              rotate_left
              · (intro W hSw; try (have hsW := Hst.out.keeps hSw hgne hgob hgwS hgoS; obtain ⟨e0, e1, e2, e3, e4⟩ := Blk.cells5 hsW.want; obtain ⟨j0, j1, j2, j3, j4⟩ := Blk.cells5 hsW.one)
                 go_simp; first | done | rfl)
              try simp only [Act.put, List.setIfInBounds_toArray, List.set_cons_zero, List.set_cons_succ]
              -- 19 Op.load 28 (Operand.tmp 13)
              refine wpMono_take' 19 (v := ?_) rfl (by kernel_rfl) (by kernel_rfl) (by kernel_rfl) (fun _ _ _ h => h) (by rfl) ?_ ?_
              rotate_left
              · (intro W hSw; try (have hsW := Hst.out.keeps hSw hgne hgob hgwS hgoS; obtain ⟨e0, e1, e2, e3, e4⟩ := Blk.cells5 hsW.want; obtain ⟨j0, j1, j2, j3, j4⟩ := Blk.cells5 hsW.one)
                 go_simp; first | done | rfl)
              try simp only [Act.put, List.setIfInBounds_toArray, List.set_cons_zero, List.set_cons_succ]
              -- 20 Op.load 28 (Operand.tmp 7)
              refine wpMono_take' 20 (v := ?_) rfl (by kernel_rfl) (by kernel_rfl) (by kernel_rfl) (fun _ _ _ h => h) (by rfl) ?_ ?_
              rotate_left
              · (intro W hSw; try (have hsW := Hst.out.keeps hSw hgne hgob hgwS hgoS; obtain ⟨e0, e1, e2, e3, e4⟩ := Blk.cells5 hsW.want; obtain ⟨j0, j1, j2, j3, j4⟩ := Blk.cells5 hsW.one)
                 go_simp; first | done | rfl)
              try simp only [Act.put, List.setIfInBounds_toArray, List.set_cons_zero, List.set_cons_succ]
              -- 21 Op.binOp BinOp.eql 28 (Operand.tmp 96) (Operand.tmp 97) 28
              refine wpMono_take' 21 (v := ?_) rfl (by kernel_rfl) (by kernel_rfl) (by kernel_rfl) (fun _ _ _ h => h) (by rfl) ?_ ?_
              rotate_left
              · (intro W hSw; try (have hsW := Hst.out.keeps hSw hgne hgob hgwS hgoS; obtain ⟨e0, e1, e2, e3, e4⟩ := Blk.cells5 hsW.want; obtain ⟨j0, j1, j2, j3, j4⟩ := Blk.cells5 hsW.one)
                 go_simp; first | done | rfl)
              try simp only [Act.put, List.setIfInBounds_toArray, List.set_cons_zero, List.set_cons_succ]
              -- 22 Op.pick (Operand.tmp 95) (Operand.tmp 98) (Operand.const (Value.bool false))
              refine wpMono_take' 22 (v := ?_) rfl (by kernel_rfl) (by kernel_rfl) (by kernel_rfl) (fun _ _ _ h => h) (by rfl) ?_ ?_
              rotate_left
              · (intro W hSw; try (have hsW := Hst.out.keeps hSw hgne hgob hgwS hgoS; obtain ⟨e0, e1, e2, e3, e4⟩ := Blk.cells5 hsW.want; obtain ⟨j0, j1, j2, j3, j4⟩ := Blk.cells5 hsW.one)
                 go_simp; first | done | rfl)
              try simp only [Act.put, List.setIfInBounds_toArray, List.set_cons_zero, List.set_cons_succ]
              -- 23 Op.move (Operand.tmp 99)
              refine wpMono_take' 23 (v := ?_) rfl (by kernel_rfl) (by kernel_rfl) (by kernel_rfl) (fun _ _ _ h => h) (by rfl) ?_ ?_
              rotate_left
              · (intro W hSw; try (have hsW := Hst.out.keeps hSw hgne hgob hgwS hgoS; obtain ⟨e0, e1, e2, e3, e4⟩ := Blk.cells5 hsW.want; obtain ⟨j0, j1, j2, j3, j4⟩ := Blk.cells5 hsW.one)
                 go_simp; first | done | rfl)
              try simp only [Act.put, List.setIfInBounds_toArray, List.set_cons_zero, List.set_cons_succ]
              -- 24 Op.move (Operand.tmp 10)
              refine wpMono_take' 24 (v := ?_) rfl (by kernel_rfl) (by kernel_rfl) (by kernel_rfl) (fun _ _ _ h => h) (by rfl) ?_ ?_
              rotate_left
              · (intro W hSw; try (have hsW := Hst.out.keeps hSw hgne hgob hgwS hgoS; obtain ⟨e0, e1, e2, e3, e4⟩ := Blk.cells5 hsW.want; obtain ⟨j0, j1, j2, j3, j4⟩ := Blk.cells5 hsW.one)
                 go_simp; first | done | rfl)
              try simp only [Act.put, List.setIfInBounds_toArray, List.set_cons_zero, List.set_cons_succ]
              -- 25 Op.binOp BinOp.eql 3 (Operand.tmp 101) (Operand.const (Value.int IntKind.i64 0)) 3
              refine wpMono_take' 25 (v := ?_) rfl (by kernel_rfl) (by kernel_rfl) (by kernel_rfl) (fun _ _ _ h => h) (by rfl) ?_ ?_
              rotate_left
              · (intro W hSw; try (have hsW := Hst.out.keeps hSw hgne hgob hgwS hgoS; obtain ⟨e0, e1, e2, e3, e4⟩ := Blk.cells5 hsW.want; obtain ⟨j0, j1, j2, j3, j4⟩ := Blk.cells5 hsW.one)
                 go_simp; first | done | rfl)
              try simp only [Act.put, List.setIfInBounds_toArray, List.set_cons_zero, List.set_cons_succ]
              -- 26 Op.move (Operand.tmp 102)
              refine wpMono_take' 26 (v := ?_) rfl (by kernel_rfl) (by kernel_rfl) (by kernel_rfl) (fun _ _ _ h => h) (by rfl) ?_ ?_
              rotate_left
              · (intro W hSw; try (have hsW := Hst.out.keeps hSw hgne hgob hgwS hgoS; obtain ⟨e0, e1, e2, e3, e4⟩ := Blk.cells5 hsW.want; obtain ⟨j0, j1, j2, j3, j4⟩ := Blk.cells5 hsW.one)
                 go_simp; first | done | rfl)
              try simp only [Act.put, List.setIfInBounds_toArray, List.set_cons_zero, List.set_cons_succ]
              -- 27 Op.move (Operand.tmp 0)
              refine wpMono_skip' 27 rfl (by kernel_rfl) (by kernel_rfl) (by kernel_rfl) (fun _ _ _ h => h) (by rfl) ?_
              try simp only [Act.put, List.setIfInBounds_toArray, List.set_cons_zero, List.set_cons_succ]
              -- 28 Op.move (Operand.tmp 10)
              refine wpMono_skip' 28 rfl (by kernel_rfl) (by kernel_rfl) (by kernel_rfl) (fun _ _ _ h => h) (by rfl) ?_
              try simp only [Act.put, List.setIfInBounds_toArray, List.set_cons_zero, List.set_cons_succ]
              -- 29 Op.slice 22 (Operand.tmp 104) none (some (Operand.tmp 105)) none
              refine wpMono_skip' 29 rfl (by kernel_rfl) (by kernel_rfl) (by kernel_rfl) (fun _ _ _ h => h) (by rfl) ?_
              try simp only [Act.put, List.setIfInBounds_toArray, List.set_cons_zero, List.set_cons_succ]
              -- 30 Op.call { callee := Callee.value (Operand.func 13), args := #[Operand.tmp 106], argTypes :
              refine wpMono_skip' 30 rfl (by kernel_rfl) (by kernel_rfl) (by kernel_rfl) (fun _ _ _ h => h) (by rfl) ?_
              try simp only [Act.put, List.setIfInBounds_toArray, List.set_cons_zero, List.set_cons_succ]
              -- 31 Op.move (Operand.tmp 0)
              refine wpMono_skip' 31 rfl (by kernel_rfl) (by kernel_rfl) (by kernel_rfl) (fun _ _ _ h => h) (by rfl) ?_
              try simp only [Act.put, List.setIfInBounds_toArray, List.set_cons_zero, List.set_cons_succ]
              -- 32 Op.move (Operand.tmp 10)
              refine wpMono_skip' 32 rfl (by kernel_rfl) (by kernel_rfl) (by kernel_rfl) (fun _ _ _ h => h) (by rfl) ?_
              try simp only [Act.put, List.setIfInBounds_toArray, List.set_cons_zero, List.set_cons_succ]
              -- 33 Op.slice 22 (Operand.tmp 108) (some (Operand.tmp 109)) none none
              refine wpMono_skip' 33 rfl (by kernel_rfl) (by kernel_rfl) (by kernel_rfl) (fun _ _ _ h => h) (by rfl) ?_
              try simp only [Act.put, List.setIfInBounds_toArray, List.set_cons_zero, List.set_cons_succ]
              -- 34 Op.call { callee := Callee.value (Operand.func 13), args := #[Operand.tmp 110], argTypes :
              refine wpMono_skip' 34 rfl (by kernel_rfl) (by kernel_rfl) (by kernel_rfl) (fun _ _ _ h => h) (by rfl) ?_
              try simp only [Act.put, List.setIfInBounds_toArray, List.set_cons_zero, List.set_cons_succ]
              -- 35 Op.buildSlice 22 2 #[(0, Operand.tmp 107), (1, Operand.tmp 111)]
              refine wpMono_skip' 35 rfl (by kernel_rfl) (by kernel_rfl) (by kernel_rfl) (fun _ _ _ h => h) (by rfl) ?_
              try simp only [Act.put, List.setIfInBounds_toArray, List.set_cons_zero, List.set_cons_succ]
              -- 36 Op.call { callee := Callee.value (Operand.func 13), args := #[Operand.tmp 112], argTypes :
              refine wpMono_skip' 36 rfl (by kernel_rfl) (by kernel_rfl) (by kernel_rfl) (fun _ _ _ h => h) (by rfl) ?_
              try simp only [Act.put, List.setIfInBounds_toArray, List.set_cons_zero, List.set_cons_succ]
              -- 37 Op.load 28 (Operand.tmp 7)
              refine wpMono_skip' 37 rfl (by kernel_rfl) (by kernel_rfl) (by kernel_rfl) (fun _ _ _ h => h) (by rfl) ?_
              try simp only [Act.put, List.setIfInBounds_toArray, List.set_cons_zero, List.set_cons_succ]
              -- 38 Op.binOp BinOp.eql 28 (Operand.tmp 113) (Operand.tmp 114) 28
              refine wpMono_skip' 38 rfl (by kernel_rfl) (by kernel_rfl) (by kernel_rfl) (fun _ _ _ h => h) (by rfl) ?_
              try simp only [Act.put, List.setIfInBounds_toArray, List.set_cons_zero, List.set_cons_succ]
              -- 39 Op.pick (Operand.tmp 103) (Operand.const (Value.bool true)) (Operand.tmp 115)
              refine wpMono_take' 39 (v := ?_) rfl (by kernel_rfl) (by kernel_rfl) (by kernel_rfl) (fun _ _ _ h => h) (by rfl) ?_ ?_
              rotate_left
              · (intro W hSw; try (have hsW := Hst.out.keeps hSw hgne hgob hgwS hgoS; obtain ⟨e0, e1, e2, e3, e4⟩ := Blk.cells5 hsW.want; obtain ⟨j0, j1, j2, j3, j4⟩ := Blk.cells5 hsW.one)
                 go_simp; first | done | rfl)
              try simp only [Act.put, List.setIfInBounds_toArray, List.set_cons_zero, List.set_cons_succ]
              -- 40 Op.pick (Operand.tmp 100) (Operand.tmp 116) (Operand.const (Value.bool false))
              refine wpMono_take' 40 (v := ?_) rfl (by kernel_rfl) (by kernel_rfl) (by kernel_rfl) (fun _ _ _ h => h) (by rfl) ?_ ?_
              rotate_left
              · (intro W hSw; try (have hsW := Hst.out.keeps hSw hgne hgob hgwS hgoS; obtain ⟨e0, e1, e2, e3, e4⟩ := Blk.cells5 hsW.want; obtain ⟨j0, j1, j2, j3, j4⟩ := Blk.cells5 hsW.one)
                 go_simp; first | done | rfl)
              try simp only [Act.put, List.setIfInBounds_toArray, List.set_cons_zero, List.set_cons_succ]
              -- 41 Op.move (Operand.tmp 117)
              refine wpMono_take' 41 (v := ?_) rfl (by kernel_rfl) (by kernel_rfl) (by kernel_rfl) (fun _ _ _ h => h) (by rfl) ?_ ?_
              rotate_left
              · (intro W hSw; try (have hsW := Hst.out.keeps hSw hgne hgob hgwS hgoS; obtain ⟨e0, e1, e2, e3, e4⟩ := Blk.cells5 hsW.want; obtain ⟨j0, j1, j2, j3, j4⟩ := Blk.cells5 hsW.one)
                 go_simp; first | done | rfl)
              try simp only [Act.put, List.setIfInBounds_toArray, List.set_cons_zero, List.set_cons_succ]
              -- 42 Op.move (Operand.tmp 11)
              refine wpMono_take' 42 (v := ?_) rfl (by kernel_rfl) (by kernel_rfl) (by kernel_rfl) (fun _ _ _ h => h) (by rfl) ?_ ?_
              rotate_left
              · (intro W hSw; try (have hsW := Hst.out.keeps hSw hgne hgob hgwS hgoS; obtain ⟨e0, e1, e2, e3, e4⟩ := Blk.cells5 hsW.want; obtain ⟨j0, j1, j2, j3, j4⟩ := Blk.cells5 hsW.one)
                 go_simp; first | done | rfl)
              try simp only [Act.put, List.setIfInBounds_toArray, List.set_cons_zero, List.set_cons_succ]
              -- 43 Op.load 28 (Operand.tmp 7)
              refine wpMono_take' 43 (v := ?_) rfl (by kernel_rfl) (by kernel_rfl) (by kernel_rfl) (fun _ _ _ h => h) (by rfl) ?_ ?_
              rotate_left
              · (intro W hSw; try (have hsW := Hst.out.keeps hSw hgne hgob hgwS hgoS; obtain ⟨e0, e1, e2, e3, e4⟩ := Blk.cells5 hsW.want; obtain ⟨j0, j1, j2, j3, j4⟩ := Blk.cells5 hsW.one)
                 go_simp; first | done | rfl)
              try simp only [Act.put, List.setIfInBounds_toArray, List.set_cons_zero, List.set_cons_succ]
              -- 47 Op.load 28 (Operand.tmp 7)
              refine wpMono_take' 47 (v := ?_) rfl (by kernel_rfl) (by kernel_rfl) (by kernel_rfl) (fun _ _ _ h => h) (by rfl) ?_ ?_
              rotate_left
              · (intro W hSw; try (have hsW := Hst.out.keeps hSw hgne hgob hgwS hgoS; obtain ⟨e0, e1, e2, e3, e4⟩ := Blk.cells5 hsW.want; obtain ⟨j0, j1, j2, j3, j4⟩ := Blk.cells5 hsW.one)
                 go_simp; first | done | rfl)
              try simp only [Act.put, List.setIfInBounds_toArray, List.set_cons_zero, List.set_cons_succ]
              -- EFFECT 44 Op.buildSlice 22 1 #[(0, Operand.tmp 120)]
              refine wpMono_one' 44 (by kernel_rfl) rfl (by rfl) (fun K hK => ?_)
              go_simp
              have hkn : Keeps (fun i => wr.heap.size ≤ i) _ _ := (Keeps.alloc (w:=w91) (.cells #[.int .i64 wt, .int .i64 wq, .string wv, .bool wg, .int .i64 wl] 28))
              have hstn := Hst.out.keeps (hkn.more fun i _ h => Or.inr h) hgne hgob hgwS hgoS
              have hbn := HB.out.trans (hkn.below (B := w.heap.size) (fun i hi e => by omega) HB.out.size)
              have hon := own_keeps' Hown.out hkn (fun i hi he => by injection hi with hi; simp at hi; omega)
              clear Hst HB Hown
              have Hst := Lib.hid hstn
              have HB := Lib.hid hbn
              have Hown := Lib.hid hon
              clear hstn hbn hon
              refine hK.out _ _ ?_ ?_
              · exact hkn.more fun i _ h => .inr h
              clear hK K
              try simp only [Act.put, List.setIfInBounds_toArray, List.set_cons_zero, List.set_cons_succ]
              -- EFFECT 45 Op.call { callee := Callee.builtin Builtin.append, args := #[Operand.tmp 119, Operand.tmp 121], argTypes := #[22, 22] }
              refine wpMono_one' 45 (by kernel_rfl) rfl (by rfl) (fun K hK => ?_)
              refine wp_append_any _ (.tmp 119) (.tmp 121) _ (by rfl) w4.heap.size 28 i0 _ 5 48 Try.underlying22 hi hz0 hz1 hz2 rfl (by omega) (.slice (some ⟨gb, 0, none⟩) len cb) len _ (by rfl) Hown.out _ _ 1 1 [.int .i64 wt, .int .i64 wq, .string wv, .bool wg, .int .i64 wl] (by rfl) (by exact Reads.newAt _ _ _ _ rfl rfl) (by simp [Value.oneCell']) (by unfold maxLen; omega) (by omega) (by have := Hst.out.size; omega) fun v122 w122 ho122 hg122 hv122 => ?_
              have ho122 : w122.ownsRow w4.heap.size 28 5 v122 (len + 1) ((cs.reverse ++ [C.mk wt wq wv wg wl]).flatMap C.cells) := by rw [List.flatMap_append]; exact ho122
              obtain ⟨g122, c122, rfl, hgg122, _⟩ := ho122.form (by omega)
              refine hK.out _ _ ?_ ?_
              · exact .grown hg122 fun g hg => .inl (.inl (by simp [Value.ownBlock] at hg; omega))
              clear hK K
              try simp only [Act.put, List.setIfInBounds_toArray, List.set_cons_zero, List.set_cons_succ]
              -- EFFECT 46 Op.call { callee := Callee.value (Operand.func 13), args := #[Operand.tmp 122], argTypes := #[22] }
              refine wpMono_one' 46 (by kernel_rfl) rfl (by rfl) (fun K hK => ?_)
              go_simp
              refine (merge_L (some ⟨g122, 0, none⟩) (len + 1) c122 (cs.reverse ++ [C.mk wt wq wv wg wl]) _ (by simp [Hl.out]) (by unfold maxLen; omega) (Reads.of_own ho122)).mono ?_
              rintro e w123 ⟨rfl, hb123⟩
              rw [(show mergeL (cs.reverse ++ [C.mk wt wq wv wg wl]) = C.mk wt wq wv wg wl from HW.out ▸ again cs Hne.out)]
              unfold cval
              dsimp only
              refine hK.out _ _ ?_ ?_
              · exact .of_below hb123
              clear hK K
              try simp only [Act.put, List.setIfInBounds_toArray, List.set_cons_zero, List.set_cons_succ]
              -- 48 Op.binOp BinOp.eql 28 (Operand.tmp 123) (Operand.tmp 124) 28
              refine wpMono_take' 48 (v := ?_) rfl (by kernel_rfl) (by kernel_rfl) (by kernel_rfl) (fun _ _ _ h => h) (by rfl) ?_ ?_
              rotate_left
              · (intro W hSw; try (have hsW := Hst.out.keeps hSw hgne hgob hgwS hgoS; obtain ⟨e0, e1, e2, e3, e4⟩ := Blk.cells5 hsW.want; obtain ⟨j0, j1, j2, j3, j4⟩ := Blk.cells5 hsW.one)
                 go_simp; first | done | rfl)
              try simp only [Act.put, List.setIfInBounds_toArray, List.set_cons_zero, List.set_cons_succ]
              -- 49 Op.pick (Operand.tmp 118) (Operand.tmp 125) (Operand.const (Value.bool false))
              refine wpMono_take' 49 (v := ?_) rfl (by kernel_rfl) (by kernel_rfl) (by kernel_rfl) (fun _ _ _ h => h) (by rfl) ?_ ?_
              rotate_left
              · (intro W hSw; try (have hsW := Hst.out.keeps hSw hgne hgob hgwS hgoS; obtain ⟨e0, e1, e2, e3, e4⟩ := Blk.cells5 hsW.want; obtain ⟨j0, j1, j2, j3, j4⟩ := Blk.cells5 hsW.one)
                 go_simp; first | done | rfl)
              try simp only [Act.put, List.setIfInBounds_toArray, List.set_cons_zero, List.set_cons_succ]
              -- 50 Op.assign (Operand.tmp 126)
              refine wpMono_take' 50 (v := ?_) rfl (by kernel_rfl) (by kernel_rfl) (by kernel_rfl) (fun _ _ _ h => h) (by rfl) ?_ ?_
              rotate_left
              · (intro W hSw; try (have hsW := Hst.out.keeps hSw hgne hgob hgwS hgoS; obtain ⟨e0, e1, e2, e3, e4⟩ := Blk.cells5 hsW.want; obtain ⟨j0, j1, j2, j3, j4⟩ := Blk.cells5 hsW.one)
                 go_simp; first | done | rfl)
              try simp only [Act.put, List.setIfInBounds_toArray, List.set_cons_zero, List.set_cons_succ]
              refine wpMono_done (by kernel_rfl) ?_ _
              have HB9 := Lib.hid (HB.out.trans ((Keeps.grown (X := fun i => w.heap.size ≤ i) hg122 (fun g hg => .inl (by simp [Value.ownBlock] at hg; omega))).below (B := w.heap.size) (fun i hi e => by omega) HB.out.size))
              have HB10 := Lib.hid (HB9.out.trans (hb123.mono HB9.out.size))
              go_wp2
              go_ret
              exact ⟨rfl, HB10.out⟩
            · have d0 : ((c : Int) == 0) = false := by simp [hc0]
              go_wp2_with fail
              refine wp_region_mono (fun i => i = gb ∨ wr.heap.size ≤ i) (by kernel_rfl) ?_
              -- 1 Op.move (Operand.tmp 0)
              refine wpMono_take' 1 (v := ?_) rfl (by kernel_rfl) (by kernel_rfl) (by kernel_rfl) (fun _ _ _ h => h) (by rfl) ?_ ?_
              rotate_left
              · (intro W hSw; try (have hsW := Hst.out.keeps hSw hgne hgob hgwS hgoS; obtain ⟨e0, e1, e2, e3, e4⟩ := Blk.cells5 hsW.want; obtain ⟨j0, j1, j2, j3, j4⟩ := Blk.cells5 hsW.one)
                 go_simp; first | done | rfl)
              try simp only [Act.put, List.setIfInBounds_toArray, List.set_cons_zero, List.set_cons_succ]
              -- 2 Op.move (Operand.tmp 9)
              refine wpMono_take' 2 (v := ?_) rfl (by kernel_rfl) (by kernel_rfl) (by kernel_rfl) (fun _ _ _ h => h) (by rfl) ?_ ?_
              rotate_left
              · (intro W hSw; try (have hsW := Hst.out.keeps hSw hgne hgob hgwS hgoS; obtain ⟨e0, e1, e2, e3, e4⟩ := Blk.cells5 hsW.want; obtain ⟨j0, j1, j2, j3, j4⟩ := Blk.cells5 hsW.one)
                 go_simp; first | done | rfl)
              try simp only [Act.put, List.setIfInBounds_toArray, List.set_cons_zero, List.set_cons_succ]
              -- 3 Op.slice 22 (Operand.tmp 78) (some (Operand.tmp 79)) none none
              refine wpMono_take' 3 (v := ?_) rfl (by kernel_rfl) (by kernel_rfl) (by kernel_rfl) (fun _ _ _ h => h) (by rfl) ?_ ?_
              rotate_left
              · (intro W hSw; try (have hsW := Hst.out.keeps hSw hgne hgob hgwS hgoS; obtain ⟨e0, e1, e2, e3, e4⟩ := Blk.cells5 hsW.want; obtain ⟨j0, j1, j2, j3, j4⟩ := Blk.cells5 hsW.one)
                 go_simp; first | done | rfl)
              try simp only [Act.put, List.setIfInBounds_toArray, List.set_cons_zero, List.set_cons_succ]
              -- 5 Op.move (Operand.tmp 0)
              refine wpMono_take' 5 (v := ?_) rfl (by kernel_rfl) (by kernel_rfl) (by kernel_rfl) (fun _ _ _ h => h) (by rfl) ?_ ?_
              rotate_left
              · (intro W hSw; try (have hsW := Hst.out.keeps hSw hgne hgob hgwS hgoS; obtain ⟨e0, e1, e2, e3, e4⟩ := Blk.cells5 hsW.want; obtain ⟨j0, j1, j2, j3, j4⟩ := Blk.cells5 hsW.one)
                 go_simp; first | done | rfl)
              try simp only [Act.put, List.setIfInBounds_toArray, List.set_cons_zero, List.set_cons_succ]
              -- 6 Op.move (Operand.tmp 9)
              refine wpMono_take' 6 (v := ?_) rfl (by kernel_rfl) (by kernel_rfl) (by kernel_rfl) (fun _ _ _ h => h) (by rfl) ?_ ?_
              rotate_left
              · (intro W hSw; try (have hsW := Hst.out.keeps hSw hgne hgob hgwS hgoS; obtain ⟨e0, e1, e2, e3, e4⟩ := Blk.cells5 hsW.want; obtain ⟨j0, j1, j2, j3, j4⟩ := Blk.cells5 hsW.one)
                 go_simp; first | done | rfl)
              try simp only [Act.put, List.setIfInBounds_toArray, List.set_cons_zero, List.set_cons_succ]
              -- 7 Op.slice 22 (Operand.tmp 82) none (some (Operand.tmp 83)) none
              refine wpMono_take' 7 (v := ?_) rfl (by kernel_rfl) (by kernel_rfl) (by kernel_rfl) (fun _ _ _ h => h) (by rfl) ?_ ?_
              rotate_left
              · (intro W hSw; try (have hsW := Hst.out.keeps hSw hgne hgob hgwS hgoS; obtain ⟨e0, e1, e2, e3, e4⟩ := Blk.cells5 hsW.want; obtain ⟨j0, j1, j2, j3, j4⟩ := Blk.cells5 hsW.one)
                 go_simp; first | done | rfl)
              try simp only [Act.put, List.setIfInBounds_toArray, List.set_cons_zero, List.set_cons_succ]
              -- 10 Op.load 28 (Operand.tmp 7)
              refine wpMono_take' 10 (v := ?_) rfl (by kernel_rfl) (by kernel_rfl) (by kernel_rfl) (fun _ _ _ h => h) (by rfl) ?_ ?_
              rotate_left
              · (intro W hSw; try (have hsW := Hst.out.keeps hSw hgne hgob hgwS hgoS; obtain ⟨e0, e1, e2, e3, e4⟩ := Blk.cells5 hsW.want; obtain ⟨j0, j1, j2, j3, j4⟩ := Blk.cells5 hsW.one)
                 go_simp; first | done | rfl)
              try simp only [Act.put, List.setIfInBounds_toArray, List.set_cons_zero, List.set_cons_succ]
              -- EFFECT 0 Op.buildSlice 22 0 #[]
              refine wpMono_one' 0 (by kernel_rfl) rfl (by rfl) (fun K hK => ?_)
              go_simp
              have hk0 : Keeps (fun i => wr.heap.size ≤ i) wr.drew (wr.alloc (.cells #[] 28)).drew := ⟨rfl, rfl, rfl, by simp, fun i hi _ => Below.heap_alloc wr _ i hi⟩
              have hkn : Keeps (fun i => wr.heap.size ≤ i) _ _ := hk0
              have hstn := Hst.out.keeps (hkn.more fun i _ h => Or.inr h) hgne hgob hgwS hgoS
              have hbn := HB.out.trans (hkn.below (B := w.heap.size) (fun i hi e => by omega) HB.out.size)
              have hon := own_keeps' Hown.out hkn (fun i hi he => by injection hi with hi; simp at hi; omega)
              clear Hst HB Hown
              have Hst := Lib.hid hstn
              have HB := Lib.hid hbn
              have Hown := Lib.hid hon
              clear hstn hbn hon
              have Hrow0 := Lib.hid (show (wr.alloc (.cells #[] 28)).drew.ownsRow wr.heap.size 28 5 (.slice (some ⟨wr.heap.size, 0, none⟩) 0 0) 0 [] from own_keeps' (ownsRow_new0 wr 28 5 #[]) (X := nobody) Keeps.drew (fun _ _ h => h))
              refine hK.out _ _ ?_ ?_
              · exact hkn.more fun i _ h => .inr h
              clear hK K
              try simp only [Act.put, List.setIfInBounds_toArray, List.set_cons_zero, List.set_cons_succ]
              -- EFFECT 4 Op.call { callee := Callee.builtin Builtin.append, args := #[Operand.tmp 77, Operand.tmp 80], argTypes := #[22, 22] }
              refine wpMono_one' 4 (by kernel_rfl) rfl (by rfl) (fun K hK => ?_)
              refine wp_append_any _ (.tmp 77) (.tmp 80) _ (by rfl) wr.heap.size 28 i0 _ 5 48 Try.underlying22 hi hz0 hz1 hz2 rfl (by omega) (.slice (some ⟨wr.heap.size, 0, none⟩) 0 0) 0 [] (by rfl) Hrow0.out _ _ (len - k) _ ((cs.drop k).flatMap C.cells) (by rfl) (Reads.dropAt C.cells C.len (k := k) (Hr.out.below HB.out) hk) (fun u hu => Hone.out u (by rw [← flat_drop C.cells C.len] at hu; exact List.mem_of_mem_drop hu)) (by unfold maxLen; omega) (by omega) (by simp) fun v81 w81 ho81 hg81 hv81 => ?_
              simp only [Nat.zero_add, List.nil_append] at ho81
              have hkn : Keeps (fun i => wr.heap.size ≤ i) _ _ := (.grown hg81 (fun g hg => .inl (own_ge Hrow0.out hg)))
              have hstn := Hst.out.keeps (hkn.more fun i _ h => Or.inr h) hgne hgob hgwS hgoS
              have hbn := HB.out.trans (hkn.below (B := w.heap.size) (fun i hi e => by omega) HB.out.size)
              have hon := own_keeps' Hown.out hkn (fun i hi he => by injection hi with hi; simp at hi; omega)
              clear Hst HB Hown
              have Hst := Lib.hid hstn
              have HB := Lib.hid hbn
              have Hown := Lib.hid hon
              clear hstn hbn hon
              refine hK.out _ _ ?_ ?_
              · exact hkn.more fun i _ h => .inr h
              clear hK K
              try simp only [Act.put, List.setIfInBounds_toArray, List.set_cons_zero, List.set_cons_succ]
              -- EFFECT 8 Op.call { callee := Callee.builtin Builtin.append, args := #[Operand.tmp 81, Operand.tmp 84], argTypes := #[22, 22] }
              refine wpMono_one' 8 (by kernel_rfl) rfl (by rfl) (fun K hK => ?_)
              refine wp_append_any _ (.tmp 81) (.tmp 84) _ (by rfl) wr.heap.size 28 i0 _ 5 48 Try.underlying22 hi hz0 hz1 hz2 rfl (by omega) v81 (len - k) _ (by rfl) ho81 _ _ k _ ((cs.take k).flatMap C.cells) (by rfl) (Reads.takeAt C.cells C.len (k := k) (Hr.out.below HB.out) (by omega) hn0) (fun u hu => Hone.out u (by rw [← flat_take C.cells C.len] at hu; exact List.mem_of_mem_take hu)) (by unfold maxLen; omega) (by omega) Hst.out.size fun v85 w85 ho85 hg85 hv85 => ?_
              rw [← List.flatMap_append, Nat.sub_add_cancel hk1] at ho85
              obtain ⟨g85, c85, rfl, hgg85, _⟩ := ho85.form (by omega)
              have hkn : Keeps (fun i => wr.heap.size ≤ i) _ _ := (.grown hg85 (fun g hg => .inl (own_ge ho81 hg)))
              have hstn := Hst.out.keeps (hkn.more fun i _ h => Or.inr h) hgne hgob hgwS hgoS
              have hbn := HB.out.trans (hkn.below (B := w.heap.size) (fun i hi e => by omega) HB.out.size)
              have hon := own_keeps' Hown.out hkn (fun i hi he => by injection hi with hi; simp at hi; omega)
              clear Hst HB Hown
              have Hst := Lib.hid hstn
              have HB := Lib.hid hbn
              have Hown := Lib.hid hon
              clear hstn hbn hon
              refine hK.out _ _ ?_ ?_
              · exact hkn.more fun i _ h => .inr h
              clear hK K
              try simp only [Act.put, List.setIfInBounds_toArray, List.set_cons_zero, List.set_cons_succ]
              -- EFFECT 9 Op.call { callee := Callee.value (Operand.func 13), args := #[Operand.tmp 85], argTypes := #[22] }
              refine wpMono_one' 9 (by kernel_rfl) rfl (by rfl) (fun K hK => ?_)
              go_simp
              refine (merge_L (some ⟨g85, 0, none⟩) len c85 (cs.drop k ++ cs.take k) _ (by simp [Hl.out]; omega) (by unfold maxLen; omega) (Reads.of_own ho85)).mono ?_
              rintro e w86 ⟨rfl, hb86⟩
              rw [(turned cs Hne.out k).trans HW.out]
              unfold cval
              dsimp only
              have hkn : Keeps (fun i => wr.heap.size ≤ i) _ _ := (.of_below hb86)
              have hstn := Hst.out.keeps (hkn.more fun i _ h => Or.inr h) hgne hgob hgwS hgoS
              have hbn := HB.out.trans (hkn.below (B := w.heap.size) (fun i hi e => by omega) HB.out.size)
              have hon := own_keeps' Hown.out hkn (fun i hi he => by injection hi with hi; simp at hi; omega)
              clear Hst HB Hown
              have Hst := Lib.hid hstn
              have HB := Lib.hid hbn
              have Hown := Lib.hid hon
              clear hstn hbn hon
              refine hK.out _ _ ?_ ?_
              · exact hkn.more fun i _ h => .inr h
              clear hK K
              try simp only [Act.put, List.setIfInBounds_toArray, List.set_cons_zero, List.set_cons_succ]
              -- 11 Op.binOp BinOp.eql 28 (Operand.tmp 86) (Operand.tmp 87) 28
              refine wpMono_take' 11 (v := ?_) rfl (by kernel_rfl) (by kernel_rfl) (by kernel_rfl) (fun _ _ _ h => h) (by rfl) ?_ ?_
              rotate_left
              · (intro W hSw; try (have hsW := Hst.out.keeps hSw hgne hgob hgwS hgoS; obtain ⟨e0, e1, e2, e3, e4⟩ := Blk.cells5 hsW.want; obtain ⟨j0, j1, j2, j3, j4⟩ := Blk.cells5 hsW.one)
                 go_simp; first | done | rfl)
              try simp only [Act.put, List.setIfInBounds_toArray, List.set_cons_zero, List.set_cons_succ]
              -- 12 Op.move (Operand.tmp 88)
              refine wpMono_take' 12 (v := ?_) rfl (by kernel_rfl) (by kernel_rfl) (by kernel_rfl) (fun _ _ _ h => h) (by rfl) ?_ ?_
              rotate_left
              · (intro W hSw; try (have hsW := Hst.out.keeps hSw hgne hgob hgwS hgoS; obtain ⟨e0, e1, e2, e3, e4⟩ := Blk.cells5 hsW.want; obtain ⟨j0, j1, j2, j3, j4⟩ := Blk.cells5 hsW.one)
                 go_simp; first | done | rfl)
              try simp only [Act.put, List.setIfInBounds_toArray, List.set_cons_zero, List.set_cons_succ]
              -- 13 Op.move (Operand.tmp 11)
              refine wpMono_take' 13 (v := ?_) rfl (by kernel_rfl) (by kernel_rfl) (by kernel_rfl) (fun _ _ _ h => h) (by rfl) ?_ ?_
              rotate_left
              · (intro W hSw; try (have hsW := Hst.out.keeps hSw hgne hgob hgwS hgoS; obtain ⟨e0, e1, e2, e3, e4⟩ := Blk.cells5 hsW.want; obtain ⟨j0, j1, j2, j3, j4⟩ := Blk.cells5 hsW.one)
                 go_simp; first | done | rfl)
              try simp only [Act.put, List.setIfInBounds_toArray, List.set_cons_zero, List.set_cons_succ]
              -- 15 Op.load 28 (Operand.tmp 7)
              refine wpMono_take' 15 (v := ?_) rfl (by kernel_rfl) (by kernel_rfl) (by kernel_rfl) (fun _ _ _ h => h) (by rfl) ?_ ?_
              rotate_left
              · (intro W hSw; try (have hsW := Hst.out.keeps hSw hgne hgob hgwS hgoS; obtain ⟨e0, e1, e2, e3, e4⟩ := Blk.cells5 hsW.want; obtain ⟨j0, j1, j2, j3, j4⟩ := Blk.cells5 hsW.one)
                 go_simp; first | done | rfl)
              try simp only [Act.put, List.setIfInBounds_toArray, List.set_cons_zero, List.set_cons_succ]
              -- EFFECT 14 Op.call { callee := Callee.value (Operand.func 13), args := #[Operand.tmp 90], argTypes := #[22] }
              refine wpMono_one' 14 (by kernel_rfl) rfl (by rfl) (fun K hK => ?_)
              go_simp
              refine (merge_L (some ⟨gb, 0, none⟩) len cb cs.reverse _ (by simp [Hl.out]) (by unfold maxLen; omega) (Reads.of_own Hown.out)).mono ?_
              rintro e w91 ⟨rfl, hb91⟩
              rw [(back cs Hne.out).trans HW.out]
              unfold cval
              dsimp only
              have hkn : Keeps (fun i => wr.heap.size ≤ i) _ _ := (.of_below hb91)
              have hstn := Hst.out.keeps (hkn.more fun i _ h => Or.inr h) hgne hgob hgwS hgoS
              have hbn := HB.out.trans (hkn.below (B := w.heap.size) (fun i hi e => by omega) HB.out.size)
              have hon := own_keeps' Hown.out hkn (fun i hi he => by injection hi with hi; simp at hi; omega)
              clear Hst HB Hown
              have Hst := Lib.hid hstn
              have HB := Lib.hid hbn
              have Hown := Lib.hid hon
              clear hstn hbn hon
              refine hK.out _ _ ?_ ?_
              · exact hkn.more fun i _ h => .inr h
              clear hK K
              try simp only [Act.put, List.setIfInBounds_toArray, List.set_cons_zero, List.set_cons_succ]
              -- 16 Op.binOp BinOp.eql 28 (Operand.tmp 91) (Operand.tmp 92) 28
              refine wpMono_take' 16 (v := ?_) rfl (by kernel_rfl) (by kernel_rfl) (by kernel_rfl) (fun _ _ _ h => h) (by rfl) ?_ ?_
              rotate_left
              · (intro W hSw; try (have hsW := Hst.out.keeps hSw hgne hgob hgwS hgoS; obtain ⟨e0, e1, e2, e3, e4⟩ := Blk.cells5 hsW.want; obtain ⟨j0, j1, j2, j3, j4⟩ := Blk.cells5 hsW.one)
                 go_simp; first | done | rfl)
              try simp only [Act.put, List.setIfInBounds_toArray, List.set_cons_zero, List.set_cons_succ]
              -- 17 Op.pick (Operand.tmp 89) (Operand.tmp 93) (Operand.const (Value.bool false))
              refine wpMono_take' 17 (v := ?_) rfl (by kernel_rfl) (by kernel_rfl) (by kernel_rfl) (fun _ _ _ h => h) (by rfl) ?_ ?_
              rotate_left
              · (intro W hSw; try (have hsW := Hst.out.keeps hSw hgne hgob hgwS hgoS; obtain ⟨e0, e1, e2, e3, e4⟩ := Blk.cells5 hsW.want; obtain ⟨j0, j1, j2, j3, j4⟩ := Blk.cells5 hsW.one)
                 go_simp; first | done | rfl)
              try simp only [Act.put, List.setIfInBounds_toArray, List.set_cons_zero, List.set_cons_succ]
              -- 18 Op.move (Operand.tmp 94)
              refine wpMono_take' 18 (v := ?_) rfl (by kernel_rfl) (by kernel_rfl) (by kernel_rfl) (fun _ _ _ h => h) (by rfl) ?_ ?_
              rotate_left
              · (intro W hSw; try (have hsW := Hst.out.keeps hSw hgne hgob hgwS hgoS; obtain ⟨e0, e1, e2, e3, e4⟩ := Blk.cells5 hsW.want; obtain ⟨j0, j1, j2, j3, j4⟩ := Blk.cells5 hsW.one)
                 go_simp; first | done | rfl)
              try simp only [Act.put, List.setIfInBounds_toArray, List.set_cons_zero, List.set_cons_succ]
              -- 19 Op.load 28 (Operand.tmp 13)
              refine wpMono_take' 19 (v := ?_) rfl (by kernel_rfl) (by kernel_rfl) (by kernel_rfl) (fun _ _ _ h => h) (by rfl) ?_ ?_
              rotate_left
              · (intro W hSw; try (have hsW := Hst.out.keeps hSw hgne hgob hgwS hgoS; obtain ⟨e0, e1, e2, e3, e4⟩ := Blk.cells5 hsW.want; obtain ⟨j0, j1, j2, j3, j4⟩ := Blk.cells5 hsW.one)
                 go_simp; first | done | rfl)
              try simp only [Act.put, List.setIfInBounds_toArray, List.set_cons_zero, List.set_cons_succ]
              -- 20 Op.load 28 (Operand.tmp 7)
              refine wpMono_take' 20 (v := ?_) rfl (by kernel_rfl) (by kernel_rfl) (by kernel_rfl) (fun _ _ _ h => h) (by rfl) ?_ ?_
              rotate_left
              · (intro W hSw; try (have hsW := Hst.out.keeps hSw hgne hgob hgwS hgoS; obtain ⟨e0, e1, e2, e3, e4⟩ := Blk.cells5 hsW.want; obtain ⟨j0, j1, j2, j3, j4⟩ := Blk.cells5 hsW.one)
                 go_simp; first | done | rfl)
              try simp only [Act.put, List.setIfInBounds_toArray, List.set_cons_zero, List.set_cons_succ]
              -- 21 Op.binOp BinOp.eql 28 (Operand.tmp 96) (Operand.tmp 97) 28
              refine wpMono_take' 21 (v := ?_) rfl (by kernel_rfl) (by kernel_rfl) (by kernel_rfl) (fun _ _ _ h => h) (by rfl) ?_ ?_
              rotate_left
              · (intro W hSw; try (have hsW := Hst.out.keeps hSw hgne hgob hgwS hgoS; obtain ⟨e0, e1, e2, e3, e4⟩ := Blk.cells5 hsW.want; obtain ⟨j0, j1, j2, j3, j4⟩ := Blk.cells5 hsW.one)
                 go_simp; first | done | rfl)
              try simp only [Act.put, List.setIfInBounds_toArray, List.set_cons_zero, List.set_cons_succ]
              -- 22 Op.pick (Operand.tmp 95) (Operand.tmp 98) (Operand.const (Value.bool false))
              refine wpMono_take' 22 (v := ?_) rfl (by kernel_rfl) (by kernel_rfl) (by kernel_rfl) (fun _ _ _ h => h) (by rfl) ?_ ?_
              rotate_left
              · (intro W hSw; try (have hsW := Hst.out.keeps hSw hgne hgob hgwS hgoS; obtain ⟨e0, e1, e2, e3, e4⟩ := Blk.cells5 hsW.want; obtain ⟨j0, j1, j2, j3, j4⟩ := Blk.cells5 hsW.one)
                 go_simp; first | done | rfl)
              try simp only [Act.put, List.setIfInBounds_toArray, List.set_cons_zero, List.set_cons_succ]
              -- 23 Op.move (Operand.tmp 99)
              refine wpMono_take' 23 (v := ?_) rfl (by kernel_rfl) (by kernel_rfl) (by kernel_rfl) (fun _ _ _ h => h) (by rfl) ?_ ?_
              rotate_left
              · (intro W hSw; try (have hsW := Hst.out.keeps hSw hgne hgob hgwS hgoS; obtain ⟨e0, e1, e2, e3, e4⟩ := Blk.cells5 hsW.want; obtain ⟨j0, j1, j2, j3, j4⟩ := Blk.cells5 hsW.one)
                 go_simp; first | done | rfl)
              try simp only [Act.put, List.setIfInBounds_toArray, List.set_cons_zero, List.set_cons_succ]
              -- 24 Op.move (Operand.tmp 10)
              refine wpMono_take' 24 (v := ?_) rfl (by kernel_rfl) (by kernel_rfl) (by kernel_rfl) (fun _ _ _ h => h) (by rfl) ?_ ?_
              rotate_left
              · (intro W hSw; try (have hsW := Hst.out.keeps hSw hgne hgob hgwS hgoS; obtain ⟨e0, e1, e2, e3, e4⟩ := Blk.cells5 hsW.want; obtain ⟨j0, j1, j2, j3, j4⟩ := Blk.cells5 hsW.one)
                 go_simp; first | done | rfl)
              try simp only [Act.put, List.setIfInBounds_toArray, List.set_cons_zero, List.set_cons_succ]
              -- 25 Op.binOp BinOp.eql 3 (Operand.tmp 101) (Operand.const (Value.int IntKind.i64 0)) 3
              refine wpMono_take' 25 (v := ?_) rfl (by kernel_rfl) (by kernel_rfl) (by kernel_rfl) (fun _ _ _ h => h) (by rfl) ?_ ?_
              rotate_left
              · (intro W hSw; try (have hsW := Hst.out.keeps hSw hgne hgob hgwS hgoS; obtain ⟨e0, e1, e2, e3, e4⟩ := Blk.cells5 hsW.want; obtain ⟨j0, j1, j2, j3, j4⟩ := Blk.cells5 hsW.one)
                 go_simp; first | done | rfl)
              try simp only [Act.put, List.setIfInBounds_toArray, List.set_cons_zero, List.set_cons_succ]
              -- 26 Op.move (Operand.tmp 102)
              refine wpMono_take' 26 (v := ?_) rfl (by kernel_rfl) (by kernel_rfl) (by kernel_rfl) (fun _ _ _ h => h) (by rfl) ?_ ?_
              rotate_left
              · (intro W hSw; try (have hsW := Hst.out.keeps hSw hgne hgob hgwS hgoS; obtain ⟨e0, e1, e2, e3, e4⟩ := Blk.cells5 hsW.want; obtain ⟨j0, j1, j2, j3, j4⟩ := Blk.cells5 hsW.one)
                 go_simp; first | done | rfl)
              try simp only [Act.put, List.setIfInBounds_toArray, List.set_cons_zero, List.set_cons_succ]
              -- 27 Op.move (Operand.tmp 0)
              refine wpMono_take' 27 (v := ?_) rfl (by kernel_rfl) (by kernel_rfl) (by kernel_rfl) (fun _ _ _ h => h) (by rfl) ?_ ?_
              rotate_left
              · (intro W hSw; try (have hsW := Hst.out.keeps hSw hgne hgob hgwS hgoS; obtain ⟨e0, e1, e2, e3, e4⟩ := Blk.cells5 hsW.want; obtain ⟨j0, j1, j2, j3, j4⟩ := Blk.cells5 hsW.one)
                 go_simp; first | done | rfl)
              try simp only [Act.put, List.setIfInBounds_toArray, List.set_cons_zero, List.set_cons_succ]
              -- 28 Op.move (Operand.tmp 10)
              refine wpMono_take' 28 (v := ?_) rfl (by kernel_rfl) (by kernel_rfl) (by kernel_rfl) (fun _ _ _ h => h) (by rfl) ?_ ?_
              rotate_left
              · (intro W hSw; try (have hsW := Hst.out.keeps hSw hgne hgob hgwS hgoS; obtain ⟨e0, e1, e2, e3, e4⟩ := Blk.cells5 hsW.want; obtain ⟨j0, j1, j2, j3, j4⟩ := Blk.cells5 hsW.one)
                 go_simp; first | done | rfl)
              try simp only [Act.put, List.setIfInBounds_toArray, List.set_cons_zero, List.set_cons_succ]
              -- 29 Op.slice 22 (Operand.tmp 104) none (some (Operand.tmp 105)) none
              refine wpMono_take' 29 (v := ?_) rfl (by kernel_rfl) (by kernel_rfl) (by kernel_rfl) (fun _ _ _ h => h) (by rfl) ?_ ?_
              rotate_left
              · (intro W hSw; try (have hsW := Hst.out.keeps hSw hgne hgob hgwS hgoS; obtain ⟨e0, e1, e2, e3, e4⟩ := Blk.cells5 hsW.want; obtain ⟨j0, j1, j2, j3, j4⟩ := Blk.cells5 hsW.one)
                 go_simp; first | done | rfl)
              try simp only [Act.put, List.setIfInBounds_toArray, List.set_cons_zero, List.set_cons_succ]
              -- 31 Op.move (Operand.tmp 0)
              refine wpMono_take' 31 (v := ?_) rfl (by kernel_rfl) (by kernel_rfl) (by kernel_rfl) (fun _ _ _ h => h) (by rfl) ?_ ?_
              rotate_left
              · (intro W hSw; try (have hsW := Hst.out.keeps hSw hgne hgob hgwS hgoS; obtain ⟨e0, e1, e2, e3, e4⟩ := Blk.cells5 hsW.want; obtain ⟨j0, j1, j2, j3, j4⟩ := Blk.cells5 hsW.one)
                 go_simp; first | done | rfl)
              try simp only [Act.put, List.setIfInBounds_toArray, List.set_cons_zero, List.set_cons_succ]
              -- 32 Op.move (Operand.tmp 10)
              refine wpMono_take' 32 (v := ?_) rfl (by kernel_rfl) (by kernel_rfl) (by kernel_rfl) (fun _ _ _ h => h) (by rfl) ?_ ?_
              rotate_left
              · (intro W hSw; try (have hsW := Hst.out.keeps hSw hgne hgob hgwS hgoS; obtain ⟨e0, e1, e2, e3, e4⟩ := Blk.cells5 hsW.want; obtain ⟨j0, j1, j2, j3, j4⟩ := Blk.cells5 hsW.one)
                 go_simp; first | done | rfl)
              try simp only [Act.put, List.setIfInBounds_toArray, List.set_cons_zero, List.set_cons_succ]
              -- 33 Op.slice 22 (Operand.tmp 108) (some (Operand.tmp 109)) none none
              refine wpMono_take' 33 (v := ?_) rfl (by kernel_rfl) (by kernel_rfl) (by kernel_rfl) (fun _ _ _ h => h) (by rfl) ?_ ?_
              rotate_left
              · (intro W hSw; try (have hsW := Hst.out.keeps hSw hgne hgob hgwS hgoS; obtain ⟨e0, e1, e2, e3, e4⟩ := Blk.cells5 hsW.want; obtain ⟨j0, j1, j2, j3, j4⟩ := Blk.cells5 hsW.one)
                 go_simp; first | done | rfl)
              try simp only [Act.put, List.setIfInBounds_toArray, List.set_cons_zero, List.set_cons_succ]
              -- 37 Op.load 28 (Operand.tmp 7)
              refine wpMono_take' 37 (v := ?_) rfl (by kernel_rfl) (by kernel_rfl) (by kernel_rfl) (fun _ _ _ h => h) (by rfl) ?_ ?_
              rotate_left
              · (intro W hSw; try (have hsW := Hst.out.keeps hSw hgne hgob hgwS hgoS; obtain ⟨e0, e1, e2, e3, e4⟩ := Blk.cells5 hsW.want; obtain ⟨j0, j1, j2, j3, j4⟩ := Blk.cells5 hsW.one)
                 go_simp; first | done | rfl)
              try simp only [Act.put, List.setIfInBounds_toArray, List.set_cons_zero, List.set_cons_succ]
              -- EFFECT 30 Op.call { callee := Callee.value (Operand.func 13), args := #[Operand.tmp 106], argTypes := #[22] }
              refine wpMono_one' 30 (by kernel_rfl) rfl (by rfl) (fun K hK => ?_)
              go_simp
              refine (merge_L (some ⟨b, off, none⟩) c cap (cs.take c) _ (by simp [Hl.out]; omega) (by unfold maxLen; omega) (Reads.takeAt C.cells C.len (k := c) ((Hr.out.below HB.out).more HB.out.size) (by omega) hn0)).mono ?_
              rintro e w107 ⟨rfl, hb107⟩
              rw [HM1.out]
              unfold cval
              dsimp only
              have hkn : Keeps (fun i => wr.heap.size ≤ i) _ _ := (.of_below hb107)
              have hstn := Hst.out.keeps (hkn.more fun i _ h => Or.inr h) hgne hgob hgwS hgoS
              have hbn := HB.out.trans (hkn.below (B := w.heap.size) (fun i hi e => by omega) HB.out.size)
              have hon := own_keeps' Hown.out hkn (fun i hi he => by injection hi with hi; simp at hi; omega)
              clear Hst HB Hown
              have Hst := Lib.hid hstn
              have HB := Lib.hid hbn
              have Hown := Lib.hid hon
              clear hstn hbn hon
              refine hK.out _ _ ?_ ?_
              · exact hkn.more fun i _ h => .inr h
              clear hK K
              try simp only [Act.put, List.setIfInBounds_toArray, List.set_cons_zero, List.set_cons_succ]
              -- EFFECT 34 Op.call { callee := Callee.value (Operand.func 13), args := #[Operand.tmp 110], argTypes := #[22] }
              refine wpMono_one' 34 (by kernel_rfl) rfl (by rfl) (fun K hK => ?_)
              go_simp
              refine (merge_L (some ⟨b, off + c * 5, none⟩) (len - c) (cap - c) (cs.drop c) _ (by simp [Hl.out]) (by unfold maxLen; omega) (Reads.dropAt C.cells C.len (k := c) ((Hr.out.below HB.out).more HB.out.size) hc)).mono ?_
              rintro e w111 ⟨rfl, hb111⟩
              rw [HM2.out]
              unfold cval
              dsimp only
              have hkn : Keeps (fun i => wr.heap.size ≤ i) _ _ := (.of_below hb111)
              have hstn := Hst.out.keeps (hkn.more fun i _ h => Or.inr h) hgne hgob hgwS hgoS
              have hbn := HB.out.trans (hkn.below (B := w.heap.size) (fun i hi e => by omega) HB.out.size)
              have hon := own_keeps' Hown.out hkn (fun i hi he => by injection hi with hi; simp at hi; omega)
              clear Hst HB Hown
              have Hst := Lib.hid hstn
              have HB := Lib.hid hbn
              have Hown := Lib.hid hon
              clear hstn hbn hon
              refine hK.out _ _ ?_ ?_
              · exact hkn.more fun i _ h => .inr h
              clear hK K
              try simp only [Act.put, List.setIfInBounds_toArray, List.set_cons_zero, List.set_cons_succ]
              -- EFFECT 35 Op.buildSlice 22 2 #[(0, Operand.tmp 107), (1, Operand.tmp 111)]
              refine wpMono_one' 35 (by kernel_rfl) rfl (by rfl) (fun K hK => ?_)
              go_simp
              have hkn : Keeps (fun i => wr.heap.size ≤ i) _ _ := (Keeps.alloc (w:=w111) (.cells #[.int .i64 m1, .int .i64 m2, .string m3, .bool m4, .int .i64 m5, .int .i64 n1, .int .i64 n2, .string n3, .bool n4, .int .i64 n5] 28))
              have hstn := Hst.out.keeps (hkn.more fun i _ h => Or.inr h) hgne hgob hgwS hgoS
              have hbn := HB.out.trans (hkn.below (B := w.heap.size) (fun i hi e => by omega) HB.out.size)
              have hon := own_keeps' Hown.out hkn (fun i hi he => by injection hi with hi; simp at hi; omega)
              clear Hst HB Hown
              have Hst := Lib.hid hstn
              have HB := Lib.hid hbn
              have Hown := Lib.hid hon
              clear hstn hbn hon
              refine hK.out _ _ ?_ ?_
              · exact hkn.more fun i _ h => .inr h
              clear hK K
              try simp only [Act.put, List.setIfInBounds_toArray, List.set_cons_zero, List.set_cons_succ]
              -- EFFECT 36 Op.call { callee := Callee.value (Operand.func 13), args := #[Operand.tmp 112], argTypes := #[22] }
              refine wpMono_one' 36 (by kernel_rfl) rfl (by rfl) (fun K hK => ?_)
              go_simp
              refine (merge_L (some ⟨w111.heap.size, 0, none⟩) 2 2 [⟨m1, m2, m3, m4, m5⟩, ⟨n1, n2, n3, n4, n5⟩] _ rfl (by decide) (by exact Reads.newAt _ _ _ _ rfl rfl)).mono ?_
              rintro e w113 ⟨rfl, hb113⟩
              have hcut : mergeL [C.mk m1 m2 m3 m4 m5, C.mk n1 n2 n3 n4 n5] = C.mk wt wq wv wg wl := by
                rw [← HW.out, ← HM1.out, ← HM2.out]
                exact cut cs c (by omega) (by rw [Hl.out]; exact hc)
              rw [hcut]
              unfold cval
              dsimp only
              have hkn : Keeps (fun i => wr.heap.size ≤ i) _ _ := (.of_below hb113)
              have hstn := Hst.out.keeps (hkn.more fun i _ h => Or.inr h) hgne hgob hgwS hgoS
              have hbn := HB.out.trans (hkn.below (B := w.heap.size) (fun i hi e => by omega) HB.out.size)
              have hon := own_keeps' Hown.out hkn (fun i hi he => by injection hi with hi; simp at hi; omega)
              clear Hst HB Hown
              have Hst := Lib.hid hstn
              have HB := Lib.hid hbn
              have Hown := Lib.hid hon
              clear hstn hbn hon
              refine hK.out _ _ ?_ ?_
              · exact hkn.more fun i _ h => .inr h
              clear hK K
              try simp only [Act.put, List.setIfInBounds_toArray, List.set_cons_zero, List.set_cons_succ]
              -- 38 Op.binOp BinOp.eql 28 (Operand.tmp 113) (Operand.tmp 114) 28
              refine wpMono_take' 38 (v := ?_) rfl (by kernel_rfl) (by kernel_rfl) (by kernel_rfl) (fun _ _ _ h => h) (by rfl) ?_ ?_
              rotate_left
              · (intro W hSw; try (have hsW := Hst.out.keeps hSw hgne hgob hgwS hgoS; obtain ⟨e0, e1, e2, e3, e4⟩ := Blk.cells5 hsW.want; obtain ⟨j0, j1, j2, j3, j4⟩ := Blk.cells5 hsW.one)
                 go_simp; first | done | rfl)
              try simp only [Act.put, List.setIfInBounds_toArray, List.set_cons_zero, List.set_cons_succ]
              -- 39 Op.pick (Operand.tmp 103) (Operand.const (Value.bool true)) (Operand.tmp 115)
              refine wpMono_take' 39 (v := ?_) rfl (by kernel_rfl) (by kernel_rfl) (by kernel_rfl) (fun _ _ _ h => h) (by rfl) ?_ ?_
              rotate_left
              · (intro W hSw; try (have hsW := Hst.out.keeps hSw hgne hgob hgwS hgoS; obtain ⟨e0, e1, e2, e3, e4⟩ := Blk.cells5 hsW.want; obtain ⟨j0, j1, j2, j3, j4⟩ := Blk.cells5 hsW.one)
                 go_simp; first | done | rfl)
              try simp only [Act.put, List.setIfInBounds_toArray, List.set_cons_zero, List.set_cons_succ]
              -- 40 Op.pick (Operand.tmp 100) (Operand.tmp 116) (Operand.const (Value.bool false))
              refine wpMono_take' 40 (v := ?_) rfl (by kernel_rfl) (by kernel_rfl) (by kernel_rfl) (fun _ _ _ h => h) (by rfl) ?_ ?_
              rotate_left
              · (intro W hSw; try (have hsW := Hst.out.keeps hSw hgne hgob hgwS hgoS; obtain ⟨e0, e1, e2, e3, e4⟩ := Blk.cells5 hsW.want; obtain ⟨j0, j1, j2, j3, j4⟩ := Blk.cells5 hsW.one)
                 go_simp; first | done | rfl)
              try simp only [Act.put, List.setIfInBounds_toArray, List.set_cons_zero, List.set_cons_succ]
              -- 41 Op.move (Operand.tmp 117)
              refine wpMono_take' 41 (v := ?_) rfl (by kernel_rfl) (by kernel_rfl) (by kernel_rfl) (fun _ _ _ h => h) (by rfl) ?_ ?_
              rotate_left
              · (intro W hSw; try (have hsW := Hst.out.keeps hSw hgne hgob hgwS hgoS; obtain ⟨e0, e1, e2, e3, e4⟩ := Blk.cells5 hsW.want; obtain ⟨j0, j1, j2, j3, j4⟩ := Blk.cells5 hsW.one)
                 go_simp; first | done | rfl)
              try simp only [Act.put, List.setIfInBounds_toArray, List.set_cons_zero, List.set_cons_succ]
              -- 42 Op.move (Operand.tmp 11)
              refine wpMono_take' 42 (v := ?_) rfl (by kernel_rfl) (by kernel_rfl) (by kernel_rfl) (fun _ _ _ h => h) (by rfl) ?_ ?_
              rotate_left
              · (intro W hSw; try (have hsW := Hst.out.keeps hSw hgne hgob hgwS hgoS; obtain ⟨e0, e1, e2, e3, e4⟩ := Blk.cells5 hsW.want; obtain ⟨j0, j1, j2, j3, j4⟩ := Blk.cells5 hsW.one)
                 go_simp; first | done | rfl)
              try simp only [Act.put, List.setIfInBounds_toArray, List.set_cons_zero, List.set_cons_succ]
              -- 43 Op.load 28 (Operand.tmp 7)
              refine wpMono_take' 43 (v := ?_) rfl (by kernel_rfl) (by kernel_rfl) (by kernel_rfl) (fun _ _ _ h => h) (by rfl) ?_ ?_
              rotate_left
              · (intro W hSw; try (have hsW := Hst.out.keeps hSw hgne hgob hgwS hgoS; obtain ⟨e0, e1, e2, e3, e4⟩ := Blk.cells5 hsW.want; obtain ⟨j0, j1, j2, j3, j4⟩ := Blk.cells5 hsW.one)
                 go_simp; first | done | rfl)
              try simp only [Act.put, List.setIfInBounds_toArray, List.set_cons_zero, List.set_cons_succ]
              -- 47 Op.load 28 (Operand.tmp 7)
              refine wpMono_take' 47 (v := ?_) rfl (by kernel_rfl) (by kernel_rfl) (by kernel_rfl) (fun _ _ _ h => h) (by rfl) ?_ ?_
              rotate_left
              · (intro W hSw; try (have hsW := Hst.out.keeps hSw hgne hgob hgwS hgoS; obtain ⟨e0, e1, e2, e3, e4⟩ := Blk.cells5 hsW.want; obtain ⟨j0, j1, j2, j3, j4⟩ := Blk.cells5 hsW.one)
                 go_simp; first | done | rfl)
              try simp only [Act.put, List.setIfInBounds_toArray, List.set_cons_zero, List.set_cons_succ]
              -- EFFECT 44 Op.buildSlice 22 1 #[(0, Operand.tmp 120)]
              refine wpMono_one' 44 (by kernel_rfl) rfl (by rfl) (fun K hK => ?_)
              go_simp
              have hkn : Keeps (fun i => wr.heap.size ≤ i) _ _ := (Keeps.alloc (w:=w113) (.cells #[.int .i64 wt, .int .i64 wq, .string wv, .bool wg, .int .i64 wl] 28))
              have hstn := Hst.out.keeps (hkn.more fun i _ h => Or.inr h) hgne hgob hgwS hgoS
              have hbn := HB.out.trans (hkn.below (B := w.heap.size) (fun i hi e => by omega) HB.out.size)
              have hon := own_keeps' Hown.out hkn (fun i hi he => by injection hi with hi; simp at hi; omega)
              clear Hst HB Hown
              have Hst := Lib.hid hstn
              have HB := Lib.hid hbn
              have Hown := Lib.hid hon
              clear hstn hbn hon
              refine hK.out _ _ ?_ ?_
              · exact hkn.more fun i _ h => .inr h
              clear hK K
              try simp only [Act.put, List.setIfInBounds_toArray, List.set_cons_zero, List.set_cons_succ]
              -- EFFECT 45 Op.call { callee := Callee.builtin Builtin.append, args := #[Operand.tmp 119, Operand.tmp 121], argTypes := #[22, 22] }
              refine wpMono_one' 45 (by kernel_rfl) rfl (by rfl) (fun K hK => ?_)
              refine wp_append_any _ (.tmp 119) (.tmp 121) _ (by rfl) w4.heap.size 28 i0 _ 5 48 Try.underlying22 hi hz0 hz1 hz2 rfl (by omega) (.slice (some ⟨gb, 0, none⟩) len cb) len _ (by rfl) Hown.out _ _ 1 1 [.int .i64 wt, .int .i64 wq, .string wv, .bool wg, .int .i64 wl] (by rfl) (by exact Reads.newAt _ _ _ _ rfl rfl) (by simp [Value.oneCell']) (by unfold maxLen; omega) (by omega) (by have := Hst.out.size; omega) fun v122 w122 ho122 hg122 hv122 => ?_
              have ho122 : w122.ownsRow w4.heap.size 28 5 v122 (len + 1) ((cs.reverse ++ [C.mk wt wq wv wg wl]).flatMap C.cells) := by rw [List.flatMap_append]; exact ho122
              obtain ⟨g122, c122, rfl, hgg122, _⟩ := ho122.form (by omega)
              refine hK.out _ _ ?_ ?_
              · exact .grown hg122 fun g hg => .inl (.inl (by simp [Value.ownBlock] at hg; omega))
              clear hK K
              try simp only [Act.put, List.setIfInBounds_toArray, List.set_cons_zero, List.set_cons_succ]
              -- EFFECT 46 Op.call { callee := Callee.value (Operand.func 13), args := #[Operand.tmp 122], argTypes := #[22] }
              refine wpMono_one' 46 (by kernel_rfl) rfl (by rfl) (fun K hK => ?_)
              go_simp
              refine (merge_L (some ⟨g122, 0, none⟩) (len + 1) c122 (cs.reverse ++ [C.mk wt wq wv wg wl]) _ (by simp [Hl.out]) (by unfold maxLen; omega) (Reads.of_own ho122)).mono ?_
              rintro e w123 ⟨rfl, hb123⟩
              rw [(show mergeL (cs.reverse ++ [C.mk wt wq wv wg wl]) = C.mk wt wq wv wg wl from HW.out ▸ again cs Hne.out)]
              unfold cval
              dsimp only
              refine hK.out _ _ ?_ ?_
              · exact .of_below hb123
              clear hK K
              try simp only [Act.put, List.setIfInBounds_toArray, List.set_cons_zero, List.set_cons_succ]
              -- 48 Op.binOp BinOp.eql 28 (Operand.tmp 123) (Operand.tmp 124) 28
              refine wpMono_take' 48 (v := ?_) rfl (by kernel_rfl) (by kernel_rfl) (by kernel_rfl) (fun _ _ _ h => h) (by rfl) ?_ ?_
              rotate_left
              · (intro W hSw; try (have hsW := Hst.out.keeps hSw hgne hgob hgwS hgoS; obtain ⟨e0, e1, e2, e3, e4⟩ := Blk.cells5 hsW.want; obtain ⟨j0, j1, j2, j3, j4⟩ := Blk.cells5 hsW.one)
                 go_simp; first | done | rfl)
              try simp only [Act.put, List.setIfInBounds_toArray, List.set_cons_zero, List.set_cons_succ]
              -- 49 Op.pick (Operand.tmp 118) (Operand.tmp 125) (Operand.const (Value.bool false))
              refine wpMono_take' 49 (v := ?_) rfl (by kernel_rfl) (by kernel_rfl) (by kernel_rfl) (fun _ _ _ h => h) (by rfl) ?_ ?_
              rotate_left
              · (intro W hSw; try (have hsW := Hst.out.keeps hSw hgne hgob hgwS hgoS; obtain ⟨e0, e1, e2, e3, e4⟩ := Blk.cells5 hsW.want; obtain ⟨j0, j1, j2, j3, j4⟩ := Blk.cells5 hsW.one)
                 go_simp; first | done | rfl)
              try simp only [Act.put, List.setIfInBounds_toArray, List.set_cons_zero, List.set_cons_succ]
              -- 50 Op.assign (Operand.tmp 126)
              refine wpMono_take' 50 (v := ?_) rfl (by kernel_rfl) (by kernel_rfl) (by kernel_rfl) (fun _ _ _ h => h) (by rfl) ?_ ?_
              rotate_left
              · (intro W hSw; try (have hsW := Hst.out.keeps hSw hgne hgob hgwS hgoS; obtain ⟨e0, e1, e2, e3, e4⟩ := Blk.cells5 hsW.want; obtain ⟨j0, j1, j2, j3, j4⟩ := Blk.cells5 hsW.one)
                 go_simp; first | done | rfl)
              try simp only [Act.put, List.setIfInBounds_toArray, List.set_cons_zero, List.set_cons_succ]
              refine wpMono_done (by kernel_rfl) ?_ _
              have HB9 := Lib.hid (HB.out.trans ((Keeps.grown (X := fun i => w.heap.size ≤ i) hg122 (fun g hg => .inl (by simp [Value.ownBlock] at hg; omega))).below (B := w.heap.size) (fun i hi e => by omega) HB.out.size))
              have HB10 := Lib.hid (HB9.out.trans (hb123.mono HB9.out.size))
              go_wp2
              go_ret
              exact ⟨rfl, HB10.out⟩
end Go.Proofs.Ytbknkajlajbifaa.wRegSame
