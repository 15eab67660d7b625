/- slices.BinarySearchFunc over writes, by dep's compare. -/
import Derived.Test.YtedkcpncomgboaaCmpW
namespace Go.Proofs.Ytedkcpncomgboaa.cmp
open Go Go.RowKit Go.Proofs.Ytedkcpncomgboaa.base Go.Proofs.Ytedkcpncomgboaa.rowe Go.Proofs.Ytedkcpncomgboaa.wire

theorem exec_load_w {o : Oper} {ev : Operand → Value} {w : World} (x : Operand) (ho : o.op = .load 35 x) (b off : Nat) (cs : List Value)
    (hx : ev x = .pointer (some ⟨b, off, none⟩)) (hl : cs.length = 10) (hc : ∀ j v, cs[j]? = some v → w.cell? ⟨b, off + j, none⟩ = some v) : (execOp ev o).run Try.prog w = .ok (.value (.agg ⟨cs⟩)) w := by
  have h := run_loadVar_at (P := Try.prog) (w := w) (b := b) (o := off) (cs := cs) Try.underlying35 rfl (by rw [hl]; kernel_rfl) hc
  unfold execOp
  simp only [ho, hx, Instr.loadAt, Instr.sureAddr, Sem.run_bind, Sem.run_pure, Result.andThen_ok, h]
def wrZ : Wr := ⟨0, 0, 0, 0, .slice none 0 0, [], ⟨#[]⟩, ⟨#[]⟩, ⟨#[]⟩, false, 0⟩
/-- the elements below x stand ahead of the others -/
def Part (L : List Wr) (x : Wr) : Prop := ∀ j k, j ≤ k → k < L.length → cmpW (L.getD k (wrZ)) x < 0 → cmpW (L.getD j wrZ) x < 0
def SearchR (L : List Wr) (x : Wr) (w : World) (e : Ending) (w' : World) : Prop :=
  ∃ at_ : Nat, at_ ≤ L.length ∧ (∀ k, k < at_ → cmpW (L.getD k wrZ) x < 0) ∧ (∀ k, at_ ≤ k → k < L.length → ¬ cmpW (L.getD k wrZ) x < 0) ∧
    e = .returned (.tuple #[.int .i64 at_, .bool (decide (at_ < L.length) && (cmpW (L.getD at_ wrZ) x == 0))]) ∧ Below w.heap.size w w'
set_option maxRecDepth 100000 in
set_option maxHeartbeats 1600000 in
theorem search_w (A : Option Addr) (n c : Nat) (L : List Wr) (x : Wr) (w : World) (hl : L.length = n) (hn : n ≤ 1000000) (hr : Reads w w.heap.size 10 A n (L.flatMap Wr.cells)) (hp : Part L x) :
    Calls Try.prog 34 #[.slice A n c, .agg ⟨x.cells⟩, .func (.func 35) #[] #[]] w (SearchR L x w) := by
  have hb0 := below_new w (.cells x.cells.toArray 35)
  have hx0 := Blk.new w 35 x.cells.toArray
  have HR := Lib.hid hr
  have HP := Lib.hid hp
  have HX := Lib.hid hx0
  have HB := Lib.hid hb0
  clear hr hp hx0 hb0
  go_enter Try.func34, Try.ntmps34
  go_wp2_with fail
  generalize w.alloc (.cells x.cells.toArray 35) = V at *
  go_loopw [9, 10, 11] (fun a b _ wr => ∃ i j : Nat, i ≤ j ∧ j ≤ n ∧ a = .int .i64 i ∧ b = .int .i64 j ∧ (∀ k, k < i → cmpW (L.getD k wrZ) x < 0) ∧ (∀ k, j ≤ k → k < n → ¬ cmpW (L.getD k wrZ) x < 0) ∧ Blk wr w.heap.size 35 x.cells.toArray ∧ Below w.heap.size w wr) (fun a b _ _ => ((intOf b) - (intOf a)).toNat)
  case atStart => exact ⟨0, n, by omega, by omega, rfl, rfl, fun k h => by omega, fun k h1 h2 => by omega, HX.out, HB.out⟩
  case round =>
    obtain ⟨i, j, hij, hjn, rfl, rfl, h1, h2, hx, hb⟩ := hrel
    have H1 := Lib.hid h1
    have H2 := Lib.hid h2
    have HXr := Lib.hid hx
    have HBr := Lib.hid hb
    clear h1 h2 hx hb
    by_cases hlt : i < j
    · obtain ⟨b, off, rfl, hbl⟩ := HR.out.at_some (by omega)
      go_wp2_with fail
      obtain ⟨m, hm⟩ : ∃ m, m = (i + j) / 2 := ⟨_, rfl⟩
      have hmi : ((i : Int) + (j : Int)) / 2 = (m : Int) := by omega
      have hmn : m < L.length := by omega
      have hm1 : i ≤ m := by omega
      have hm2 : m < j := by omega
      have HE := Lib.hid (show ∀ q v, (L.getD m wrZ).cells[q]? = some v → wr.drew.cell? ⟨b, off + m * 10 + q, none⟩ = some v from fun q v hq => by
        have hq2 : q < 10 := by
          have := (List.getElem?_eq_some_iff.1 hq).1
          rwa [Wr.len] at this
        have h5 := Reads.thing Wr.cells Wr.len HR.out (k := m) (x := L.getD m wrZ) (by omega) (by rw [List.getD_eq_getElem?_getD, List.getElem?_eq_getElem hmn]; rfl) q hq2
        rw [World.cell?_drew, HBr.out.cell (p := ⟨b, off + m * 10 + q, none⟩) hbl, h5, hq])
      have hbw : b < wr.drew.heap.size := by have := HBr.out.size; simp; omega
      obtain ⟨y, hy⟩ : ∃ y, L.getD m wrZ = y := ⟨_, rfl⟩
      rw [hy] at HE
      have HY := Lib.hid hy
      have hmn' : m < n := by omega
      rw [hmi]
      clear hm hmi hy
      refine wp_region_mono nobody (by kernel_rfl) ?_
      -- 0 Op.move (Operand.tmp 2)
      refine wpMono_take' 0 (v := ?_) rfl (by kernel_rfl) (by kernel_rfl) (by kernel_rfl) (fun _ _ _ h => h) (by rfl) ?_ ?_
      rotate_left
      · (intro W hSw; skip
         go_simp; first | done | rfl | (rw [if_pos hmn']; rfl))
      try simp only [Act.put, List.setIfInBounds_toArray, List.set_cons_zero, List.set_cons_succ]
      -- 1 Op.move (Operand.tmp 0)
      refine wpMono_take' 1 (v := ?_) rfl (by kernel_rfl) (by kernel_rfl) (by kernel_rfl) (fun _ _ _ h => h) (by rfl) ?_ ?_
      rotate_left
      · (intro W hSw; skip
         go_simp; first | done | rfl | (rw [if_pos hmn']; rfl))
      try simp only [Act.put, List.setIfInBounds_toArray, List.set_cons_zero, List.set_cons_succ]
      -- 2 Op.move (Operand.tmp 11)
      refine wpMono_take' 2 (v := ?_) rfl (by kernel_rfl) (by kernel_rfl) (by kernel_rfl) (fun _ _ _ h => h) (by rfl) ?_ ?_
      rotate_left
      · (intro W hSw; skip
         go_simp; first | done | rfl | (rw [if_pos hmn']; rfl))
      try simp only [Act.put, List.setIfInBounds_toArray, List.set_cons_zero, List.set_cons_succ]
      -- 3 Op.indexAddr 25 (Operand.tmp 25) (Operand.tmp 26)
      refine wpMono_take' 3 (v := ?_) rfl (by kernel_rfl) (by kernel_rfl) (by kernel_rfl) (fun _ _ _ h => h) (by rfl) ?_ ?_
      rotate_left
      · (intro W hSw; skip
         go_simp; first | done | rfl | (rw [if_pos hmn']; rfl))
      try simp only [Act.put, List.setIfInBounds_toArray, List.set_cons_zero, List.set_cons_succ]
      -- 4 Op.load 35 (Operand.tmp 27)
      refine wpMono_take' 4 (v := ?_) rfl (by kernel_rfl) (by kernel_rfl) (by kernel_rfl) (fun _ _ _ h => h) (by rfl) ?_ ?_
      rotate_left
      · (intro W hSw; first | (first | (refine exec_load_w (.tmp 27) ?_ b (off + m * 10) y.cells ?_ ?_ (fun q v hq => (hSw.cell (off + m * 10 + q) hbw (fun h => h)).trans (HE.out q v hq)) <;> rfl) | (refine exec_load_w (.tmp 4) ?_ w.heap.size 0 x.cells ?_ ?_ (fun q v hq => by rw [Nat.zero_add, (HXr.out.drew.keeps hSw (fun h => h)).cell q]; simpa using hq) <;> rfl)) | (skip; go_simp; done) | (skip; go_simp; rfl))
      try simp only [Act.put, List.setIfInBounds_toArray, List.set_cons_zero, List.set_cons_succ]
      -- 5 Op.load 35 (Operand.tmp 4)
      refine wpMono_take' 5 (v := ?_) rfl (by kernel_rfl) (by kernel_rfl) (by kernel_rfl) (fun _ _ _ h => h) (by rfl) ?_ ?_
      rotate_left
      · (intro W hSw; first | (first | (refine exec_load_w (.tmp 27) ?_ b (off + m * 10) y.cells ?_ ?_ (fun q v hq => (hSw.cell (off + m * 10 + q) hbw (fun h => h)).trans (HE.out q v hq)) <;> rfl) | (refine exec_load_w (.tmp 4) ?_ w.heap.size 0 x.cells ?_ ?_ (fun q v hq => by rw [Nat.zero_add, (HXr.out.drew.keeps hSw (fun h => h)).cell q]; simpa using hq) <;> rfl)) | (skip; go_simp; done) | (skip; go_simp; rfl))
      try simp only [Act.put, List.setIfInBounds_toArray, List.set_cons_zero, List.set_cons_succ]
      -- EFFECT 6 Op.call { callee := Callee.value (Operand.tmp 24), args := #[Operand.tmp 28, Operand.tmp 29], argTypes := #[35, 35] }
      refine wpMono_one' 6 (by kernel_rfl) rfl (by rfl) (fun K hK => ?_)
      go_simp
      refine (compare_w y x _).mono ?_
      rintro e w1 ⟨rfl, hb1⟩
      refine hK.out _ _ ?_ ?_
      · exact .of_below hb1
      clear hK K
      try simp only [Act.put, List.setIfInBounds_toArray, List.set_cons_zero, List.set_cons_succ]
      -- 7 Op.binOp BinOp.lss 3 (Operand.tmp 30) (Operand.const (Value.int IntKind.i64 0)) 3
      refine wpMono_take' 7 (v := ?_) rfl (by kernel_rfl) (by kernel_rfl) (by kernel_rfl) (fun _ _ _ h => h) (by rfl) ?_ ?_
      rotate_left
      · (intro W hSw; skip
         go_simp; first | done | rfl | (rw [if_pos hmn']; rfl))
      try simp only [Act.put, List.setIfInBounds_toArray, List.set_cons_zero, List.set_cons_succ]
      refine wpMono_done (by kernel_rfl) ?_ _
      have hbn : Below wr.heap.size wr w1 := ((Below.refl _ wr).drew).trans hb1
      have HXn := Lib.hid (HXr.out.below hbn HXr.out.lt)
      have HBn := Lib.hid (HBr.out.trans (hbn.mono HBr.out.size))
      clear hb1 hbn
      by_cases hq : cmpW y x < 0
      · have HQ := Lib.hid hq
        have dq : decide (cmpW y x < 0) = true := by simpa using hq
        go_wp2_with fail
        go_roundw
        case rel => exact ⟨m + 1, j, by omega, hjn, by go_num, rfl, fun k hk => HP.out k m (by omega) hmn (by rw [HY.out]; exact HQ.out), fun k h1 h2 => by have := H2.out k h1 h2; omega, HXn.out, HBn.out⟩
        case measure => (simp [intOf]; try omega)
      · have HQ := Lib.hid hq
        have dq : decide (cmpW y x < 0) = false := by simpa using hq
        have hge : 0 ≤ cmpW y x := by omega
        clear hq
        go_wp2_with fail
        go_roundw
        case rel => exact ⟨i, m, hm1, by omega, rfl, rfl, H1.out, fun k h1 h2 h3 => HQ.out (by rw [← HY.out]; exact HP.out m k h1 (by omega) h3), HXn.out, HBn.out⟩
        case measure => (simp [intOf]; try omega)
    · obtain rfl : i = j := by omega
      by_cases hin : i < n
      · obtain ⟨b, off, rfl, hbl⟩ := HR.out.at_some (by omega)
        have hmn : i < L.length := by omega
        have HE := Lib.hid (show ∀ q v, (L.getD i wrZ).cells[q]? = some v → wr.drew.cell? ⟨b, off + i * 10 + q, none⟩ = some v from fun q v hq => by
          have hq2 : q < 10 := by
            have := (List.getElem?_eq_some_iff.1 hq).1
            rwa [Wr.len] at this
          have h5 := Reads.thing Wr.cells Wr.len HR.out (k := i) (x := L.getD i wrZ) (by omega) (by rw [List.getD_eq_getElem?_getD, List.getElem?_eq_getElem hmn]; rfl) q hq2
          rw [World.cell?_drew, HBr.out.cell (p := ⟨b, off + i * 10 + q, none⟩) hbl, h5, hq])
        have hbw : b < wr.drew.heap.size := by have := HBr.out.size; simp; omega
        obtain ⟨y, hy⟩ : ∃ y, L.getD i wrZ = y := ⟨_, rfl⟩
        rw [hy] at HE
        have HY := Lib.hid hy
        have d1 : decide ((i : Int) < (n : Int)) = true := by simp; omega
        clear hy
        go_wp2_with fail
        refine wp_region_mono nobody (by kernel_rfl) ?_
        -- 0 Op.move (Operand.tmp 9)
        refine wpMono_take' 0 (v := ?_) rfl (by kernel_rfl) (by kernel_rfl) (by kernel_rfl) (fun _ _ _ h => h) (by rfl) ?_ ?_
        rotate_left
        · (intro W hSw; skip
           go_simp; first | done | rfl | (rw [if_pos hin]; rfl))
        try simp only [Act.put, List.setIfInBounds_toArray, List.set_cons_zero, List.set_cons_succ]
        (try rw [d1])
        -- 1 Op.move (Operand.tmp 9)
        refine wpMono_take' 1 (v := ?_) rfl (by kernel_rfl) (by kernel_rfl) (by kernel_rfl) (fun _ _ _ h => h) (by rfl) ?_ ?_
        rotate_left
        · (intro W hSw; skip
           go_simp; first | done | rfl | (rw [if_pos hin]; rfl))
        try simp only [Act.put, List.setIfInBounds_toArray, List.set_cons_zero, List.set_cons_succ]
        (try rw [d1])
        -- 2 Op.move (Operand.tmp 8)
        refine wpMono_take' 2 (v := ?_) rfl (by kernel_rfl) (by kernel_rfl) (by kernel_rfl) (fun _ _ _ h => h) (by rfl) ?_ ?_
        rotate_left
        · (intro W hSw; skip
           go_simp; first | done | rfl | (rw [if_pos hin]; rfl))
        try simp only [Act.put, List.setIfInBounds_toArray, List.set_cons_zero, List.set_cons_succ]
        (try rw [d1])
        -- 3 Op.binOp BinOp.lss 3 (Operand.tmp 36) (Operand.tmp 37) 3
        refine wpMono_take' 3 (v := ?_) rfl (by kernel_rfl) (by kernel_rfl) (by kernel_rfl) (fun _ _ _ h => h) (by rfl) ?_ ?_
        rotate_left
        · (intro W hSw; skip
           go_simp; first | done | rfl | (rw [if_pos hin]; rfl))
        try simp only [Act.put, List.setIfInBounds_toArray, List.set_cons_zero, List.set_cons_succ]
        (try rw [d1])
        -- 4 Op.move (Operand.tmp 38)
        refine wpMono_take' 4 (v := ?_) rfl (by kernel_rfl) (by kernel_rfl) (by kernel_rfl) (fun _ _ _ h => h) (by rfl) ?_ ?_
        rotate_left
        · (intro W hSw; skip
           go_simp; first | done | rfl | (rw [if_pos hin]; rfl))
        try simp only [Act.put, List.setIfInBounds_toArray, List.set_cons_zero, List.set_cons_succ]
        (try rw [d1])
        -- 5 Op.move (Operand.tmp 2)
        refine wpMono_take' 5 (v := ?_) rfl (by kernel_rfl) (by kernel_rfl) (by kernel_rfl) (fun _ _ _ h => h) (by rfl) ?_ ?_
        rotate_left
        · (intro W hSw; skip
           go_simp; first | done | rfl | (rw [if_pos hin]; rfl))
        try simp only [Act.put, List.setIfInBounds_toArray, List.set_cons_zero, List.set_cons_succ]
        (try rw [d1])
        -- 6 Op.move (Operand.tmp 0)
        refine wpMono_take' 6 (v := ?_) rfl (by kernel_rfl) (by kernel_rfl) (by kernel_rfl) (fun _ _ _ h => h) (by rfl) ?_ ?_
        rotate_left
        · (intro W hSw; skip
           go_simp; first | done | rfl | (rw [if_pos hin]; rfl))
        try simp only [Act.put, List.setIfInBounds_toArray, List.set_cons_zero, List.set_cons_succ]
        (try rw [d1])
        -- 7 Op.move (Operand.tmp 9)
        refine wpMono_take' 7 (v := ?_) rfl (by kernel_rfl) (by kernel_rfl) (by kernel_rfl) (fun _ _ _ h => h) (by rfl) ?_ ?_
        rotate_left
        · (intro W hSw; skip
           go_simp; first | done | rfl | (rw [if_pos hin]; rfl))
        try simp only [Act.put, List.setIfInBounds_toArray, List.set_cons_zero, List.set_cons_succ]
        (try rw [d1])
        -- 8 Op.indexAddr 25 (Operand.tmp 41) (Operand.tmp 42)
        refine wpMono_take' 8 (v := ?_) rfl (by kernel_rfl) (by kernel_rfl) (by kernel_rfl) (fun _ _ _ h => h) (by rfl) ?_ ?_
        rotate_left
        · (intro W hSw; skip
           go_simp; first | done | rfl | (rw [if_pos hin]; rfl))
        try simp only [Act.put, List.setIfInBounds_toArray, List.set_cons_zero, List.set_cons_succ]
        (try rw [d1])
        -- 9 Op.load 35 (Operand.tmp 43)
        refine wpMono_take' 9 (v := ?_) rfl (by kernel_rfl) (by kernel_rfl) (by kernel_rfl) (fun _ _ _ h => h) (by rfl) ?_ ?_
        rotate_left
        · (intro W hSw; first | (first | (refine exec_load_w (.tmp 43) ?_ b (off + i * 10) y.cells ?_ ?_ (fun q v hq => (hSw.cell (off + i * 10 + q) hbw (fun h => h)).trans (HE.out q v hq)) <;> rfl) | (refine exec_load_w (.tmp 4) ?_ w.heap.size 0 x.cells ?_ ?_ (fun q v hq => by rw [Nat.zero_add, (HXr.out.drew.keeps hSw (fun h => h)).cell q]; simpa using hq) <;> rfl)) | (skip; go_simp; done) | (skip; go_simp; rfl))
        try simp only [Act.put, List.setIfInBounds_toArray, List.set_cons_zero, List.set_cons_succ]
        (try rw [d1])
        -- 10 Op.load 35 (Operand.tmp 4)
        refine wpMono_take' 10 (v := ?_) rfl (by kernel_rfl) (by kernel_rfl) (by kernel_rfl) (fun _ _ _ h => h) (by rfl) ?_ ?_
        rotate_left
        · (intro W hSw; first | (first | (refine exec_load_w (.tmp 43) ?_ b (off + i * 10) y.cells ?_ ?_ (fun q v hq => (hSw.cell (off + i * 10 + q) hbw (fun h => h)).trans (HE.out q v hq)) <;> rfl) | (refine exec_load_w (.tmp 4) ?_ w.heap.size 0 x.cells ?_ ?_ (fun q v hq => by rw [Nat.zero_add, (HXr.out.drew.keeps hSw (fun h => h)).cell q]; simpa using hq) <;> rfl)) | (skip; go_simp; done) | (skip; go_simp; rfl))
        try simp only [Act.put, List.setIfInBounds_toArray, List.set_cons_zero, List.set_cons_succ]
        (try rw [d1])
        -- EFFECT 11 Op.call { callee := Callee.value (Operand.tmp 40), args := #[Operand.tmp 44, Operand.tmp 45], argTypes := #[35, 35] }
        refine wpMono_one' 11 (by kernel_rfl) rfl (by rfl) (fun K hK => ?_)
        go_simp
        refine (compare_w y x _).mono ?_
        rintro e w1 ⟨rfl, hb1⟩
        refine hK.out _ _ ?_ ?_
        · exact .of_below hb1
        clear hK K
        try simp only [Act.put, List.setIfInBounds_toArray, List.set_cons_zero, List.set_cons_succ]
        (try rw [d1])
        -- 12 Op.binOp BinOp.eql 3 (Operand.tmp 46) (Operand.const (Value.int IntKind.i64 0)) 3
        refine wpMono_take' 12 (v := ?_) rfl (by kernel_rfl) (by kernel_rfl) (by kernel_rfl) (fun _ _ _ h => h) (by rfl) ?_ ?_
        rotate_left
        · (intro W hSw; skip
           go_simp; first | done | rfl | (rw [if_pos hin]; rfl))
        try simp only [Act.put, List.setIfInBounds_toArray, List.set_cons_zero, List.set_cons_succ]
        (try rw [d1])
        -- 13 Op.pick (Operand.tmp 39) (Operand.tmp 47) (Operand.const (Value.bool false))
        refine wpMono_take' 13 (v := ?_) rfl (by kernel_rfl) (by kernel_rfl) (by kernel_rfl) (fun _ _ _ h => h) (by rfl) ?_ ?_
        rotate_left
        · (intro W hSw; skip
           go_simp; first | done | rfl | (rw [if_pos hin]; rfl))
        try simp only [Act.put, List.setIfInBounds_toArray, List.set_cons_zero, List.set_cons_succ]
        (try rw [d1])
        -- 14 Op.assign (Operand.tmp 35)
        refine wpMono_take' 14 (v := ?_) rfl (by kernel_rfl) (by kernel_rfl) (by kernel_rfl) (fun _ _ _ h => h) (by rfl) ?_ ?_
        rotate_left
        · (intro W hSw; skip
           go_simp; first | done | rfl | (rw [if_pos hin]; rfl))
        try simp only [Act.put, List.setIfInBounds_toArray, List.set_cons_zero, List.set_cons_succ]
        (try rw [d1])
        -- 15 Op.assign (Operand.tmp 48)
        refine wpMono_take' 15 (v := ?_) rfl (by kernel_rfl) (by kernel_rfl) (by kernel_rfl) (fun _ _ _ h => h) (by rfl) ?_ ?_
        rotate_left
        · (intro W hSw; skip
           go_simp; first | done | rfl | (rw [if_pos hin]; rfl))
        try simp only [Act.put, List.setIfInBounds_toArray, List.set_cons_zero, List.set_cons_succ]
        (try rw [d1])
        refine wpMono_done (by kernel_rfl) ?_ _
        have hbn : Below wr.heap.size wr w1 := ((Below.refl _ wr).drew).trans hb1
        have HBn := Lib.hid (HBr.out.trans (hbn.mono HBr.out.size))
        clear hb1 hbn
        go_wp2_with fail
        go_ret2
        refine ⟨i, by omega, H1.out, fun k h1 h2 => by have := H2.out k h1 (by omega); omega, ?_, HBn.out⟩
        rw [HY.out, decide_eq_true hmn, Bool.true_and]
        rfl
      · have d1 : decide ((i : Int) < (n : Int)) = false := by simp; omega
        go_wp2_with fail
        refine wp_region_mono nobody (by kernel_rfl) ?_
        -- 0 Op.move (Operand.tmp 9)
        refine wpMono_take' 0 (v := ?_) rfl (by kernel_rfl) (by kernel_rfl) (by kernel_rfl) (fun _ _ _ h => h) (by rfl) ?_ ?_
        rotate_left
        · (intro W hSw; skip
           go_simp; first | done | rfl)
        try simp only [Act.put, List.setIfInBounds_toArray, List.set_cons_zero, List.set_cons_succ]
        (try rw [d1])
        -- 1 Op.move (Operand.tmp 9)
        refine wpMono_take' 1 (v := ?_) rfl (by kernel_rfl) (by kernel_rfl) (by kernel_rfl) (fun _ _ _ h => h) (by rfl) ?_ ?_
        rotate_left
        · (intro W hSw; skip
           go_simp; first | done | rfl)
        try simp only [Act.put, List.setIfInBounds_toArray, List.set_cons_zero, List.set_cons_succ]
        (try rw [d1])
        -- 2 Op.move (Operand.tmp 8)
        refine wpMono_take' 2 (v := ?_) rfl (by kernel_rfl) (by kernel_rfl) (by kernel_rfl) (fun _ _ _ h => h) (by rfl) ?_ ?_
        rotate_left
        · (intro W hSw; skip
           go_simp; first | done | rfl)
        try simp only [Act.put, List.setIfInBounds_toArray, List.set_cons_zero, List.set_cons_succ]
        (try rw [d1])
        -- 3 Op.binOp BinOp.lss 3 (Operand.tmp 36) (Operand.tmp 37) 3
        refine wpMono_take' 3 (v := ?_) rfl (by kernel_rfl) (by kernel_rfl) (by kernel_rfl) (fun _ _ _ h => h) (by rfl) ?_ ?_
        rotate_left
        · (intro W hSw; skip
           go_simp; first | done | rfl)
        try simp only [Act.put, List.setIfInBounds_toArray, List.set_cons_zero, List.set_cons_succ]
        (try rw [d1])
        -- 4 Op.move (Operand.tmp 38)
        refine wpMono_take' 4 (v := ?_) rfl (by kernel_rfl) (by kernel_rfl) (by kernel_rfl) (fun _ _ _ h => h) (by rfl) ?_ ?_
        rotate_left
        · (intro W hSw; skip
           go_simp; first | done | rfl)
        try simp only [Act.put, List.setIfInBounds_toArray, List.set_cons_zero, List.set_cons_succ]
        (try rw [d1])
        -- 5 Op.move (Operand.tmp 2)
        refine wpMono_skip' 5 rfl (by kernel_rfl) (by kernel_rfl) (by kernel_rfl) (fun _ _ _ h => h) (by rfl) ?_
        try simp only [Act.put, List.setIfInBounds_toArray, List.set_cons_zero, List.set_cons_succ]
        (try rw [d1])
        -- 6 Op.move (Operand.tmp 0)
        refine wpMono_skip' 6 rfl (by kernel_rfl) (by kernel_rfl) (by kernel_rfl) (fun _ _ _ h => h) (by rfl) ?_
        try simp only [Act.put, List.setIfInBounds_toArray, List.set_cons_zero, List.set_cons_succ]
        (try rw [d1])
        -- 7 Op.move (Operand.tmp 9)
        refine wpMono_skip' 7 rfl (by kernel_rfl) (by kernel_rfl) (by kernel_rfl) (fun _ _ _ h => h) (by rfl) ?_
        try simp only [Act.put, List.setIfInBounds_toArray, List.set_cons_zero, List.set_cons_succ]
        (try rw [d1])
        -- 8 Op.indexAddr 25 (Operand.tmp 41) (Operand.tmp 42)
        refine wpMono_skip' 8 rfl (by kernel_rfl) (by kernel_rfl) (by kernel_rfl) (fun _ _ _ h => h) (by rfl) ?_
        try simp only [Act.put, List.setIfInBounds_toArray, List.set_cons_zero, List.set_cons_succ]
        (try rw [d1])
        -- 9 Op.load 35 (Operand.tmp 43)
        refine wpMono_skip' 9 rfl (by kernel_rfl) (by kernel_rfl) (by kernel_rfl) (fun _ _ _ h => h) (by rfl) ?_
        try simp only [Act.put, List.setIfInBounds_toArray, List.set_cons_zero, List.set_cons_succ]
        (try rw [d1])
        -- 10 Op.load 35 (Operand.tmp 4)
        refine wpMono_skip' 10 rfl (by kernel_rfl) (by kernel_rfl) (by kernel_rfl) (fun _ _ _ h => h) (by rfl) ?_
        try simp only [Act.put, List.setIfInBounds_toArray, List.set_cons_zero, List.set_cons_succ]
        (try rw [d1])
        -- 11 Op.call { callee := Callee.value (Operand.tmp 40), args := #[Operand.tmp 44, Operand.tmp 4
        refine wpMono_skip' 11 rfl (by kernel_rfl) (by kernel_rfl) (by kernel_rfl) (fun _ _ _ h => h) (by rfl) ?_
        try simp only [Act.put, List.setIfInBounds_toArray, List.set_cons_zero, List.set_cons_succ]
        (try rw [d1])
        -- 12 Op.binOp BinOp.eql 3 (Operand.tmp 46) (Operand.const (Value.int IntKind.i64 0)) 3
        refine wpMono_skip' 12 rfl (by kernel_rfl) (by kernel_rfl) (by kernel_rfl) (fun _ _ _ h => h) (by rfl) ?_
        try simp only [Act.put, List.setIfInBounds_toArray, List.set_cons_zero, List.set_cons_succ]
        (try rw [d1])
        -- 13 Op.pick (Operand.tmp 39) (Operand.tmp 47) (Operand.const (Value.bool false))
        refine wpMono_take' 13 (v := ?_) rfl (by kernel_rfl) (by kernel_rfl) (by kernel_rfl) (fun _ _ _ h => h) (by rfl) ?_ ?_
        rotate_left
        · (intro W hSw; skip
           go_simp; first | done | rfl)
        try simp only [Act.put, List.setIfInBounds_toArray, List.set_cons_zero, List.set_cons_succ]
        (try rw [d1])
        -- 14 Op.assign (Operand.tmp 35)
        refine wpMono_take' 14 (v := ?_) rfl (by kernel_rfl) (by kernel_rfl) (by kernel_rfl) (fun _ _ _ h => h) (by rfl) ?_ ?_
        rotate_left
        · (intro W hSw; skip
           go_simp; first | done | rfl)
        try simp only [Act.put, List.setIfInBounds_toArray, List.set_cons_zero, List.set_cons_succ]
        (try rw [d1])
        -- 15 Op.assign (Operand.tmp 48)
        refine wpMono_take' 15 (v := ?_) rfl (by kernel_rfl) (by kernel_rfl) (by kernel_rfl) (fun _ _ _ h => h) (by rfl) ?_ ?_
        rotate_left
        · (intro W hSw; skip
           go_simp; first | done | rfl)
        try simp only [Act.put, List.setIfInBounds_toArray, List.set_cons_zero, List.set_cons_succ]
        (try rw [d1])
        refine wpMono_done (by kernel_rfl) ?_ _
        go_wp2_with fail
        go_ret2
        refine ⟨i, by omega, H1.out, fun k h1 h2 => by have := H2.out k h1 (by omega); omega, ?_, HBr.out.trans (((Below.refl _ wr).drew).mono HBr.out.size)⟩
        rw [decide_eq_false (show ¬ i < L.length by omega), Bool.false_and]
        rfl
end Go.Proofs.Ytedkcpncomgboaa.cmp
