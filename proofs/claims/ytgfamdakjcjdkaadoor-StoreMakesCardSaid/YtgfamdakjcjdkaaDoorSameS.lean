/- Rows as the document has them (Plain), and whether rows are alike (Same). -/
import Derived.Test.YtgfamdakjcjdkaaDoorArgsS
namespace Go.Proofs.YtgfamdakjcjdkaaDoor.store
open Go Go.RowKit Go.Proofs.YtgfamdakjcjdkaaDoor.base Go.Proofs.YtgfamdakjcjdkaaDoor.err Go.Proofs.YtgfamdakjcjdkaaDoor.cmp Go.Proofs.YtgfamdakjcjdkaaDoor.above Go.Proofs.YtgfamdakjcjdkaaDoor.law Go.Proofs.YtgfamdakjcjdkaaDoor.merge Go.Proofs.YtgfamdakjcjdkaaDoor.rows Go.Proofs.YtgfamdakjcjdkaaDoor.rowe Go.Proofs.YtgfamdakjcjdkaaDoor.monoj

abbrev refT : TypeId := 35
theorem ref_info : (Tryd.prog.info? 35).map (fun i => (i.zero, i.size, i.bytes)) = some (some (.agg #[.string ⟨#[]⟩, .string ⟨#[]⟩, .int .i64 0, .int .i64 0, .string ⟨#[]⟩, .bool false, .int .i64 0]), 7, 80) := by kernel_rfl
def rZ : R := ((⟨#[]⟩, ⟨#[]⟩), zeroC)
theorem row_at {w : World} {A : Option Addr} {m B : Nat} {L : List R} (h : Reads w B 7 A m (L.flatMap rcells)) (hl : L.length = m) {k : Nat} (hk : k < m) : ∃ b off, A = some ⟨b, off, none⟩ ∧ b < B ∧ ∀ q v, (rcells (L.getD k rZ))[q]? = some v → w.cell? ⟨b, off + k * 7 + q, none⟩ = some v := by
  obtain ⟨b, off, rfl, hb⟩ := h.at_some (by omega)
  refine ⟨b, off, rfl, hb, fun q v hq => ?_⟩
  have hq2 : q < 7 := by
    have := (List.getElem?_eq_some_iff.1 hq).1
    rwa [rlen] at this
  have h5 := Reads.thing rcells rlen h (k := k) (x := L.getD k rZ) (by omega) (by rw [List.getD_eq_getElem?_getD, List.getElem?_eq_getElem (by omega)]; rfl) q hq2
  rw [h5, hq]
theorem seven_of {w : World} {b off : Nat} {x : R} (h : ∀ q v, (rcells x)[q]? = some v → w.cell? ⟨b, off + q, none⟩ = some v) :
    w.cell? ⟨b, off, none⟩ = some (.string x.1.1) ∧ w.cell? ⟨b, off + 1, none⟩ = some (.string x.1.2) ∧ w.cell? ⟨b, off + 2, none⟩ = some (.int .i64 x.2.t) ∧ w.cell? ⟨b, off + 3, none⟩ = some (.int .i64 x.2.r) ∧ w.cell? ⟨b, off + 4, none⟩ = some (.string x.2.v) ∧
      w.cell? ⟨b, off + 5, none⟩ = some (.bool x.2.g) ∧ w.cell? ⟨b, off + 6, none⟩ = some (.int .i64 x.2.l) :=
  ⟨h 0 _ rfl, h 1 _ rfl, h 2 _ rfl, h 3 _ rfl, h 4 _ rfl, h 5 _ rfl, h 6 _ rfl⟩
def PlainR (L : List R) (w : World) (e : Ending) (w' : World) : Prop :=
  ∃ v, e = .returned v ∧ w'.ownsRow w.heap.size refT 7 v L.length (L.flatMap rcells) ∧ Below w.heap.size w w'
set_option maxRecDepth 100000 in
set_option maxHeartbeats 1000000 in
theorem plain_any (A : Option Addr) (n c : Nat) (L : List R) (w : World) (hl : L.length = n) (hn : n ≤ 1000000) (hr : Reads w w.heap.size 7 A n (L.flatMap rcells)) :
    Calls Tryd.prog 32 #[.slice A n c] w (PlainR L w) := by
  obtain ⟨i0, hi0, hz0, hz1, hz2⟩ := info_parts ref_info
  have Hi0 := Lib.hid hi0
  have Hz0 := Lib.hid hz0
  have Hz1 := Lib.hid hz1
  have Hz2 := Lib.hid hz2
  have Hl := Lib.hid hl
  have Hr := Lib.hid hr
  clear hl hr
  clear hi0 hz0 hz1 hz2
  generalize hB : w.heap.size = B
  go_enter Tryd.func32, Tryd.ntmps32
  go_wp2
  go_loopw [3, 8] (fun s i wr => ∃ k : Nat, k ≤ n ∧ i = .int .i64 k ∧ wr.ownsRow B refT 7 s k ((L.take k).flatMap rcells) ∧ Below B w wr ∧ B ≤ wr.heap.size) (fun _ i _ => n - (intOf i).toNat)
  case atStart => exact ⟨0, by omega, rfl, ⟨by simp, .inl ⟨rfl, rfl⟩⟩, Below.refl _ _, by omega⟩
  case round =>
    obtain ⟨k, hk, rfl, i3, i4, i5⟩ := hrel
    obtain ⟨A2, c2, rfl⟩ := ownsRow_slice i3
    by_cases hlt : k < n
    · have htk : L.take (k + 1) = L.take k ++ [L.getD k rZ] := by
        rw [List.take_succ_eq_append_getElem (by rw [Hl.out]; exact hlt), List.getD_eq_getElem?_getD, List.getElem?_eq_getElem (by rw [Hl.out]; exact hlt)]; rfl
      obtain ⟨b, off, rfl, hbb, hc⟩ := row_at (Hr.out.below (by rw [hB]; exact i4)) Hl.out hlt
      have hbl : b < wr.heap.size := by omega
      have hce := seven_of hc
      generalize L.getD k rZ = x at hce htk hc
      obtain ⟨⟨x1, x2⟩, ⟨t, r, v, g, l⟩⟩ := x
      obtain ⟨e0, e1, e2, e3, e4, e5, e6⟩ := hce
      dsimp only at e0 e1 e2 e3 e4 e5 e6
      have Htk := Lib.hid htk
      have I3 := Lib.hid (i3.alloc (.cells #[.string x1, .string x2, .int .i64 t, .int .i64 r, .string v, .bool g, .int .i64 l] 60))
      have I4 := Lib.hid i4
      clear i3 i4 htk hc
      go_wp2_with (at_builtin; refine wpList_append_newAt rfl (.tmp 12) (.tmp 20) _ rfl B refT i0 _ 7 80 Tryd.underlying22 Hi0.out Hz0.out Hz1.out Hz2.out rfl (by decide) _ _ _ rfl I3.out 1 1 (wr.heap.size + 1) (by simp) [.string x1, .string x2, .int .i64 t, .int .i64 r, .string v, .bool g, .int .i64 l] rfl rfl (by simp [Value.oneCell']) (by unfold maxLen; omega) (by omega) (by simp; omega) ?_; intro v1 w5 hown1 hbw1 hgr1 hwh1; obtain ⟨A', c', rfl⟩ := ownsRow_slice hown1; have Hown1 := Lib.hid hown1; have Hbw1 := Lib.hid hbw1; clear hown1 hbw1 hgr1 hwh1)
      have hz5 := Hbw1.out.size
      have hB5 := Lib.hid (I4.out.trans ((Below.mono (below_new wr (.cells #[.string x1, .string x2, .int .i64 t, .int .i64 r, .string v, .bool g, .int .i64 l] 60)) i5).trans Hbw1.out))
      go_roundw
      case rel =>
        refine ⟨k + 1, by omega, by go_num, ?_, hB5.out, by simp at hz5; omega⟩
        have := Hown1.out
        rw [Htk.out]
        simpa [rcells, List.flatMap_append] using this
      case measure => simp [intOf]; omega
    · obtain rfl : n = k := by omega
      have HR : Hid (PlainR L w (.returned (.slice A2 n c2)) wr) := Lib.hid (by
        refine ⟨_, rfl, ?_, by rw [hB]; exact i4⟩
        rw [List.take_of_length_le (by rw [Hl.out]; omega)] at i3
        rw [hB, Hl.out]; exact i3)
      clear i3 i4
      go_wp2
      go_ret
      exact HR.out
/-! ### are rows alike? -/
def rowEq (x y : R) : Bool := (x.1.1.toList == y.1.1.toList) && ((x.1.2.toList == y.1.2.toList) && cellEq x.2 y.2)
theorem rowEq_iff (x y : R) : rowEq x y = true ↔ x = y := by
  unfold rowEq
  rw [Bool.and_eq_true, Bool.and_eq_true, cellEq_iff, beq_iff_eq, beq_iff_eq]
  constructor
  · rintro ⟨h1, h2, h3⟩
    exact Prod.ext (Prod.ext (ba_ext h1) (ba_ext h2)) h3
  · rintro rfl; exact ⟨rfl, rfl, rfl⟩
set_option maxHeartbeats 1000000 in
theorem neq_row (x y : R) (w : World) : (binOp .neq 35 (.agg ⟨rcells x⟩) (.agg ⟨rcells y⟩)).run Tryd.prog w = .ok (.bool (!rowEq x y)) w := by
  have u0 := Tryd.underlying35
  have u1 := Tryd.underlying33
  have u2 := Tryd.underlying24
  obtain ⟨⟨a, b⟩, ⟨t, r, v, g, l⟩⟩ := x
  obtain ⟨⟨a', b'⟩, ⟨t', r', v', g', l'⟩⟩ := y
  unfold rcells rowEq cellEq
  dsimp only
  cases h1 : (a.toList == a'.toList)
  · go_simp
  cases h2 : (b.toList == b'.toList)
  · go_simp
  cases h3 : (t == t')
  · go_simp
  cases h4 : (r == r')
  · go_simp
  cases h5 : (v.toList == v'.toList)
  · go_simp
  cases h6 : (g == g')
  · go_simp
  cases h7 : (l == l') <;> go_simp
theorem exec_neq {P : Program} {o : Oper} {ev : Operand → Value} {w : World} (t u : TypeId) (x y : Operand) (ho : o.op = .binOp .neq t x y u) (xs ys : Array Value) (hx : ev x = .agg xs) (hy : ev y = .agg ys)
    (hm : P.eqGuardType P.depth t = false) (b : Bool) (h : (binOp .neq t (.agg xs) (.agg ys)).run P w = .ok (.bool b) w) : (execOp ev o).run P w = .ok (.value (.bool b)) w := by
  have hg := run_eqGuard_agg (P := P) w .neq t x y xs ys hm
  unfold execOp
  simp only [ho, hx, hy, Sem.run_bind, hg, Result.andThen_ok, h, Sem.run_pure]
theorem exec_load {P : Program} {o : Oper} {ev : Operand → Value} {w : World} (ty : TypeId) (x : Operand) (ho : o.op = .load ty x) (b off : Nat) (cs : List Value)
    (hx : ev x = .pointer (some ⟨b, off, none⟩)) {d : TypeDesc} (hu : P.underlying ty = some d) (hd : (match d with | .struct _ | .array _ _ => true | _ => false) = true)
    (hi : (P.info? ty).map (·.size) = some cs.length) (hc : ∀ j v, cs[j]? = some v → w.cell? ⟨b, off + j, none⟩ = some v) : (execOp ev o).run P w = .ok (.value (.agg ⟨cs⟩)) w := by
  have h := run_loadVar_at (P := P) (w := w) (b := b) (o := off) (cs := cs) hu hd hi hc
  unfold execOp
  simp only [ho, hx, Instr.loadAt, Instr.sureAddr, Sem.run_bind, Sem.run_pure, Result.andThen_ok, h]
theorem same_split {L M : List R} {k : Nat} (hl : k < L.length) (hm : k < M.length) : decide (L.drop k = M.drop k) = (rowEq (L.getD k rZ) (M.getD k rZ) && decide (L.drop (k + 1) = M.drop (k + 1))) := by
  rw [List.drop_eq_getElem_cons hl, List.drop_eq_getElem_cons hm, List.getD_eq_getElem?_getD, List.getElem?_eq_getElem hl, List.getD_eq_getElem?_getD, List.getElem?_eq_getElem hm]
  rw [Bool.eq_iff_iff, Bool.and_eq_true, rowEq_iff]
  simp only [decide_eq_true_eq, List.cons.injEq, Option.getD_some]
set_option maxRecDepth 100000 in
set_option maxHeartbeats 1000000 in
theorem same_any (A A2 : Option Addr) (n c n2 c2 : Nat) (L M : List R) (w : World) (hl : L.length = n) (hl2 : M.length = n2) (hn : n ≤ 1000000) (hn2 : n2 ≤ 1000000) (hr : Reads w w.heap.size 7 A n (L.flatMap rcells)) (hr2 : Reads w w.heap.size 7 A2 n2 (M.flatMap rcells)) :
    Calls Tryd.prog 31 #[.slice A n c, .slice A2 n2 c2] w fun e w' => e = .returned (.bool (decide (L = M))) ∧ Below w.heap.size w w' := by
  have Hl := Lib.hid hl
  have Hl2 := Lib.hid hl2
  have Hr := Lib.hid hr
  have Hr2 := Lib.hid hr2
  clear hl hl2 hr hr2
  by_cases hnn : n = n2
  · subst hnn
    go_enter Tryd.func31, Tryd.ntmps31
    go_wp2
    go_loopw [5] (fun i wr => ∃ k : Nat, k ≤ n ∧ i = .int .i64 k ∧ decide (L = M) = decide (L.drop k = M.drop k) ∧ Below w.heap.size w wr) (fun i _ => n - (intOf i).toNat)
    case atStart => exact ⟨0, by omega, rfl, rfl, Below.refl _ _⟩
    case round =>
      obtain ⟨k, hk, rfl, i1, i2⟩ := hrel
      by_cases hlt : k < n
      · rw [same_split (by rw [Hl.out]; exact hlt) (by rw [Hl2.out]; exact hlt)] at i1
        obtain ⟨b, off, rfl, hbb, hc⟩ := row_at (Hr.out.below i2) Hl.out hlt
        obtain ⟨b2, off2, rfl, hbb2, hc2⟩ := row_at (Hr2.out.below i2) Hl2.out hlt
        have hcc := neq_row (L.getD k rZ) (M.getD k rZ)
        generalize L.getD k rZ = x at i1 hc hcc
        generalize M.getD k rZ = y at i1 hc2 hcc
        have hsz := i2.size
        have hbl : b < wr.heap.size := by omega
        have hbl2 : b2 < wr.heap.size := by omega
        have HC := Lib.hid hc
        have HC2 := Lib.hid hc2
        have HCC := Lib.hid hcc
        have I1 := Lib.hid i1
        have I2 := Lib.hid i2
        clear hc hc2 hcc i1 i2
        cases hre : rowEq x y with
        | true =>
          have Hre := Lib.hid hre
          clear hre
          go_wp2_with fail
          refine wp_region_mono nobody (by kernel_rfl) ?_
          -- 0 Op.move (Operand.tmp 0)
          refine wpMono_take' 0 (v := ?_) rfl (by kernel_rfl) (by kernel_rfl) (by kernel_rfl) (fun _ _ _ h => h) (by rfl) ?_ ?_
          rotate_left
          · (intro W hSw; have hcW := hSw.cells; try simp only [World.size_drew, World.cell?_drew] at hcW
             go_simp; first | done | rfl)
          try simp only [Act.put, List.setIfInBounds_toArray, List.set_cons_zero, List.set_cons_succ]
          -- 1 Op.move (Operand.tmp 5)
          refine wpMono_take' 1 (v := ?_) rfl (by kernel_rfl) (by kernel_rfl) (by kernel_rfl) (fun _ _ _ h => h) (by rfl) ?_ ?_
          rotate_left
          · (intro W hSw; have hcW := hSw.cells; try simp only [World.size_drew, World.cell?_drew] at hcW
             go_simp; first | done | rfl)
          try simp only [Act.put, List.setIfInBounds_toArray, List.set_cons_zero, List.set_cons_succ]
          -- 2 Op.indexAddr 22 (Operand.tmp 17) (Operand.tmp 18)
          refine wpMono_take' 2 (v := ?_) rfl (by kernel_rfl) (by kernel_rfl) (by kernel_rfl) (fun _ _ _ h => h) (by rfl) ?_ ?_
          rotate_left
          · (intro W hSw; have hcW := hSw.cells; try simp only [World.size_drew, World.cell?_drew] at hcW
             go_simp; first | done | rfl)
          try simp only [Act.put, List.setIfInBounds_toArray, List.set_cons_zero, List.set_cons_succ]
          -- 3 Op.load 35 (Operand.tmp 19)
          refine wpMono_take' 3 (v := ?_) rfl (by kernel_rfl) (by kernel_rfl) (by kernel_rfl) (fun _ _ _ h => h) (by rfl) ?_ ?_
          rotate_left
          · (intro W hSw; first | (((first | (refine exec_load 35 (.tmp 19) ?_ b (off + k * 7) (rcells x) ?_ Tryd.underlying35 rfl (by rw [rlen]; kernel_rfl) (fun q v hq => (hSw.cells b _ (by simpa using hbl)).trans (HC.out q v hq)) <;> rfl) | (refine exec_load 35 (.tmp 23) ?_ b2 (off2 + k * 7) (rcells y) ?_ Tryd.underlying35 rfl (by rw [rlen]; kernel_rfl) (fun q v hq => (hSw.cells b2 _ (by simpa using hbl2)).trans (HC2.out q v hq)) <;> rfl)))) | (have hcW := hSw.cells; try simp only [World.size_drew, World.cell?_drew] at hcW; go_simp; done) | (have hcW := hSw.cells; try simp only [World.size_drew, World.cell?_drew] at hcW; go_simp; rfl))
          try simp only [Act.put, List.setIfInBounds_toArray, List.set_cons_zero, List.set_cons_succ]
          -- 4 Op.move (Operand.tmp 1)
          refine wpMono_take' 4 (v := ?_) rfl (by kernel_rfl) (by kernel_rfl) (by kernel_rfl) (fun _ _ _ h => h) (by rfl) ?_ ?_
          rotate_left
          · (intro W hSw; have hcW := hSw.cells; try simp only [World.size_drew, World.cell?_drew] at hcW
             go_simp; first | done | rfl)
          try simp only [Act.put, List.setIfInBounds_toArray, List.set_cons_zero, List.set_cons_succ]
          -- 5 Op.move (Operand.tmp 5)
          refine wpMono_take' 5 (v := ?_) rfl (by kernel_rfl) (by kernel_rfl) (by kernel_rfl) (fun _ _ _ h => h) (by rfl) ?_ ?_
          rotate_left
          · (intro W hSw; have hcW := hSw.cells; try simp only [World.size_drew, World.cell?_drew] at hcW
             go_simp; first | done | rfl)
          try simp only [Act.put, List.setIfInBounds_toArray, List.set_cons_zero, List.set_cons_succ]
          -- 6 Op.indexAddr 22 (Operand.tmp 21) (Operand.tmp 22)
          refine wpMono_take' 6 (v := ?_) rfl (by kernel_rfl) (by kernel_rfl) (by kernel_rfl) (fun _ _ _ h => h) (by rfl) ?_ ?_
          rotate_left
          · (intro W hSw; have hcW := hSw.cells; try simp only [World.size_drew, World.cell?_drew] at hcW
             go_simp; first | done | rfl)
          try simp only [Act.put, List.setIfInBounds_toArray, List.set_cons_zero, List.set_cons_succ]
          -- 7 Op.load 35 (Operand.tmp 23)
          refine wpMono_take' 7 (v := ?_) rfl (by kernel_rfl) (by kernel_rfl) (by kernel_rfl) (fun _ _ _ h => h) (by rfl) ?_ ?_
          rotate_left
          · (intro W hSw; first | (((first | (refine exec_load 35 (.tmp 19) ?_ b (off + k * 7) (rcells x) ?_ Tryd.underlying35 rfl (by rw [rlen]; kernel_rfl) (fun q v hq => (hSw.cells b _ (by simpa using hbl)).trans (HC.out q v hq)) <;> rfl) | (refine exec_load 35 (.tmp 23) ?_ b2 (off2 + k * 7) (rcells y) ?_ Tryd.underlying35 rfl (by rw [rlen]; kernel_rfl) (fun q v hq => (hSw.cells b2 _ (by simpa using hbl2)).trans (HC2.out q v hq)) <;> rfl)))) | (have hcW := hSw.cells; try simp only [World.size_drew, World.cell?_drew] at hcW; go_simp; done) | (have hcW := hSw.cells; try simp only [World.size_drew, World.cell?_drew] at hcW; go_simp; rfl))
          try simp only [Act.put, List.setIfInBounds_toArray, List.set_cons_zero, List.set_cons_succ]
          -- 8 Op.binOp BinOp.neq 35 (Operand.tmp 20) (Operand.tmp 24) 35
          refine wpMono_take' 8 (v := ?_) rfl (by kernel_rfl) (by kernel_rfl) (by kernel_rfl) (fun _ _ _ h => h) (by rfl) ?_ ?_
          rotate_left
          · (intro W hSw; first | ((refine exec_neq 35 35 (.tmp 20) (.tmp 24) ?_ _ _ ?_ ?_ ?_ _ (HCC.out W); rfl; rfl; rfl; kernel_rfl)) | (have hcW := hSw.cells; try simp only [World.size_drew, World.cell?_drew] at hcW; go_simp; done) | (have hcW := hSw.cells; try simp only [World.size_drew, World.cell?_drew] at hcW; go_simp; rfl))
          try simp only [Act.put, List.setIfInBounds_toArray, List.set_cons_zero, List.set_cons_succ]
          refine wpMono_done (by kernel_rfl) ?_ _
          rw [Hre.out]
          go_wp2
          go_roundw
          case rel => exact ⟨k + 1, by omega, by go_num, by rw [I1.out, Hre.out]; rfl, I2.out.drew⟩
          case measure => simp [intOf]; omega
        | false =>
          have Hre := Lib.hid hre
          clear hre
          go_wp2_with fail
          refine wp_region_mono nobody (by kernel_rfl) ?_
          -- 0 Op.move (Operand.tmp 0)
          refine wpMono_take' 0 (v := ?_) rfl (by kernel_rfl) (by kernel_rfl) (by kernel_rfl) (fun _ _ _ h => h) (by rfl) ?_ ?_
          rotate_left
          · (intro W hSw; have hcW := hSw.cells; try simp only [World.size_drew, World.cell?_drew] at hcW
             go_simp; first | done | rfl)
          try simp only [Act.put, List.setIfInBounds_toArray, List.set_cons_zero, List.set_cons_succ]
          -- 1 Op.move (Operand.tmp 5)
          refine wpMono_take' 1 (v := ?_) rfl (by kernel_rfl) (by kernel_rfl) (by kernel_rfl) (fun _ _ _ h => h) (by rfl) ?_ ?_
          rotate_left
          · (intro W hSw; have hcW := hSw.cells; try simp only [World.size_drew, World.cell?_drew] at hcW
             go_simp; first | done | rfl)
          try simp only [Act.put, List.setIfInBounds_toArray, List.set_cons_zero, List.set_cons_succ]
          -- 2 Op.indexAddr 22 (Operand.tmp 17) (Operand.tmp 18)
          refine wpMono_take' 2 (v := ?_) rfl (by kernel_rfl) (by kernel_rfl) (by kernel_rfl) (fun _ _ _ h => h) (by rfl) ?_ ?_
          rotate_left
          · (intro W hSw; have hcW := hSw.cells; try simp only [World.size_drew, World.cell?_drew] at hcW
             go_simp; first | done | rfl)
          try simp only [Act.put, List.setIfInBounds_toArray, List.set_cons_zero, List.set_cons_succ]
          -- 3 Op.load 35 (Operand.tmp 19)
          refine wpMono_take' 3 (v := ?_) rfl (by kernel_rfl) (by kernel_rfl) (by kernel_rfl) (fun _ _ _ h => h) (by rfl) ?_ ?_
          rotate_left
          · (intro W hSw; first | (((first | (refine exec_load 35 (.tmp 19) ?_ b (off + k * 7) (rcells x) ?_ Tryd.underlying35 rfl (by rw [rlen]; kernel_rfl) (fun q v hq => (hSw.cells b _ (by simpa using hbl)).trans (HC.out q v hq)) <;> rfl) | (refine exec_load 35 (.tmp 23) ?_ b2 (off2 + k * 7) (rcells y) ?_ Tryd.underlying35 rfl (by rw [rlen]; kernel_rfl) (fun q v hq => (hSw.cells b2 _ (by simpa using hbl2)).trans (HC2.out q v hq)) <;> rfl)))) | (have hcW := hSw.cells; try simp only [World.size_drew, World.cell?_drew] at hcW; go_simp; done) | (have hcW := hSw.cells; try simp only [World.size_drew, World.cell?_drew] at hcW; go_simp; rfl))
          try simp only [Act.put, List.setIfInBounds_toArray, List.set_cons_zero, List.set_cons_succ]
          -- 4 Op.move (Operand.tmp 1)
          refine wpMono_take' 4 (v := ?_) rfl (by kernel_rfl) (by kernel_rfl) (by kernel_rfl) (fun _ _ _ h => h) (by rfl) ?_ ?_
          rotate_left
          · (intro W hSw; have hcW := hSw.cells; try simp only [World.size_drew, World.cell?_drew] at hcW
             go_simp; first | done | rfl)
          try simp only [Act.put, List.setIfInBounds_toArray, List.set_cons_zero, List.set_cons_succ]
          -- 5 Op.move (Operand.tmp 5)
          refine wpMono_take' 5 (v := ?_) rfl (by kernel_rfl) (by kernel_rfl) (by kernel_rfl) (fun _ _ _ h => h) (by rfl) ?_ ?_
          rotate_left
          · (intro W hSw; have hcW := hSw.cells; try simp only [World.size_drew, World.cell?_drew] at hcW
             go_simp; first | done | rfl)
          try simp only [Act.put, List.setIfInBounds_toArray, List.set_cons_zero, List.set_cons_succ]
          -- 6 Op.indexAddr 22 (Operand.tmp 21) (Operand.tmp 22)
          refine wpMono_take' 6 (v := ?_) rfl (by kernel_rfl) (by kernel_rfl) (by kernel_rfl) (fun _ _ _ h => h) (by rfl) ?_ ?_
          rotate_left
          · (intro W hSw; have hcW := hSw.cells; try simp only [World.size_drew, World.cell?_drew] at hcW
             go_simp; first | done | rfl)
          try simp only [Act.put, List.setIfInBounds_toArray, List.set_cons_zero, List.set_cons_succ]
          -- 7 Op.load 35 (Operand.tmp 23)
          refine wpMono_take' 7 (v := ?_) rfl (by kernel_rfl) (by kernel_rfl) (by kernel_rfl) (fun _ _ _ h => h) (by rfl) ?_ ?_
          rotate_left
          · (intro W hSw; first | (((first | (refine exec_load 35 (.tmp 19) ?_ b (off + k * 7) (rcells x) ?_ Tryd.underlying35 rfl (by rw [rlen]; kernel_rfl) (fun q v hq => (hSw.cells b _ (by simpa using hbl)).trans (HC.out q v hq)) <;> rfl) | (refine exec_load 35 (.tmp 23) ?_ b2 (off2 + k * 7) (rcells y) ?_ Tryd.underlying35 rfl (by rw [rlen]; kernel_rfl) (fun q v hq => (hSw.cells b2 _ (by simpa using hbl2)).trans (HC2.out q v hq)) <;> rfl)))) | (have hcW := hSw.cells; try simp only [World.size_drew, World.cell?_drew] at hcW; go_simp; done) | (have hcW := hSw.cells; try simp only [World.size_drew, World.cell?_drew] at hcW; go_simp; rfl))
          try simp only [Act.put, List.setIfInBounds_toArray, List.set_cons_zero, List.set_cons_succ]
          -- 8 Op.binOp BinOp.neq 35 (Operand.tmp 20) (Operand.tmp 24) 35
          refine wpMono_take' 8 (v := ?_) rfl (by kernel_rfl) (by kernel_rfl) (by kernel_rfl) (fun _ _ _ h => h) (by rfl) ?_ ?_
          rotate_left
          · (intro W hSw; first | ((refine exec_neq 35 35 (.tmp 20) (.tmp 24) ?_ _ _ ?_ ?_ ?_ _ (HCC.out W); rfl; rfl; rfl; kernel_rfl)) | (have hcW := hSw.cells; try simp only [World.size_drew, World.cell?_drew] at hcW; go_simp; done) | (have hcW := hSw.cells; try simp only [World.size_drew, World.cell?_drew] at hcW; go_simp; rfl))
          try simp only [Act.put, List.setIfInBounds_toArray, List.set_cons_zero, List.set_cons_succ]
          refine wpMono_done (by kernel_rfl) ?_ _
          rw [Hre.out]
          go_wp2
          go_ret
          exact ⟨ret_bool (by rw [I1.out, Hre.out]; rfl), I2.out.drew⟩
      · obtain rfl : n = k := by omega
        have I1 := Lib.hid i1
        have I2 := Lib.hid i2
        clear i1 i2
        go_wp2
        go_ret
        exact ⟨ret_bool (by rw [I1.out, List.drop_eq_nil_of_le (by rw [Hl.out]; omega), List.drop_eq_nil_of_le (by rw [Hl2.out]; omega)]; rfl), I2.out⟩
  · have hne : decide (L = M) = false := by
      rw [decide_eq_false_iff_not]; rintro rfl; exact hnn (Hl.out.symm.trans Hl2.out)
    have Hne := Lib.hid hne
    have hd : ((n : Int) != (n2 : Int)) = true := by simp; omega
    clear hne
    go_enter Tryd.func31, Tryd.ntmps31
    go_wp2
    go_ret
    exact ⟨ret_bool Hne.out.symm, Below.refl _ _⟩
end Go.Proofs.YtgfamdakjcjdkaaDoor.store
