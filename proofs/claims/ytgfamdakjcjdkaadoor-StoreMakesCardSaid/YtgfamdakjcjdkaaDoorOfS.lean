/- store.Of: a store of rising rows; the first row that can't be, told by its number. -/
import Derived.Test.YtgfamdakjcjdkaaDoorTwoS
namespace Go.Proofs.YtgfamdakjcjdkaaDoor.store
open Go Go.RowKit Go.Proofs.YtgfamdakjcjdkaaDoor.base Go.Proofs.YtgfamdakjcjdkaaDoor.err Go.Proofs.YtgfamdakjcjdkaaDoor.cmp Go.Proofs.YtgfamdakjcjdkaaDoor.above Go.Proofs.YtgfamdakjcjdkaaDoor.law Go.Proofs.YtgfamdakjcjdkaaDoor.merge Go.Proofs.YtgfamdakjcjdkaaDoor.rows Go.Proofs.YtgfamdakjcjdkaaDoor.rowe Go.Proofs.YtgfamdakjcjdkaaDoor.monoj

/-- an error of package fail, whole: where, at which number, which code -/
def ErrAt (w : World) (v : Value) (s : ByteArray) (n c : Int) : Prop := ∃ g, v = .iface 69 (.pointer (some ⟨g, 0, none⟩)) ∧ Blk w g 73 #[.string s, .int .i64 n, .iface 47 (.int .i64 c)]
theorem ErrAt.err {w : World} {v : Value} {s : ByteArray} {n c : Int} (h : ErrAt w v s n c) : Err w v c := by
  obtain ⟨g, rfl, h⟩ := h
  exact ⟨g, rfl, h.lt, h.cell 2⟩
theorem ErrAt.below {w w' : World} {v : Value} {s : ByteArray} {n c : Int} (h : ErrAt w v s n c) (hb : Below w.heap.size w w') : ErrAt w' v s n c := by
  obtain ⟨g, rfl, h⟩ := h
  exact ⟨g, rfl, h.below hb h.lt⟩
def AtNew (s : ByteArray) (n c : Int) (w : World) (e : Ending) (w' : World) : Prop := ∃ v, e = .returned v ∧ ErrAt w' v s n c ∧ Below w.heap.size w w'
theorem at_whole (s : ByteArray) (n c : Int) (w : World) : Calls Tryd.prog 43 #[.string s, .int .i64 n, .iface 47 (.int .i64 c)] w (AtNew s n c w) := by
  go_enter Tryd.func43, Tryd.ntmps43
  go_wp2
  go_ret
  exact ⟨_, rfl, ⟨_, rfl, by exact Blk.new _ _ _⟩, below_new _ _⟩
theorem bad_whole (n c : Int) (w : World) : Calls Tryd.prog 18 #[.int .i64 n, .int .i64 c] w (AtNew ⟨#[115, 116, 111, 114, 101]⟩ n c w) := by
  go_enter Tryd.func18, Tryd.ntmps18
  go_wp2_with fail
  refine (at_whole _ _ _ _).mono ?_
  rintro e w1 ⟨v, rfl, h1, h2⟩
  have H := Lib.hid (show AtNew ⟨#[115, 116, 111, 114, 101]⟩ n c w (.returned v) w1 from ⟨v, rfl, h1, h2⟩)
  clear h1 h2
  go_wp2
  go_ret
  exact H.out
theorem Grown.below {w w' : World} (h : Grown w w') : Below w.heap.size w w' := by
  obtain ⟨q, os, rfl⟩ := h
  refine ⟨rfl, rfl, rfl, by simp [World.drewN], fun k hk => ?_⟩
  unfold Go.Sort.grow
  rw [Array.getElem?_append_left (by exact hk)]
  rfl
theorem put_end {T : List R} {x : Nm} {c : C} (h : ∀ p ∈ T, ltN p.1 x = true) : putL T x c = T ++ [(x, c)] := by
  induction T with
  | nil => rfl
  | cons p T ih =>
    have h1 := h p (by simp)
    unfold putL
    rw [if_neg (ltN_ne h1), if_neg (by rw [ltN_asymm h1]; decide), ih (fun q hq => h q (by simp [hq]))]
    rfl
theorem rising_snoc {T : List R} {x : R} (h : Rising T) (hl : ∀ p ∈ T, ltN p.1 x.1 = true) : Rising (T ++ [x]) :=
  List.pairwise_append.2 ⟨h, List.pairwise_singleton _ _, fun a ha b hb => by rw [List.mem_singleton.1 hb]; exact hl a ha⟩
theorem rising_last {T : List R} {x : R} (h : Rising T) (hk : 0 < T.length) (hl : ltN (T.getD (T.length - 1) rZ).1 x.1 = true) : ∀ p ∈ T, ltN p.1 x.1 = true := by
  intro p hp
  obtain ⟨i, hi, rfl⟩ := List.getElem_of_mem hp
  rw [List.getD_eq_getElem?_getD, List.getElem?_eq_getElem (show T.length - 1 < T.length by omega)] at hl
  by_cases e : i = T.length - 1
  · subst e; exact hl
  · have := List.pairwise_iff_getElem.1 h i (T.length - 1) hi (by omega) (by omega)
    exact ltN_trans this hl
/-- row i can't stand behind the one ahead of it -/
def wrongAt (L : List R) (i : Nat) : Prop := 0 < i ∧ i < L.length ∧ ltN (L.getD (i - 1) rZ).1 (L.getD i rZ).1 = false
def OfYes (L : List R) (w : World) (e : Ending) (w' : World) : Prop :=
  Rising L ∧ ∃ g bm, e = .returned (.tuple #[.pointer (some ⟨g, 0, none⟩), .nilIface]) ∧ StI w' g bm L ∧ w.heap.size ≤ g ∧ w.heap.size ≤ bm ∧ Below w.heap.size w w'
def OfNo (L : List R) (w : World) (e : Ending) (w' : World) : Prop :=
  ∃ i v, wrongAt L i ∧ Rising (L.take i) ∧ e = .returned (.tuple #[.pointer none, v]) ∧ ErrAt w' v ⟨#[115, 116, 111, 114, 101]⟩ i 1 ∧ Below w.heap.size w w'
def OfR (L : List R) (w : World) (e : Ending) (w' : World) : Prop := OfYes L w e w' ∨ OfNo L w e w'
theorem cells7 {w : World} {g : Nat} {T : TypeId} {a0 a1 a2 a3 a4 a5 a6 : Value} (h : Blk w g T #[a0, a1, a2, a3, a4, a5, a6]) :
    w.cell? ⟨g, 0, none⟩ = some a0 ∧ w.cell? ⟨g, 1, none⟩ = some a1 ∧ w.cell? ⟨g, 2, none⟩ = some a2 ∧ w.cell? ⟨g, 3, none⟩ = some a3 ∧ w.cell? ⟨g, 4, none⟩ = some a4 ∧ w.cell? ⟨g, 5, none⟩ = some a5 ∧ w.cell? ⟨g, 6, none⟩ = some a6 :=
  ⟨h.cell 0, h.cell 1, h.cell 2, h.cell 3, h.cell 4, h.cell 5, h.cell 6⟩
theorem row_at' {w : World} {m B b off : Nat} {L : List R} (h : Reads w B 7 (some ⟨b, off, none⟩) m (L.flatMap rcells)) (hl : L.length = m) {k : Nat} (hk : k < m) : ∀ q v, (rcells (L.getD k rZ))[q]? = some v → w.cell? ⟨b, off + k * 7 + q, none⟩ = some v := by
  obtain ⟨b', off', e, _, hc⟩ := row_at h hl hk
  injection e with e; injection e with e1 e2 _
  subst e1 e2
  exact hc
set_option maxRecDepth 100000 in
set_option maxHeartbeats 4000000 in
theorem of_rows (A : Option Addr) (n c : Nat) (L : List R) (w : World) (hl : L.length = n) (hn : n ≤ 1000000) (hok : ∀ p ∈ L, okName p.1) (hr : Reads w w.heap.size 7 A n (L.flatMap rcells)) :
    Calls Tryd.prog 6 #[.slice A n c] w (OfR L w) := by
  have Hl := Lib.hid hl
  have Hr := Lib.hid hr
  have Hok := Lib.hid hok
  clear hl hr hok
  go_enter Tryd.func6, Tryd.ntmps6
  go_wp2_with fail
  refine (new_any w).mono ?_
  rintro e w1 ⟨rfl, h1, hb1⟩
  have H1 := Lib.hid h1
  have HB1 := Lib.hid hb1
  clear h1 hb1
  go_wp2
  go_loopw [10] (fun i wr => ∃ k : Nat, k ≤ n ∧ i = .int .i64 k ∧ StI wr (w.heap.size + 1) w.heap.size (L.take k) ∧ Below w.heap.size w wr) (fun i _ => n - (intOf i).toNat)
  case atStart => exact ⟨0, by omega, rfl, H1.out, HB1.out⟩
  case round =>
    clear H1 HB1
    obtain ⟨k, hk, rfl, i1, i2⟩ := hrel
    by_cases hlt : k < n
    · have htk : L.take (k + 1) = L.take k ++ [L.getD k rZ] := by
        rw [List.take_succ_eq_append_getElem (by rw [Hl.out]; exact hlt), List.getD_eq_getElem?_getD, List.getElem?_eq_getElem (by rw [Hl.out]; exact hlt)]; rfl
      have hokx : okName (L.getD k rZ).1 := Hok.out _ (by
        rw [List.getD_eq_getElem?_getD, List.getElem?_eq_getElem (by rw [Hl.out]; exact hlt)]; exact List.getElem_mem _)
      obtain ⟨b, off, rfl, hbb, hc⟩ := row_at (Hr.out.below i2) Hl.out hlt
      have hsz := i2.size
      have hwl : w.heap.size < wr.heap.size := i1.ltm
      have hbl : b < wr.heap.size := by omega
      have hce := seven_of hc
      obtain ⟨x, hx⟩ : ∃ x, L.getD k rZ = x := ⟨_, rfl⟩
      rw [hx] at hce htk hc hokx
      have HX := Lib.hid hx
      obtain ⟨⟨x1, x2⟩, ⟨t, r, v, gn, l⟩⟩ := x
      obtain ⟨e0, e1, e2, e3, e4, e5, e6⟩ := hce
      dsimp only at e0 e1 e2 e3 e4 e5 e6
      have Htk := Lib.hid htk
      have Hokx := Lib.hid hokx
      have hbx := below_new wr (.cells #[.string x1, .string x2, .int .i64 t, .int .i64 r, .string v, .bool gn, .int .i64 l] 60)
      have I1 := Lib.hid (i1.below hbx)
      have I2 := Lib.hid (below_step i2 hbx)
      have HBX := Lib.hid (Blk.new wr 60 #[.string x1, .string x2, .int .i64 t, .int .i64 r, .string v, .bool gn, .int .i64 l])
      have HRX := Lib.hid ((Hr.out.below i2).below (hbx.mono hsz))
      clear i1 i2 htk hc hokx hx hbx
      by_cases hk0 : k = 0
      · have hd : decide (0 < k) = false := by simp; omega
        have Hall := Lib.hid (show ∀ p ∈ L.take k, ltN p.1 (x1, x2) = true from fun p hp => by rw [hk0] at hp; simp at hp)
        have Hk0 := Lib.hid hk0
        clear hk0
        go_wp2_with fail
        refine wp_region_mono nobody (by kernel_rfl) ?_
        -- 0 Op.move (Operand.tmp 5)
        refine wpMono_take' 0 (v := ?_) rfl (by kernel_rfl) (by kernel_rfl) (by kernel_rfl) (fun _ _ _ h => h) (by rfl) ?_ ?_
        rotate_left
        · (intro W hSw; skip
           go_simp; first | done | rfl)
        try simp only [Act.put, List.setIfInBounds_toArray, List.set_cons_zero, List.set_cons_succ]
        (try rw [hd])
        -- 1 Op.binOp BinOp.gtr 3 (Operand.tmp 15) (Operand.const (Value.int IntKind.i64 0)) 3
        refine wpMono_take' 1 (v := ?_) rfl (by kernel_rfl) (by kernel_rfl) (by kernel_rfl) (fun _ _ _ h => h) (by rfl) ?_ ?_
        rotate_left
        · (intro W hSw; skip
           go_simp; first | done | rfl)
        try simp only [Act.put, List.setIfInBounds_toArray, List.set_cons_zero, List.set_cons_succ]
        (try rw [hd])
        -- 2 Op.move (Operand.tmp 16)
        refine wpMono_take' 2 (v := ?_) rfl (by kernel_rfl) (by kernel_rfl) (by kernel_rfl) (fun _ _ _ h => h) (by rfl) ?_ ?_
        rotate_left
        · (intro W hSw; skip
           go_simp; first | done | rfl)
        try simp only [Act.put, List.setIfInBounds_toArray, List.set_cons_zero, List.set_cons_succ]
        (try rw [hd])
        -- 3 Op.move (Operand.tmp 0)
        refine wpMono_skip' 3 rfl (by kernel_rfl) (by kernel_rfl) (by kernel_rfl) (fun _ _ _ h => h) (by rfl) ?_
        try simp only [Act.put, List.setIfInBounds_toArray, List.set_cons_zero, List.set_cons_succ]
        (try rw [hd])
        -- 4 Op.move (Operand.tmp 5)
        refine wpMono_skip' 4 rfl (by kernel_rfl) (by kernel_rfl) (by kernel_rfl) (fun _ _ _ h => h) (by rfl) ?_
        try simp only [Act.put, List.setIfInBounds_toArray, List.set_cons_zero, List.set_cons_succ]
        (try rw [hd])
        -- 5 Op.binOp BinOp.sub 3 (Operand.tmp 19) (Operand.const (Value.int IntKind.i64 1)) 3
        refine wpMono_skip' 5 rfl (by kernel_rfl) (by kernel_rfl) (by kernel_rfl) (fun _ _ _ h => h) (by rfl) ?_
        try simp only [Act.put, List.setIfInBounds_toArray, List.set_cons_zero, List.set_cons_succ]
        (try rw [hd])
        -- 6 Op.indexAddr 41 (Operand.tmp 18) (Operand.tmp 20)
        refine wpMono_skip' 6 rfl (by kernel_rfl) (by kernel_rfl) (by kernel_rfl) (fun _ _ _ h => h) (by rfl) ?_
        try simp only [Act.put, List.setIfInBounds_toArray, List.set_cons_zero, List.set_cons_succ]
        (try rw [hd])
        -- 7 Op.load 60 (Operand.tmp 21)
        refine wpMono_skip' 7 rfl (by kernel_rfl) (by kernel_rfl) (by kernel_rfl) (fun _ _ _ h => h) (by rfl) ?_
        try simp only [Act.put, List.setIfInBounds_toArray, List.set_cons_zero, List.set_cons_succ]
        (try rw [hd])
        -- 8 Op.load 60 (Operand.tmp 6)
        refine wpMono_skip' 8 rfl (by kernel_rfl) (by kernel_rfl) (by kernel_rfl) (fun _ _ _ h => h) (by rfl) ?_
        try simp only [Act.put, List.setIfInBounds_toArray, List.set_cons_zero, List.set_cons_succ]
        (try rw [hd])
        -- 9 Op.call { callee := Callee.value (Operand.func 17), args := #[Operand.tmp 22, Operand.tmp 
        refine wpMono_skip' 9 rfl (by kernel_rfl) (by kernel_rfl) (by kernel_rfl) (fun _ _ _ h => h) (by rfl) ?_
        try simp only [Act.put, List.setIfInBounds_toArray, List.set_cons_zero, List.set_cons_succ]
        (try rw [hd])
        -- 10 Op.binOp BinOp.geq 3 (Operand.tmp 24) (Operand.const (Value.int IntKind.i64 0)) 3
        refine wpMono_skip' 10 rfl (by kernel_rfl) (by kernel_rfl) (by kernel_rfl) (fun _ _ _ h => h) (by rfl) ?_
        try simp only [Act.put, List.setIfInBounds_toArray, List.set_cons_zero, List.set_cons_succ]
        (try rw [hd])
        -- 11 Op.pick (Operand.tmp 17) (Operand.tmp 25) (Operand.const (Value.bool false))
        refine wpMono_take' 11 (v := ?_) rfl (by kernel_rfl) (by kernel_rfl) (by kernel_rfl) (fun _ _ _ h => h) (by rfl) ?_ ?_
        rotate_left
        · (intro W hSw; skip
           go_simp; first | done | rfl)
        try simp only [Act.put, List.setIfInBounds_toArray, List.set_cons_zero, List.set_cons_succ]
        (try rw [hd])
        refine wpMono_done (by kernel_rfl) ?_ _
        have HXB := Lib.hid (show ¬ wr.heap.size = w.heap.size by omega)
        have hput : putL (L.take k) (x1, x2) ⟨t, r, v, gn, l⟩ = L.take (k + 1) := by rw [Htk.out]; exact put_end Hall.out
        obtain ⟨w7, hu, hS7, hK7⟩ := ((I1.out.below (Below.refl _ _).drew).below (Below.refl _ _).drew).put (x := (x1, x2)) Hokx.out ⟨t, r, v, gn, l⟩
        rw [hput] at hS7
        have HS7 := Lib.hid hS7
        have HK7 := Lib.hid hK7
        clear hS7 hK7 hput
        unfold cval nameV at hu
        dsimp only at hu
        have HU := Lib.hid hu
        clear hu
        have HXA := Lib.hid (show ¬ w.heap.size + 1 = w.heap.size by omega)
        go_wp2_with fail
        refine wp_region_mono (fun i => i = w.heap.size) (by kernel_rfl) ?_
        -- 0 Op.move (Operand.tmp 4)
        refine wpMono_take' 0 (v := ?_) rfl (by kernel_rfl) (by kernel_rfl) (by kernel_rfl) (fun _ _ _ h => h) (by rfl) ?_ ?_
        rotate_left
        · (intro W hSw; (try have hgW := ((I1.out.below (Below.refl _ _).drew).below (Below.refl _ _).drew).blk.keeps hSw HXA.out; try have y0 : W.cell? ⟨w.heap.size + 1, 0, none⟩ = some (.map (some w.heap.size)) := hgW.cell 0; try have gl := hgW.lt; try have hd := (HBX.out.drew.drew).keeps hSw HXB.out; try (obtain ⟨d0, d1, d2, d3, d4, d5, d6⟩ := cells7 hd); try have dl := hd.lt)
           go_simp; first | done | rfl)
        try simp only [Act.put, List.setIfInBounds_toArray, List.set_cons_zero, List.set_cons_succ]
        -- 1 Op.nilCheck (Operand.tmp 29)
        refine wpMono_take' 1 (v := ?_) rfl (by kernel_rfl) (by kernel_rfl) (by kernel_rfl) (fun _ _ _ h => h) (by rfl) ?_ ?_
        rotate_left
        · (intro W hSw; (try have hgW := ((I1.out.below (Below.refl _ _).drew).below (Below.refl _ _).drew).blk.keeps hSw HXA.out; try have y0 : W.cell? ⟨w.heap.size + 1, 0, none⟩ = some (.map (some w.heap.size)) := hgW.cell 0; try have gl := hgW.lt; try have hd := (HBX.out.drew.drew).keeps hSw HXB.out; try (obtain ⟨d0, d1, d2, d3, d4, d5, d6⟩ := cells7 hd); try have dl := hd.lt)
           go_simp; first | done | rfl)
        try simp only [Act.put, List.setIfInBounds_toArray, List.set_cons_zero, List.set_cons_succ]
        -- 2 Op.fieldAddr 65 (Operand.tmp 30) 0
        refine wpMono_take' 2 (v := ?_) rfl (by kernel_rfl) (by kernel_rfl) (by kernel_rfl) (fun _ _ _ h => h) (by rfl) ?_ ?_
        rotate_left
        · (intro W hSw; (try have hgW := ((I1.out.below (Below.refl _ _).drew).below (Below.refl _ _).drew).blk.keeps hSw HXA.out; try have y0 : W.cell? ⟨w.heap.size + 1, 0, none⟩ = some (.map (some w.heap.size)) := hgW.cell 0; try have gl := hgW.lt; try have hd := (HBX.out.drew.drew).keeps hSw HXB.out; try (obtain ⟨d0, d1, d2, d3, d4, d5, d6⟩ := cells7 hd); try have dl := hd.lt)
           go_simp; first | done | rfl)
        try simp only [Act.put, List.setIfInBounds_toArray, List.set_cons_zero, List.set_cons_succ]
        -- 3 Op.load 63 (Operand.tmp 31)
        refine wpMono_take' 3 (v := ?_) rfl (by kernel_rfl) (by kernel_rfl) (by kernel_rfl) (fun _ _ _ h => h) (by rfl) ?_ ?_
        rotate_left
        · (intro W hSw; (try have hgW := ((I1.out.below (Below.refl _ _).drew).below (Below.refl _ _).drew).blk.keeps hSw HXA.out; try have y0 : W.cell? ⟨w.heap.size + 1, 0, none⟩ = some (.map (some w.heap.size)) := hgW.cell 0; try have gl := hgW.lt; try have hd := (HBX.out.drew.drew).keeps hSw HXB.out; try (obtain ⟨d0, d1, d2, d3, d4, d5, d6⟩ := cells7 hd); try have dl := hd.lt)
           go_simp; first | done | rfl)
        try simp only [Act.put, List.setIfInBounds_toArray, List.set_cons_zero, List.set_cons_succ]
        -- 4 Op.fieldAddr 60 (Operand.tmp 6) 0
        refine wpMono_take' 4 (v := ?_) rfl (by kernel_rfl) (by kernel_rfl) (by kernel_rfl) (fun _ _ _ h => h) (by rfl) ?_ ?_
        rotate_left
        · (intro W hSw; (try have hgW := ((I1.out.below (Below.refl _ _).drew).below (Below.refl _ _).drew).blk.keeps hSw HXA.out; try have y0 : W.cell? ⟨w.heap.size + 1, 0, none⟩ = some (.map (some w.heap.size)) := hgW.cell 0; try have gl := hgW.lt; try have hd := (HBX.out.drew.drew).keeps hSw HXB.out; try (obtain ⟨d0, d1, d2, d3, d4, d5, d6⟩ := cells7 hd); try have dl := hd.lt)
           go_simp; first | done | rfl)
        try simp only [Act.put, List.setIfInBounds_toArray, List.set_cons_zero, List.set_cons_succ]
        -- 5 Op.load 9 (Operand.tmp 33)
        refine wpMono_take' 5 (v := ?_) rfl (by kernel_rfl) (by kernel_rfl) (by kernel_rfl) (fun _ _ _ h => h) (by rfl) ?_ ?_
        rotate_left
        · (intro W hSw; (try have hgW := ((I1.out.below (Below.refl _ _).drew).below (Below.refl _ _).drew).blk.keeps hSw HXA.out; try have y0 : W.cell? ⟨w.heap.size + 1, 0, none⟩ = some (.map (some w.heap.size)) := hgW.cell 0; try have gl := hgW.lt; try have hd := (HBX.out.drew.drew).keeps hSw HXB.out; try (obtain ⟨d0, d1, d2, d3, d4, d5, d6⟩ := cells7 hd); try have dl := hd.lt)
           go_simp; first | done | rfl)
        try simp only [Act.put, List.setIfInBounds_toArray, List.set_cons_zero, List.set_cons_succ]
        -- 6 Op.fieldAddr 60 (Operand.tmp 6) 1
        refine wpMono_take' 6 (v := ?_) rfl (by kernel_rfl) (by kernel_rfl) (by kernel_rfl) (fun _ _ _ h => h) (by rfl) ?_ ?_
        rotate_left
        · (intro W hSw; (try have hgW := ((I1.out.below (Below.refl _ _).drew).below (Below.refl _ _).drew).blk.keeps hSw HXA.out; try have y0 : W.cell? ⟨w.heap.size + 1, 0, none⟩ = some (.map (some w.heap.size)) := hgW.cell 0; try have gl := hgW.lt; try have hd := (HBX.out.drew.drew).keeps hSw HXB.out; try (obtain ⟨d0, d1, d2, d3, d4, d5, d6⟩ := cells7 hd); try have dl := hd.lt)
           go_simp; first | done | rfl)
        try simp only [Act.put, List.setIfInBounds_toArray, List.set_cons_zero, List.set_cons_succ]
        -- 7 Op.load 9 (Operand.tmp 35)
        refine wpMono_take' 7 (v := ?_) rfl (by kernel_rfl) (by kernel_rfl) (by kernel_rfl) (fun _ _ _ h => h) (by rfl) ?_ ?_
        rotate_left
        · (intro W hSw; (try have hgW := ((I1.out.below (Below.refl _ _).drew).below (Below.refl _ _).drew).blk.keeps hSw HXA.out; try have y0 : W.cell? ⟨w.heap.size + 1, 0, none⟩ = some (.map (some w.heap.size)) := hgW.cell 0; try have gl := hgW.lt; try have hd := (HBX.out.drew.drew).keeps hSw HXB.out; try (obtain ⟨d0, d1, d2, d3, d4, d5, d6⟩ := cells7 hd); try have dl := hd.lt)
           go_simp; first | done | rfl)
        try simp only [Act.put, List.setIfInBounds_toArray, List.set_cons_zero, List.set_cons_succ]
        -- 8 Op.build 67 #[(0, Operand.tmp 34), (1, Operand.tmp 36)]
        refine wpMono_take' 8 (v := ?_) rfl (by kernel_rfl) (by kernel_rfl) (by kernel_rfl) (fun _ _ _ h => h) (by rfl) ?_ ?_
        rotate_left
        · (intro W hSw; (try have hgW := ((I1.out.below (Below.refl _ _).drew).below (Below.refl _ _).drew).blk.keeps hSw HXA.out; try have y0 : W.cell? ⟨w.heap.size + 1, 0, none⟩ = some (.map (some w.heap.size)) := hgW.cell 0; try have gl := hgW.lt; try have hd := (HBX.out.drew.drew).keeps hSw HXB.out; try (obtain ⟨d0, d1, d2, d3, d4, d5, d6⟩ := cells7 hd); try have dl := hd.lt)
           go_simp; first | done | rfl)
        try simp only [Act.put, List.setIfInBounds_toArray, List.set_cons_zero, List.set_cons_succ]
        -- 9 Op.fieldAddr 60 (Operand.tmp 6) 2
        refine wpMono_take' 9 (v := ?_) rfl (by kernel_rfl) (by kernel_rfl) (by kernel_rfl) (fun _ _ _ h => h) (by rfl) ?_ ?_
        rotate_left
        · (intro W hSw; (try have hgW := ((I1.out.below (Below.refl _ _).drew).below (Below.refl _ _).drew).blk.keeps hSw HXA.out; try have y0 : W.cell? ⟨w.heap.size + 1, 0, none⟩ = some (.map (some w.heap.size)) := hgW.cell 0; try have gl := hgW.lt; try have hd := (HBX.out.drew.drew).keeps hSw HXB.out; try (obtain ⟨d0, d1, d2, d3, d4, d5, d6⟩ := cells7 hd); try have dl := hd.lt)
           go_simp; first | done | rfl)
        try simp only [Act.put, List.setIfInBounds_toArray, List.set_cons_zero, List.set_cons_succ]
        -- 10 Op.load 58 (Operand.tmp 38)
        refine wpMono_take' 10 (v := ?_) rfl (by kernel_rfl) (by kernel_rfl) (by kernel_rfl) (fun _ _ _ h => h) (by rfl) ?_ ?_
        rotate_left
        · (intro W hSw; (try have hgW := ((I1.out.below (Below.refl _ _).drew).below (Below.refl _ _).drew).blk.keeps hSw HXA.out; try have y0 : W.cell? ⟨w.heap.size + 1, 0, none⟩ = some (.map (some w.heap.size)) := hgW.cell 0; try have gl := hgW.lt; try have hd := (HBX.out.drew.drew).keeps hSw HXB.out; try (obtain ⟨d0, d1, d2, d3, d4, d5, d6⟩ := cells7 hd); try have dl := hd.lt)
           go_simp; first | done | rfl)
        try simp only [Act.put, List.setIfInBounds_toArray, List.set_cons_zero, List.set_cons_succ]
        -- EFFECT 11 Op.mapUpdate 63 (Operand.tmp 32) (Operand.tmp 37) (Operand.tmp 39)
        refine wpMono_one' 11 (by kernel_rfl) rfl (by rfl) (fun K hK => ?_)
        have hu : (Instr.mapUpdate _ (.map (some w.heap.size)) (.agg #[.string x1, .string x2]) _).run _ _ = _ := HU.out
        go_simp
        refine hK.out _ _ ?_ ?_
        · exact HK7.out
        clear hK K
        try simp only [Act.put]
        refine wpMono_done (by kernel_rfl) ?_ _
        go_wp2
        go_roundw
        case rel => exact ⟨k + 1, by omega, by go_num, HS7.out, below_keeps (I2.out.drew.drew) (Nat.le_refl _) HK7.out (fun i hi e => by omega)⟩
        case measure => simp [intOf]; omega
      · have hd : decide (0 < k) = true := by simp; omega
        have hj1 : k - 1 < n := by omega
        have hc2 := row_at' HRX.out Hl.out hj1
        obtain ⟨y, hy⟩ : ∃ y, L.getD (k - 1) rZ = y := ⟨_, rfl⟩
        rw [hy] at hc2
        have HY := Lib.hid hy
        have HC2 := Lib.hid hc2
        obtain ⟨j, hj⟩ : ∃ j, k = j + 1 := ⟨k - 1, by omega⟩
        rw [show k - 1 = j by omega] at HC2 HY
        have hjx : (k : Int) - 1 = (j : Int) := by omega
        have Hj := Lib.hid hj
        clear hy hc2 hj hj1
        have hlast : L.getD k rZ = ((x1, x2), ⟨t, r, v, gn, l⟩) := HX.out
        cases hlt2 : ltN y.1 (x1, x2) with
        | true =>
          have hge := cmpN_ge y.1 (x1, x2)
          rw [hlt2] at hge
          have Hge := Lib.hid hge
          clear hge
          have Hall := Lib.hid (show ∀ p ∈ L.take k, ltN p.1 (x1, x2) = true from rising_last (x := ((x1, x2), ⟨t, r, v, gn, l⟩)) I1.out.up (by rw [List.length_take, Hl.out]; omega) (by
            rw [List.length_take, Hl.out, Nat.min_eq_left (by omega), List.getD_eq_getElem?_getD, List.getElem?_take, if_pos (by omega), ← List.getD_eq_getElem?_getD, Hj.out, Nat.add_sub_cancel, HY.out]; exact hlt2))
          clear hlt2 hlast
          have hbz : b < (wr.alloc (.cells #[.string x1, .string x2, .int .i64 t, .int .i64 r, .string v, .bool gn, .int .i64 l] 60)).drew.heap.size := by simp; omega
          have hj0 : (j : Int) < (n : Int) := by omega
          have hwj : IntKind.i64.wrap (j : Int) = (j : Int) := IntWalk.i64_in _ (by omega)
          go_wp2_with fail
          refine wp_region_mono nobody (by kernel_rfl) ?_
          -- 0 Op.move (Operand.tmp 5)
          refine wpMono_take' 0 (v := ?_) rfl (by kernel_rfl) (by kernel_rfl) (by kernel_rfl) (fun _ _ _ h => h) (by rfl) ?_ ?_
          rotate_left
          · (intro W hSw; skip
             go_simp; first | done | rfl)
          try simp only [Act.put, List.setIfInBounds_toArray, List.set_cons_zero, List.set_cons_succ]
          (try rw [hd])
          -- 1 Op.binOp BinOp.gtr 3 (Operand.tmp 15) (Operand.const (Value.int IntKind.i64 0)) 3
          refine wpMono_take' 1 (v := ?_) rfl (by kernel_rfl) (by kernel_rfl) (by kernel_rfl) (fun _ _ _ h => h) (by rfl) ?_ ?_
          rotate_left
          · (intro W hSw; skip
             go_simp; first | done | rfl)
          try simp only [Act.put, List.setIfInBounds_toArray, List.set_cons_zero, List.set_cons_succ]
          (try rw [hd])
          -- 2 Op.move (Operand.tmp 16)
          refine wpMono_take' 2 (v := ?_) rfl (by kernel_rfl) (by kernel_rfl) (by kernel_rfl) (fun _ _ _ h => h) (by rfl) ?_ ?_
          rotate_left
          · (intro W hSw; skip
             go_simp; first | done | rfl)
          try simp only [Act.put, List.setIfInBounds_toArray, List.set_cons_zero, List.set_cons_succ]
          (try rw [hd])
          -- 3 Op.move (Operand.tmp 0)
          refine wpMono_take' 3 (v := ?_) rfl (by kernel_rfl) (by kernel_rfl) (by kernel_rfl) (fun _ _ _ h => h) (by rfl) ?_ ?_
          rotate_left
          · (intro W hSw; skip
             go_simp; first | done | rfl)
          try simp only [Act.put, List.setIfInBounds_toArray, List.set_cons_zero, List.set_cons_succ]
          (try rw [hd])
          -- 4 Op.move (Operand.tmp 5)
          refine wpMono_take' 4 (v := ?_) rfl (by kernel_rfl) (by kernel_rfl) (by kernel_rfl) (fun _ _ _ h => h) (by rfl) ?_ ?_
          rotate_left
          · (intro W hSw; skip
             go_simp; first | done | rfl)
          try simp only [Act.put, List.setIfInBounds_toArray, List.set_cons_zero, List.set_cons_succ]
          (try rw [hd])
          -- 5 Op.binOp BinOp.sub 3 (Operand.tmp 19) (Operand.const (Value.int IntKind.i64 1)) 3
          refine wpMono_take' 5 (v := ?_) rfl (by kernel_rfl) (by kernel_rfl) (by kernel_rfl) (fun _ _ _ h => h) (by rfl) ?_ ?_
          rotate_left
          · (intro W hSw; skip
             go_simp; first | done | rfl)
          try simp only [Act.put, List.setIfInBounds_toArray, List.set_cons_zero, List.set_cons_succ]
          (try rw [hd])
          -- 6 Op.indexAddr 41 (Operand.tmp 18) (Operand.tmp 20)
          refine wpMono_take' 6 (v := ?_) rfl (by kernel_rfl) (by kernel_rfl) (by kernel_rfl) (fun _ _ _ h => h) (by rfl) ?_ ?_
          rotate_left
          · (intro W hSw; skip
             go_simp; first | done | rfl)
          try simp only [Act.put, List.setIfInBounds_toArray, List.set_cons_zero, List.set_cons_succ]
          (try rw [hd])
          -- 7 Op.load 60 (Operand.tmp 21)
          refine wpMono_take' 7 (v := ?_) rfl (by kernel_rfl) (by kernel_rfl) (by kernel_rfl) (fun _ _ _ h => h) (by rfl) ?_ ?_
          rotate_left
          · (intro W hSw; first | (((first | (refine exec_load 60 (.tmp 21) ?_ b (off + j * 7) (rcells y) ?_ Tryd.underlying60 rfl (by rw [rlen]; kernel_rfl) (fun q u hq => (hSw.cells b _ hbz).trans (HC2.out q u hq)) <;> rfl) | (refine exec_load 60 (.tmp 6) ?_ wr.heap.size 0 (rcells ((x1, x2), ⟨t, r, v, gn, l⟩)) ?_ Tryd.underlying60 rfl (by rw [rlen]; kernel_rfl) (fun q u hq => by rw [Nat.zero_add, (HBX.out.drew.keeps hSw (fun h => h)).cell q]; simpa [rcells] using hq) <;> rfl)))) | (skip; go_simp; done) | (skip; go_simp; rfl))
          try simp only [Act.put, List.setIfInBounds_toArray, List.set_cons_zero, List.set_cons_succ]
          (try rw [hd])
          -- 8 Op.load 60 (Operand.tmp 6)
          refine wpMono_take' 8 (v := ?_) rfl (by kernel_rfl) (by kernel_rfl) (by kernel_rfl) (fun _ _ _ h => h) (by rfl) ?_ ?_
          rotate_left
          · (intro W hSw; first | (((first | (refine exec_load 60 (.tmp 21) ?_ b (off + j * 7) (rcells y) ?_ Tryd.underlying60 rfl (by rw [rlen]; kernel_rfl) (fun q u hq => (hSw.cells b _ hbz).trans (HC2.out q u hq)) <;> rfl) | (refine exec_load 60 (.tmp 6) ?_ wr.heap.size 0 (rcells ((x1, x2), ⟨t, r, v, gn, l⟩)) ?_ Tryd.underlying60 rfl (by rw [rlen]; kernel_rfl) (fun q u hq => by rw [Nat.zero_add, (HBX.out.drew.keeps hSw (fun h => h)).cell q]; simpa [rcells] using hq) <;> rfl)))) | (skip; go_simp; done) | (skip; go_simp; rfl))
          try simp only [Act.put, List.setIfInBounds_toArray, List.set_cons_zero, List.set_cons_succ]
          (try rw [hd])
          -- EFFECT 9 Op.call { callee := Callee.value (Operand.func 17), args := #[Operand.tmp 22, Operand.tmp 23], argTypes := #[60, 60] }
          refine wpMono_one' 9 (by kernel_rfl) rfl (by rfl) (fun K hK => ?_)
          go_simp
          refine (compare_any y ((x1, x2), ⟨t, r, v, gn, l⟩) _).mono ?_
          rintro e w5 ⟨rfl, hg5⟩
          have HB5 := Lib.hid hg5.below
          clear hg5
          refine hK.out _ _ ?_ ?_
          · exact .of_below HB5.out
          clear hK K
          -- 10 Op.binOp BinOp.geq 3 (Operand.tmp 24) (Operand.const (Value.int IntKind.i64 0)) 3
          refine wpMono_take' 10 (v := ?_) rfl (by kernel_rfl) (by kernel_rfl) (by kernel_rfl) (fun _ _ _ h => h) (by rfl) ?_ ?_
          rotate_left
          · (intro W hSw; skip
             go_simp; first | done | rfl)
          try simp only [Act.put, List.setIfInBounds_toArray, List.set_cons_zero, List.set_cons_succ]
          (try rw [hd])
          -- 11 Op.pick (Operand.tmp 17) (Operand.tmp 25) (Operand.const (Value.bool false))
          refine wpMono_take' 11 (v := ?_) rfl (by kernel_rfl) (by kernel_rfl) (by kernel_rfl) (fun _ _ _ h => h) (by rfl) ?_ ?_
          rotate_left
          · (intro W hSw; skip
             go_simp; first | done | rfl)
          try simp only [Act.put, List.setIfInBounds_toArray, List.set_cons_zero, List.set_cons_succ]
          (try rw [hd])
          refine wpMono_done (by kernel_rfl) ?_ _
          clear hwj hjx
          have hb5 := below_ofDrew HB5.out
          have hge : decide (0 ≤ cmpN y.1 (x1, x2)) = false := Hge.out
          rw [hge]
          clear hge
          have HXB := Lib.hid (show ¬ wr.heap.size = w.heap.size by omega)
          have I15 := Lib.hid (I1.out.below hb5)
          have HBX5 := Lib.hid (HBX.out.below hb5 (by simp))
          have I25 := Lib.hid (below_step I2.out hb5)
          clear hb5
          have hput : putL (L.take k) (x1, x2) ⟨t, r, v, gn, l⟩ = L.take (k + 1) := by rw [Htk.out]; exact put_end Hall.out
          obtain ⟨w7, hu, hS7, hK7⟩ := ((I15.out.below (Below.refl _ _).drew)).put (x := (x1, x2)) Hokx.out ⟨t, r, v, gn, l⟩
          rw [hput] at hS7
          have HS7 := Lib.hid hS7
          have HK7 := Lib.hid hK7
          clear hS7 hK7 hput
          unfold cval nameV at hu
          dsimp only at hu
          have HU := Lib.hid hu
          clear hu
          have HXA := Lib.hid (show ¬ w.heap.size + 1 = w.heap.size by omega)
          go_wp2_with fail
          refine wp_region_mono (fun i => i = w.heap.size) (by kernel_rfl) ?_
          -- 0 Op.move (Operand.tmp 4)
          refine wpMono_take' 0 (v := ?_) rfl (by kernel_rfl) (by kernel_rfl) (by kernel_rfl) (fun _ _ _ h => h) (by rfl) ?_ ?_
          rotate_left
          · (intro W hSw; (try have hgW := ((I15.out.below (Below.refl _ _).drew)).blk.keeps hSw HXA.out; try have y0 : W.cell? ⟨w.heap.size + 1, 0, none⟩ = some (.map (some w.heap.size)) := hgW.cell 0; try have gl := hgW.lt; try have hd := (HBX5.out.drew).keeps hSw HXB.out; try (obtain ⟨d0, d1, d2, d3, d4, d5, d6⟩ := cells7 hd); try have dl := hd.lt)
             go_simp; first | done | rfl)
          try simp only [Act.put, List.setIfInBounds_toArray, List.set_cons_zero, List.set_cons_succ]
          -- 1 Op.nilCheck (Operand.tmp 29)
          refine wpMono_take' 1 (v := ?_) rfl (by kernel_rfl) (by kernel_rfl) (by kernel_rfl) (fun _ _ _ h => h) (by rfl) ?_ ?_
          rotate_left
          · (intro W hSw; (try have hgW := ((I15.out.below (Below.refl _ _).drew)).blk.keeps hSw HXA.out; try have y0 : W.cell? ⟨w.heap.size + 1, 0, none⟩ = some (.map (some w.heap.size)) := hgW.cell 0; try have gl := hgW.lt; try have hd := (HBX5.out.drew).keeps hSw HXB.out; try (obtain ⟨d0, d1, d2, d3, d4, d5, d6⟩ := cells7 hd); try have dl := hd.lt)
             go_simp; first | done | rfl)
          try simp only [Act.put, List.setIfInBounds_toArray, List.set_cons_zero, List.set_cons_succ]
          -- 2 Op.fieldAddr 65 (Operand.tmp 30) 0
          refine wpMono_take' 2 (v := ?_) rfl (by kernel_rfl) (by kernel_rfl) (by kernel_rfl) (fun _ _ _ h => h) (by rfl) ?_ ?_
          rotate_left
          · (intro W hSw; (try have hgW := ((I15.out.below (Below.refl _ _).drew)).blk.keeps hSw HXA.out; try have y0 : W.cell? ⟨w.heap.size + 1, 0, none⟩ = some (.map (some w.heap.size)) := hgW.cell 0; try have gl := hgW.lt; try have hd := (HBX5.out.drew).keeps hSw HXB.out; try (obtain ⟨d0, d1, d2, d3, d4, d5, d6⟩ := cells7 hd); try have dl := hd.lt)
             go_simp; first | done | rfl)
          try simp only [Act.put, List.setIfInBounds_toArray, List.set_cons_zero, List.set_cons_succ]
          -- 3 Op.load 63 (Operand.tmp 31)
          refine wpMono_take' 3 (v := ?_) rfl (by kernel_rfl) (by kernel_rfl) (by kernel_rfl) (fun _ _ _ h => h) (by rfl) ?_ ?_
          rotate_left
          · (intro W hSw; (try have hgW := ((I15.out.below (Below.refl _ _).drew)).blk.keeps hSw HXA.out; try have y0 : W.cell? ⟨w.heap.size + 1, 0, none⟩ = some (.map (some w.heap.size)) := hgW.cell 0; try have gl := hgW.lt; try have hd := (HBX5.out.drew).keeps hSw HXB.out; try (obtain ⟨d0, d1, d2, d3, d4, d5, d6⟩ := cells7 hd); try have dl := hd.lt)
             go_simp; first | done | rfl)
          try simp only [Act.put, List.setIfInBounds_toArray, List.set_cons_zero, List.set_cons_succ]
          -- 4 Op.fieldAddr 60 (Operand.tmp 6) 0
          refine wpMono_take' 4 (v := ?_) rfl (by kernel_rfl) (by kernel_rfl) (by kernel_rfl) (fun _ _ _ h => h) (by rfl) ?_ ?_
          rotate_left
          · (intro W hSw; (try have hgW := ((I15.out.below (Below.refl _ _).drew)).blk.keeps hSw HXA.out; try have y0 : W.cell? ⟨w.heap.size + 1, 0, none⟩ = some (.map (some w.heap.size)) := hgW.cell 0; try have gl := hgW.lt; try have hd := (HBX5.out.drew).keeps hSw HXB.out; try (obtain ⟨d0, d1, d2, d3, d4, d5, d6⟩ := cells7 hd); try have dl := hd.lt)
             go_simp; first | done | rfl)
          try simp only [Act.put, List.setIfInBounds_toArray, List.set_cons_zero, List.set_cons_succ]
          -- 5 Op.load 9 (Operand.tmp 33)
          refine wpMono_take' 5 (v := ?_) rfl (by kernel_rfl) (by kernel_rfl) (by kernel_rfl) (fun _ _ _ h => h) (by rfl) ?_ ?_
          rotate_left
          · (intro W hSw; (try have hgW := ((I15.out.below (Below.refl _ _).drew)).blk.keeps hSw HXA.out; try have y0 : W.cell? ⟨w.heap.size + 1, 0, none⟩ = some (.map (some w.heap.size)) := hgW.cell 0; try have gl := hgW.lt; try have hd := (HBX5.out.drew).keeps hSw HXB.out; try (obtain ⟨d0, d1, d2, d3, d4, d5, d6⟩ := cells7 hd); try have dl := hd.lt)
             go_simp; first | done | rfl)
          try simp only [Act.put, List.setIfInBounds_toArray, List.set_cons_zero, List.set_cons_succ]
          -- 6 Op.fieldAddr 60 (Operand.tmp 6) 1
          refine wpMono_take' 6 (v := ?_) rfl (by kernel_rfl) (by kernel_rfl) (by kernel_rfl) (fun _ _ _ h => h) (by rfl) ?_ ?_
          rotate_left
          · (intro W hSw; (try have hgW := ((I15.out.below (Below.refl _ _).drew)).blk.keeps hSw HXA.out; try have y0 : W.cell? ⟨w.heap.size + 1, 0, none⟩ = some (.map (some w.heap.size)) := hgW.cell 0; try have gl := hgW.lt; try have hd := (HBX5.out.drew).keeps hSw HXB.out; try (obtain ⟨d0, d1, d2, d3, d4, d5, d6⟩ := cells7 hd); try have dl := hd.lt)
             go_simp; first | done | rfl)
          try simp only [Act.put, List.setIfInBounds_toArray, List.set_cons_zero, List.set_cons_succ]
          -- 7 Op.load 9 (Operand.tmp 35)
          refine wpMono_take' 7 (v := ?_) rfl (by kernel_rfl) (by kernel_rfl) (by kernel_rfl) (fun _ _ _ h => h) (by rfl) ?_ ?_
          rotate_left
          · (intro W hSw; (try have hgW := ((I15.out.below (Below.refl _ _).drew)).blk.keeps hSw HXA.out; try have y0 : W.cell? ⟨w.heap.size + 1, 0, none⟩ = some (.map (some w.heap.size)) := hgW.cell 0; try have gl := hgW.lt; try have hd := (HBX5.out.drew).keeps hSw HXB.out; try (obtain ⟨d0, d1, d2, d3, d4, d5, d6⟩ := cells7 hd); try have dl := hd.lt)
             go_simp; first | done | rfl)
          try simp only [Act.put, List.setIfInBounds_toArray, List.set_cons_zero, List.set_cons_succ]
          -- 8 Op.build 67 #[(0, Operand.tmp 34), (1, Operand.tmp 36)]
          refine wpMono_take' 8 (v := ?_) rfl (by kernel_rfl) (by kernel_rfl) (by kernel_rfl) (fun _ _ _ h => h) (by rfl) ?_ ?_
          rotate_left
          · (intro W hSw; (try have hgW := ((I15.out.below (Below.refl _ _).drew)).blk.keeps hSw HXA.out; try have y0 : W.cell? ⟨w.heap.size + 1, 0, none⟩ = some (.map (some w.heap.size)) := hgW.cell 0; try have gl := hgW.lt; try have hd := (HBX5.out.drew).keeps hSw HXB.out; try (obtain ⟨d0, d1, d2, d3, d4, d5, d6⟩ := cells7 hd); try have dl := hd.lt)
             go_simp; first | done | rfl)
          try simp only [Act.put, List.setIfInBounds_toArray, List.set_cons_zero, List.set_cons_succ]
          -- 9 Op.fieldAddr 60 (Operand.tmp 6) 2
          refine wpMono_take' 9 (v := ?_) rfl (by kernel_rfl) (by kernel_rfl) (by kernel_rfl) (fun _ _ _ h => h) (by rfl) ?_ ?_
          rotate_left
          · (intro W hSw; (try have hgW := ((I15.out.below (Below.refl _ _).drew)).blk.keeps hSw HXA.out; try have y0 : W.cell? ⟨w.heap.size + 1, 0, none⟩ = some (.map (some w.heap.size)) := hgW.cell 0; try have gl := hgW.lt; try have hd := (HBX5.out.drew).keeps hSw HXB.out; try (obtain ⟨d0, d1, d2, d3, d4, d5, d6⟩ := cells7 hd); try have dl := hd.lt)
             go_simp; first | done | rfl)
          try simp only [Act.put, List.setIfInBounds_toArray, List.set_cons_zero, List.set_cons_succ]
          -- 10 Op.load 58 (Operand.tmp 38)
          refine wpMono_take' 10 (v := ?_) rfl (by kernel_rfl) (by kernel_rfl) (by kernel_rfl) (fun _ _ _ h => h) (by rfl) ?_ ?_
          rotate_left
          · (intro W hSw; (try have hgW := ((I15.out.below (Below.refl _ _).drew)).blk.keeps hSw HXA.out; try have y0 : W.cell? ⟨w.heap.size + 1, 0, none⟩ = some (.map (some w.heap.size)) := hgW.cell 0; try have gl := hgW.lt; try have hd := (HBX5.out.drew).keeps hSw HXB.out; try (obtain ⟨d0, d1, d2, d3, d4, d5, d6⟩ := cells7 hd); try have dl := hd.lt)
             go_simp; first | done | rfl)
          try simp only [Act.put, List.setIfInBounds_toArray, List.set_cons_zero, List.set_cons_succ]
          -- EFFECT 11 Op.mapUpdate 63 (Operand.tmp 32) (Operand.tmp 37) (Operand.tmp 39)
          refine wpMono_one' 11 (by kernel_rfl) rfl (by rfl) (fun K hK => ?_)
          have hu : (Instr.mapUpdate _ (.map (some w.heap.size)) (.agg #[.string x1, .string x2]) _).run _ _ = _ := HU.out
          go_simp
          refine hK.out _ _ ?_ ?_
          · exact HK7.out
          clear hK K
          try simp only [Act.put]
          refine wpMono_done (by kernel_rfl) ?_ _
          go_wp2
          go_roundw
          case rel => exact ⟨k + 1, by omega, by go_num, HS7.out, below_keeps (I25.out.drew) (Nat.le_refl _) HK7.out (fun i hi e => by omega)⟩
          case measure => simp [intOf]; omega
        | false =>
          have hge := cmpN_ge y.1 (x1, x2)
          rw [hlt2] at hge
          have Hge := Lib.hid hge
          clear hge
          have Hw := Lib.hid (show wrongAt L k from ⟨by omega, by rw [Hl.out]; exact hlt, by rw [hlast, Hj.out, Nat.add_sub_cancel, HY.out]; exact hlt2⟩)
          clear hlt2 hlast
          have hbz : b < (wr.alloc (.cells #[.string x1, .string x2, .int .i64 t, .int .i64 r, .string v, .bool gn, .int .i64 l] 60)).drew.heap.size := by simp; omega
          have hj0 : (j : Int) < (n : Int) := by omega
          have hwj : IntKind.i64.wrap (j : Int) = (j : Int) := IntWalk.i64_in _ (by omega)
          go_wp2_with fail
          refine wp_region_mono nobody (by kernel_rfl) ?_
          -- 0 Op.move (Operand.tmp 5)
          refine wpMono_take' 0 (v := ?_) rfl (by kernel_rfl) (by kernel_rfl) (by kernel_rfl) (fun _ _ _ h => h) (by rfl) ?_ ?_
          rotate_left
          · (intro W hSw; skip
             go_simp; first | done | rfl)
          try simp only [Act.put, List.setIfInBounds_toArray, List.set_cons_zero, List.set_cons_succ]
          (try rw [hd])
          -- 1 Op.binOp BinOp.gtr 3 (Operand.tmp 15) (Operand.const (Value.int IntKind.i64 0)) 3
          refine wpMono_take' 1 (v := ?_) rfl (by kernel_rfl) (by kernel_rfl) (by kernel_rfl) (fun _ _ _ h => h) (by rfl) ?_ ?_
          rotate_left
          · (intro W hSw; skip
             go_simp; first | done | rfl)
          try simp only [Act.put, List.setIfInBounds_toArray, List.set_cons_zero, List.set_cons_succ]
          (try rw [hd])
          -- 2 Op.move (Operand.tmp 16)
          refine wpMono_take' 2 (v := ?_) rfl (by kernel_rfl) (by kernel_rfl) (by kernel_rfl) (fun _ _ _ h => h) (by rfl) ?_ ?_
          rotate_left
          · (intro W hSw; skip
             go_simp; first | done | rfl)
          try simp only [Act.put, List.setIfInBounds_toArray, List.set_cons_zero, List.set_cons_succ]
          (try rw [hd])
          -- 3 Op.move (Operand.tmp 0)
          refine wpMono_take' 3 (v := ?_) rfl (by kernel_rfl) (by kernel_rfl) (by kernel_rfl) (fun _ _ _ h => h) (by rfl) ?_ ?_
          rotate_left
          · (intro W hSw; skip
             go_simp; first | done | rfl)
          try simp only [Act.put, List.setIfInBounds_toArray, List.set_cons_zero, List.set_cons_succ]
          (try rw [hd])
          -- 4 Op.move (Operand.tmp 5)
          refine wpMono_take' 4 (v := ?_) rfl (by kernel_rfl) (by kernel_rfl) (by kernel_rfl) (fun _ _ _ h => h) (by rfl) ?_ ?_
          rotate_left
          · (intro W hSw; skip
             go_simp; first | done | rfl)
          try simp only [Act.put, List.setIfInBounds_toArray, List.set_cons_zero, List.set_cons_succ]
          (try rw [hd])
          -- 5 Op.binOp BinOp.sub 3 (Operand.tmp 19) (Operand.const (Value.int IntKind.i64 1)) 3
          refine wpMono_take' 5 (v := ?_) rfl (by kernel_rfl) (by kernel_rfl) (by kernel_rfl) (fun _ _ _ h => h) (by rfl) ?_ ?_
          rotate_left
          · (intro W hSw; skip
             go_simp; first | done | rfl)
          try simp only [Act.put, List.setIfInBounds_toArray, List.set_cons_zero, List.set_cons_succ]
          (try rw [hd])
          -- 6 Op.indexAddr 41 (Operand.tmp 18) (Operand.tmp 20)
          refine wpMono_take' 6 (v := ?_) rfl (by kernel_rfl) (by kernel_rfl) (by kernel_rfl) (fun _ _ _ h => h) (by rfl) ?_ ?_
          rotate_left
          · (intro W hSw; skip
             go_simp; first | done | rfl)
          try simp only [Act.put, List.setIfInBounds_toArray, List.set_cons_zero, List.set_cons_succ]
          (try rw [hd])
          -- 7 Op.load 60 (Operand.tmp 21)
          refine wpMono_take' 7 (v := ?_) rfl (by kernel_rfl) (by kernel_rfl) (by kernel_rfl) (fun _ _ _ h => h) (by rfl) ?_ ?_
          rotate_left
          · (intro W hSw; first | (((first | (refine exec_load 60 (.tmp 21) ?_ b (off + j * 7) (rcells y) ?_ Tryd.underlying60 rfl (by rw [rlen]; kernel_rfl) (fun q u hq => (hSw.cells b _ hbz).trans (HC2.out q u hq)) <;> rfl) | (refine exec_load 60 (.tmp 6) ?_ wr.heap.size 0 (rcells ((x1, x2), ⟨t, r, v, gn, l⟩)) ?_ Tryd.underlying60 rfl (by rw [rlen]; kernel_rfl) (fun q u hq => by rw [Nat.zero_add, (HBX.out.drew.keeps hSw (fun h => h)).cell q]; simpa [rcells] using hq) <;> rfl)))) | (skip; go_simp; done) | (skip; go_simp; rfl))
          try simp only [Act.put, List.setIfInBounds_toArray, List.set_cons_zero, List.set_cons_succ]
          (try rw [hd])
          -- 8 Op.load 60 (Operand.tmp 6)
          refine wpMono_take' 8 (v := ?_) rfl (by kernel_rfl) (by kernel_rfl) (by kernel_rfl) (fun _ _ _ h => h) (by rfl) ?_ ?_
          rotate_left
          · (intro W hSw; first | (((first | (refine exec_load 60 (.tmp 21) ?_ b (off + j * 7) (rcells y) ?_ Tryd.underlying60 rfl (by rw [rlen]; kernel_rfl) (fun q u hq => (hSw.cells b _ hbz).trans (HC2.out q u hq)) <;> rfl) | (refine exec_load 60 (.tmp 6) ?_ wr.heap.size 0 (rcells ((x1, x2), ⟨t, r, v, gn, l⟩)) ?_ Tryd.underlying60 rfl (by rw [rlen]; kernel_rfl) (fun q u hq => by rw [Nat.zero_add, (HBX.out.drew.keeps hSw (fun h => h)).cell q]; simpa [rcells] using hq) <;> rfl)))) | (skip; go_simp; done) | (skip; go_simp; rfl))
          try simp only [Act.put, List.setIfInBounds_toArray, List.set_cons_zero, List.set_cons_succ]
          (try rw [hd])
          -- EFFECT 9 Op.call { callee := Callee.value (Operand.func 17), args := #[Operand.tmp 22, Operand.tmp 23], argTypes := #[60, 60] }
          refine wpMono_one' 9 (by kernel_rfl) rfl (by rfl) (fun K hK => ?_)
          go_simp
          refine (compare_any y ((x1, x2), ⟨t, r, v, gn, l⟩) _).mono ?_
          rintro e w5 ⟨rfl, hg5⟩
          have HB5 := Lib.hid hg5.below
          clear hg5
          refine hK.out _ _ ?_ ?_
          · exact .of_below HB5.out
          clear hK K
          -- 10 Op.binOp BinOp.geq 3 (Operand.tmp 24) (Operand.const (Value.int IntKind.i64 0)) 3
          refine wpMono_take' 10 (v := ?_) rfl (by kernel_rfl) (by kernel_rfl) (by kernel_rfl) (fun _ _ _ h => h) (by rfl) ?_ ?_
          rotate_left
          · (intro W hSw; skip
             go_simp; first | done | rfl)
          try simp only [Act.put, List.setIfInBounds_toArray, List.set_cons_zero, List.set_cons_succ]
          (try rw [hd])
          -- 11 Op.pick (Operand.tmp 17) (Operand.tmp 25) (Operand.const (Value.bool false))
          refine wpMono_take' 11 (v := ?_) rfl (by kernel_rfl) (by kernel_rfl) (by kernel_rfl) (fun _ _ _ h => h) (by rfl) ?_ ?_
          rotate_left
          · (intro W hSw; skip
             go_simp; first | done | rfl)
          try simp only [Act.put, List.setIfInBounds_toArray, List.set_cons_zero, List.set_cons_succ]
          (try rw [hd])
          refine wpMono_done (by kernel_rfl) ?_ _
          clear hwj hjx
          have hb5 := below_ofDrew HB5.out
          have hge : decide (0 ≤ cmpN y.1 (x1, x2)) = true := Hge.out
          rw [hge]
          clear hge
          have I25 := Lib.hid (below_step I2.out hb5)
          have hup := Lib.hid I1.out.up
          clear hb5
          go_wp2_with fail
          refine (bad_whole k 1 _).mono ?_
          rintro e w6 ⟨ve, rfl, he, hb6⟩
          obtain ⟨ge, rfl, hE⟩ := he
          have HR := Lib.hid (show OfR L w (.returned (.tuple #[.pointer none, .iface 69 (.pointer (some ⟨ge, 0, none⟩))])) w6 from .inr ⟨k, _, Hw.out, hup.out, rfl, ⟨ge, rfl, hE⟩, below_step I25.out hb6⟩)
          clear hE hb6
          go_wp2
          go_ret2
          exact HR.out
    · obtain rfl : n = k := by omega
      rw [List.take_of_length_le (by rw [Hl.out]; omega)] at i1
      have HR := Lib.hid (show OfR L w (.returned (.tuple #[.pointer (some ⟨(w.heap.size + 1), 0, none⟩), .nilIface])) wr from .inl ⟨i1.up, _, _, rfl, i1, by omega, by omega, i2⟩)
      clear i1 i2
      go_wp2
      go_ret2
      exact HR.out
end Go.Proofs.YtgfamdakjcjdkaaDoor.store
