/- Arguments and written-out lists of vectors; the walks of awake and great. -/
import Derived.Test.YtfpknghbjniepaaAll
namespace Go.Proofs.Ytfpknghbjniepaa.lit
open Go.RowKit Go.Proofs.Ytfpknghbjniepaa.base Go.Proofs.Ytfpknghbjniepaa.vec Go.Proofs.Ytfpknghbjniepaa.ref Go.Proofs.Ytfpknghbjniepaa.made Go.Proofs.Ytfpknghbjniepaa.all_

theorem Vec.blk {w : World} {g B : Nat} {zs : List Int} {cs : Array Value} (h : Blk w g 3 cs) (hc : cs = (enc zs).toArray) (hl : zs.length ≤ maxLen) (hB : g < B) : Vec w B (some ⟨g, 0, none⟩) zs.length zs.length zs := by
  subst hc
  refine ⟨rfl, Nat.le_refl _, hl, ⟨by simp [enc], fun _ => ⟨g, 0, rfl, hB, fun j hj => ?_⟩⟩, fun e => by cases e⟩
  rw [h.cell]; simp
theorem Vecs.blk {w : World} {g B : Nat} {t : TypeId} {l : List V} {cs : Array Value} (h : Blk w g t cs) (hc : cs = (l.map V.val).toArray) (hl : l.length ≤ maxLen) (hB : g < B) (hv : ∀ v ∈ l, Vec w B v.A v.len v.cap v.zs ∧ v.len ≤ 1000000) : Vecs w B (some ⟨g, 0, none⟩) l.length l.length l := by
  subst hc
  refine ⟨rfl, Nat.le_refl _, hl, ⟨by simp, fun _ => ⟨g, 0, rfl, hB, fun j hj => ?_⟩⟩, hv, fun e => by cases e⟩
  rw [h.cell]; simp
/-- The same without a bound on the vectors' lengths. -/
def Vecs0 (w : World) (B : Nat) (A : Option Addr) (n cap : Nat) (l : List V) : Prop :=
  l.length = n ∧ n ≤ cap ∧ cap ≤ maxLen ∧ Reads w B 1 A n (l.map V.val) ∧ (∀ v ∈ l, Vec w B v.A v.len v.cap v.zs) ∧ (A = none → n = 0 ∧ cap = 0)
section
variable {w w' : World} {B n cap : Nat} {A : Option Addr} {l : List V}
theorem Vecs0.vecs (h : Vecs0 w B A n cap l) (hl : ∀ v ∈ l, v.len ≤ 100) : Vecs w B A n cap l :=
  ⟨h.1, h.2.1, h.2.2.1, h.2.2.2.1, fun v hv => ⟨h.2.2.2.2.1 v hv, Nat.le_trans (hl v hv) (by omega)⟩, h.2.2.2.2.2⟩
theorem Vecs0.blk {g : Nat} {t : TypeId} {cs : Array Value} (h : Blk w g t cs) (hc : cs = (l.map V.val).toArray) (hl : l.length ≤ maxLen) (hB : g < B) (hv : ∀ v ∈ l, Vec w B v.A v.len v.cap v.zs) : Vecs0 w B (some ⟨g, 0, none⟩) l.length l.length l := by
  subst hc
  refine ⟨rfl, Nat.le_refl _, hl, ⟨by simp, fun _ => ⟨g, 0, rfl, hB, fun j hj => ?_⟩⟩, hv, fun e => by cases e⟩
  rw [h.cell]; simp
theorem Vecs0.cell {b off k : Nat} (h : Vecs0 w B (some ⟨b, off, none⟩) n cap l) (hk : k < n) : ∃ v, l[k]? = some v ∧ w.cell? ⟨b, off + k, none⟩ = some (.slice v.A v.len v.cap) := by
  obtain ⟨h1, _, _, h4, h5, _⟩ := h
  obtain ⟨b', off', e, _, hc⟩ := h4.2 (by omega)
  injection e with e; injection e with e1 e2 _
  subst e1 e2
  have hkl : k < l.length := by omega
  refine ⟨l[k], List.getElem?_eq_getElem hkl, ?_⟩
  rw [hc k (by simpa using hkl), List.getElem?_map, List.getElem?_eq_getElem hkl]
  rfl
end
def greatB (l : List V) : Bool := decide (20 < l.length) || l.any fun v => decide (100 < v.len)
theorem greatB_false {l : List V} (h : greatB l = false) : l.length ≤ 20 ∧ ∀ v ∈ l, v.len ≤ 100 := by
  unfold greatB at h
  rw [Bool.or_eq_false_iff] at h
  refine ⟨by simpa using h.1, fun v hv => ?_⟩
  have := List.any_eq_false.1 h.2 v hv
  simpa using this
set_option maxHeartbeats 800000 in
theorem great_any (A : Option Addr) (n cap : Nat) (l : List V) (w : World) (B : Nat) (h : Vecs0 w B A n cap l) :
    Calls Try.prog 9 #[.slice A n cap] w fun e w' => e = .returned (.bool (greatB l)) ∧ w = w' := by
  have hln := h.1
  have hnc := h.2.1
  have hcm := h.2.2.1
  unfold maxLen at hcm
  have H := Lib.hid h; clear h
  by_cases hgt : 20 < n
  · have hg : greatB l = true := by unfold greatB; simp [hln, hgt]
    rw [hg]; clear hg hln
    have hd : decide ((20 : Int) < n) = true := by simp; omega
    go_enter Try.func9, Try.ntmps9
    go_wp2
    go_ret
    exact ⟨rfl, rfl⟩
  · have hg : greatB l = l.any fun v => decide (100 < v.len) := by unfold greatB; simp [hln, hgt]
    have Hln := Lib.hid hln; clear hln
    rw [hg]; clear hg
    generalize hG : (l.any fun v => decide (100 < v.len)) = G
    have HG := Lib.hid hG; clear hG
    go_enter Try.func9, Try.ntmps9
    go_wp2
    go_loop [3, 9] (fun _ i => ∃ k : Nat, k ≤ n ∧ i = .int .i64 k ∧ ((l.take k).any fun v => decide (100 < v.len)) = false) (fun _ i => n - (intOf i).toNat)
    case atStart => exact ⟨0, by omega, rfl, rfl⟩
    case round =>
      obtain ⟨k, hk, rfl, hf⟩ := hrel
      by_cases hlt : k < n
      · obtain ⟨b, off, e, hb, hc⟩ := H.out.2.2.2.1.2 (by omega)
        subst e
        clear hc
        obtain ⟨v, hv, hcell⟩ := H.out.cell hlt
        obtain ⟨hkl, hve⟩ := List.getElem?_eq_some_iff.1 hv
        have hst : ((l.take (k + 1)).any fun v => decide (100 < v.len)) = decide (100 < v.len) := by
          rw [List.take_succ_eq_append_getElem hkl, List.any_append, hf, hve]; simp
        have hal : 100 < v.len → G = true := by
          intro h; rw [← HG.out]; exact List.any_eq_true.2 ⟨v, List.mem_of_getElem? hv, by simpa using h⟩
        clear hv hve hf
        obtain ⟨vA, vlen, vcap, vzs⟩ := v
        dsimp only at hcell hst hal
        have Hst := Lib.hid hst; clear hst
        by_cases h100 : 100 < vlen
        · have Hal := Lib.hid (hal h100); clear hal
          go_wp2
          go_ret
          exact ⟨ret_bool Hal.out.symm, rfl⟩
        · clear hal
          go_wp2
          go_round
          case rel => exact ⟨k + 1, by omega, by go_num, by rw [Hst.out]; simpa using h100⟩
          case measure => simp [intOf]; omega
      · have hF : G = false := by rw [← HG.out, ← hf, List.take_of_length_le (by rw [Hln.out]; omega)]
        have HF := Lib.hid hF; clear hF hf
        go_wp2
        go_ret
        exact ⟨ret_bool HF.out.symm, rfl⟩
theorem vec_arg {w : World} {v : Value} (h : Arg Try.prog w 22 v) : ∃ A len cap zs, v = .slice A len cap ∧ Vec w w.heap.size A len cap zs := by
  obtain ⟨A, len, cap, zs, h1, h2, h3, h4, _, h5, h6⟩ := h.ints Try.underlying22 Try.underlying3 (by kernel_rfl)
  exact ⟨A, len, cap, zs, h1, h4, h2, h3, h5, h6⟩
theorem vecs_arg {w : World} {v : Value} (h : Arg Try.prog w 25 v) : ∃ A n cap l, v = .slice A n cap ∧ Vecs0 w w.heap.size A n cap l := by
  have hC : Try.prog.cellsOf 22 = 1 := by kernel_rfl
  obtain ⟨A, len, cap, rows, rfl, hl, hm, hlen, hr, hreads, hnil⟩ := h.rows Try.underlying25 (by rw [hC]; omega)
  rw [hC] at hreads
  have hreads := hreads.take (fun r h => by rw [(hr r h).1, hC]) hlen hl
  have : ∀ l : List (List Value), (∀ r ∈ l, r.length = Try.prog.cellsOf 22 ∧ Sees Try.prog w 22 r) → ∃ vs : List V, vs.length = l.length ∧ l.flatten = vs.map V.val ∧ ∀ v ∈ vs, Vec w w.heap.size v.A v.len v.cap v.zs := by
    intro l
    induction l with
    | nil => intro _; exact ⟨[], rfl, rfl, by simp⟩
    | cons a l ih =>
      intro hh
      obtain ⟨vs, h1, h2, h3⟩ := ih (fun r hr => hh r (by simp [hr]))
      have hs := (hh a (by simp)).2.slice Try.underlying22
      have hs' : ∃ v, a = [v] ∧ (v = .slice none 0 0 ∨ ∃ (a : Addr) (len cap : Nat), v = .slice (some a) len cap ∧ len ≤ cap ∧ cap ≤ maxLen ∧ ∀ i, i < cap → ∃ es, w.cells? 0 (a.add (i * Try.prog.cellsOf 3)) (Try.prog.cellsOf 3) = some es ∧ Sees Try.prog w 3 es) := by
        rcases hs with rfl | ⟨a', len', cap', rfl, h⟩
        · exact ⟨_, rfl, .inl rfl⟩
        · exact ⟨_, rfl, .inr ⟨a', len', cap', rfl, h⟩⟩
      obtain ⟨v, rfl, hv⟩ := hs'
      obtain ⟨A', len', cap', zs, rfl, g2, g3, g4, _, g5, g6⟩ := ints_of Try.underlying3 (by kernel_rfl) hv
      exact ⟨⟨A', len', cap', zs⟩ :: vs, by simp [h1], by simp [h2, V.val], fun u hu => by
        rcases List.mem_cons.1 hu with rfl | hu
        · exact ⟨g4, g2, g3, g5, g6⟩
        · exact h3 u hu⟩
  obtain ⟨vs, h1, h2, h3⟩ := this _ (fun r h => hr r (List.mem_of_mem_take h))
  rw [h2] at hreads
  exact ⟨A, len, cap, vs, rfl, by rw [h1, List.length_take]; omega, hl, hm, hreads, h3, hnil⟩
theorem vec_alloc {w : World} {B len cap : Nat} {A : Option Addr} {zs : List Int} (h : Vec w B A len cap zs) (hB : B ≤ w.heap.size) (o : Obj) : Vec (w.alloc o) B A len cap zs := h.below ((Below.refl _ _).alloc hB o)
theorem vec_lit (w : World) {g : Nat} (zs : List Int) (hg : g = w.heap.size) (hl : zs.length ≤ 1000) : Vec (w.alloc (.cells (enc zs).toArray 3)) (w.heap.size + 1) (some ⟨g, 0, none⟩) zs.length zs.length zs := by
  subst hg; exact Vec.blk (Blk.new w 3 _) rfl (by unfold maxLen; omega) (by omega)
theorem vecs_lit (w : World) {g : Nat} (t : TypeId) (l : List V) (hg : g = w.heap.size) (hl : l.length ≤ 1000) (hv : ∀ v ∈ l, Vec w w.heap.size v.A v.len v.cap v.zs ∧ v.len ≤ 1000000) : Vecs (w.alloc (.cells (l.map V.val).toArray t)) (w.alloc (.cells (l.map V.val).toArray t)).heap.size (some ⟨g, 0, none⟩) l.length l.length l := by
  subst hg; exact Vecs.blk (Blk.new w t _) rfl (by unfold maxLen; omega) (by simp) fun v h => ⟨(vec_alloc (hv v h).1 (Nat.le_refl _) _).more (by simp), (hv v h).2⟩
theorem vecs0_lit (w : World) {g : Nat} (t : TypeId) (l : List V) (hg : g = w.heap.size) (hl : l.length ≤ 1000) (hv : ∀ v ∈ l, Vec w w.heap.size v.A v.len v.cap v.zs) : Vecs0 (w.alloc (.cells (l.map V.val).toArray t)) (w.alloc (.cells (l.map V.val).toArray t)).heap.size (some ⟨g, 0, none⟩) l.length l.length l := by
  subst hg; exact Vecs0.blk (Blk.new w t _) rfl (by unfold maxLen; omega) (by simp) fun v h => (vec_alloc (hv v h) (Nat.le_refl _) _).more (by simp)
set_option maxHeartbeats 1600000 in
theorem awake_any (w : World) : Calls Try.prog 8 #[] w fun e w' => e = .returned (.bool true) ∧ Below w.heap.size w w' := by
  have h1 := vec_alloc (vec_lit w [1, 0, 2] rfl (by decide)) (by simp) (.cells (enc [0, 5]).toArray 3)
  have h2 := vec_lit (w.alloc (.cells (enc [1, 0, 2]).toArray 3)) (g := w.heap.size + 1) [0, 5] (by simp) (by decide)
  have h3 := vecs_lit ((w.alloc (.cells (enc [1, 0, 2]).toArray 3)).alloc (.cells (enc [0, 5]).toArray 3)) (g := w.heap.size + 1 + 1) 32 [⟨some ⟨w.heap.size, 0, none⟩, 3, 3, [1, 0, 2]⟩, ⟨some ⟨w.heap.size + 1, 0, none⟩, 2, 2, [0, 5]⟩] (by simp) (by simp) (by
    intro v hv
    simp only [List.mem_cons, List.not_mem_nil, or_false] at hv
    rcases hv with rfl | rfl
    · exact ⟨h1.more (by simp), by simp⟩
    · exact ⟨h2.more (by simp), by simp⟩)
  have H3 := Lib.hid h3; clear h3 h1 h2
  have hj : joinV opMax [⟨some ⟨w.heap.size, 0, none⟩, 3, 3, [1, 0, 2]⟩, ⟨some ⟨w.heap.size + 1, 0, none⟩, 2, 2, [0, 5]⟩] = [1, 5, 2] := rfl
  have Hj := Lib.hid hj; clear hj
  go_enter Try.func8, Try.ntmps8
  go_wp2_with fail
  refine (join_any _ 2 2 _ _ H3.out (by omega)).mono ?_
  rintro e w1 ⟨v, rfl, hown, hbw⟩
  rw [Hj.out] at hown
  obtain ⟨g, cap, rfl, hbg, hgl⟩ := hown.form (by decide)
  have e0 : w1.cell? ⟨g, 0, none⟩ = some (.int .i64 1) := hown.cells (g := g) rfl 0 _ rfl
  have e1 : w1.cell? ⟨g, 1, none⟩ = some (.int .i64 5) := hown.cells (g := g) rfl 1 _ rfl
  have e2 : w1.cell? ⟨g, 2, none⟩ = some (.int .i64 2) := hown.cells (g := g) rfl 2 _ rfl
  obtain ⟨A', c', e', hv'⟩ := Vec.of_own hown
  injection e' with e' _ e''
  subst e''
  have hc3 := hv'.2.1
  simp only [List.length_cons, List.length_nil] at hc3
  clear e' hv'
  have hbw' := hbw.size
  simp only [World.size_alloc] at hbw'
  have Hbw := Lib.hid hbw; clear hbw hown
  have h4 := vec_alloc (vec_lit w1 [1] rfl (by decide)) (by simp) (.cells (enc [0, 1]).toArray 3)
  have h5 := vec_lit (w1.alloc (.cells (enc [1]).toArray 3)) (g := w1.heap.size + 1) [0, 1] (by simp) (by decide)
  have H4 := Lib.hid (h4.more (B' := w1.heap.size + 2) (by omega)); clear h4
  have H5 := Lib.hid (h5.more (B' := w1.heap.size + 2) (by simp)); clear h5
  go_wp2_with fail
  refine (rel_any _ 1 1 [1] _ 2 2 [0, 1] _ _ H4.out H5.out (by omega) (by omega)).mono ?_
  rintro e w1 ⟨rfl, rfl⟩
  have hrel : relI [1] [0, 1] = 2 := by decide
  rw [hrel]
  clear hrel
  go_wp2
  go_ret
  exact ⟨rfl, ((((Below.refl _ _).alloc (by simp) _).alloc (by simp) _).alloc (by simp <;> omega) _ |>.trans (Hbw.out.mono (by simp <;> omega)) |>.alloc (by omega) _).alloc (by simp <;> omega) _⟩
end Go.Proofs.Ytfpknghbjniepaa.lit
