/- The document's Waits: by region, then number. -/
import Derived.Test.YtedkcpncomgboaaNewRf
namespace Go.Proofs.Ytedkcpncomgboaa.dep
open Go Go.RowKit Go.Proofs.Ytedkcpncomgboaa.base Go.Proofs.Ytedkcpncomgboaa.rowe Go.Proofs.Ytedkcpncomgboaa.wire Go.Proofs.Ytedkcpncomgboaa.vec Go.Proofs.Ytedkcpncomgboaa.cmp Go.Proofs.Ytedkcpncomgboaa.with_ Go.Proofs.Ytedkcpncomgboaa.monoj

/-- the next of a region: its number, of the first k -/
def nxB (r last : Int) (x : Wr) : Bool := decide (x.r = r) && decide (last < x.n)
def Nxt (r last : Int) (l : List Wr) (k : Nat) (z : Int) : Prop :=
  (z = -1 ∧ ∀ j, j < k → nxB r last (l.getD j wrZ) = false) ∨ (∃ q : Nat, q < k ∧ z = q ∧ nxB r last (l.getD q wrZ) = true ∧ ∀ j, j < k → nxB r last (l.getD j wrZ) = true → (l.getD q wrZ).n ≤ (l.getD j wrZ).n)
section
variable {r last : Int} {l : List Wr} {k : Nat} {z : Int}
theorem Nxt.zero : Nxt r last l 0 (-1) := .inl ⟨rfl, fun j hj => absurd hj (by omega)⟩
theorem Nxt.pass (h : Nxt r last l k z) (hr : nxB r last (l.getD k wrZ) = false) : Nxt r last l (k + 1) z := by
  rcases h with ⟨e, h⟩ | ⟨q, hq, e, h1, h2⟩
  · exact .inl ⟨e, fun j hj => by rcases Nat.lt_or_ge j k with hlt | hge; exact h j hlt; rwa [show j = k by omega]⟩
  · exact .inr ⟨q, by omega, e, h1, fun j hj hrj => by rcases Nat.lt_or_ge j k with hlt | hge; exact h2 j hlt hrj; rw [show j = k by omega, hr] at hrj; cases hrj⟩
theorem Nxt.first (h : Nxt r last l k (-1)) (hr : nxB r last (l.getD k wrZ) = true) : Nxt r last l (k + 1) k := by
  rcases h with ⟨_, h⟩ | ⟨q, hq, e, h1, h2⟩
  · exact .inr ⟨k, by omega, rfl, hr, fun j hj hrj => by rcases Nat.lt_or_ge j k with hlt | hge; (rw [h j hlt] at hrj; cases hrj); (rw [show j = k by omega]; exact Int.le_refl _)⟩
  · omega
theorem Nxt.take {q : Nat} (h : Nxt r last l k q) (hr : nxB r last (l.getD k wrZ) = true) (hlt : (l.getD k wrZ).n < (l.getD q wrZ).n) : Nxt r last l (k + 1) k := by
  rcases h with ⟨e, h⟩ | ⟨q', hq, e, h1, h2⟩
  · omega
  · obtain rfl : q = q' := by omega
    exact .inr ⟨k, by omega, rfl, hr, fun j hj hrj => by rcases Nat.lt_or_ge j k with hlt | hge; (have := h2 j hlt hrj; omega); (rw [show j = k by omega]; exact Int.le_refl _)⟩
theorem Nxt.stay {q : Nat} (h : Nxt r last l k q) (hge : ¬ (l.getD k wrZ).n < (l.getD q wrZ).n) : Nxt r last l (k + 1) q := by
  rcases h with ⟨e, h⟩ | ⟨q', hq, e, h1, h2⟩
  · omega
  · obtain rfl : q = q' := by omega
    exact .inr ⟨q, by omega, rfl, h1, fun j hj hrj => by rcases Nat.lt_or_ge j k with hlt | hge2; exact h2 j hlt hrj; (rw [show j = k by omega]; omega)⟩
theorem Nxt.cases (h : Nxt r last l k z) : z = -1 ∨ ∃ q : Nat, q < k ∧ z = q := by
  rcases h with ⟨e, _⟩ | ⟨q, hq, e, _⟩
  · exact .inl e
  · exact .inr ⟨q, hq, e⟩
end
/-- no two of a list have one name -/
def Distinct (L : List Wr) : Prop := L.Pairwise fun a b => ¬ (a.r = b.r ∧ a.n = b.n)
/-- what stands in the answer: all of lesser regions, and of this region up to a number -/
def Stands (L out : List Wr) (r last : Int) : Prop := Sorted out ∧ ∀ x, x ∈ out ↔ (x ∈ L ∧ (x.r < r ∨ (x.r = r ∧ x.n ≤ last)))
theorem Stands.start {L out : List Wr} {r : Int} (h : Sorted out ∧ ∀ x, x ∈ out ↔ (x ∈ L ∧ x.r < r)) (hL : ∀ x ∈ L, 1 ≤ x.n) : Stands L out r 0 := by
  refine ⟨h.1, fun x => (h.2 x).trans ⟨fun h => ⟨h.1, .inl h.2⟩, fun h => ⟨h.1, ?_⟩⟩⟩
  rcases h.2 with h2 | ⟨_, h2⟩
  · exact h2
  · have := hL x h.1; omega
theorem Stands.ends {L out : List Wr} {r last : Int} (h : Stands L out r last) (hz : Nxt r last L L.length (-1)) : Sorted out ∧ ∀ x, x ∈ out ↔ (x ∈ L ∧ x.r < r + 1) := by
  refine ⟨h.1, fun x => (h.2 x).trans ⟨fun h => ⟨h.1, by omega⟩, fun h => ⟨h.1, ?_⟩⟩⟩
  by_cases hr : x.r < r
  · exact .inl hr
  · refine .inr ⟨by omega, ?_⟩
    obtain ⟨j, hj, e⟩ := getD_mem' h.1
    rcases hz with ⟨_, hz⟩ | ⟨q, _, e2, _⟩
    · have := hz j hj
      rw [e] at this
      unfold nxB at this
      simp only [Bool.and_eq_false_iff, decide_eq_false_iff_not] at this
      omega
    · omega
theorem distinct_eq {L : List Wr} (hd : Distinct L) {x y : Wr} (hx : x ∈ L) (hy : y ∈ L) (hr : x.r = y.r) (hn : x.n = y.n) : x = y := by
  obtain ⟨i, hi, rfl⟩ := List.mem_iff_getElem.1 hx
  obtain ⟨j, hj, rfl⟩ := List.mem_iff_getElem.1 hy
  rcases Nat.lt_trichotomy i j with h | h | h
  · exact absurd ⟨hr, hn⟩ (List.pairwise_iff_getElem.1 hd i j hi hj h)
  · subst h; rfl
  · exact absurd ⟨hr.symm, hn.symm⟩ (List.pairwise_iff_getElem.1 hd j i hj hi h)
theorem Stands.next {L out : List Wr} {r last : Int} {q : Nat} (hd : Distinct L) (h : Stands L out r last) (hz : Nxt r last L L.length q) : q < L.length ∧ Stands L (out ++ [L.getD q wrZ]) r (L.getD q wrZ).n ∧ last < (L.getD q wrZ).n := by
  rcases hz with ⟨e, _⟩ | ⟨q', hq, e, h1, h2⟩
  · omega
  obtain rfl : q = q' := by omega
  have hy := getD_mem hq
  generalize L.getD q wrZ = y at *
  have hyr : y.r = r ∧ last < y.n := by
    unfold nxB at h1
    simpa using h1
  refine ⟨hq, ⟨?_, fun x => ?_⟩, hyr.2⟩
  · refine List.pairwise_append.2 ⟨h.1, List.pairwise_singleton _ _, fun a ha b hb => ?_⟩
    rw [List.mem_singleton.1 hb, cmpW_lt]
    have := (h.2 a).1 ha
    omega
  · rw [List.mem_append, List.mem_singleton, h.2]
    constructor
    · rintro (⟨h3, h4⟩ | rfl)
      · exact ⟨h3, by omega⟩
      · exact ⟨hy, .inr ⟨hyr.1, by omega⟩⟩
    · rintro ⟨h3, h4⟩
      by_cases hx : x.r < r ∨ (x.r = r ∧ x.n ≤ last)
      · exact .inl ⟨h3, hx⟩
      · have hxr : x.r = r ∧ last < x.n ∧ x.n ≤ y.n := by omega
        obtain ⟨j, hj, ej⟩ := getD_mem' h3
        have h5 := h2 j hj (by rw [ej]; unfold nxB; simp; omega)
        rw [ej] at h5
        exact .inr (distinct_eq hd h3 hy (by omega) (by omega))
theorem count_lt {p q : Wr → Bool} : ∀ {L : List Wr}, (∀ x, p x = true → q x = true) → (∃ y ∈ L, q y = true ∧ p y = false) → (L.filter p).length < (L.filter q).length
  | [], _, ⟨y, hy, _⟩ => by cases hy
  | a :: L, hpq, ⟨y, hy, h1, h2⟩ => by
    have hle : (L.filter p).length ≤ (L.filter q).length := by
      clear hy h1 h2
      induction L with
      | nil => simp
      | cons b L ih =>
        rw [List.filter_cons, List.filter_cons]
        cases hp : p b with
        | true => rw [hpq b hp]; simpa using ih
        | false => cases q b <;> simp <;> omega
    rw [List.filter_cons, List.filter_cons]
    rcases List.mem_cons.1 hy with rfl | hy
    · rw [h1, h2]; simp; omega
    · have ih := count_lt (L := L) hpq ⟨y, hy, h1, h2⟩
      cases hp : p a with
      | true => rw [hpq a hp]; simpa using ih
      | false => cases q a <;> simp <;> omega
theorem left_lt {L : List Wr} {a b : Int} (h : a < b) {y : Wr} (hy : y ∈ L) (e : y.n = b) : (L.filter fun x => decide (b < x.n)).length < (L.filter fun x => decide (a < x.n)).length :=
  count_lt (fun x hx => by simp at hx ⊢; omega) ⟨y, hy, by simp; omega, by simp; omega⟩
def WaitsQ (L : List Wr) (w : World) (e : Ending) (w' : World) : Prop :=
  ∃ v L', e = .returned v ∧ w'.ownsRow w.heap.size 35 10 v L'.length (L'.flatMap Wr.cells) ∧ L'.Perm L ∧ Sorted L' ∧ Below w.heap.size w w'
theorem Stands.all {L out : List Wr} (hd : Distinct L) (h : Sorted out ∧ ∀ x, x ∈ out ↔ (x ∈ L ∧ x.r < 17)) (hL : ∀ x ∈ L, x.r ≤ 16) : out.Perm L := by
  refine (List.perm_ext_iff_of_nodup ?_ ?_).2 fun x => (h.2 x).trans ⟨fun h => h.1, fun h => ⟨h, by have := hL x h; omega⟩⟩
  · exact h.1.imp fun {a b} h e => by subst e; rw [cmpW_lt] at h; omega
  · exact hd.imp fun {a b} h e => h (by subst e; exact ⟨rfl, rfl⟩)
theorem few_of {L out : List Wr} (hd : Sorted out) (hs : ∀ x ∈ out, x ∈ L) : out.length ≤ L.length := by
  have hn : out.Nodup := hd.imp fun {a b} h e => by subst e; rw [cmpW_lt] at h; omega
  clear hd
  induction out generalizing L with
  | nil => simp
  | cons a out ih =>
    obtain ⟨j, hj, e⟩ := getD_mem' (hs a (by simp))
    obtain ⟨h1, h2⟩ := List.nodup_cons.1 hn
    have hp := erase_perm hj
    have := ih (L := L.eraseIdx j) (fun x hx => by
      have hx2 : x ∈ L.getD j wrZ :: L.eraseIdx j := hp.symm.subset (hs x (by simp [hx]))
      rcases List.mem_cons.1 hx2 with h | h
      · rw [e] at h; subst h; exact absurd hx h1
      · exact h) h2
    rw [List.length_eraseIdx_of_lt hj] at this
    simp
    omega
set_option maxRecDepth 100000 in
set_option maxHeartbeats 8000000 in
theorem waits_ref (g : Nat) (rg : Int) (R : Nat → Prop) (ap : List Int) (L : List Wr) (va vl : Value) (w : World) (h : RIn w R g rg ap L va vl) (hd : Distinct L) :
    Calls Try.prog 27 #[.pointer (some ⟨g, 0, none⟩)] w (WaitsQ L w) := by
  obtain ⟨A3, c3, rfl, hrd⟩ := h.reads
  have hlf := h.wfew
  have HRD := Lib.hid hrd
  have HF := Lib.hid h
  have HD := Lib.hid hd
  have y2 : w.cell? ⟨g, 2, none⟩ = some (.slice A3 L.length c3) := h.blk.cell 2
  have yl := h.blk.lt
  obtain ⟨i0, hi0, hz⟩ := Option.map_eq_some_iff.1 write_info
  simp only [Prod.mk.injEq] at hz
  obtain ⟨hz0, hz1, hz2⟩ := hz
  have Hi0 := Lib.hid hi0
  have Hz0 := Lib.hid hz0
  have Hz1 := Lib.hid hz1
  have Hz2 := Lib.hid hz2
  have HLN := Lib.hid (show ∀ x ∈ L, 1 ≤ x.n from fun x hx => (h.rng x hx).2.1)
  have HLR := Lib.hid (show ∀ x ∈ L, 1 ≤ x.r ∧ x.r ≤ 16 from fun x hx => (h.rng x hx).1)
  clear h hrd hd hi0 hz0 hz1 hz2
  go_enter Try.func27, Try.ntmps27
  go_wp2_with fail
  go_loopw [3, 4] (fun so sr wr => ∃ (r : Int) (out : List Wr), 1 ≤ r ∧ r ≤ 17 ∧ sr = .int .i64 r ∧ (Sorted out ∧ ∀ x, x ∈ out ↔ (x ∈ L ∧ x.r < r)) ∧ wr.ownsRow w.heap.size 35 10 so out.length (out.flatMap Wr.cells) ∧ Below w.heap.size w wr) (fun _ sr _ => (17 - intOf sr).toNat)
  case atStart =>
    refine ⟨1, [], by omega, by omega, rfl, ⟨List.Pairwise.nil, fun x => ⟨fun h => (by cases h), fun h => ?_⟩⟩, ownsRow_new0 w 35 10 #[], below_new _ _⟩
    have := HLR.out x h.1
    omega
  case round =>
    obtain ⟨r, out, hr1, hr2, rfl, hst, hrow, hb⟩ := hrel
    obtain ⟨A6, c6, rfl⟩ := ownsRow_slice hrow
    by_cases hlt : r ≤ 16
    · have HST := Lib.hid hst
      have HROW := Lib.hid hrow
      have HB := Lib.hid hb
      clear hst hrow hb
      obtain ⟨wo, hwo⟩ : ∃ wo : World, wo = wr := ⟨_, rfl⟩
      subst hwo
      go_wp2_with fail
      go_loopw [3, 5] (fun so sl wm => ∃ (last : Int) (out : List Wr), sl = .int .i64 last ∧ Stands L out r last ∧ wm.ownsRow w.heap.size 35 10 so out.length (out.flatMap Wr.cells) ∧ Below w.heap.size w wm) (fun _ sl _ => (L.filter fun x => decide (intOf sl < x.n)).length)
      case atStart => exact ⟨0, out, rfl, .start HST.out HLN.out, HROW.out, HB.out⟩
      case round =>
        clear HST HROW HB
        obtain ⟨last, out, rfl, hst, hrow, hb⟩ := hrel
        obtain ⟨A6, c6, rfl⟩ := ownsRow_slice hrow
        have HST := Lib.hid hst
        have HROW := Lib.hid hrow
        have HB := Lib.hid hb
        clear hst hrow hb
        obtain ⟨wm, hwm⟩ : ∃ wm : World, wm = wr := ⟨_, rfl⟩
        subst hwm
        go_wp2_with fail
        go_loopw [6, 7] (fun sz sk wi => ∃ (k : Nat) (z : Int), k ≤ L.length ∧ sk = .int .i64 k ∧ sz = .int .i64 z ∧ Nxt r last L k z ∧ Below wm.heap.size wm wi) (fun _ sk _ => L.length - (intOf sk).toNat)
        case atStart => exact ⟨0, -1, by omega, rfl, rfl, .zero, Below.refl _ _⟩
        case round =>
          obtain ⟨k, z, hk, rfl, rfl, hbe, hbr⟩ := hrel
          have hbw : Below w.heap.size w wr := HB.out.trans (hbr.mono HB.out.size)
          have hsr := hbw.size
          have z2 : wr.cell? ⟨g, 2, none⟩ = some (.slice A3 L.length c3) := (hbw.cell (p := ⟨g, 2, none⟩) yl).trans y2
          have zl : g < wr.heap.size := Nat.lt_of_lt_of_le yl hsr
          by_cases hlt2 : k < L.length
          · obtain ⟨b, off, rfl, hbl⟩ := HRD.out.at_some (by omega)
            obtain rfl : off = 0 := by
              rcases HF.out.row.2 with ⟨e, _⟩ | ⟨g', cap', cur, e, _⟩
              · cases e
              · injection e with e
                injection e with e
                injection e
            have hE : ∀ j, j < L.length → ∀ q v, (L.getD j wrZ).cells[q]? = some v → wr.cell? ⟨b, j * 10 + q, none⟩ = some v := fun j hj q v hq => by
              have hq2 : q < 10 := by
                have := (List.getElem?_eq_some_iff.1 hq).1
                rwa [Wr.len] at this
              have h5 := Reads.thing Wr.cells Wr.len HRD.out (k := j) (x := L.getD j wrZ) (by omega) (by rw [List.getD_eq_getElem?_getD, List.getElem?_eq_getElem hj]; rfl) q hq2
              rw [Nat.zero_add] at h5
              rw [hbw.cell (p := ⟨b, j * 10 + q, none⟩) hbl, h5, hq]
            have hone : (L.getD k wrZ).d.oneCell' = true := by
              obtain ⟨hn, _⟩ := HF.out.num _ (getD_mem hlt2)
              obtain ⟨_, _, e⟩ := ownsRow_slice hn
              rw [e]; rfl
            have hbl2 : b < wr.heap.size := Nat.lt_of_lt_of_le hbl hsr
            have HE := Lib.hid (hE k hlt2)
            have HEA := Lib.hid hE
            have HBE := Lib.hid hbe
            have HBW := Lib.hid hbw
            have HBR := Lib.hid hbr
            have HGB := Lib.hid (HF.out.blk.below hbw yl)
            obtain ⟨y, hy⟩ : ∃ y, L.getD k wrZ = y := ⟨_, rfl⟩
            have HY := Lib.hid hy
            rw [hy] at HE hone
            clear hE hbe hbw hbr hy
            go_wp2_with (first | ((with_reducible refine wpList_load_at ?_ 35 (.tmp 28) ?_ b (k * 10) y.cells ?_ Try.underlying35 ?_ ?_ HE.out ?_); rfl; rfl; rfl; rfl; (rw [Wr.len]; kernel_rfl)) | ((with_reducible refine wpList_store_blk ?_ 35 (.tmp 8) (.tmp 29) ?_ wr.heap.size y.cells ?_ ?_ (Blk.new wr 35 #[.int .i64 0, .int .i64 0, .int .i64 0, .int .i64 0, .slice none 0 0, .string ⟨#[]⟩, .string ⟨#[]⟩, .string ⟨#[]⟩, .bool false, .int .i64 0]) ?_ ?_ (oneAll y hone) ?_); rfl; rfl; rfl; rfl; (rw [Wr.len]; kernel_rfl); rfl; intro w9 ho9 hk9 hs9; clear hs9; have HX9 := Lib.hid ((below_new wr _).trans (hk9.below (fun i hi e => absurd hi (by rw [show i = wr.heap.size from e]; omega)) (by simp))); have HBX := Lib.hid ho9; clear hk9 ho9))
            have HB9 := Lib.hid (below_step HBR.out HX9.out)
            have HG9 := Lib.hid (HGB.out.below HX9.out zl)
            by_cases hyr : y.r = r
            · have dyr : (y.r == r) = true := by simpa using hyr
              by_cases hyn : last < y.n
              · have dyn : decide (last < y.n) = true := by simpa using hyn
                have hnx : nxB r last (L.getD k wrZ) = true := by rw [HY.out]; unfold nxB; simp; omega
                have HNX := Lib.hid hnx
                have HYR := Lib.hid hyr
                clear hnx hyr hyn
                rcases HBE.out.cases with rfl | ⟨q, hq, rfl⟩
                · skip
                  have HBE2 := Lib.hid (HBE.out.first HNX.out)
                  go_wp2_with fail
                  refine wp_region_mono nobody (by kernel_rfl) ?_
                  -- 0 Op.fieldAddr 35 (Operand.tmp 8) 0
                  refine wpMono_take' 0 (v := ?_) rfl (by kernel_rfl) (by kernel_rfl) (by kernel_rfl) (fun _ _ _ h => h) (by rfl) ?_ ?_
                  rotate_left
                  · (intro W hSw; (first | (have hbx := (HBX.out.drew).keeps (X := nobody) hSw (fun h => h); have q0 : W.cell? ⟨wr.heap.size, 0, none⟩ = some (.int .i64 y.r) := hbx.cell 0; have q1 : W.cell? ⟨wr.heap.size, 1, none⟩ = some (.int .i64 y.n) := hbx.cell 1; have ql := hbx.lt; have hg := (HG9.out.drew).keeps (X := nobody) hSw (fun h => h); have q2 : W.cell? ⟨g, 2, none⟩ = some (.slice (some ⟨b, 0, none⟩) L.length c3) := hg.cell 2; have gl := hg.lt; skip) | skip)
                     go_simp; first | done | rfl)
                  try simp only [Act.put, List.setIfInBounds_toArray, List.set_cons_zero, List.set_cons_succ]
                  (try rw [dyr]); (try rw [dyn])
                  -- 1 Op.load 3 (Operand.tmp 30)
                  refine wpMono_take' 1 (v := ?_) rfl (by kernel_rfl) (by kernel_rfl) (by kernel_rfl) (fun _ _ _ h => h) (by rfl) ?_ ?_
                  rotate_left
                  · (intro W hSw; (first | (have hbx := (HBX.out.drew).keeps (X := nobody) hSw (fun h => h); have q0 : W.cell? ⟨wr.heap.size, 0, none⟩ = some (.int .i64 y.r) := hbx.cell 0; have q1 : W.cell? ⟨wr.heap.size, 1, none⟩ = some (.int .i64 y.n) := hbx.cell 1; have ql := hbx.lt; have hg := (HG9.out.drew).keeps (X := nobody) hSw (fun h => h); have q2 : W.cell? ⟨g, 2, none⟩ = some (.slice (some ⟨b, 0, none⟩) L.length c3) := hg.cell 2; have gl := hg.lt; skip) | skip)
                     go_simp; first | done | rfl)
                  try simp only [Act.put, List.setIfInBounds_toArray, List.set_cons_zero, List.set_cons_succ]
                  (try rw [dyr]); (try rw [dyn])
                  -- 2 Op.move (Operand.tmp 4)
                  refine wpMono_take' 2 (v := ?_) rfl (by kernel_rfl) (by kernel_rfl) (by kernel_rfl) (fun _ _ _ h => h) (by rfl) ?_ ?_
                  rotate_left
                  · (intro W hSw; (first | (have hbx := (HBX.out.drew).keeps (X := nobody) hSw (fun h => h); have q0 : W.cell? ⟨wr.heap.size, 0, none⟩ = some (.int .i64 y.r) := hbx.cell 0; have q1 : W.cell? ⟨wr.heap.size, 1, none⟩ = some (.int .i64 y.n) := hbx.cell 1; have ql := hbx.lt; have hg := (HG9.out.drew).keeps (X := nobody) hSw (fun h => h); have q2 : W.cell? ⟨g, 2, none⟩ = some (.slice (some ⟨b, 0, none⟩) L.length c3) := hg.cell 2; have gl := hg.lt; skip) | skip)
                     go_simp; first | done | rfl)
                  try simp only [Act.put, List.setIfInBounds_toArray, List.set_cons_zero, List.set_cons_succ]
                  (try rw [dyr]); (try rw [dyn])
                  -- 3 Op.binOp BinOp.eql 3 (Operand.tmp 31) (Operand.tmp 32) 3
                  refine wpMono_take' 3 (v := ?_) rfl (by kernel_rfl) (by kernel_rfl) (by kernel_rfl) (fun _ _ _ h => h) (by rfl) ?_ ?_
                  rotate_left
                  · (intro W hSw; (first | (have hbx := (HBX.out.drew).keeps (X := nobody) hSw (fun h => h); have q0 : W.cell? ⟨wr.heap.size, 0, none⟩ = some (.int .i64 y.r) := hbx.cell 0; have q1 : W.cell? ⟨wr.heap.size, 1, none⟩ = some (.int .i64 y.n) := hbx.cell 1; have ql := hbx.lt; have hg := (HG9.out.drew).keeps (X := nobody) hSw (fun h => h); have q2 : W.cell? ⟨g, 2, none⟩ = some (.slice (some ⟨b, 0, none⟩) L.length c3) := hg.cell 2; have gl := hg.lt; skip) | skip)
                     go_simp; first | done | rfl)
                  try simp only [Act.put, List.setIfInBounds_toArray, List.set_cons_zero, List.set_cons_succ]
                  (try rw [dyr]); (try rw [dyn])
                  -- 4 Op.move (Operand.tmp 33)
                  refine wpMono_take' 4 (v := ?_) rfl (by kernel_rfl) (by kernel_rfl) (by kernel_rfl) (fun _ _ _ h => h) (by rfl) ?_ ?_
                  rotate_left
                  · (intro W hSw; (first | (have hbx := (HBX.out.drew).keeps (X := nobody) hSw (fun h => h); have q0 : W.cell? ⟨wr.heap.size, 0, none⟩ = some (.int .i64 y.r) := hbx.cell 0; have q1 : W.cell? ⟨wr.heap.size, 1, none⟩ = some (.int .i64 y.n) := hbx.cell 1; have ql := hbx.lt; have hg := (HG9.out.drew).keeps (X := nobody) hSw (fun h => h); have q2 : W.cell? ⟨g, 2, none⟩ = some (.slice (some ⟨b, 0, none⟩) L.length c3) := hg.cell 2; have gl := hg.lt; skip) | skip)
                     go_simp; first | done | rfl)
                  try simp only [Act.put, List.setIfInBounds_toArray, List.set_cons_zero, List.set_cons_succ]
                  (try rw [dyr]); (try rw [dyn])
                  -- 5 Op.fieldAddr 35 (Operand.tmp 8) 1
                  refine wpMono_take' 5 (v := ?_) rfl (by kernel_rfl) (by kernel_rfl) (by kernel_rfl) (fun _ _ _ h => h) (by rfl) ?_ ?_
                  rotate_left
                  · (intro W hSw; (first | (have hbx := (HBX.out.drew).keeps (X := nobody) hSw (fun h => h); have q0 : W.cell? ⟨wr.heap.size, 0, none⟩ = some (.int .i64 y.r) := hbx.cell 0; have q1 : W.cell? ⟨wr.heap.size, 1, none⟩ = some (.int .i64 y.n) := hbx.cell 1; have ql := hbx.lt; have hg := (HG9.out.drew).keeps (X := nobody) hSw (fun h => h); have q2 : W.cell? ⟨g, 2, none⟩ = some (.slice (some ⟨b, 0, none⟩) L.length c3) := hg.cell 2; have gl := hg.lt; skip) | skip)
                     go_simp; first | done | rfl)
                  try simp only [Act.put, List.setIfInBounds_toArray, List.set_cons_zero, List.set_cons_succ]
                  (try rw [dyr]); (try rw [dyn])
                  -- 6 Op.load 3 (Operand.tmp 35)
                  refine wpMono_take' 6 (v := ?_) rfl (by kernel_rfl) (by kernel_rfl) (by kernel_rfl) (fun _ _ _ h => h) (by rfl) ?_ ?_
                  rotate_left
                  · (intro W hSw; (first | (have hbx := (HBX.out.drew).keeps (X := nobody) hSw (fun h => h); have q0 : W.cell? ⟨wr.heap.size, 0, none⟩ = some (.int .i64 y.r) := hbx.cell 0; have q1 : W.cell? ⟨wr.heap.size, 1, none⟩ = some (.int .i64 y.n) := hbx.cell 1; have ql := hbx.lt; have hg := (HG9.out.drew).keeps (X := nobody) hSw (fun h => h); have q2 : W.cell? ⟨g, 2, none⟩ = some (.slice (some ⟨b, 0, none⟩) L.length c3) := hg.cell 2; have gl := hg.lt; skip) | skip)
                     go_simp; first | done | rfl)
                  try simp only [Act.put, List.setIfInBounds_toArray, List.set_cons_zero, List.set_cons_succ]
                  (try rw [dyr]); (try rw [dyn])
                  -- 7 Op.move (Operand.tmp 5)
                  refine wpMono_take' 7 (v := ?_) rfl (by kernel_rfl) (by kernel_rfl) (by kernel_rfl) (fun _ _ _ h => h) (by rfl) ?_ ?_
                  rotate_left
                  · (intro W hSw; (first | (have hbx := (HBX.out.drew).keeps (X := nobody) hSw (fun h => h); have q0 : W.cell? ⟨wr.heap.size, 0, none⟩ = some (.int .i64 y.r) := hbx.cell 0; have q1 : W.cell? ⟨wr.heap.size, 1, none⟩ = some (.int .i64 y.n) := hbx.cell 1; have ql := hbx.lt; have hg := (HG9.out.drew).keeps (X := nobody) hSw (fun h => h); have q2 : W.cell? ⟨g, 2, none⟩ = some (.slice (some ⟨b, 0, none⟩) L.length c3) := hg.cell 2; have gl := hg.lt; skip) | skip)
                     go_simp; first | done | rfl)
                  try simp only [Act.put, List.setIfInBounds_toArray, List.set_cons_zero, List.set_cons_succ]
                  (try rw [dyr]); (try rw [dyn])
                  -- 8 Op.binOp BinOp.gtr 3 (Operand.tmp 36) (Operand.tmp 37) 3
                  refine wpMono_take' 8 (v := ?_) rfl (by kernel_rfl) (by kernel_rfl) (by kernel_rfl) (fun _ _ _ h => h) (by rfl) ?_ ?_
                  rotate_left
                  · (intro W hSw; (first | (have hbx := (HBX.out.drew).keeps (X := nobody) hSw (fun h => h); have q0 : W.cell? ⟨wr.heap.size, 0, none⟩ = some (.int .i64 y.r) := hbx.cell 0; have q1 : W.cell? ⟨wr.heap.size, 1, none⟩ = some (.int .i64 y.n) := hbx.cell 1; have ql := hbx.lt; have hg := (HG9.out.drew).keeps (X := nobody) hSw (fun h => h); have q2 : W.cell? ⟨g, 2, none⟩ = some (.slice (some ⟨b, 0, none⟩) L.length c3) := hg.cell 2; have gl := hg.lt; skip) | skip)
                     go_simp; first | done | rfl)
                  try simp only [Act.put, List.setIfInBounds_toArray, List.set_cons_zero, List.set_cons_succ]
                  (try rw [dyr]); (try rw [dyn])
                  -- 9 Op.pick (Operand.tmp 34) (Operand.tmp 38) (Operand.const (Value.bool false))
                  refine wpMono_take' 9 (v := ?_) rfl (by kernel_rfl) (by kernel_rfl) (by kernel_rfl) (fun _ _ _ h => h) (by rfl) ?_ ?_
                  rotate_left
                  · (intro W hSw; (first | (have hbx := (HBX.out.drew).keeps (X := nobody) hSw (fun h => h); have q0 : W.cell? ⟨wr.heap.size, 0, none⟩ = some (.int .i64 y.r) := hbx.cell 0; have q1 : W.cell? ⟨wr.heap.size, 1, none⟩ = some (.int .i64 y.n) := hbx.cell 1; have ql := hbx.lt; have hg := (HG9.out.drew).keeps (X := nobody) hSw (fun h => h); have q2 : W.cell? ⟨g, 2, none⟩ = some (.slice (some ⟨b, 0, none⟩) L.length c3) := hg.cell 2; have gl := hg.lt; skip) | skip)
                     go_simp; first | done | rfl)
                  try simp only [Act.put, List.setIfInBounds_toArray, List.set_cons_zero, List.set_cons_succ]
                  (try rw [dyr]); (try rw [dyn])
                  -- 10 Op.move (Operand.tmp 39)
                  refine wpMono_take' 10 (v := ?_) rfl (by kernel_rfl) (by kernel_rfl) (by kernel_rfl) (fun _ _ _ h => h) (by rfl) ?_ ?_
                  rotate_left
                  · (intro W hSw; (first | (have hbx := (HBX.out.drew).keeps (X := nobody) hSw (fun h => h); have q0 : W.cell? ⟨wr.heap.size, 0, none⟩ = some (.int .i64 y.r) := hbx.cell 0; have q1 : W.cell? ⟨wr.heap.size, 1, none⟩ = some (.int .i64 y.n) := hbx.cell 1; have ql := hbx.lt; have hg := (HG9.out.drew).keeps (X := nobody) hSw (fun h => h); have q2 : W.cell? ⟨g, 2, none⟩ = some (.slice (some ⟨b, 0, none⟩) L.length c3) := hg.cell 2; have gl := hg.lt; skip) | skip)
                     go_simp; first | done | rfl)
                  try simp only [Act.put, List.setIfInBounds_toArray, List.set_cons_zero, List.set_cons_succ]
                  (try rw [dyr]); (try rw [dyn])
                  -- 11 Op.move (Operand.tmp 6)
                  refine wpMono_take' 11 (v := ?_) rfl (by kernel_rfl) (by kernel_rfl) (by kernel_rfl) (fun _ _ _ h => h) (by rfl) ?_ ?_
                  rotate_left
                  · (intro W hSw; (first | (have hbx := (HBX.out.drew).keeps (X := nobody) hSw (fun h => h); have q0 : W.cell? ⟨wr.heap.size, 0, none⟩ = some (.int .i64 y.r) := hbx.cell 0; have q1 : W.cell? ⟨wr.heap.size, 1, none⟩ = some (.int .i64 y.n) := hbx.cell 1; have ql := hbx.lt; have hg := (HG9.out.drew).keeps (X := nobody) hSw (fun h => h); have q2 : W.cell? ⟨g, 2, none⟩ = some (.slice (some ⟨b, 0, none⟩) L.length c3) := hg.cell 2; have gl := hg.lt; skip) | skip)
                     go_simp; first | done | rfl)
                  try simp only [Act.put, List.setIfInBounds_toArray, List.set_cons_zero, List.set_cons_succ]
                  (try rw [dyr]); (try rw [dyn])
                  -- 12 Op.binOp BinOp.lss 3 (Operand.tmp 41) (Operand.const (Value.int IntKind.i64 0)) 3
                  refine wpMono_take' 12 (v := ?_) rfl (by kernel_rfl) (by kernel_rfl) (by kernel_rfl) (fun _ _ _ h => h) (by rfl) ?_ ?_
                  rotate_left
                  · (intro W hSw; (first | (have hbx := (HBX.out.drew).keeps (X := nobody) hSw (fun h => h); have q0 : W.cell? ⟨wr.heap.size, 0, none⟩ = some (.int .i64 y.r) := hbx.cell 0; have q1 : W.cell? ⟨wr.heap.size, 1, none⟩ = some (.int .i64 y.n) := hbx.cell 1; have ql := hbx.lt; have hg := (HG9.out.drew).keeps (X := nobody) hSw (fun h => h); have q2 : W.cell? ⟨g, 2, none⟩ = some (.slice (some ⟨b, 0, none⟩) L.length c3) := hg.cell 2; have gl := hg.lt; skip) | skip)
                     go_simp; first | done | rfl)
                  try simp only [Act.put, List.setIfInBounds_toArray, List.set_cons_zero, List.set_cons_succ]
                  (try rw [dyr]); (try rw [dyn])
                  -- 13 Op.move (Operand.tmp 42)
                  refine wpMono_take' 13 (v := ?_) rfl (by kernel_rfl) (by kernel_rfl) (by kernel_rfl) (fun _ _ _ h => h) (by rfl) ?_ ?_
                  rotate_left
                  · (intro W hSw; (first | (have hbx := (HBX.out.drew).keeps (X := nobody) hSw (fun h => h); have q0 : W.cell? ⟨wr.heap.size, 0, none⟩ = some (.int .i64 y.r) := hbx.cell 0; have q1 : W.cell? ⟨wr.heap.size, 1, none⟩ = some (.int .i64 y.n) := hbx.cell 1; have ql := hbx.lt; have hg := (HG9.out.drew).keeps (X := nobody) hSw (fun h => h); have q2 : W.cell? ⟨g, 2, none⟩ = some (.slice (some ⟨b, 0, none⟩) L.length c3) := hg.cell 2; have gl := hg.lt; skip) | skip)
                     go_simp; first | done | rfl)
                  try simp only [Act.put, List.setIfInBounds_toArray, List.set_cons_zero, List.set_cons_succ]
                  (try rw [dyr]); (try rw [dyn])
                  -- 14 Op.fieldAddr 35 (Operand.tmp 8) 1
                  refine wpMono_skip' 14 rfl (by kernel_rfl) (by kernel_rfl) (by kernel_rfl) (fun _ _ _ h => h) (by rfl) ?_
                  try simp only [Act.put, List.setIfInBounds_toArray, List.set_cons_zero, List.set_cons_succ]
                  (try rw [dyr]); (try rw [dyn])
                  -- 15 Op.load 3 (Operand.tmp 44)
                  refine wpMono_skip' 15 rfl (by kernel_rfl) (by kernel_rfl) (by kernel_rfl) (fun _ _ _ h => h) (by rfl) ?_
                  try simp only [Act.put, List.setIfInBounds_toArray, List.set_cons_zero, List.set_cons_succ]
                  (try rw [dyr]); (try rw [dyn])
                  -- 16 Op.move (Operand.tmp 0)
                  refine wpMono_skip' 16 rfl (by kernel_rfl) (by kernel_rfl) (by kernel_rfl) (fun _ _ _ h => h) (by rfl) ?_
                  try simp only [Act.put, List.setIfInBounds_toArray, List.set_cons_zero, List.set_cons_succ]
                  (try rw [dyr]); (try rw [dyn])
                  -- 17 Op.nilCheck (Operand.tmp 46)
                  refine wpMono_skip' 17 rfl (by kernel_rfl) (by kernel_rfl) (by kernel_rfl) (fun _ _ _ h => h) (by rfl) ?_
                  try simp only [Act.put, List.setIfInBounds_toArray, List.set_cons_zero, List.set_cons_succ]
                  (try rw [dyr]); (try rw [dyn])
                  -- 18 Op.fieldAddr 68 (Operand.tmp 47) 2
                  refine wpMono_skip' 18 rfl (by kernel_rfl) (by kernel_rfl) (by kernel_rfl) (fun _ _ _ h => h) (by rfl) ?_
                  try simp only [Act.put, List.setIfInBounds_toArray, List.set_cons_zero, List.set_cons_succ]
                  (try rw [dyr]); (try rw [dyn])
                  -- 19 Op.load 25 (Operand.tmp 48)
                  refine wpMono_skip' 19 rfl (by kernel_rfl) (by kernel_rfl) (by kernel_rfl) (fun _ _ _ h => h) (by rfl) ?_
                  try simp only [Act.put, List.setIfInBounds_toArray, List.set_cons_zero, List.set_cons_succ]
                  (try rw [dyr]); (try rw [dyn])
                  -- 20 Op.move (Operand.tmp 6)
                  refine wpMono_skip' 20 rfl (by kernel_rfl) (by kernel_rfl) (by kernel_rfl) (fun _ _ _ h => h) (by rfl) ?_
                  try simp only [Act.put, List.setIfInBounds_toArray, List.set_cons_zero, List.set_cons_succ]
                  (try rw [dyr]); (try rw [dyn])
                  -- 21 Op.indexAddr 25 (Operand.tmp 49) (Operand.tmp 50)
                  refine wpMono_skip' 21 rfl (by kernel_rfl) (by kernel_rfl) (by kernel_rfl) (fun _ _ _ h => h) (by rfl) ?_
                  try simp only [Act.put, List.setIfInBounds_toArray, List.set_cons_zero, List.set_cons_succ]
                  (try rw [dyr]); (try rw [dyn])
                  -- 22 Op.fieldAddr 35 (Operand.tmp 51) 1
                  refine wpMono_skip' 22 rfl (by kernel_rfl) (by kernel_rfl) (by kernel_rfl) (fun _ _ _ h => h) (by rfl) ?_
                  try simp only [Act.put, List.setIfInBounds_toArray, List.set_cons_zero, List.set_cons_succ]
                  (try rw [dyr]); (try rw [dyn])
                  -- 23 Op.load 3 (Operand.tmp 52)
                  refine wpMono_skip' 23 rfl (by kernel_rfl) (by kernel_rfl) (by kernel_rfl) (fun _ _ _ h => h) (by rfl) ?_
                  try simp only [Act.put, List.setIfInBounds_toArray, List.set_cons_zero, List.set_cons_succ]
                  (try rw [dyr]); (try rw [dyn])
                  -- 24 Op.binOp BinOp.lss 3 (Operand.tmp 45) (Operand.tmp 53) 3
                  refine wpMono_skip' 24 rfl (by kernel_rfl) (by kernel_rfl) (by kernel_rfl) (fun _ _ _ h => h) (by rfl) ?_
                  try simp only [Act.put, List.setIfInBounds_toArray, List.set_cons_zero, List.set_cons_succ]
                  (try rw [dyr]); (try rw [dyn])
                  -- 25 Op.pick (Operand.tmp 43) (Operand.const (Value.bool true)) (Operand.tmp 54)
                  refine wpMono_take' 25 (v := ?_) rfl (by kernel_rfl) (by kernel_rfl) (by kernel_rfl) (fun _ _ _ h => h) (by rfl) ?_ ?_
                  rotate_left
                  · (intro W hSw; (first | (have hbx := (HBX.out.drew).keeps (X := nobody) hSw (fun h => h); have q0 : W.cell? ⟨wr.heap.size, 0, none⟩ = some (.int .i64 y.r) := hbx.cell 0; have q1 : W.cell? ⟨wr.heap.size, 1, none⟩ = some (.int .i64 y.n) := hbx.cell 1; have ql := hbx.lt; have hg := (HG9.out.drew).keeps (X := nobody) hSw (fun h => h); have q2 : W.cell? ⟨g, 2, none⟩ = some (.slice (some ⟨b, 0, none⟩) L.length c3) := hg.cell 2; have gl := hg.lt; skip) | skip)
                     go_simp; first | done | rfl)
                  try simp only [Act.put, List.setIfInBounds_toArray, List.set_cons_zero, List.set_cons_succ]
                  (try rw [dyr]); (try rw [dyn])
                  -- 26 Op.pick (Operand.tmp 40) (Operand.tmp 55) (Operand.const (Value.bool false))
                  refine wpMono_take' 26 (v := ?_) rfl (by kernel_rfl) (by kernel_rfl) (by kernel_rfl) (fun _ _ _ h => h) (by rfl) ?_ ?_
                  rotate_left
                  · (intro W hSw; (first | (have hbx := (HBX.out.drew).keeps (X := nobody) hSw (fun h => h); have q0 : W.cell? ⟨wr.heap.size, 0, none⟩ = some (.int .i64 y.r) := hbx.cell 0; have q1 : W.cell? ⟨wr.heap.size, 1, none⟩ = some (.int .i64 y.n) := hbx.cell 1; have ql := hbx.lt; have hg := (HG9.out.drew).keeps (X := nobody) hSw (fun h => h); have q2 : W.cell? ⟨g, 2, none⟩ = some (.slice (some ⟨b, 0, none⟩) L.length c3) := hg.cell 2; have gl := hg.lt; skip) | skip)
                     go_simp; first | done | rfl)
                  try simp only [Act.put, List.setIfInBounds_toArray, List.set_cons_zero, List.set_cons_succ]
                  (try rw [dyr]); (try rw [dyn])
                  refine wpMono_done (by kernel_rfl) ?_ _
                  go_wp2_with fail
                  go_roundw
                  case rel => exact ⟨k + 1, _, by omega, by go_num, rfl, HBE2.out, HB9.out.drew⟩
                  case measure => (simp [intOf]; try omega)
                · obtain ⟨x, hx⟩ : ∃ x, L.getD q wrZ = x := ⟨_, rfl⟩
                  have hql : q < L.length := by omega
                  have HX := Lib.hid (show wr.cell? ⟨b, q * 10 + 1, none⟩ = some (.int .i64 x.n) from HEA.out q hql 1 _ (by rw [hx]; rfl))
                  have dq : decide ((q : Int) < 0) = false := by simp
                  have HXX := Lib.hid hx
                  clear hx
                  by_cases hr : y.n < x.n
                  · have dr : decide (y.n < x.n) = true := by simpa using hr
                    have HBE2 := Lib.hid (HBE.out.take HNX.out (by rw [HY.out, HXX.out]; exact hr))
                    go_wp2_with fail
                    refine wp_region_mono nobody (by kernel_rfl) ?_
                    -- 0 Op.fieldAddr 35 (Operand.tmp 8) 0
                    refine wpMono_take' 0 (v := ?_) rfl (by kernel_rfl) (by kernel_rfl) (by kernel_rfl) (fun _ _ _ h => h) (by rfl) ?_ ?_
                    rotate_left
                    · (intro W hSw; (first | (have hbx := (HBX.out.drew).keeps (X := nobody) hSw (fun h => h); have q0 : W.cell? ⟨wr.heap.size, 0, none⟩ = some (.int .i64 y.r) := hbx.cell 0; have q1 : W.cell? ⟨wr.heap.size, 1, none⟩ = some (.int .i64 y.n) := hbx.cell 1; have ql := hbx.lt; have hg := (HG9.out.drew).keeps (X := nobody) hSw (fun h => h); have q2 : W.cell? ⟨g, 2, none⟩ = some (.slice (some ⟨b, 0, none⟩) L.length c3) := hg.cell 2; have gl := hg.lt; have z1 : W.cell? ⟨b, q * 10 + 1, none⟩ = some (.int .i64 x.n) := (hSw.cells b _ (Nat.lt_of_lt_of_le hbl2 HX9.out.size)).trans ((HX9.out.cell (p := ⟨b, q * 10 + 1, none⟩) hbl2).trans HX.out)) | skip)
                       go_simp; first | done | rfl)
                    try simp only [Act.put, List.setIfInBounds_toArray, List.set_cons_zero, List.set_cons_succ]
                    (try rw [dyr]); (try rw [dyn]); (try rw [dq]); (try rw [dr])
                    -- 1 Op.load 3 (Operand.tmp 30)
                    refine wpMono_take' 1 (v := ?_) rfl (by kernel_rfl) (by kernel_rfl) (by kernel_rfl) (fun _ _ _ h => h) (by rfl) ?_ ?_
                    rotate_left
                    · (intro W hSw; (first | (have hbx := (HBX.out.drew).keeps (X := nobody) hSw (fun h => h); have q0 : W.cell? ⟨wr.heap.size, 0, none⟩ = some (.int .i64 y.r) := hbx.cell 0; have q1 : W.cell? ⟨wr.heap.size, 1, none⟩ = some (.int .i64 y.n) := hbx.cell 1; have ql := hbx.lt; have hg := (HG9.out.drew).keeps (X := nobody) hSw (fun h => h); have q2 : W.cell? ⟨g, 2, none⟩ = some (.slice (some ⟨b, 0, none⟩) L.length c3) := hg.cell 2; have gl := hg.lt; have z1 : W.cell? ⟨b, q * 10 + 1, none⟩ = some (.int .i64 x.n) := (hSw.cells b _ (Nat.lt_of_lt_of_le hbl2 HX9.out.size)).trans ((HX9.out.cell (p := ⟨b, q * 10 + 1, none⟩) hbl2).trans HX.out)) | skip)
                       go_simp; first | done | rfl)
                    try simp only [Act.put, List.setIfInBounds_toArray, List.set_cons_zero, List.set_cons_succ]
                    (try rw [dyr]); (try rw [dyn]); (try rw [dq]); (try rw [dr])
                    -- 2 Op.move (Operand.tmp 4)
                    refine wpMono_take' 2 (v := ?_) rfl (by kernel_rfl) (by kernel_rfl) (by kernel_rfl) (fun _ _ _ h => h) (by rfl) ?_ ?_
                    rotate_left
                    · (intro W hSw; (first | (have hbx := (HBX.out.drew).keeps (X := nobody) hSw (fun h => h); have q0 : W.cell? ⟨wr.heap.size, 0, none⟩ = some (.int .i64 y.r) := hbx.cell 0; have q1 : W.cell? ⟨wr.heap.size, 1, none⟩ = some (.int .i64 y.n) := hbx.cell 1; have ql := hbx.lt; have hg := (HG9.out.drew).keeps (X := nobody) hSw (fun h => h); have q2 : W.cell? ⟨g, 2, none⟩ = some (.slice (some ⟨b, 0, none⟩) L.length c3) := hg.cell 2; have gl := hg.lt; have z1 : W.cell? ⟨b, q * 10 + 1, none⟩ = some (.int .i64 x.n) := (hSw.cells b _ (Nat.lt_of_lt_of_le hbl2 HX9.out.size)).trans ((HX9.out.cell (p := ⟨b, q * 10 + 1, none⟩) hbl2).trans HX.out)) | skip)
                       go_simp; first | done | rfl)
                    try simp only [Act.put, List.setIfInBounds_toArray, List.set_cons_zero, List.set_cons_succ]
                    (try rw [dyr]); (try rw [dyn]); (try rw [dq]); (try rw [dr])
                    -- 3 Op.binOp BinOp.eql 3 (Operand.tmp 31) (Operand.tmp 32) 3
                    refine wpMono_take' 3 (v := ?_) rfl (by kernel_rfl) (by kernel_rfl) (by kernel_rfl) (fun _ _ _ h => h) (by rfl) ?_ ?_
                    rotate_left
                    · (intro W hSw; (first | (have hbx := (HBX.out.drew).keeps (X := nobody) hSw (fun h => h); have q0 : W.cell? ⟨wr.heap.size, 0, none⟩ = some (.int .i64 y.r) := hbx.cell 0; have q1 : W.cell? ⟨wr.heap.size, 1, none⟩ = some (.int .i64 y.n) := hbx.cell 1; have ql := hbx.lt; have hg := (HG9.out.drew).keeps (X := nobody) hSw (fun h => h); have q2 : W.cell? ⟨g, 2, none⟩ = some (.slice (some ⟨b, 0, none⟩) L.length c3) := hg.cell 2; have gl := hg.lt; have z1 : W.cell? ⟨b, q * 10 + 1, none⟩ = some (.int .i64 x.n) := (hSw.cells b _ (Nat.lt_of_lt_of_le hbl2 HX9.out.size)).trans ((HX9.out.cell (p := ⟨b, q * 10 + 1, none⟩) hbl2).trans HX.out)) | skip)
                       go_simp; first | done | rfl)
                    try simp only [Act.put, List.setIfInBounds_toArray, List.set_cons_zero, List.set_cons_succ]
                    (try rw [dyr]); (try rw [dyn]); (try rw [dq]); (try rw [dr])
                    -- 4 Op.move (Operand.tmp 33)
                    refine wpMono_take' 4 (v := ?_) rfl (by kernel_rfl) (by kernel_rfl) (by kernel_rfl) (fun _ _ _ h => h) (by rfl) ?_ ?_
                    rotate_left
                    · (intro W hSw; (first | (have hbx := (HBX.out.drew).keeps (X := nobody) hSw (fun h => h); have q0 : W.cell? ⟨wr.heap.size, 0, none⟩ = some (.int .i64 y.r) := hbx.cell 0; have q1 : W.cell? ⟨wr.heap.size, 1, none⟩ = some (.int .i64 y.n) := hbx.cell 1; have ql := hbx.lt; have hg := (HG9.out.drew).keeps (X := nobody) hSw (fun h => h); have q2 : W.cell? ⟨g, 2, none⟩ = some (.slice (some ⟨b, 0, none⟩) L.length c3) := hg.cell 2; have gl := hg.lt; have z1 : W.cell? ⟨b, q * 10 + 1, none⟩ = some (.int .i64 x.n) := (hSw.cells b _ (Nat.lt_of_lt_of_le hbl2 HX9.out.size)).trans ((HX9.out.cell (p := ⟨b, q * 10 + 1, none⟩) hbl2).trans HX.out)) | skip)
                       go_simp; first | done | rfl)
                    try simp only [Act.put, List.setIfInBounds_toArray, List.set_cons_zero, List.set_cons_succ]
                    (try rw [dyr]); (try rw [dyn]); (try rw [dq]); (try rw [dr])
                    -- 5 Op.fieldAddr 35 (Operand.tmp 8) 1
                    refine wpMono_take' 5 (v := ?_) rfl (by kernel_rfl) (by kernel_rfl) (by kernel_rfl) (fun _ _ _ h => h) (by rfl) ?_ ?_
                    rotate_left
                    · (intro W hSw; (first | (have hbx := (HBX.out.drew).keeps (X := nobody) hSw (fun h => h); have q0 : W.cell? ⟨wr.heap.size, 0, none⟩ = some (.int .i64 y.r) := hbx.cell 0; have q1 : W.cell? ⟨wr.heap.size, 1, none⟩ = some (.int .i64 y.n) := hbx.cell 1; have ql := hbx.lt; have hg := (HG9.out.drew).keeps (X := nobody) hSw (fun h => h); have q2 : W.cell? ⟨g, 2, none⟩ = some (.slice (some ⟨b, 0, none⟩) L.length c3) := hg.cell 2; have gl := hg.lt; have z1 : W.cell? ⟨b, q * 10 + 1, none⟩ = some (.int .i64 x.n) := (hSw.cells b _ (Nat.lt_of_lt_of_le hbl2 HX9.out.size)).trans ((HX9.out.cell (p := ⟨b, q * 10 + 1, none⟩) hbl2).trans HX.out)) | skip)
                       go_simp; first | done | rfl)
                    try simp only [Act.put, List.setIfInBounds_toArray, List.set_cons_zero, List.set_cons_succ]
                    (try rw [dyr]); (try rw [dyn]); (try rw [dq]); (try rw [dr])
                    -- 6 Op.load 3 (Operand.tmp 35)
                    refine wpMono_take' 6 (v := ?_) rfl (by kernel_rfl) (by kernel_rfl) (by kernel_rfl) (fun _ _ _ h => h) (by rfl) ?_ ?_
                    rotate_left
                    · (intro W hSw; (first | (have hbx := (HBX.out.drew).keeps (X := nobody) hSw (fun h => h); have q0 : W.cell? ⟨wr.heap.size, 0, none⟩ = some (.int .i64 y.r) := hbx.cell 0; have q1 : W.cell? ⟨wr.heap.size, 1, none⟩ = some (.int .i64 y.n) := hbx.cell 1; have ql := hbx.lt; have hg := (HG9.out.drew).keeps (X := nobody) hSw (fun h => h); have q2 : W.cell? ⟨g, 2, none⟩ = some (.slice (some ⟨b, 0, none⟩) L.length c3) := hg.cell 2; have gl := hg.lt; have z1 : W.cell? ⟨b, q * 10 + 1, none⟩ = some (.int .i64 x.n) := (hSw.cells b _ (Nat.lt_of_lt_of_le hbl2 HX9.out.size)).trans ((HX9.out.cell (p := ⟨b, q * 10 + 1, none⟩) hbl2).trans HX.out)) | skip)
                       go_simp; first | done | rfl)
                    try simp only [Act.put, List.setIfInBounds_toArray, List.set_cons_zero, List.set_cons_succ]
                    (try rw [dyr]); (try rw [dyn]); (try rw [dq]); (try rw [dr])
                    -- 7 Op.move (Operand.tmp 5)
                    refine wpMono_take' 7 (v := ?_) rfl (by kernel_rfl) (by kernel_rfl) (by kernel_rfl) (fun _ _ _ h => h) (by rfl) ?_ ?_
                    rotate_left
                    · (intro W hSw; (first | (have hbx := (HBX.out.drew).keeps (X := nobody) hSw (fun h => h); have q0 : W.cell? ⟨wr.heap.size, 0, none⟩ = some (.int .i64 y.r) := hbx.cell 0; have q1 : W.cell? ⟨wr.heap.size, 1, none⟩ = some (.int .i64 y.n) := hbx.cell 1; have ql := hbx.lt; have hg := (HG9.out.drew).keeps (X := nobody) hSw (fun h => h); have q2 : W.cell? ⟨g, 2, none⟩ = some (.slice (some ⟨b, 0, none⟩) L.length c3) := hg.cell 2; have gl := hg.lt; have z1 : W.cell? ⟨b, q * 10 + 1, none⟩ = some (.int .i64 x.n) := (hSw.cells b _ (Nat.lt_of_lt_of_le hbl2 HX9.out.size)).trans ((HX9.out.cell (p := ⟨b, q * 10 + 1, none⟩) hbl2).trans HX.out)) | skip)
                       go_simp; first | done | rfl)
                    try simp only [Act.put, List.setIfInBounds_toArray, List.set_cons_zero, List.set_cons_succ]
                    (try rw [dyr]); (try rw [dyn]); (try rw [dq]); (try rw [dr])
                    -- 8 Op.binOp BinOp.gtr 3 (Operand.tmp 36) (Operand.tmp 37) 3
                    refine wpMono_take' 8 (v := ?_) rfl (by kernel_rfl) (by kernel_rfl) (by kernel_rfl) (fun _ _ _ h => h) (by rfl) ?_ ?_
                    rotate_left
                    · (intro W hSw; (first | (have hbx := (HBX.out.drew).keeps (X := nobody) hSw (fun h => h); have q0 : W.cell? ⟨wr.heap.size, 0, none⟩ = some (.int .i64 y.r) := hbx.cell 0; have q1 : W.cell? ⟨wr.heap.size, 1, none⟩ = some (.int .i64 y.n) := hbx.cell 1; have ql := hbx.lt; have hg := (HG9.out.drew).keeps (X := nobody) hSw (fun h => h); have q2 : W.cell? ⟨g, 2, none⟩ = some (.slice (some ⟨b, 0, none⟩) L.length c3) := hg.cell 2; have gl := hg.lt; have z1 : W.cell? ⟨b, q * 10 + 1, none⟩ = some (.int .i64 x.n) := (hSw.cells b _ (Nat.lt_of_lt_of_le hbl2 HX9.out.size)).trans ((HX9.out.cell (p := ⟨b, q * 10 + 1, none⟩) hbl2).trans HX.out)) | skip)
                       go_simp; first | done | rfl)
                    try simp only [Act.put, List.setIfInBounds_toArray, List.set_cons_zero, List.set_cons_succ]
                    (try rw [dyr]); (try rw [dyn]); (try rw [dq]); (try rw [dr])
                    -- 9 Op.pick (Operand.tmp 34) (Operand.tmp 38) (Operand.const (Value.bool false))
                    refine wpMono_take' 9 (v := ?_) rfl (by kernel_rfl) (by kernel_rfl) (by kernel_rfl) (fun _ _ _ h => h) (by rfl) ?_ ?_
                    rotate_left
                    · (intro W hSw; (first | (have hbx := (HBX.out.drew).keeps (X := nobody) hSw (fun h => h); have q0 : W.cell? ⟨wr.heap.size, 0, none⟩ = some (.int .i64 y.r) := hbx.cell 0; have q1 : W.cell? ⟨wr.heap.size, 1, none⟩ = some (.int .i64 y.n) := hbx.cell 1; have ql := hbx.lt; have hg := (HG9.out.drew).keeps (X := nobody) hSw (fun h => h); have q2 : W.cell? ⟨g, 2, none⟩ = some (.slice (some ⟨b, 0, none⟩) L.length c3) := hg.cell 2; have gl := hg.lt; have z1 : W.cell? ⟨b, q * 10 + 1, none⟩ = some (.int .i64 x.n) := (hSw.cells b _ (Nat.lt_of_lt_of_le hbl2 HX9.out.size)).trans ((HX9.out.cell (p := ⟨b, q * 10 + 1, none⟩) hbl2).trans HX.out)) | skip)
                       go_simp; first | done | rfl)
                    try simp only [Act.put, List.setIfInBounds_toArray, List.set_cons_zero, List.set_cons_succ]
                    (try rw [dyr]); (try rw [dyn]); (try rw [dq]); (try rw [dr])
                    -- 10 Op.move (Operand.tmp 39)
                    refine wpMono_take' 10 (v := ?_) rfl (by kernel_rfl) (by kernel_rfl) (by kernel_rfl) (fun _ _ _ h => h) (by rfl) ?_ ?_
                    rotate_left
                    · (intro W hSw; (first | (have hbx := (HBX.out.drew).keeps (X := nobody) hSw (fun h => h); have q0 : W.cell? ⟨wr.heap.size, 0, none⟩ = some (.int .i64 y.r) := hbx.cell 0; have q1 : W.cell? ⟨wr.heap.size, 1, none⟩ = some (.int .i64 y.n) := hbx.cell 1; have ql := hbx.lt; have hg := (HG9.out.drew).keeps (X := nobody) hSw (fun h => h); have q2 : W.cell? ⟨g, 2, none⟩ = some (.slice (some ⟨b, 0, none⟩) L.length c3) := hg.cell 2; have gl := hg.lt; have z1 : W.cell? ⟨b, q * 10 + 1, none⟩ = some (.int .i64 x.n) := (hSw.cells b _ (Nat.lt_of_lt_of_le hbl2 HX9.out.size)).trans ((HX9.out.cell (p := ⟨b, q * 10 + 1, none⟩) hbl2).trans HX.out)) | skip)
                       go_simp; first | done | rfl)
                    try simp only [Act.put, List.setIfInBounds_toArray, List.set_cons_zero, List.set_cons_succ]
                    (try rw [dyr]); (try rw [dyn]); (try rw [dq]); (try rw [dr])
                    -- 11 Op.move (Operand.tmp 6)
                    refine wpMono_take' 11 (v := ?_) rfl (by kernel_rfl) (by kernel_rfl) (by kernel_rfl) (fun _ _ _ h => h) (by rfl) ?_ ?_
                    rotate_left
                    · (intro W hSw; (first | (have hbx := (HBX.out.drew).keeps (X := nobody) hSw (fun h => h); have q0 : W.cell? ⟨wr.heap.size, 0, none⟩ = some (.int .i64 y.r) := hbx.cell 0; have q1 : W.cell? ⟨wr.heap.size, 1, none⟩ = some (.int .i64 y.n) := hbx.cell 1; have ql := hbx.lt; have hg := (HG9.out.drew).keeps (X := nobody) hSw (fun h => h); have q2 : W.cell? ⟨g, 2, none⟩ = some (.slice (some ⟨b, 0, none⟩) L.length c3) := hg.cell 2; have gl := hg.lt; have z1 : W.cell? ⟨b, q * 10 + 1, none⟩ = some (.int .i64 x.n) := (hSw.cells b _ (Nat.lt_of_lt_of_le hbl2 HX9.out.size)).trans ((HX9.out.cell (p := ⟨b, q * 10 + 1, none⟩) hbl2).trans HX.out)) | skip)
                       go_simp; first | done | rfl)
                    try simp only [Act.put, List.setIfInBounds_toArray, List.set_cons_zero, List.set_cons_succ]
                    (try rw [dyr]); (try rw [dyn]); (try rw [dq]); (try rw [dr])
                    -- 12 Op.binOp BinOp.lss 3 (Operand.tmp 41) (Operand.const (Value.int IntKind.i64 0)) 3
                    refine wpMono_take' 12 (v := ?_) rfl (by kernel_rfl) (by kernel_rfl) (by kernel_rfl) (fun _ _ _ h => h) (by rfl) ?_ ?_
                    rotate_left
                    · (intro W hSw; (first | (have hbx := (HBX.out.drew).keeps (X := nobody) hSw (fun h => h); have q0 : W.cell? ⟨wr.heap.size, 0, none⟩ = some (.int .i64 y.r) := hbx.cell 0; have q1 : W.cell? ⟨wr.heap.size, 1, none⟩ = some (.int .i64 y.n) := hbx.cell 1; have ql := hbx.lt; have hg := (HG9.out.drew).keeps (X := nobody) hSw (fun h => h); have q2 : W.cell? ⟨g, 2, none⟩ = some (.slice (some ⟨b, 0, none⟩) L.length c3) := hg.cell 2; have gl := hg.lt; have z1 : W.cell? ⟨b, q * 10 + 1, none⟩ = some (.int .i64 x.n) := (hSw.cells b _ (Nat.lt_of_lt_of_le hbl2 HX9.out.size)).trans ((HX9.out.cell (p := ⟨b, q * 10 + 1, none⟩) hbl2).trans HX.out)) | skip)
                       go_simp; first | done | rfl)
                    try simp only [Act.put, List.setIfInBounds_toArray, List.set_cons_zero, List.set_cons_succ]
                    (try rw [dyr]); (try rw [dyn]); (try rw [dq]); (try rw [dr])
                    -- 13 Op.move (Operand.tmp 42)
                    refine wpMono_take' 13 (v := ?_) rfl (by kernel_rfl) (by kernel_rfl) (by kernel_rfl) (fun _ _ _ h => h) (by rfl) ?_ ?_
                    rotate_left
                    · (intro W hSw; (first | (have hbx := (HBX.out.drew).keeps (X := nobody) hSw (fun h => h); have q0 : W.cell? ⟨wr.heap.size, 0, none⟩ = some (.int .i64 y.r) := hbx.cell 0; have q1 : W.cell? ⟨wr.heap.size, 1, none⟩ = some (.int .i64 y.n) := hbx.cell 1; have ql := hbx.lt; have hg := (HG9.out.drew).keeps (X := nobody) hSw (fun h => h); have q2 : W.cell? ⟨g, 2, none⟩ = some (.slice (some ⟨b, 0, none⟩) L.length c3) := hg.cell 2; have gl := hg.lt; have z1 : W.cell? ⟨b, q * 10 + 1, none⟩ = some (.int .i64 x.n) := (hSw.cells b _ (Nat.lt_of_lt_of_le hbl2 HX9.out.size)).trans ((HX9.out.cell (p := ⟨b, q * 10 + 1, none⟩) hbl2).trans HX.out)) | skip)
                       go_simp; first | done | rfl)
                    try simp only [Act.put, List.setIfInBounds_toArray, List.set_cons_zero, List.set_cons_succ]
                    (try rw [dyr]); (try rw [dyn]); (try rw [dq]); (try rw [dr])
                    -- 14 Op.fieldAddr 35 (Operand.tmp 8) 1
                    refine wpMono_take' 14 (v := ?_) rfl (by kernel_rfl) (by kernel_rfl) (by kernel_rfl) (fun _ _ _ h => h) (by rfl) ?_ ?_
                    rotate_left
                    · (intro W hSw; (first | (have hbx := (HBX.out.drew).keeps (X := nobody) hSw (fun h => h); have q0 : W.cell? ⟨wr.heap.size, 0, none⟩ = some (.int .i64 y.r) := hbx.cell 0; have q1 : W.cell? ⟨wr.heap.size, 1, none⟩ = some (.int .i64 y.n) := hbx.cell 1; have ql := hbx.lt; have hg := (HG9.out.drew).keeps (X := nobody) hSw (fun h => h); have q2 : W.cell? ⟨g, 2, none⟩ = some (.slice (some ⟨b, 0, none⟩) L.length c3) := hg.cell 2; have gl := hg.lt; have z1 : W.cell? ⟨b, q * 10 + 1, none⟩ = some (.int .i64 x.n) := (hSw.cells b _ (Nat.lt_of_lt_of_le hbl2 HX9.out.size)).trans ((HX9.out.cell (p := ⟨b, q * 10 + 1, none⟩) hbl2).trans HX.out)) | skip)
                       go_simp; first | done | rfl)
                    try simp only [Act.put, List.setIfInBounds_toArray, List.set_cons_zero, List.set_cons_succ]
                    (try rw [dyr]); (try rw [dyn]); (try rw [dq]); (try rw [dr])
                    -- 15 Op.load 3 (Operand.tmp 44)
                    refine wpMono_take' 15 (v := ?_) rfl (by kernel_rfl) (by kernel_rfl) (by kernel_rfl) (fun _ _ _ h => h) (by rfl) ?_ ?_
                    rotate_left
                    · (intro W hSw; (first | (have hbx := (HBX.out.drew).keeps (X := nobody) hSw (fun h => h); have q0 : W.cell? ⟨wr.heap.size, 0, none⟩ = some (.int .i64 y.r) := hbx.cell 0; have q1 : W.cell? ⟨wr.heap.size, 1, none⟩ = some (.int .i64 y.n) := hbx.cell 1; have ql := hbx.lt; have hg := (HG9.out.drew).keeps (X := nobody) hSw (fun h => h); have q2 : W.cell? ⟨g, 2, none⟩ = some (.slice (some ⟨b, 0, none⟩) L.length c3) := hg.cell 2; have gl := hg.lt; have z1 : W.cell? ⟨b, q * 10 + 1, none⟩ = some (.int .i64 x.n) := (hSw.cells b _ (Nat.lt_of_lt_of_le hbl2 HX9.out.size)).trans ((HX9.out.cell (p := ⟨b, q * 10 + 1, none⟩) hbl2).trans HX.out)) | skip)
                       go_simp; first | done | rfl)
                    try simp only [Act.put, List.setIfInBounds_toArray, List.set_cons_zero, List.set_cons_succ]
                    (try rw [dyr]); (try rw [dyn]); (try rw [dq]); (try rw [dr])
                    -- 16 Op.move (Operand.tmp 0)
                    refine wpMono_take' 16 (v := ?_) rfl (by kernel_rfl) (by kernel_rfl) (by kernel_rfl) (fun _ _ _ h => h) (by rfl) ?_ ?_
                    rotate_left
                    · (intro W hSw; (first | (have hbx := (HBX.out.drew).keeps (X := nobody) hSw (fun h => h); have q0 : W.cell? ⟨wr.heap.size, 0, none⟩ = some (.int .i64 y.r) := hbx.cell 0; have q1 : W.cell? ⟨wr.heap.size, 1, none⟩ = some (.int .i64 y.n) := hbx.cell 1; have ql := hbx.lt; have hg := (HG9.out.drew).keeps (X := nobody) hSw (fun h => h); have q2 : W.cell? ⟨g, 2, none⟩ = some (.slice (some ⟨b, 0, none⟩) L.length c3) := hg.cell 2; have gl := hg.lt; have z1 : W.cell? ⟨b, q * 10 + 1, none⟩ = some (.int .i64 x.n) := (hSw.cells b _ (Nat.lt_of_lt_of_le hbl2 HX9.out.size)).trans ((HX9.out.cell (p := ⟨b, q * 10 + 1, none⟩) hbl2).trans HX.out)) | skip)
                       go_simp; first | done | rfl)
                    try simp only [Act.put, List.setIfInBounds_toArray, List.set_cons_zero, List.set_cons_succ]
                    (try rw [dyr]); (try rw [dyn]); (try rw [dq]); (try rw [dr])
                    -- 17 Op.nilCheck (Operand.tmp 46)
                    refine wpMono_take' 17 (v := ?_) rfl (by kernel_rfl) (by kernel_rfl) (by kernel_rfl) (fun _ _ _ h => h) (by rfl) ?_ ?_
                    rotate_left
                    · (intro W hSw; (first | (have hbx := (HBX.out.drew).keeps (X := nobody) hSw (fun h => h); have q0 : W.cell? ⟨wr.heap.size, 0, none⟩ = some (.int .i64 y.r) := hbx.cell 0; have q1 : W.cell? ⟨wr.heap.size, 1, none⟩ = some (.int .i64 y.n) := hbx.cell 1; have ql := hbx.lt; have hg := (HG9.out.drew).keeps (X := nobody) hSw (fun h => h); have q2 : W.cell? ⟨g, 2, none⟩ = some (.slice (some ⟨b, 0, none⟩) L.length c3) := hg.cell 2; have gl := hg.lt; have z1 : W.cell? ⟨b, q * 10 + 1, none⟩ = some (.int .i64 x.n) := (hSw.cells b _ (Nat.lt_of_lt_of_le hbl2 HX9.out.size)).trans ((HX9.out.cell (p := ⟨b, q * 10 + 1, none⟩) hbl2).trans HX.out)) | skip)
                       go_simp; first | done | rfl)
                    try simp only [Act.put, List.setIfInBounds_toArray, List.set_cons_zero, List.set_cons_succ]
                    (try rw [dyr]); (try rw [dyn]); (try rw [dq]); (try rw [dr])
                    -- 18 Op.fieldAddr 68 (Operand.tmp 47) 2
                    refine wpMono_take' 18 (v := ?_) rfl (by kernel_rfl) (by kernel_rfl) (by kernel_rfl) (fun _ _ _ h => h) (by rfl) ?_ ?_
                    rotate_left
                    · (intro W hSw; (first | (have hbx := (HBX.out.drew).keeps (X := nobody) hSw (fun h => h); have q0 : W.cell? ⟨wr.heap.size, 0, none⟩ = some (.int .i64 y.r) := hbx.cell 0; have q1 : W.cell? ⟨wr.heap.size, 1, none⟩ = some (.int .i64 y.n) := hbx.cell 1; have ql := hbx.lt; have hg := (HG9.out.drew).keeps (X := nobody) hSw (fun h => h); have q2 : W.cell? ⟨g, 2, none⟩ = some (.slice (some ⟨b, 0, none⟩) L.length c3) := hg.cell 2; have gl := hg.lt; have z1 : W.cell? ⟨b, q * 10 + 1, none⟩ = some (.int .i64 x.n) := (hSw.cells b _ (Nat.lt_of_lt_of_le hbl2 HX9.out.size)).trans ((HX9.out.cell (p := ⟨b, q * 10 + 1, none⟩) hbl2).trans HX.out)) | skip)
                       go_simp; first | done | rfl)
                    try simp only [Act.put, List.setIfInBounds_toArray, List.set_cons_zero, List.set_cons_succ]
                    (try rw [dyr]); (try rw [dyn]); (try rw [dq]); (try rw [dr])
                    -- 19 Op.load 25 (Operand.tmp 48)
                    refine wpMono_take' 19 (v := ?_) rfl (by kernel_rfl) (by kernel_rfl) (by kernel_rfl) (fun _ _ _ h => h) (by rfl) ?_ ?_
                    rotate_left
                    · (intro W hSw; (first | (have hbx := (HBX.out.drew).keeps (X := nobody) hSw (fun h => h); have q0 : W.cell? ⟨wr.heap.size, 0, none⟩ = some (.int .i64 y.r) := hbx.cell 0; have q1 : W.cell? ⟨wr.heap.size, 1, none⟩ = some (.int .i64 y.n) := hbx.cell 1; have ql := hbx.lt; have hg := (HG9.out.drew).keeps (X := nobody) hSw (fun h => h); have q2 : W.cell? ⟨g, 2, none⟩ = some (.slice (some ⟨b, 0, none⟩) L.length c3) := hg.cell 2; have gl := hg.lt; have z1 : W.cell? ⟨b, q * 10 + 1, none⟩ = some (.int .i64 x.n) := (hSw.cells b _ (Nat.lt_of_lt_of_le hbl2 HX9.out.size)).trans ((HX9.out.cell (p := ⟨b, q * 10 + 1, none⟩) hbl2).trans HX.out)) | skip)
                       go_simp; first | done | rfl)
                    try simp only [Act.put, List.setIfInBounds_toArray, List.set_cons_zero, List.set_cons_succ]
                    (try rw [dyr]); (try rw [dyn]); (try rw [dq]); (try rw [dr])
                    -- 20 Op.move (Operand.tmp 6)
                    refine wpMono_take' 20 (v := ?_) rfl (by kernel_rfl) (by kernel_rfl) (by kernel_rfl) (fun _ _ _ h => h) (by rfl) ?_ ?_
                    rotate_left
                    · (intro W hSw; (first | (have hbx := (HBX.out.drew).keeps (X := nobody) hSw (fun h => h); have q0 : W.cell? ⟨wr.heap.size, 0, none⟩ = some (.int .i64 y.r) := hbx.cell 0; have q1 : W.cell? ⟨wr.heap.size, 1, none⟩ = some (.int .i64 y.n) := hbx.cell 1; have ql := hbx.lt; have hg := (HG9.out.drew).keeps (X := nobody) hSw (fun h => h); have q2 : W.cell? ⟨g, 2, none⟩ = some (.slice (some ⟨b, 0, none⟩) L.length c3) := hg.cell 2; have gl := hg.lt; have z1 : W.cell? ⟨b, q * 10 + 1, none⟩ = some (.int .i64 x.n) := (hSw.cells b _ (Nat.lt_of_lt_of_le hbl2 HX9.out.size)).trans ((HX9.out.cell (p := ⟨b, q * 10 + 1, none⟩) hbl2).trans HX.out)) | skip)
                       go_simp; first | done | rfl)
                    try simp only [Act.put, List.setIfInBounds_toArray, List.set_cons_zero, List.set_cons_succ]
                    (try rw [dyr]); (try rw [dyn]); (try rw [dq]); (try rw [dr])
                    -- 21 Op.indexAddr 25 (Operand.tmp 49) (Operand.tmp 50)
                    refine wpMono_take' 21 (v := ?_) rfl (by kernel_rfl) (by kernel_rfl) (by kernel_rfl) (fun _ _ _ h => h) (by rfl) ?_ ?_
                    rotate_left
                    · (intro W hSw; (first | (have hbx := (HBX.out.drew).keeps (X := nobody) hSw (fun h => h); have q0 : W.cell? ⟨wr.heap.size, 0, none⟩ = some (.int .i64 y.r) := hbx.cell 0; have q1 : W.cell? ⟨wr.heap.size, 1, none⟩ = some (.int .i64 y.n) := hbx.cell 1; have ql := hbx.lt; have hg := (HG9.out.drew).keeps (X := nobody) hSw (fun h => h); have q2 : W.cell? ⟨g, 2, none⟩ = some (.slice (some ⟨b, 0, none⟩) L.length c3) := hg.cell 2; have gl := hg.lt; have z1 : W.cell? ⟨b, q * 10 + 1, none⟩ = some (.int .i64 x.n) := (hSw.cells b _ (Nat.lt_of_lt_of_le hbl2 HX9.out.size)).trans ((HX9.out.cell (p := ⟨b, q * 10 + 1, none⟩) hbl2).trans HX.out)) | skip)
                       go_simp; first | done | rfl)
                    try simp only [Act.put, List.setIfInBounds_toArray, List.set_cons_zero, List.set_cons_succ]
                    (try rw [dyr]); (try rw [dyn]); (try rw [dq]); (try rw [dr])
                    -- 22 Op.fieldAddr 35 (Operand.tmp 51) 1
                    refine wpMono_take' 22 (v := ?_) rfl (by kernel_rfl) (by kernel_rfl) (by kernel_rfl) (fun _ _ _ h => h) (by rfl) ?_ ?_
                    rotate_left
                    · (intro W hSw; (first | (have hbx := (HBX.out.drew).keeps (X := nobody) hSw (fun h => h); have q0 : W.cell? ⟨wr.heap.size, 0, none⟩ = some (.int .i64 y.r) := hbx.cell 0; have q1 : W.cell? ⟨wr.heap.size, 1, none⟩ = some (.int .i64 y.n) := hbx.cell 1; have ql := hbx.lt; have hg := (HG9.out.drew).keeps (X := nobody) hSw (fun h => h); have q2 : W.cell? ⟨g, 2, none⟩ = some (.slice (some ⟨b, 0, none⟩) L.length c3) := hg.cell 2; have gl := hg.lt; have z1 : W.cell? ⟨b, q * 10 + 1, none⟩ = some (.int .i64 x.n) := (hSw.cells b _ (Nat.lt_of_lt_of_le hbl2 HX9.out.size)).trans ((HX9.out.cell (p := ⟨b, q * 10 + 1, none⟩) hbl2).trans HX.out)) | skip)
                       go_simp; first | done | rfl)
                    try simp only [Act.put, List.setIfInBounds_toArray, List.set_cons_zero, List.set_cons_succ]
                    (try rw [dyr]); (try rw [dyn]); (try rw [dq]); (try rw [dr])
                    -- 23 Op.load 3 (Operand.tmp 52)
                    refine wpMono_take' 23 (v := ?_) rfl (by kernel_rfl) (by kernel_rfl) (by kernel_rfl) (fun _ _ _ h => h) (by rfl) ?_ ?_
                    rotate_left
                    · (intro W hSw; (first | (have hbx := (HBX.out.drew).keeps (X := nobody) hSw (fun h => h); have q0 : W.cell? ⟨wr.heap.size, 0, none⟩ = some (.int .i64 y.r) := hbx.cell 0; have q1 : W.cell? ⟨wr.heap.size, 1, none⟩ = some (.int .i64 y.n) := hbx.cell 1; have ql := hbx.lt; have hg := (HG9.out.drew).keeps (X := nobody) hSw (fun h => h); have q2 : W.cell? ⟨g, 2, none⟩ = some (.slice (some ⟨b, 0, none⟩) L.length c3) := hg.cell 2; have gl := hg.lt; have z1 : W.cell? ⟨b, q * 10 + 1, none⟩ = some (.int .i64 x.n) := (hSw.cells b _ (Nat.lt_of_lt_of_le hbl2 HX9.out.size)).trans ((HX9.out.cell (p := ⟨b, q * 10 + 1, none⟩) hbl2).trans HX.out)) | skip)
                       go_simp; first | done | rfl)
                    try simp only [Act.put, List.setIfInBounds_toArray, List.set_cons_zero, List.set_cons_succ]
                    (try rw [dyr]); (try rw [dyn]); (try rw [dq]); (try rw [dr])
                    -- 24 Op.binOp BinOp.lss 3 (Operand.tmp 45) (Operand.tmp 53) 3
                    refine wpMono_take' 24 (v := ?_) rfl (by kernel_rfl) (by kernel_rfl) (by kernel_rfl) (fun _ _ _ h => h) (by rfl) ?_ ?_
                    rotate_left
                    · (intro W hSw; (first | (have hbx := (HBX.out.drew).keeps (X := nobody) hSw (fun h => h); have q0 : W.cell? ⟨wr.heap.size, 0, none⟩ = some (.int .i64 y.r) := hbx.cell 0; have q1 : W.cell? ⟨wr.heap.size, 1, none⟩ = some (.int .i64 y.n) := hbx.cell 1; have ql := hbx.lt; have hg := (HG9.out.drew).keeps (X := nobody) hSw (fun h => h); have q2 : W.cell? ⟨g, 2, none⟩ = some (.slice (some ⟨b, 0, none⟩) L.length c3) := hg.cell 2; have gl := hg.lt; have z1 : W.cell? ⟨b, q * 10 + 1, none⟩ = some (.int .i64 x.n) := (hSw.cells b _ (Nat.lt_of_lt_of_le hbl2 HX9.out.size)).trans ((HX9.out.cell (p := ⟨b, q * 10 + 1, none⟩) hbl2).trans HX.out)) | skip)
                       go_simp; first | done | rfl)
                    try simp only [Act.put, List.setIfInBounds_toArray, List.set_cons_zero, List.set_cons_succ]
                    (try rw [dyr]); (try rw [dyn]); (try rw [dq]); (try rw [dr])
                    -- 25 Op.pick (Operand.tmp 43) (Operand.const (Value.bool true)) (Operand.tmp 54)
                    refine wpMono_take' 25 (v := ?_) rfl (by kernel_rfl) (by kernel_rfl) (by kernel_rfl) (fun _ _ _ h => h) (by rfl) ?_ ?_
                    rotate_left
                    · (intro W hSw; (first | (have hbx := (HBX.out.drew).keeps (X := nobody) hSw (fun h => h); have q0 : W.cell? ⟨wr.heap.size, 0, none⟩ = some (.int .i64 y.r) := hbx.cell 0; have q1 : W.cell? ⟨wr.heap.size, 1, none⟩ = some (.int .i64 y.n) := hbx.cell 1; have ql := hbx.lt; have hg := (HG9.out.drew).keeps (X := nobody) hSw (fun h => h); have q2 : W.cell? ⟨g, 2, none⟩ = some (.slice (some ⟨b, 0, none⟩) L.length c3) := hg.cell 2; have gl := hg.lt; have z1 : W.cell? ⟨b, q * 10 + 1, none⟩ = some (.int .i64 x.n) := (hSw.cells b _ (Nat.lt_of_lt_of_le hbl2 HX9.out.size)).trans ((HX9.out.cell (p := ⟨b, q * 10 + 1, none⟩) hbl2).trans HX.out)) | skip)
                       go_simp; first | done | rfl)
                    try simp only [Act.put, List.setIfInBounds_toArray, List.set_cons_zero, List.set_cons_succ]
                    (try rw [dyr]); (try rw [dyn]); (try rw [dq]); (try rw [dr])
                    -- 26 Op.pick (Operand.tmp 40) (Operand.tmp 55) (Operand.const (Value.bool false))
                    refine wpMono_take' 26 (v := ?_) rfl (by kernel_rfl) (by kernel_rfl) (by kernel_rfl) (fun _ _ _ h => h) (by rfl) ?_ ?_
                    rotate_left
                    · (intro W hSw; (first | (have hbx := (HBX.out.drew).keeps (X := nobody) hSw (fun h => h); have q0 : W.cell? ⟨wr.heap.size, 0, none⟩ = some (.int .i64 y.r) := hbx.cell 0; have q1 : W.cell? ⟨wr.heap.size, 1, none⟩ = some (.int .i64 y.n) := hbx.cell 1; have ql := hbx.lt; have hg := (HG9.out.drew).keeps (X := nobody) hSw (fun h => h); have q2 : W.cell? ⟨g, 2, none⟩ = some (.slice (some ⟨b, 0, none⟩) L.length c3) := hg.cell 2; have gl := hg.lt; have z1 : W.cell? ⟨b, q * 10 + 1, none⟩ = some (.int .i64 x.n) := (hSw.cells b _ (Nat.lt_of_lt_of_le hbl2 HX9.out.size)).trans ((HX9.out.cell (p := ⟨b, q * 10 + 1, none⟩) hbl2).trans HX.out)) | skip)
                       go_simp; first | done | rfl)
                    try simp only [Act.put, List.setIfInBounds_toArray, List.set_cons_zero, List.set_cons_succ]
                    (try rw [dyr]); (try rw [dyn]); (try rw [dq]); (try rw [dr])
                    refine wpMono_done (by kernel_rfl) ?_ _
                    go_wp2_with fail
                    go_roundw
                    case rel => exact ⟨k + 1, _, by omega, by go_num, rfl, HBE2.out, HB9.out.drew⟩
                    case measure => (simp [intOf]; try omega)
                  · have dr : decide (y.n < x.n) = false := by simpa using hr
                    have HBE2 := Lib.hid (HBE.out.stay (by rw [HY.out, HXX.out]; exact hr))
                    go_wp2_with fail
                    refine wp_region_mono nobody (by kernel_rfl) ?_
                    -- 0 Op.fieldAddr 35 (Operand.tmp 8) 0
                    refine wpMono_take' 0 (v := ?_) rfl (by kernel_rfl) (by kernel_rfl) (by kernel_rfl) (fun _ _ _ h => h) (by rfl) ?_ ?_
                    rotate_left
                    · (intro W hSw; (first | (have hbx := (HBX.out.drew).keeps (X := nobody) hSw (fun h => h); have q0 : W.cell? ⟨wr.heap.size, 0, none⟩ = some (.int .i64 y.r) := hbx.cell 0; have q1 : W.cell? ⟨wr.heap.size, 1, none⟩ = some (.int .i64 y.n) := hbx.cell 1; have ql := hbx.lt; have hg := (HG9.out.drew).keeps (X := nobody) hSw (fun h => h); have q2 : W.cell? ⟨g, 2, none⟩ = some (.slice (some ⟨b, 0, none⟩) L.length c3) := hg.cell 2; have gl := hg.lt; have z1 : W.cell? ⟨b, q * 10 + 1, none⟩ = some (.int .i64 x.n) := (hSw.cells b _ (Nat.lt_of_lt_of_le hbl2 HX9.out.size)).trans ((HX9.out.cell (p := ⟨b, q * 10 + 1, none⟩) hbl2).trans HX.out)) | skip)
                       go_simp; first | done | rfl)
                    try simp only [Act.put, List.setIfInBounds_toArray, List.set_cons_zero, List.set_cons_succ]
                    (try rw [dyr]); (try rw [dyn]); (try rw [dq]); (try rw [dr])
                    -- 1 Op.load 3 (Operand.tmp 30)
                    refine wpMono_take' 1 (v := ?_) rfl (by kernel_rfl) (by kernel_rfl) (by kernel_rfl) (fun _ _ _ h => h) (by rfl) ?_ ?_
                    rotate_left
                    · (intro W hSw; (first | (have hbx := (HBX.out.drew).keeps (X := nobody) hSw (fun h => h); have q0 : W.cell? ⟨wr.heap.size, 0, none⟩ = some (.int .i64 y.r) := hbx.cell 0; have q1 : W.cell? ⟨wr.heap.size, 1, none⟩ = some (.int .i64 y.n) := hbx.cell 1; have ql := hbx.lt; have hg := (HG9.out.drew).keeps (X := nobody) hSw (fun h => h); have q2 : W.cell? ⟨g, 2, none⟩ = some (.slice (some ⟨b, 0, none⟩) L.length c3) := hg.cell 2; have gl := hg.lt; have z1 : W.cell? ⟨b, q * 10 + 1, none⟩ = some (.int .i64 x.n) := (hSw.cells b _ (Nat.lt_of_lt_of_le hbl2 HX9.out.size)).trans ((HX9.out.cell (p := ⟨b, q * 10 + 1, none⟩) hbl2).trans HX.out)) | skip)
                       go_simp; first | done | rfl)
                    try simp only [Act.put, List.setIfInBounds_toArray, List.set_cons_zero, List.set_cons_succ]
                    (try rw [dyr]); (try rw [dyn]); (try rw [dq]); (try rw [dr])
                    -- 2 Op.move (Operand.tmp 4)
                    refine wpMono_take' 2 (v := ?_) rfl (by kernel_rfl) (by kernel_rfl) (by kernel_rfl) (fun _ _ _ h => h) (by rfl) ?_ ?_
                    rotate_left
                    · (intro W hSw; (first | (have hbx := (HBX.out.drew).keeps (X := nobody) hSw (fun h => h); have q0 : W.cell? ⟨wr.heap.size, 0, none⟩ = some (.int .i64 y.r) := hbx.cell 0; have q1 : W.cell? ⟨wr.heap.size, 1, none⟩ = some (.int .i64 y.n) := hbx.cell 1; have ql := hbx.lt; have hg := (HG9.out.drew).keeps (X := nobody) hSw (fun h => h); have q2 : W.cell? ⟨g, 2, none⟩ = some (.slice (some ⟨b, 0, none⟩) L.length c3) := hg.cell 2; have gl := hg.lt; have z1 : W.cell? ⟨b, q * 10 + 1, none⟩ = some (.int .i64 x.n) := (hSw.cells b _ (Nat.lt_of_lt_of_le hbl2 HX9.out.size)).trans ((HX9.out.cell (p := ⟨b, q * 10 + 1, none⟩) hbl2).trans HX.out)) | skip)
                       go_simp; first | done | rfl)
                    try simp only [Act.put, List.setIfInBounds_toArray, List.set_cons_zero, List.set_cons_succ]
                    (try rw [dyr]); (try rw [dyn]); (try rw [dq]); (try rw [dr])
                    -- 3 Op.binOp BinOp.eql 3 (Operand.tmp 31) (Operand.tmp 32) 3
                    refine wpMono_take' 3 (v := ?_) rfl (by kernel_rfl) (by kernel_rfl) (by kernel_rfl) (fun _ _ _ h => h) (by rfl) ?_ ?_
                    rotate_left
                    · (intro W hSw; (first | (have hbx := (HBX.out.drew).keeps (X := nobody) hSw (fun h => h); have q0 : W.cell? ⟨wr.heap.size, 0, none⟩ = some (.int .i64 y.r) := hbx.cell 0; have q1 : W.cell? ⟨wr.heap.size, 1, none⟩ = some (.int .i64 y.n) := hbx.cell 1; have ql := hbx.lt; have hg := (HG9.out.drew).keeps (X := nobody) hSw (fun h => h); have q2 : W.cell? ⟨g, 2, none⟩ = some (.slice (some ⟨b, 0, none⟩) L.length c3) := hg.cell 2; have gl := hg.lt; have z1 : W.cell? ⟨b, q * 10 + 1, none⟩ = some (.int .i64 x.n) := (hSw.cells b _ (Nat.lt_of_lt_of_le hbl2 HX9.out.size)).trans ((HX9.out.cell (p := ⟨b, q * 10 + 1, none⟩) hbl2).trans HX.out)) | skip)
                       go_simp; first | done | rfl)
                    try simp only [Act.put, List.setIfInBounds_toArray, List.set_cons_zero, List.set_cons_succ]
                    (try rw [dyr]); (try rw [dyn]); (try rw [dq]); (try rw [dr])
                    -- 4 Op.move (Operand.tmp 33)
                    refine wpMono_take' 4 (v := ?_) rfl (by kernel_rfl) (by kernel_rfl) (by kernel_rfl) (fun _ _ _ h => h) (by rfl) ?_ ?_
                    rotate_left
                    · (intro W hSw; (first | (have hbx := (HBX.out.drew).keeps (X := nobody) hSw (fun h => h); have q0 : W.cell? ⟨wr.heap.size, 0, none⟩ = some (.int .i64 y.r) := hbx.cell 0; have q1 : W.cell? ⟨wr.heap.size, 1, none⟩ = some (.int .i64 y.n) := hbx.cell 1; have ql := hbx.lt; have hg := (HG9.out.drew).keeps (X := nobody) hSw (fun h => h); have q2 : W.cell? ⟨g, 2, none⟩ = some (.slice (some ⟨b, 0, none⟩) L.length c3) := hg.cell 2; have gl := hg.lt; have z1 : W.cell? ⟨b, q * 10 + 1, none⟩ = some (.int .i64 x.n) := (hSw.cells b _ (Nat.lt_of_lt_of_le hbl2 HX9.out.size)).trans ((HX9.out.cell (p := ⟨b, q * 10 + 1, none⟩) hbl2).trans HX.out)) | skip)
                       go_simp; first | done | rfl)
                    try simp only [Act.put, List.setIfInBounds_toArray, List.set_cons_zero, List.set_cons_succ]
                    (try rw [dyr]); (try rw [dyn]); (try rw [dq]); (try rw [dr])
                    -- 5 Op.fieldAddr 35 (Operand.tmp 8) 1
                    refine wpMono_take' 5 (v := ?_) rfl (by kernel_rfl) (by kernel_rfl) (by kernel_rfl) (fun _ _ _ h => h) (by rfl) ?_ ?_
                    rotate_left
                    · (intro W hSw; (first | (have hbx := (HBX.out.drew).keeps (X := nobody) hSw (fun h => h); have q0 : W.cell? ⟨wr.heap.size, 0, none⟩ = some (.int .i64 y.r) := hbx.cell 0; have q1 : W.cell? ⟨wr.heap.size, 1, none⟩ = some (.int .i64 y.n) := hbx.cell 1; have ql := hbx.lt; have hg := (HG9.out.drew).keeps (X := nobody) hSw (fun h => h); have q2 : W.cell? ⟨g, 2, none⟩ = some (.slice (some ⟨b, 0, none⟩) L.length c3) := hg.cell 2; have gl := hg.lt; have z1 : W.cell? ⟨b, q * 10 + 1, none⟩ = some (.int .i64 x.n) := (hSw.cells b _ (Nat.lt_of_lt_of_le hbl2 HX9.out.size)).trans ((HX9.out.cell (p := ⟨b, q * 10 + 1, none⟩) hbl2).trans HX.out)) | skip)
                       go_simp; first | done | rfl)
                    try simp only [Act.put, List.setIfInBounds_toArray, List.set_cons_zero, List.set_cons_succ]
                    (try rw [dyr]); (try rw [dyn]); (try rw [dq]); (try rw [dr])
                    -- 6 Op.load 3 (Operand.tmp 35)
                    refine wpMono_take' 6 (v := ?_) rfl (by kernel_rfl) (by kernel_rfl) (by kernel_rfl) (fun _ _ _ h => h) (by rfl) ?_ ?_
                    rotate_left
                    · (intro W hSw; (first | (have hbx := (HBX.out.drew).keeps (X := nobody) hSw (fun h => h); have q0 : W.cell? ⟨wr.heap.size, 0, none⟩ = some (.int .i64 y.r) := hbx.cell 0; have q1 : W.cell? ⟨wr.heap.size, 1, none⟩ = some (.int .i64 y.n) := hbx.cell 1; have ql := hbx.lt; have hg := (HG9.out.drew).keeps (X := nobody) hSw (fun h => h); have q2 : W.cell? ⟨g, 2, none⟩ = some (.slice (some ⟨b, 0, none⟩) L.length c3) := hg.cell 2; have gl := hg.lt; have z1 : W.cell? ⟨b, q * 10 + 1, none⟩ = some (.int .i64 x.n) := (hSw.cells b _ (Nat.lt_of_lt_of_le hbl2 HX9.out.size)).trans ((HX9.out.cell (p := ⟨b, q * 10 + 1, none⟩) hbl2).trans HX.out)) | skip)
                       go_simp; first | done | rfl)
                    try simp only [Act.put, List.setIfInBounds_toArray, List.set_cons_zero, List.set_cons_succ]
                    (try rw [dyr]); (try rw [dyn]); (try rw [dq]); (try rw [dr])
                    -- 7 Op.move (Operand.tmp 5)
                    refine wpMono_take' 7 (v := ?_) rfl (by kernel_rfl) (by kernel_rfl) (by kernel_rfl) (fun _ _ _ h => h) (by rfl) ?_ ?_
                    rotate_left
                    · (intro W hSw; (first | (have hbx := (HBX.out.drew).keeps (X := nobody) hSw (fun h => h); have q0 : W.cell? ⟨wr.heap.size, 0, none⟩ = some (.int .i64 y.r) := hbx.cell 0; have q1 : W.cell? ⟨wr.heap.size, 1, none⟩ = some (.int .i64 y.n) := hbx.cell 1; have ql := hbx.lt; have hg := (HG9.out.drew).keeps (X := nobody) hSw (fun h => h); have q2 : W.cell? ⟨g, 2, none⟩ = some (.slice (some ⟨b, 0, none⟩) L.length c3) := hg.cell 2; have gl := hg.lt; have z1 : W.cell? ⟨b, q * 10 + 1, none⟩ = some (.int .i64 x.n) := (hSw.cells b _ (Nat.lt_of_lt_of_le hbl2 HX9.out.size)).trans ((HX9.out.cell (p := ⟨b, q * 10 + 1, none⟩) hbl2).trans HX.out)) | skip)
                       go_simp; first | done | rfl)
                    try simp only [Act.put, List.setIfInBounds_toArray, List.set_cons_zero, List.set_cons_succ]
                    (try rw [dyr]); (try rw [dyn]); (try rw [dq]); (try rw [dr])
                    -- 8 Op.binOp BinOp.gtr 3 (Operand.tmp 36) (Operand.tmp 37) 3
                    refine wpMono_take' 8 (v := ?_) rfl (by kernel_rfl) (by kernel_rfl) (by kernel_rfl) (fun _ _ _ h => h) (by rfl) ?_ ?_
                    rotate_left
                    · (intro W hSw; (first | (have hbx := (HBX.out.drew).keeps (X := nobody) hSw (fun h => h); have q0 : W.cell? ⟨wr.heap.size, 0, none⟩ = some (.int .i64 y.r) := hbx.cell 0; have q1 : W.cell? ⟨wr.heap.size, 1, none⟩ = some (.int .i64 y.n) := hbx.cell 1; have ql := hbx.lt; have hg := (HG9.out.drew).keeps (X := nobody) hSw (fun h => h); have q2 : W.cell? ⟨g, 2, none⟩ = some (.slice (some ⟨b, 0, none⟩) L.length c3) := hg.cell 2; have gl := hg.lt; have z1 : W.cell? ⟨b, q * 10 + 1, none⟩ = some (.int .i64 x.n) := (hSw.cells b _ (Nat.lt_of_lt_of_le hbl2 HX9.out.size)).trans ((HX9.out.cell (p := ⟨b, q * 10 + 1, none⟩) hbl2).trans HX.out)) | skip)
                       go_simp; first | done | rfl)
                    try simp only [Act.put, List.setIfInBounds_toArray, List.set_cons_zero, List.set_cons_succ]
                    (try rw [dyr]); (try rw [dyn]); (try rw [dq]); (try rw [dr])
                    -- 9 Op.pick (Operand.tmp 34) (Operand.tmp 38) (Operand.const (Value.bool false))
                    refine wpMono_take' 9 (v := ?_) rfl (by kernel_rfl) (by kernel_rfl) (by kernel_rfl) (fun _ _ _ h => h) (by rfl) ?_ ?_
                    rotate_left
                    · (intro W hSw; (first | (have hbx := (HBX.out.drew).keeps (X := nobody) hSw (fun h => h); have q0 : W.cell? ⟨wr.heap.size, 0, none⟩ = some (.int .i64 y.r) := hbx.cell 0; have q1 : W.cell? ⟨wr.heap.size, 1, none⟩ = some (.int .i64 y.n) := hbx.cell 1; have ql := hbx.lt; have hg := (HG9.out.drew).keeps (X := nobody) hSw (fun h => h); have q2 : W.cell? ⟨g, 2, none⟩ = some (.slice (some ⟨b, 0, none⟩) L.length c3) := hg.cell 2; have gl := hg.lt; have z1 : W.cell? ⟨b, q * 10 + 1, none⟩ = some (.int .i64 x.n) := (hSw.cells b _ (Nat.lt_of_lt_of_le hbl2 HX9.out.size)).trans ((HX9.out.cell (p := ⟨b, q * 10 + 1, none⟩) hbl2).trans HX.out)) | skip)
                       go_simp; first | done | rfl)
                    try simp only [Act.put, List.setIfInBounds_toArray, List.set_cons_zero, List.set_cons_succ]
                    (try rw [dyr]); (try rw [dyn]); (try rw [dq]); (try rw [dr])
                    -- 10 Op.move (Operand.tmp 39)
                    refine wpMono_take' 10 (v := ?_) rfl (by kernel_rfl) (by kernel_rfl) (by kernel_rfl) (fun _ _ _ h => h) (by rfl) ?_ ?_
                    rotate_left
                    · (intro W hSw; (first | (have hbx := (HBX.out.drew).keeps (X := nobody) hSw (fun h => h); have q0 : W.cell? ⟨wr.heap.size, 0, none⟩ = some (.int .i64 y.r) := hbx.cell 0; have q1 : W.cell? ⟨wr.heap.size, 1, none⟩ = some (.int .i64 y.n) := hbx.cell 1; have ql := hbx.lt; have hg := (HG9.out.drew).keeps (X := nobody) hSw (fun h => h); have q2 : W.cell? ⟨g, 2, none⟩ = some (.slice (some ⟨b, 0, none⟩) L.length c3) := hg.cell 2; have gl := hg.lt; have z1 : W.cell? ⟨b, q * 10 + 1, none⟩ = some (.int .i64 x.n) := (hSw.cells b _ (Nat.lt_of_lt_of_le hbl2 HX9.out.size)).trans ((HX9.out.cell (p := ⟨b, q * 10 + 1, none⟩) hbl2).trans HX.out)) | skip)
                       go_simp; first | done | rfl)
                    try simp only [Act.put, List.setIfInBounds_toArray, List.set_cons_zero, List.set_cons_succ]
                    (try rw [dyr]); (try rw [dyn]); (try rw [dq]); (try rw [dr])
                    -- 11 Op.move (Operand.tmp 6)
                    refine wpMono_take' 11 (v := ?_) rfl (by kernel_rfl) (by kernel_rfl) (by kernel_rfl) (fun _ _ _ h => h) (by rfl) ?_ ?_
                    rotate_left
                    · (intro W hSw; (first | (have hbx := (HBX.out.drew).keeps (X := nobody) hSw (fun h => h); have q0 : W.cell? ⟨wr.heap.size, 0, none⟩ = some (.int .i64 y.r) := hbx.cell 0; have q1 : W.cell? ⟨wr.heap.size, 1, none⟩ = some (.int .i64 y.n) := hbx.cell 1; have ql := hbx.lt; have hg := (HG9.out.drew).keeps (X := nobody) hSw (fun h => h); have q2 : W.cell? ⟨g, 2, none⟩ = some (.slice (some ⟨b, 0, none⟩) L.length c3) := hg.cell 2; have gl := hg.lt; have z1 : W.cell? ⟨b, q * 10 + 1, none⟩ = some (.int .i64 x.n) := (hSw.cells b _ (Nat.lt_of_lt_of_le hbl2 HX9.out.size)).trans ((HX9.out.cell (p := ⟨b, q * 10 + 1, none⟩) hbl2).trans HX.out)) | skip)
                       go_simp; first | done | rfl)
                    try simp only [Act.put, List.setIfInBounds_toArray, List.set_cons_zero, List.set_cons_succ]
                    (try rw [dyr]); (try rw [dyn]); (try rw [dq]); (try rw [dr])
                    -- 12 Op.binOp BinOp.lss 3 (Operand.tmp 41) (Operand.const (Value.int IntKind.i64 0)) 3
                    refine wpMono_take' 12 (v := ?_) rfl (by kernel_rfl) (by kernel_rfl) (by kernel_rfl) (fun _ _ _ h => h) (by rfl) ?_ ?_
                    rotate_left
                    · (intro W hSw; (first | (have hbx := (HBX.out.drew).keeps (X := nobody) hSw (fun h => h); have q0 : W.cell? ⟨wr.heap.size, 0, none⟩ = some (.int .i64 y.r) := hbx.cell 0; have q1 : W.cell? ⟨wr.heap.size, 1, none⟩ = some (.int .i64 y.n) := hbx.cell 1; have ql := hbx.lt; have hg := (HG9.out.drew).keeps (X := nobody) hSw (fun h => h); have q2 : W.cell? ⟨g, 2, none⟩ = some (.slice (some ⟨b, 0, none⟩) L.length c3) := hg.cell 2; have gl := hg.lt; have z1 : W.cell? ⟨b, q * 10 + 1, none⟩ = some (.int .i64 x.n) := (hSw.cells b _ (Nat.lt_of_lt_of_le hbl2 HX9.out.size)).trans ((HX9.out.cell (p := ⟨b, q * 10 + 1, none⟩) hbl2).trans HX.out)) | skip)
                       go_simp; first | done | rfl)
                    try simp only [Act.put, List.setIfInBounds_toArray, List.set_cons_zero, List.set_cons_succ]
                    (try rw [dyr]); (try rw [dyn]); (try rw [dq]); (try rw [dr])
                    -- 13 Op.move (Operand.tmp 42)
                    refine wpMono_take' 13 (v := ?_) rfl (by kernel_rfl) (by kernel_rfl) (by kernel_rfl) (fun _ _ _ h => h) (by rfl) ?_ ?_
                    rotate_left
                    · (intro W hSw; (first | (have hbx := (HBX.out.drew).keeps (X := nobody) hSw (fun h => h); have q0 : W.cell? ⟨wr.heap.size, 0, none⟩ = some (.int .i64 y.r) := hbx.cell 0; have q1 : W.cell? ⟨wr.heap.size, 1, none⟩ = some (.int .i64 y.n) := hbx.cell 1; have ql := hbx.lt; have hg := (HG9.out.drew).keeps (X := nobody) hSw (fun h => h); have q2 : W.cell? ⟨g, 2, none⟩ = some (.slice (some ⟨b, 0, none⟩) L.length c3) := hg.cell 2; have gl := hg.lt; have z1 : W.cell? ⟨b, q * 10 + 1, none⟩ = some (.int .i64 x.n) := (hSw.cells b _ (Nat.lt_of_lt_of_le hbl2 HX9.out.size)).trans ((HX9.out.cell (p := ⟨b, q * 10 + 1, none⟩) hbl2).trans HX.out)) | skip)
                       go_simp; first | done | rfl)
                    try simp only [Act.put, List.setIfInBounds_toArray, List.set_cons_zero, List.set_cons_succ]
                    (try rw [dyr]); (try rw [dyn]); (try rw [dq]); (try rw [dr])
                    -- 14 Op.fieldAddr 35 (Operand.tmp 8) 1
                    refine wpMono_take' 14 (v := ?_) rfl (by kernel_rfl) (by kernel_rfl) (by kernel_rfl) (fun _ _ _ h => h) (by rfl) ?_ ?_
                    rotate_left
                    · (intro W hSw; (first | (have hbx := (HBX.out.drew).keeps (X := nobody) hSw (fun h => h); have q0 : W.cell? ⟨wr.heap.size, 0, none⟩ = some (.int .i64 y.r) := hbx.cell 0; have q1 : W.cell? ⟨wr.heap.size, 1, none⟩ = some (.int .i64 y.n) := hbx.cell 1; have ql := hbx.lt; have hg := (HG9.out.drew).keeps (X := nobody) hSw (fun h => h); have q2 : W.cell? ⟨g, 2, none⟩ = some (.slice (some ⟨b, 0, none⟩) L.length c3) := hg.cell 2; have gl := hg.lt; have z1 : W.cell? ⟨b, q * 10 + 1, none⟩ = some (.int .i64 x.n) := (hSw.cells b _ (Nat.lt_of_lt_of_le hbl2 HX9.out.size)).trans ((HX9.out.cell (p := ⟨b, q * 10 + 1, none⟩) hbl2).trans HX.out)) | skip)
                       go_simp; first | done | rfl)
                    try simp only [Act.put, List.setIfInBounds_toArray, List.set_cons_zero, List.set_cons_succ]
                    (try rw [dyr]); (try rw [dyn]); (try rw [dq]); (try rw [dr])
                    -- 15 Op.load 3 (Operand.tmp 44)
                    refine wpMono_take' 15 (v := ?_) rfl (by kernel_rfl) (by kernel_rfl) (by kernel_rfl) (fun _ _ _ h => h) (by rfl) ?_ ?_
                    rotate_left
                    · (intro W hSw; (first | (have hbx := (HBX.out.drew).keeps (X := nobody) hSw (fun h => h); have q0 : W.cell? ⟨wr.heap.size, 0, none⟩ = some (.int .i64 y.r) := hbx.cell 0; have q1 : W.cell? ⟨wr.heap.size, 1, none⟩ = some (.int .i64 y.n) := hbx.cell 1; have ql := hbx.lt; have hg := (HG9.out.drew).keeps (X := nobody) hSw (fun h => h); have q2 : W.cell? ⟨g, 2, none⟩ = some (.slice (some ⟨b, 0, none⟩) L.length c3) := hg.cell 2; have gl := hg.lt; have z1 : W.cell? ⟨b, q * 10 + 1, none⟩ = some (.int .i64 x.n) := (hSw.cells b _ (Nat.lt_of_lt_of_le hbl2 HX9.out.size)).trans ((HX9.out.cell (p := ⟨b, q * 10 + 1, none⟩) hbl2).trans HX.out)) | skip)
                       go_simp; first | done | rfl)
                    try simp only [Act.put, List.setIfInBounds_toArray, List.set_cons_zero, List.set_cons_succ]
                    (try rw [dyr]); (try rw [dyn]); (try rw [dq]); (try rw [dr])
                    -- 16 Op.move (Operand.tmp 0)
                    refine wpMono_take' 16 (v := ?_) rfl (by kernel_rfl) (by kernel_rfl) (by kernel_rfl) (fun _ _ _ h => h) (by rfl) ?_ ?_
                    rotate_left
                    · (intro W hSw; (first | (have hbx := (HBX.out.drew).keeps (X := nobody) hSw (fun h => h); have q0 : W.cell? ⟨wr.heap.size, 0, none⟩ = some (.int .i64 y.r) := hbx.cell 0; have q1 : W.cell? ⟨wr.heap.size, 1, none⟩ = some (.int .i64 y.n) := hbx.cell 1; have ql := hbx.lt; have hg := (HG9.out.drew).keeps (X := nobody) hSw (fun h => h); have q2 : W.cell? ⟨g, 2, none⟩ = some (.slice (some ⟨b, 0, none⟩) L.length c3) := hg.cell 2; have gl := hg.lt; have z1 : W.cell? ⟨b, q * 10 + 1, none⟩ = some (.int .i64 x.n) := (hSw.cells b _ (Nat.lt_of_lt_of_le hbl2 HX9.out.size)).trans ((HX9.out.cell (p := ⟨b, q * 10 + 1, none⟩) hbl2).trans HX.out)) | skip)
                       go_simp; first | done | rfl)
                    try simp only [Act.put, List.setIfInBounds_toArray, List.set_cons_zero, List.set_cons_succ]
                    (try rw [dyr]); (try rw [dyn]); (try rw [dq]); (try rw [dr])
                    -- 17 Op.nilCheck (Operand.tmp 46)
                    refine wpMono_take' 17 (v := ?_) rfl (by kernel_rfl) (by kernel_rfl) (by kernel_rfl) (fun _ _ _ h => h) (by rfl) ?_ ?_
                    rotate_left
                    · (intro W hSw; (first | (have hbx := (HBX.out.drew).keeps (X := nobody) hSw (fun h => h); have q0 : W.cell? ⟨wr.heap.size, 0, none⟩ = some (.int .i64 y.r) := hbx.cell 0; have q1 : W.cell? ⟨wr.heap.size, 1, none⟩ = some (.int .i64 y.n) := hbx.cell 1; have ql := hbx.lt; have hg := (HG9.out.drew).keeps (X := nobody) hSw (fun h => h); have q2 : W.cell? ⟨g, 2, none⟩ = some (.slice (some ⟨b, 0, none⟩) L.length c3) := hg.cell 2; have gl := hg.lt; have z1 : W.cell? ⟨b, q * 10 + 1, none⟩ = some (.int .i64 x.n) := (hSw.cells b _ (Nat.lt_of_lt_of_le hbl2 HX9.out.size)).trans ((HX9.out.cell (p := ⟨b, q * 10 + 1, none⟩) hbl2).trans HX.out)) | skip)
                       go_simp; first | done | rfl)
                    try simp only [Act.put, List.setIfInBounds_toArray, List.set_cons_zero, List.set_cons_succ]
                    (try rw [dyr]); (try rw [dyn]); (try rw [dq]); (try rw [dr])
                    -- 18 Op.fieldAddr 68 (Operand.tmp 47) 2
                    refine wpMono_take' 18 (v := ?_) rfl (by kernel_rfl) (by kernel_rfl) (by kernel_rfl) (fun _ _ _ h => h) (by rfl) ?_ ?_
                    rotate_left
                    · (intro W hSw; (first | (have hbx := (HBX.out.drew).keeps (X := nobody) hSw (fun h => h); have q0 : W.cell? ⟨wr.heap.size, 0, none⟩ = some (.int .i64 y.r) := hbx.cell 0; have q1 : W.cell? ⟨wr.heap.size, 1, none⟩ = some (.int .i64 y.n) := hbx.cell 1; have ql := hbx.lt; have hg := (HG9.out.drew).keeps (X := nobody) hSw (fun h => h); have q2 : W.cell? ⟨g, 2, none⟩ = some (.slice (some ⟨b, 0, none⟩) L.length c3) := hg.cell 2; have gl := hg.lt; have z1 : W.cell? ⟨b, q * 10 + 1, none⟩ = some (.int .i64 x.n) := (hSw.cells b _ (Nat.lt_of_lt_of_le hbl2 HX9.out.size)).trans ((HX9.out.cell (p := ⟨b, q * 10 + 1, none⟩) hbl2).trans HX.out)) | skip)
                       go_simp; first | done | rfl)
                    try simp only [Act.put, List.setIfInBounds_toArray, List.set_cons_zero, List.set_cons_succ]
                    (try rw [dyr]); (try rw [dyn]); (try rw [dq]); (try rw [dr])
                    -- 19 Op.load 25 (Operand.tmp 48)
                    refine wpMono_take' 19 (v := ?_) rfl (by kernel_rfl) (by kernel_rfl) (by kernel_rfl) (fun _ _ _ h => h) (by rfl) ?_ ?_
                    rotate_left
                    · (intro W hSw; (first | (have hbx := (HBX.out.drew).keeps (X := nobody) hSw (fun h => h); have q0 : W.cell? ⟨wr.heap.size, 0, none⟩ = some (.int .i64 y.r) := hbx.cell 0; have q1 : W.cell? ⟨wr.heap.size, 1, none⟩ = some (.int .i64 y.n) := hbx.cell 1; have ql := hbx.lt; have hg := (HG9.out.drew).keeps (X := nobody) hSw (fun h => h); have q2 : W.cell? ⟨g, 2, none⟩ = some (.slice (some ⟨b, 0, none⟩) L.length c3) := hg.cell 2; have gl := hg.lt; have z1 : W.cell? ⟨b, q * 10 + 1, none⟩ = some (.int .i64 x.n) := (hSw.cells b _ (Nat.lt_of_lt_of_le hbl2 HX9.out.size)).trans ((HX9.out.cell (p := ⟨b, q * 10 + 1, none⟩) hbl2).trans HX.out)) | skip)
                       go_simp; first | done | rfl)
                    try simp only [Act.put, List.setIfInBounds_toArray, List.set_cons_zero, List.set_cons_succ]
                    (try rw [dyr]); (try rw [dyn]); (try rw [dq]); (try rw [dr])
                    -- 20 Op.move (Operand.tmp 6)
                    refine wpMono_take' 20 (v := ?_) rfl (by kernel_rfl) (by kernel_rfl) (by kernel_rfl) (fun _ _ _ h => h) (by rfl) ?_ ?_
                    rotate_left
                    · (intro W hSw; (first | (have hbx := (HBX.out.drew).keeps (X := nobody) hSw (fun h => h); have q0 : W.cell? ⟨wr.heap.size, 0, none⟩ = some (.int .i64 y.r) := hbx.cell 0; have q1 : W.cell? ⟨wr.heap.size, 1, none⟩ = some (.int .i64 y.n) := hbx.cell 1; have ql := hbx.lt; have hg := (HG9.out.drew).keeps (X := nobody) hSw (fun h => h); have q2 : W.cell? ⟨g, 2, none⟩ = some (.slice (some ⟨b, 0, none⟩) L.length c3) := hg.cell 2; have gl := hg.lt; have z1 : W.cell? ⟨b, q * 10 + 1, none⟩ = some (.int .i64 x.n) := (hSw.cells b _ (Nat.lt_of_lt_of_le hbl2 HX9.out.size)).trans ((HX9.out.cell (p := ⟨b, q * 10 + 1, none⟩) hbl2).trans HX.out)) | skip)
                       go_simp; first | done | rfl)
                    try simp only [Act.put, List.setIfInBounds_toArray, List.set_cons_zero, List.set_cons_succ]
                    (try rw [dyr]); (try rw [dyn]); (try rw [dq]); (try rw [dr])
                    -- 21 Op.indexAddr 25 (Operand.tmp 49) (Operand.tmp 50)
                    refine wpMono_take' 21 (v := ?_) rfl (by kernel_rfl) (by kernel_rfl) (by kernel_rfl) (fun _ _ _ h => h) (by rfl) ?_ ?_
                    rotate_left
                    · (intro W hSw; (first | (have hbx := (HBX.out.drew).keeps (X := nobody) hSw (fun h => h); have q0 : W.cell? ⟨wr.heap.size, 0, none⟩ = some (.int .i64 y.r) := hbx.cell 0; have q1 : W.cell? ⟨wr.heap.size, 1, none⟩ = some (.int .i64 y.n) := hbx.cell 1; have ql := hbx.lt; have hg := (HG9.out.drew).keeps (X := nobody) hSw (fun h => h); have q2 : W.cell? ⟨g, 2, none⟩ = some (.slice (some ⟨b, 0, none⟩) L.length c3) := hg.cell 2; have gl := hg.lt; have z1 : W.cell? ⟨b, q * 10 + 1, none⟩ = some (.int .i64 x.n) := (hSw.cells b _ (Nat.lt_of_lt_of_le hbl2 HX9.out.size)).trans ((HX9.out.cell (p := ⟨b, q * 10 + 1, none⟩) hbl2).trans HX.out)) | skip)
                       go_simp; first | done | rfl)
                    try simp only [Act.put, List.setIfInBounds_toArray, List.set_cons_zero, List.set_cons_succ]
                    (try rw [dyr]); (try rw [dyn]); (try rw [dq]); (try rw [dr])
                    -- 22 Op.fieldAddr 35 (Operand.tmp 51) 1
                    refine wpMono_take' 22 (v := ?_) rfl (by kernel_rfl) (by kernel_rfl) (by kernel_rfl) (fun _ _ _ h => h) (by rfl) ?_ ?_
                    rotate_left
                    · (intro W hSw; (first | (have hbx := (HBX.out.drew).keeps (X := nobody) hSw (fun h => h); have q0 : W.cell? ⟨wr.heap.size, 0, none⟩ = some (.int .i64 y.r) := hbx.cell 0; have q1 : W.cell? ⟨wr.heap.size, 1, none⟩ = some (.int .i64 y.n) := hbx.cell 1; have ql := hbx.lt; have hg := (HG9.out.drew).keeps (X := nobody) hSw (fun h => h); have q2 : W.cell? ⟨g, 2, none⟩ = some (.slice (some ⟨b, 0, none⟩) L.length c3) := hg.cell 2; have gl := hg.lt; have z1 : W.cell? ⟨b, q * 10 + 1, none⟩ = some (.int .i64 x.n) := (hSw.cells b _ (Nat.lt_of_lt_of_le hbl2 HX9.out.size)).trans ((HX9.out.cell (p := ⟨b, q * 10 + 1, none⟩) hbl2).trans HX.out)) | skip)
                       go_simp; first | done | rfl)
                    try simp only [Act.put, List.setIfInBounds_toArray, List.set_cons_zero, List.set_cons_succ]
                    (try rw [dyr]); (try rw [dyn]); (try rw [dq]); (try rw [dr])
                    -- 23 Op.load 3 (Operand.tmp 52)
                    refine wpMono_take' 23 (v := ?_) rfl (by kernel_rfl) (by kernel_rfl) (by kernel_rfl) (fun _ _ _ h => h) (by rfl) ?_ ?_
                    rotate_left
                    · (intro W hSw; (first | (have hbx := (HBX.out.drew).keeps (X := nobody) hSw (fun h => h); have q0 : W.cell? ⟨wr.heap.size, 0, none⟩ = some (.int .i64 y.r) := hbx.cell 0; have q1 : W.cell? ⟨wr.heap.size, 1, none⟩ = some (.int .i64 y.n) := hbx.cell 1; have ql := hbx.lt; have hg := (HG9.out.drew).keeps (X := nobody) hSw (fun h => h); have q2 : W.cell? ⟨g, 2, none⟩ = some (.slice (some ⟨b, 0, none⟩) L.length c3) := hg.cell 2; have gl := hg.lt; have z1 : W.cell? ⟨b, q * 10 + 1, none⟩ = some (.int .i64 x.n) := (hSw.cells b _ (Nat.lt_of_lt_of_le hbl2 HX9.out.size)).trans ((HX9.out.cell (p := ⟨b, q * 10 + 1, none⟩) hbl2).trans HX.out)) | skip)
                       go_simp; first | done | rfl)
                    try simp only [Act.put, List.setIfInBounds_toArray, List.set_cons_zero, List.set_cons_succ]
                    (try rw [dyr]); (try rw [dyn]); (try rw [dq]); (try rw [dr])
                    -- 24 Op.binOp BinOp.lss 3 (Operand.tmp 45) (Operand.tmp 53) 3
                    refine wpMono_take' 24 (v := ?_) rfl (by kernel_rfl) (by kernel_rfl) (by kernel_rfl) (fun _ _ _ h => h) (by rfl) ?_ ?_
                    rotate_left
                    · (intro W hSw; (first | (have hbx := (HBX.out.drew).keeps (X := nobody) hSw (fun h => h); have q0 : W.cell? ⟨wr.heap.size, 0, none⟩ = some (.int .i64 y.r) := hbx.cell 0; have q1 : W.cell? ⟨wr.heap.size, 1, none⟩ = some (.int .i64 y.n) := hbx.cell 1; have ql := hbx.lt; have hg := (HG9.out.drew).keeps (X := nobody) hSw (fun h => h); have q2 : W.cell? ⟨g, 2, none⟩ = some (.slice (some ⟨b, 0, none⟩) L.length c3) := hg.cell 2; have gl := hg.lt; have z1 : W.cell? ⟨b, q * 10 + 1, none⟩ = some (.int .i64 x.n) := (hSw.cells b _ (Nat.lt_of_lt_of_le hbl2 HX9.out.size)).trans ((HX9.out.cell (p := ⟨b, q * 10 + 1, none⟩) hbl2).trans HX.out)) | skip)
                       go_simp; first | done | rfl)
                    try simp only [Act.put, List.setIfInBounds_toArray, List.set_cons_zero, List.set_cons_succ]
                    (try rw [dyr]); (try rw [dyn]); (try rw [dq]); (try rw [dr])
                    -- 25 Op.pick (Operand.tmp 43) (Operand.const (Value.bool true)) (Operand.tmp 54)
                    refine wpMono_take' 25 (v := ?_) rfl (by kernel_rfl) (by kernel_rfl) (by kernel_rfl) (fun _ _ _ h => h) (by rfl) ?_ ?_
                    rotate_left
                    · (intro W hSw; (first | (have hbx := (HBX.out.drew).keeps (X := nobody) hSw (fun h => h); have q0 : W.cell? ⟨wr.heap.size, 0, none⟩ = some (.int .i64 y.r) := hbx.cell 0; have q1 : W.cell? ⟨wr.heap.size, 1, none⟩ = some (.int .i64 y.n) := hbx.cell 1; have ql := hbx.lt; have hg := (HG9.out.drew).keeps (X := nobody) hSw (fun h => h); have q2 : W.cell? ⟨g, 2, none⟩ = some (.slice (some ⟨b, 0, none⟩) L.length c3) := hg.cell 2; have gl := hg.lt; have z1 : W.cell? ⟨b, q * 10 + 1, none⟩ = some (.int .i64 x.n) := (hSw.cells b _ (Nat.lt_of_lt_of_le hbl2 HX9.out.size)).trans ((HX9.out.cell (p := ⟨b, q * 10 + 1, none⟩) hbl2).trans HX.out)) | skip)
                       go_simp; first | done | rfl)
                    try simp only [Act.put, List.setIfInBounds_toArray, List.set_cons_zero, List.set_cons_succ]
                    (try rw [dyr]); (try rw [dyn]); (try rw [dq]); (try rw [dr])
                    -- 26 Op.pick (Operand.tmp 40) (Operand.tmp 55) (Operand.const (Value.bool false))
                    refine wpMono_take' 26 (v := ?_) rfl (by kernel_rfl) (by kernel_rfl) (by kernel_rfl) (fun _ _ _ h => h) (by rfl) ?_ ?_
                    rotate_left
                    · (intro W hSw; (first | (have hbx := (HBX.out.drew).keeps (X := nobody) hSw (fun h => h); have q0 : W.cell? ⟨wr.heap.size, 0, none⟩ = some (.int .i64 y.r) := hbx.cell 0; have q1 : W.cell? ⟨wr.heap.size, 1, none⟩ = some (.int .i64 y.n) := hbx.cell 1; have ql := hbx.lt; have hg := (HG9.out.drew).keeps (X := nobody) hSw (fun h => h); have q2 : W.cell? ⟨g, 2, none⟩ = some (.slice (some ⟨b, 0, none⟩) L.length c3) := hg.cell 2; have gl := hg.lt; have z1 : W.cell? ⟨b, q * 10 + 1, none⟩ = some (.int .i64 x.n) := (hSw.cells b _ (Nat.lt_of_lt_of_le hbl2 HX9.out.size)).trans ((HX9.out.cell (p := ⟨b, q * 10 + 1, none⟩) hbl2).trans HX.out)) | skip)
                       go_simp; first | done | rfl)
                    try simp only [Act.put, List.setIfInBounds_toArray, List.set_cons_zero, List.set_cons_succ]
                    (try rw [dyr]); (try rw [dyn]); (try rw [dq]); (try rw [dr])
                    refine wpMono_done (by kernel_rfl) ?_ _
                    go_wp2_with fail
                    go_roundw
                    case rel => exact ⟨k + 1, _, by omega, by go_num, rfl, HBE2.out, HB9.out.drew⟩
                    case measure => (simp [intOf]; try omega)
              · have dyn : decide (last < y.n) = false := by simpa using hyn
                have HNX := Lib.hid (show nxB r last (L.getD k wrZ) = false by rw [HY.out]; unfold nxB; simp; omega)
                have HYR := Lib.hid hyr
                clear hyr hyn
                have HBE2 := Lib.hid (HBE.out.pass HNX.out)
                go_wp2_with fail
                refine wp_region_mono nobody (by kernel_rfl) ?_
                -- 0 Op.fieldAddr 35 (Operand.tmp 8) 0
                refine wpMono_take' 0 (v := ?_) rfl (by kernel_rfl) (by kernel_rfl) (by kernel_rfl) (fun _ _ _ h => h) (by rfl) ?_ ?_
                rotate_left
                · (intro W hSw; (first | (have hbx := (HBX.out.drew).keeps (X := nobody) hSw (fun h => h); have q0 : W.cell? ⟨wr.heap.size, 0, none⟩ = some (.int .i64 y.r) := hbx.cell 0; have q1 : W.cell? ⟨wr.heap.size, 1, none⟩ = some (.int .i64 y.n) := hbx.cell 1; have ql := hbx.lt; have hg := (HG9.out.drew).keeps (X := nobody) hSw (fun h => h); have q2 : W.cell? ⟨g, 2, none⟩ = some (.slice (some ⟨b, 0, none⟩) L.length c3) := hg.cell 2; have gl := hg.lt; skip) | skip)
                   go_simp; first | done | rfl)
                try simp only [Act.put, List.setIfInBounds_toArray, List.set_cons_zero, List.set_cons_succ]
                (try rw [dyr]); (try rw [dyn])
                -- 1 Op.load 3 (Operand.tmp 30)
                refine wpMono_take' 1 (v := ?_) rfl (by kernel_rfl) (by kernel_rfl) (by kernel_rfl) (fun _ _ _ h => h) (by rfl) ?_ ?_
                rotate_left
                · (intro W hSw; (first | (have hbx := (HBX.out.drew).keeps (X := nobody) hSw (fun h => h); have q0 : W.cell? ⟨wr.heap.size, 0, none⟩ = some (.int .i64 y.r) := hbx.cell 0; have q1 : W.cell? ⟨wr.heap.size, 1, none⟩ = some (.int .i64 y.n) := hbx.cell 1; have ql := hbx.lt; have hg := (HG9.out.drew).keeps (X := nobody) hSw (fun h => h); have q2 : W.cell? ⟨g, 2, none⟩ = some (.slice (some ⟨b, 0, none⟩) L.length c3) := hg.cell 2; have gl := hg.lt; skip) | skip)
                   go_simp; first | done | rfl)
                try simp only [Act.put, List.setIfInBounds_toArray, List.set_cons_zero, List.set_cons_succ]
                (try rw [dyr]); (try rw [dyn])
                -- 2 Op.move (Operand.tmp 4)
                refine wpMono_take' 2 (v := ?_) rfl (by kernel_rfl) (by kernel_rfl) (by kernel_rfl) (fun _ _ _ h => h) (by rfl) ?_ ?_
                rotate_left
                · (intro W hSw; (first | (have hbx := (HBX.out.drew).keeps (X := nobody) hSw (fun h => h); have q0 : W.cell? ⟨wr.heap.size, 0, none⟩ = some (.int .i64 y.r) := hbx.cell 0; have q1 : W.cell? ⟨wr.heap.size, 1, none⟩ = some (.int .i64 y.n) := hbx.cell 1; have ql := hbx.lt; have hg := (HG9.out.drew).keeps (X := nobody) hSw (fun h => h); have q2 : W.cell? ⟨g, 2, none⟩ = some (.slice (some ⟨b, 0, none⟩) L.length c3) := hg.cell 2; have gl := hg.lt; skip) | skip)
                   go_simp; first | done | rfl)
                try simp only [Act.put, List.setIfInBounds_toArray, List.set_cons_zero, List.set_cons_succ]
                (try rw [dyr]); (try rw [dyn])
                -- 3 Op.binOp BinOp.eql 3 (Operand.tmp 31) (Operand.tmp 32) 3
                refine wpMono_take' 3 (v := ?_) rfl (by kernel_rfl) (by kernel_rfl) (by kernel_rfl) (fun _ _ _ h => h) (by rfl) ?_ ?_
                rotate_left
                · (intro W hSw; (first | (have hbx := (HBX.out.drew).keeps (X := nobody) hSw (fun h => h); have q0 : W.cell? ⟨wr.heap.size, 0, none⟩ = some (.int .i64 y.r) := hbx.cell 0; have q1 : W.cell? ⟨wr.heap.size, 1, none⟩ = some (.int .i64 y.n) := hbx.cell 1; have ql := hbx.lt; have hg := (HG9.out.drew).keeps (X := nobody) hSw (fun h => h); have q2 : W.cell? ⟨g, 2, none⟩ = some (.slice (some ⟨b, 0, none⟩) L.length c3) := hg.cell 2; have gl := hg.lt; skip) | skip)
                   go_simp; first | done | rfl)
                try simp only [Act.put, List.setIfInBounds_toArray, List.set_cons_zero, List.set_cons_succ]
                (try rw [dyr]); (try rw [dyn])
                -- 4 Op.move (Operand.tmp 33)
                refine wpMono_take' 4 (v := ?_) rfl (by kernel_rfl) (by kernel_rfl) (by kernel_rfl) (fun _ _ _ h => h) (by rfl) ?_ ?_
                rotate_left
                · (intro W hSw; (first | (have hbx := (HBX.out.drew).keeps (X := nobody) hSw (fun h => h); have q0 : W.cell? ⟨wr.heap.size, 0, none⟩ = some (.int .i64 y.r) := hbx.cell 0; have q1 : W.cell? ⟨wr.heap.size, 1, none⟩ = some (.int .i64 y.n) := hbx.cell 1; have ql := hbx.lt; have hg := (HG9.out.drew).keeps (X := nobody) hSw (fun h => h); have q2 : W.cell? ⟨g, 2, none⟩ = some (.slice (some ⟨b, 0, none⟩) L.length c3) := hg.cell 2; have gl := hg.lt; skip) | skip)
                   go_simp; first | done | rfl)
                try simp only [Act.put, List.setIfInBounds_toArray, List.set_cons_zero, List.set_cons_succ]
                (try rw [dyr]); (try rw [dyn])
                -- 5 Op.fieldAddr 35 (Operand.tmp 8) 1
                refine wpMono_take' 5 (v := ?_) rfl (by kernel_rfl) (by kernel_rfl) (by kernel_rfl) (fun _ _ _ h => h) (by rfl) ?_ ?_
                rotate_left
                · (intro W hSw; (first | (have hbx := (HBX.out.drew).keeps (X := nobody) hSw (fun h => h); have q0 : W.cell? ⟨wr.heap.size, 0, none⟩ = some (.int .i64 y.r) := hbx.cell 0; have q1 : W.cell? ⟨wr.heap.size, 1, none⟩ = some (.int .i64 y.n) := hbx.cell 1; have ql := hbx.lt; have hg := (HG9.out.drew).keeps (X := nobody) hSw (fun h => h); have q2 : W.cell? ⟨g, 2, none⟩ = some (.slice (some ⟨b, 0, none⟩) L.length c3) := hg.cell 2; have gl := hg.lt; skip) | skip)
                   go_simp; first | done | rfl)
                try simp only [Act.put, List.setIfInBounds_toArray, List.set_cons_zero, List.set_cons_succ]
                (try rw [dyr]); (try rw [dyn])
                -- 6 Op.load 3 (Operand.tmp 35)
                refine wpMono_take' 6 (v := ?_) rfl (by kernel_rfl) (by kernel_rfl) (by kernel_rfl) (fun _ _ _ h => h) (by rfl) ?_ ?_
                rotate_left
                · (intro W hSw; (first | (have hbx := (HBX.out.drew).keeps (X := nobody) hSw (fun h => h); have q0 : W.cell? ⟨wr.heap.size, 0, none⟩ = some (.int .i64 y.r) := hbx.cell 0; have q1 : W.cell? ⟨wr.heap.size, 1, none⟩ = some (.int .i64 y.n) := hbx.cell 1; have ql := hbx.lt; have hg := (HG9.out.drew).keeps (X := nobody) hSw (fun h => h); have q2 : W.cell? ⟨g, 2, none⟩ = some (.slice (some ⟨b, 0, none⟩) L.length c3) := hg.cell 2; have gl := hg.lt; skip) | skip)
                   go_simp; first | done | rfl)
                try simp only [Act.put, List.setIfInBounds_toArray, List.set_cons_zero, List.set_cons_succ]
                (try rw [dyr]); (try rw [dyn])
                -- 7 Op.move (Operand.tmp 5)
                refine wpMono_take' 7 (v := ?_) rfl (by kernel_rfl) (by kernel_rfl) (by kernel_rfl) (fun _ _ _ h => h) (by rfl) ?_ ?_
                rotate_left
                · (intro W hSw; (first | (have hbx := (HBX.out.drew).keeps (X := nobody) hSw (fun h => h); have q0 : W.cell? ⟨wr.heap.size, 0, none⟩ = some (.int .i64 y.r) := hbx.cell 0; have q1 : W.cell? ⟨wr.heap.size, 1, none⟩ = some (.int .i64 y.n) := hbx.cell 1; have ql := hbx.lt; have hg := (HG9.out.drew).keeps (X := nobody) hSw (fun h => h); have q2 : W.cell? ⟨g, 2, none⟩ = some (.slice (some ⟨b, 0, none⟩) L.length c3) := hg.cell 2; have gl := hg.lt; skip) | skip)
                   go_simp; first | done | rfl)
                try simp only [Act.put, List.setIfInBounds_toArray, List.set_cons_zero, List.set_cons_succ]
                (try rw [dyr]); (try rw [dyn])
                -- 8 Op.binOp BinOp.gtr 3 (Operand.tmp 36) (Operand.tmp 37) 3
                refine wpMono_take' 8 (v := ?_) rfl (by kernel_rfl) (by kernel_rfl) (by kernel_rfl) (fun _ _ _ h => h) (by rfl) ?_ ?_
                rotate_left
                · (intro W hSw; (first | (have hbx := (HBX.out.drew).keeps (X := nobody) hSw (fun h => h); have q0 : W.cell? ⟨wr.heap.size, 0, none⟩ = some (.int .i64 y.r) := hbx.cell 0; have q1 : W.cell? ⟨wr.heap.size, 1, none⟩ = some (.int .i64 y.n) := hbx.cell 1; have ql := hbx.lt; have hg := (HG9.out.drew).keeps (X := nobody) hSw (fun h => h); have q2 : W.cell? ⟨g, 2, none⟩ = some (.slice (some ⟨b, 0, none⟩) L.length c3) := hg.cell 2; have gl := hg.lt; skip) | skip)
                   go_simp; first | done | rfl)
                try simp only [Act.put, List.setIfInBounds_toArray, List.set_cons_zero, List.set_cons_succ]
                (try rw [dyr]); (try rw [dyn])
                -- 9 Op.pick (Operand.tmp 34) (Operand.tmp 38) (Operand.const (Value.bool false))
                refine wpMono_take' 9 (v := ?_) rfl (by kernel_rfl) (by kernel_rfl) (by kernel_rfl) (fun _ _ _ h => h) (by rfl) ?_ ?_
                rotate_left
                · (intro W hSw; (first | (have hbx := (HBX.out.drew).keeps (X := nobody) hSw (fun h => h); have q0 : W.cell? ⟨wr.heap.size, 0, none⟩ = some (.int .i64 y.r) := hbx.cell 0; have q1 : W.cell? ⟨wr.heap.size, 1, none⟩ = some (.int .i64 y.n) := hbx.cell 1; have ql := hbx.lt; have hg := (HG9.out.drew).keeps (X := nobody) hSw (fun h => h); have q2 : W.cell? ⟨g, 2, none⟩ = some (.slice (some ⟨b, 0, none⟩) L.length c3) := hg.cell 2; have gl := hg.lt; skip) | skip)
                   go_simp; first | done | rfl)
                try simp only [Act.put, List.setIfInBounds_toArray, List.set_cons_zero, List.set_cons_succ]
                (try rw [dyr]); (try rw [dyn])
                -- 10 Op.move (Operand.tmp 39)
                refine wpMono_take' 10 (v := ?_) rfl (by kernel_rfl) (by kernel_rfl) (by kernel_rfl) (fun _ _ _ h => h) (by rfl) ?_ ?_
                rotate_left
                · (intro W hSw; (first | (have hbx := (HBX.out.drew).keeps (X := nobody) hSw (fun h => h); have q0 : W.cell? ⟨wr.heap.size, 0, none⟩ = some (.int .i64 y.r) := hbx.cell 0; have q1 : W.cell? ⟨wr.heap.size, 1, none⟩ = some (.int .i64 y.n) := hbx.cell 1; have ql := hbx.lt; have hg := (HG9.out.drew).keeps (X := nobody) hSw (fun h => h); have q2 : W.cell? ⟨g, 2, none⟩ = some (.slice (some ⟨b, 0, none⟩) L.length c3) := hg.cell 2; have gl := hg.lt; skip) | skip)
                   go_simp; first | done | rfl)
                try simp only [Act.put, List.setIfInBounds_toArray, List.set_cons_zero, List.set_cons_succ]
                (try rw [dyr]); (try rw [dyn])
                -- 11 Op.move (Operand.tmp 6)
                refine wpMono_skip' 11 rfl (by kernel_rfl) (by kernel_rfl) (by kernel_rfl) (fun _ _ _ h => h) (by rfl) ?_
                try simp only [Act.put, List.setIfInBounds_toArray, List.set_cons_zero, List.set_cons_succ]
                (try rw [dyr]); (try rw [dyn])
                -- 12 Op.binOp BinOp.lss 3 (Operand.tmp 41) (Operand.const (Value.int IntKind.i64 0)) 3
                refine wpMono_skip' 12 rfl (by kernel_rfl) (by kernel_rfl) (by kernel_rfl) (fun _ _ _ h => h) (by rfl) ?_
                try simp only [Act.put, List.setIfInBounds_toArray, List.set_cons_zero, List.set_cons_succ]
                (try rw [dyr]); (try rw [dyn])
                -- 13 Op.move (Operand.tmp 42)
                refine wpMono_skip' 13 rfl (by kernel_rfl) (by kernel_rfl) (by kernel_rfl) (fun _ _ _ h => h) (by rfl) ?_
                try simp only [Act.put, List.setIfInBounds_toArray, List.set_cons_zero, List.set_cons_succ]
                (try rw [dyr]); (try rw [dyn])
                -- 14 Op.fieldAddr 35 (Operand.tmp 8) 1
                refine wpMono_skip' 14 rfl (by kernel_rfl) (by kernel_rfl) (by kernel_rfl) (fun _ _ _ h => h) (by rfl) ?_
                try simp only [Act.put, List.setIfInBounds_toArray, List.set_cons_zero, List.set_cons_succ]
                (try rw [dyr]); (try rw [dyn])
                -- 15 Op.load 3 (Operand.tmp 44)
                refine wpMono_skip' 15 rfl (by kernel_rfl) (by kernel_rfl) (by kernel_rfl) (fun _ _ _ h => h) (by rfl) ?_
                try simp only [Act.put, List.setIfInBounds_toArray, List.set_cons_zero, List.set_cons_succ]
                (try rw [dyr]); (try rw [dyn])
                -- 16 Op.move (Operand.tmp 0)
                refine wpMono_skip' 16 rfl (by kernel_rfl) (by kernel_rfl) (by kernel_rfl) (fun _ _ _ h => h) (by rfl) ?_
                try simp only [Act.put, List.setIfInBounds_toArray, List.set_cons_zero, List.set_cons_succ]
                (try rw [dyr]); (try rw [dyn])
                -- 17 Op.nilCheck (Operand.tmp 46)
                refine wpMono_skip' 17 rfl (by kernel_rfl) (by kernel_rfl) (by kernel_rfl) (fun _ _ _ h => h) (by rfl) ?_
                try simp only [Act.put, List.setIfInBounds_toArray, List.set_cons_zero, List.set_cons_succ]
                (try rw [dyr]); (try rw [dyn])
                -- 18 Op.fieldAddr 68 (Operand.tmp 47) 2
                refine wpMono_skip' 18 rfl (by kernel_rfl) (by kernel_rfl) (by kernel_rfl) (fun _ _ _ h => h) (by rfl) ?_
                try simp only [Act.put, List.setIfInBounds_toArray, List.set_cons_zero, List.set_cons_succ]
                (try rw [dyr]); (try rw [dyn])
                -- 19 Op.load 25 (Operand.tmp 48)
                refine wpMono_skip' 19 rfl (by kernel_rfl) (by kernel_rfl) (by kernel_rfl) (fun _ _ _ h => h) (by rfl) ?_
                try simp only [Act.put, List.setIfInBounds_toArray, List.set_cons_zero, List.set_cons_succ]
                (try rw [dyr]); (try rw [dyn])
                -- 20 Op.move (Operand.tmp 6)
                refine wpMono_skip' 20 rfl (by kernel_rfl) (by kernel_rfl) (by kernel_rfl) (fun _ _ _ h => h) (by rfl) ?_
                try simp only [Act.put, List.setIfInBounds_toArray, List.set_cons_zero, List.set_cons_succ]
                (try rw [dyr]); (try rw [dyn])
                -- 21 Op.indexAddr 25 (Operand.tmp 49) (Operand.tmp 50)
                refine wpMono_skip' 21 rfl (by kernel_rfl) (by kernel_rfl) (by kernel_rfl) (fun _ _ _ h => h) (by rfl) ?_
                try simp only [Act.put, List.setIfInBounds_toArray, List.set_cons_zero, List.set_cons_succ]
                (try rw [dyr]); (try rw [dyn])
                -- 22 Op.fieldAddr 35 (Operand.tmp 51) 1
                refine wpMono_skip' 22 rfl (by kernel_rfl) (by kernel_rfl) (by kernel_rfl) (fun _ _ _ h => h) (by rfl) ?_
                try simp only [Act.put, List.setIfInBounds_toArray, List.set_cons_zero, List.set_cons_succ]
                (try rw [dyr]); (try rw [dyn])
                -- 23 Op.load 3 (Operand.tmp 52)
                refine wpMono_skip' 23 rfl (by kernel_rfl) (by kernel_rfl) (by kernel_rfl) (fun _ _ _ h => h) (by rfl) ?_
                try simp only [Act.put, List.setIfInBounds_toArray, List.set_cons_zero, List.set_cons_succ]
                (try rw [dyr]); (try rw [dyn])
                -- 24 Op.binOp BinOp.lss 3 (Operand.tmp 45) (Operand.tmp 53) 3
                refine wpMono_skip' 24 rfl (by kernel_rfl) (by kernel_rfl) (by kernel_rfl) (fun _ _ _ h => h) (by rfl) ?_
                try simp only [Act.put, List.setIfInBounds_toArray, List.set_cons_zero, List.set_cons_succ]
                (try rw [dyr]); (try rw [dyn])
                -- 25 Op.pick (Operand.tmp 43) (Operand.const (Value.bool true)) (Operand.tmp 54)
                refine wpMono_skip' 25 rfl (by kernel_rfl) (by kernel_rfl) (by kernel_rfl) (fun _ _ _ h => h) (by rfl) ?_
                try simp only [Act.put, List.setIfInBounds_toArray, List.set_cons_zero, List.set_cons_succ]
                (try rw [dyr]); (try rw [dyn])
                -- 26 Op.pick (Operand.tmp 40) (Operand.tmp 55) (Operand.const (Value.bool false))
                refine wpMono_take' 26 (v := ?_) rfl (by kernel_rfl) (by kernel_rfl) (by kernel_rfl) (fun _ _ _ h => h) (by rfl) ?_ ?_
                rotate_left
                · (intro W hSw; (first | (have hbx := (HBX.out.drew).keeps (X := nobody) hSw (fun h => h); have q0 : W.cell? ⟨wr.heap.size, 0, none⟩ = some (.int .i64 y.r) := hbx.cell 0; have q1 : W.cell? ⟨wr.heap.size, 1, none⟩ = some (.int .i64 y.n) := hbx.cell 1; have ql := hbx.lt; have hg := (HG9.out.drew).keeps (X := nobody) hSw (fun h => h); have q2 : W.cell? ⟨g, 2, none⟩ = some (.slice (some ⟨b, 0, none⟩) L.length c3) := hg.cell 2; have gl := hg.lt; skip) | skip)
                   go_simp; first | done | rfl)
                try simp only [Act.put, List.setIfInBounds_toArray, List.set_cons_zero, List.set_cons_succ]
                (try rw [dyr]); (try rw [dyn])
                refine wpMono_done (by kernel_rfl) ?_ _
                go_wp2_with fail
                go_roundw
                case rel => exact ⟨k + 1, _, by omega, by go_num, rfl, HBE2.out, HB9.out.drew⟩
                case measure => (simp [intOf]; try omega)
            · have dyr : (y.r == r) = false := by simpa using hyr
              have HNX := Lib.hid (show nxB r last (L.getD k wrZ) = false by rw [HY.out]; unfold nxB; simp [hyr])
              clear hyr
              have HBE2 := Lib.hid (HBE.out.pass HNX.out)
              go_wp2_with fail
              refine wp_region_mono nobody (by kernel_rfl) ?_
              -- 0 Op.fieldAddr 35 (Operand.tmp 8) 0
              refine wpMono_take' 0 (v := ?_) rfl (by kernel_rfl) (by kernel_rfl) (by kernel_rfl) (fun _ _ _ h => h) (by rfl) ?_ ?_
              rotate_left
              · (intro W hSw; (first | (have hbx := (HBX.out.drew).keeps (X := nobody) hSw (fun h => h); have q0 : W.cell? ⟨wr.heap.size, 0, none⟩ = some (.int .i64 y.r) := hbx.cell 0; have q1 : W.cell? ⟨wr.heap.size, 1, none⟩ = some (.int .i64 y.n) := hbx.cell 1; have ql := hbx.lt; have hg := (HG9.out.drew).keeps (X := nobody) hSw (fun h => h); have q2 : W.cell? ⟨g, 2, none⟩ = some (.slice (some ⟨b, 0, none⟩) L.length c3) := hg.cell 2; have gl := hg.lt; skip) | skip)
                 go_simp; first | done | rfl)
              try simp only [Act.put, List.setIfInBounds_toArray, List.set_cons_zero, List.set_cons_succ]
              (try rw [dyr])
              -- 1 Op.load 3 (Operand.tmp 30)
              refine wpMono_take' 1 (v := ?_) rfl (by kernel_rfl) (by kernel_rfl) (by kernel_rfl) (fun _ _ _ h => h) (by rfl) ?_ ?_
              rotate_left
              · (intro W hSw; (first | (have hbx := (HBX.out.drew).keeps (X := nobody) hSw (fun h => h); have q0 : W.cell? ⟨wr.heap.size, 0, none⟩ = some (.int .i64 y.r) := hbx.cell 0; have q1 : W.cell? ⟨wr.heap.size, 1, none⟩ = some (.int .i64 y.n) := hbx.cell 1; have ql := hbx.lt; have hg := (HG9.out.drew).keeps (X := nobody) hSw (fun h => h); have q2 : W.cell? ⟨g, 2, none⟩ = some (.slice (some ⟨b, 0, none⟩) L.length c3) := hg.cell 2; have gl := hg.lt; skip) | skip)
                 go_simp; first | done | rfl)
              try simp only [Act.put, List.setIfInBounds_toArray, List.set_cons_zero, List.set_cons_succ]
              (try rw [dyr])
              -- 2 Op.move (Operand.tmp 4)
              refine wpMono_take' 2 (v := ?_) rfl (by kernel_rfl) (by kernel_rfl) (by kernel_rfl) (fun _ _ _ h => h) (by rfl) ?_ ?_
              rotate_left
              · (intro W hSw; (first | (have hbx := (HBX.out.drew).keeps (X := nobody) hSw (fun h => h); have q0 : W.cell? ⟨wr.heap.size, 0, none⟩ = some (.int .i64 y.r) := hbx.cell 0; have q1 : W.cell? ⟨wr.heap.size, 1, none⟩ = some (.int .i64 y.n) := hbx.cell 1; have ql := hbx.lt; have hg := (HG9.out.drew).keeps (X := nobody) hSw (fun h => h); have q2 : W.cell? ⟨g, 2, none⟩ = some (.slice (some ⟨b, 0, none⟩) L.length c3) := hg.cell 2; have gl := hg.lt; skip) | skip)
                 go_simp; first | done | rfl)
              try simp only [Act.put, List.setIfInBounds_toArray, List.set_cons_zero, List.set_cons_succ]
              (try rw [dyr])
              -- 3 Op.binOp BinOp.eql 3 (Operand.tmp 31) (Operand.tmp 32) 3
              refine wpMono_take' 3 (v := ?_) rfl (by kernel_rfl) (by kernel_rfl) (by kernel_rfl) (fun _ _ _ h => h) (by rfl) ?_ ?_
              rotate_left
              · (intro W hSw; (first | (have hbx := (HBX.out.drew).keeps (X := nobody) hSw (fun h => h); have q0 : W.cell? ⟨wr.heap.size, 0, none⟩ = some (.int .i64 y.r) := hbx.cell 0; have q1 : W.cell? ⟨wr.heap.size, 1, none⟩ = some (.int .i64 y.n) := hbx.cell 1; have ql := hbx.lt; have hg := (HG9.out.drew).keeps (X := nobody) hSw (fun h => h); have q2 : W.cell? ⟨g, 2, none⟩ = some (.slice (some ⟨b, 0, none⟩) L.length c3) := hg.cell 2; have gl := hg.lt; skip) | skip)
                 go_simp; first | done | rfl)
              try simp only [Act.put, List.setIfInBounds_toArray, List.set_cons_zero, List.set_cons_succ]
              (try rw [dyr])
              -- 4 Op.move (Operand.tmp 33)
              refine wpMono_take' 4 (v := ?_) rfl (by kernel_rfl) (by kernel_rfl) (by kernel_rfl) (fun _ _ _ h => h) (by rfl) ?_ ?_
              rotate_left
              · (intro W hSw; (first | (have hbx := (HBX.out.drew).keeps (X := nobody) hSw (fun h => h); have q0 : W.cell? ⟨wr.heap.size, 0, none⟩ = some (.int .i64 y.r) := hbx.cell 0; have q1 : W.cell? ⟨wr.heap.size, 1, none⟩ = some (.int .i64 y.n) := hbx.cell 1; have ql := hbx.lt; have hg := (HG9.out.drew).keeps (X := nobody) hSw (fun h => h); have q2 : W.cell? ⟨g, 2, none⟩ = some (.slice (some ⟨b, 0, none⟩) L.length c3) := hg.cell 2; have gl := hg.lt; skip) | skip)
                 go_simp; first | done | rfl)
              try simp only [Act.put, List.setIfInBounds_toArray, List.set_cons_zero, List.set_cons_succ]
              (try rw [dyr])
              -- 5 Op.fieldAddr 35 (Operand.tmp 8) 1
              refine wpMono_skip' 5 rfl (by kernel_rfl) (by kernel_rfl) (by kernel_rfl) (fun _ _ _ h => h) (by rfl) ?_
              try simp only [Act.put, List.setIfInBounds_toArray, List.set_cons_zero, List.set_cons_succ]
              (try rw [dyr])
              -- 6 Op.load 3 (Operand.tmp 35)
              refine wpMono_skip' 6 rfl (by kernel_rfl) (by kernel_rfl) (by kernel_rfl) (fun _ _ _ h => h) (by rfl) ?_
              try simp only [Act.put, List.setIfInBounds_toArray, List.set_cons_zero, List.set_cons_succ]
              (try rw [dyr])
              -- 7 Op.move (Operand.tmp 5)
              refine wpMono_skip' 7 rfl (by kernel_rfl) (by kernel_rfl) (by kernel_rfl) (fun _ _ _ h => h) (by rfl) ?_
              try simp only [Act.put, List.setIfInBounds_toArray, List.set_cons_zero, List.set_cons_succ]
              (try rw [dyr])
              -- 8 Op.binOp BinOp.gtr 3 (Operand.tmp 36) (Operand.tmp 37) 3
              refine wpMono_skip' 8 rfl (by kernel_rfl) (by kernel_rfl) (by kernel_rfl) (fun _ _ _ h => h) (by rfl) ?_
              try simp only [Act.put, List.setIfInBounds_toArray, List.set_cons_zero, List.set_cons_succ]
              (try rw [dyr])
              -- 9 Op.pick (Operand.tmp 34) (Operand.tmp 38) (Operand.const (Value.bool false))
              refine wpMono_take' 9 (v := ?_) rfl (by kernel_rfl) (by kernel_rfl) (by kernel_rfl) (fun _ _ _ h => h) (by rfl) ?_ ?_
              rotate_left
              · (intro W hSw; (first | (have hbx := (HBX.out.drew).keeps (X := nobody) hSw (fun h => h); have q0 : W.cell? ⟨wr.heap.size, 0, none⟩ = some (.int .i64 y.r) := hbx.cell 0; have q1 : W.cell? ⟨wr.heap.size, 1, none⟩ = some (.int .i64 y.n) := hbx.cell 1; have ql := hbx.lt; have hg := (HG9.out.drew).keeps (X := nobody) hSw (fun h => h); have q2 : W.cell? ⟨g, 2, none⟩ = some (.slice (some ⟨b, 0, none⟩) L.length c3) := hg.cell 2; have gl := hg.lt; skip) | skip)
                 go_simp; first | done | rfl)
              try simp only [Act.put, List.setIfInBounds_toArray, List.set_cons_zero, List.set_cons_succ]
              (try rw [dyr])
              -- 10 Op.move (Operand.tmp 39)
              refine wpMono_take' 10 (v := ?_) rfl (by kernel_rfl) (by kernel_rfl) (by kernel_rfl) (fun _ _ _ h => h) (by rfl) ?_ ?_
              rotate_left
              · (intro W hSw; (first | (have hbx := (HBX.out.drew).keeps (X := nobody) hSw (fun h => h); have q0 : W.cell? ⟨wr.heap.size, 0, none⟩ = some (.int .i64 y.r) := hbx.cell 0; have q1 : W.cell? ⟨wr.heap.size, 1, none⟩ = some (.int .i64 y.n) := hbx.cell 1; have ql := hbx.lt; have hg := (HG9.out.drew).keeps (X := nobody) hSw (fun h => h); have q2 : W.cell? ⟨g, 2, none⟩ = some (.slice (some ⟨b, 0, none⟩) L.length c3) := hg.cell 2; have gl := hg.lt; skip) | skip)
                 go_simp; first | done | rfl)
              try simp only [Act.put, List.setIfInBounds_toArray, List.set_cons_zero, List.set_cons_succ]
              (try rw [dyr])
              -- 11 Op.move (Operand.tmp 6)
              refine wpMono_skip' 11 rfl (by kernel_rfl) (by kernel_rfl) (by kernel_rfl) (fun _ _ _ h => h) (by rfl) ?_
              try simp only [Act.put, List.setIfInBounds_toArray, List.set_cons_zero, List.set_cons_succ]
              (try rw [dyr])
              -- 12 Op.binOp BinOp.lss 3 (Operand.tmp 41) (Operand.const (Value.int IntKind.i64 0)) 3
              refine wpMono_skip' 12 rfl (by kernel_rfl) (by kernel_rfl) (by kernel_rfl) (fun _ _ _ h => h) (by rfl) ?_
              try simp only [Act.put, List.setIfInBounds_toArray, List.set_cons_zero, List.set_cons_succ]
              (try rw [dyr])
              -- 13 Op.move (Operand.tmp 42)
              refine wpMono_skip' 13 rfl (by kernel_rfl) (by kernel_rfl) (by kernel_rfl) (fun _ _ _ h => h) (by rfl) ?_
              try simp only [Act.put, List.setIfInBounds_toArray, List.set_cons_zero, List.set_cons_succ]
              (try rw [dyr])
              -- 14 Op.fieldAddr 35 (Operand.tmp 8) 1
              refine wpMono_skip' 14 rfl (by kernel_rfl) (by kernel_rfl) (by kernel_rfl) (fun _ _ _ h => h) (by rfl) ?_
              try simp only [Act.put, List.setIfInBounds_toArray, List.set_cons_zero, List.set_cons_succ]
              (try rw [dyr])
              -- 15 Op.load 3 (Operand.tmp 44)
              refine wpMono_skip' 15 rfl (by kernel_rfl) (by kernel_rfl) (by kernel_rfl) (fun _ _ _ h => h) (by rfl) ?_
              try simp only [Act.put, List.setIfInBounds_toArray, List.set_cons_zero, List.set_cons_succ]
              (try rw [dyr])
              -- 16 Op.move (Operand.tmp 0)
              refine wpMono_skip' 16 rfl (by kernel_rfl) (by kernel_rfl) (by kernel_rfl) (fun _ _ _ h => h) (by rfl) ?_
              try simp only [Act.put, List.setIfInBounds_toArray, List.set_cons_zero, List.set_cons_succ]
              (try rw [dyr])
              -- 17 Op.nilCheck (Operand.tmp 46)
              refine wpMono_skip' 17 rfl (by kernel_rfl) (by kernel_rfl) (by kernel_rfl) (fun _ _ _ h => h) (by rfl) ?_
              try simp only [Act.put, List.setIfInBounds_toArray, List.set_cons_zero, List.set_cons_succ]
              (try rw [dyr])
              -- 18 Op.fieldAddr 68 (Operand.tmp 47) 2
              refine wpMono_skip' 18 rfl (by kernel_rfl) (by kernel_rfl) (by kernel_rfl) (fun _ _ _ h => h) (by rfl) ?_
              try simp only [Act.put, List.setIfInBounds_toArray, List.set_cons_zero, List.set_cons_succ]
              (try rw [dyr])
              -- 19 Op.load 25 (Operand.tmp 48)
              refine wpMono_skip' 19 rfl (by kernel_rfl) (by kernel_rfl) (by kernel_rfl) (fun _ _ _ h => h) (by rfl) ?_
              try simp only [Act.put, List.setIfInBounds_toArray, List.set_cons_zero, List.set_cons_succ]
              (try rw [dyr])
              -- 20 Op.move (Operand.tmp 6)
              refine wpMono_skip' 20 rfl (by kernel_rfl) (by kernel_rfl) (by kernel_rfl) (fun _ _ _ h => h) (by rfl) ?_
              try simp only [Act.put, List.setIfInBounds_toArray, List.set_cons_zero, List.set_cons_succ]
              (try rw [dyr])
              -- 21 Op.indexAddr 25 (Operand.tmp 49) (Operand.tmp 50)
              refine wpMono_skip' 21 rfl (by kernel_rfl) (by kernel_rfl) (by kernel_rfl) (fun _ _ _ h => h) (by rfl) ?_
              try simp only [Act.put, List.setIfInBounds_toArray, List.set_cons_zero, List.set_cons_succ]
              (try rw [dyr])
              -- 22 Op.fieldAddr 35 (Operand.tmp 51) 1
              refine wpMono_skip' 22 rfl (by kernel_rfl) (by kernel_rfl) (by kernel_rfl) (fun _ _ _ h => h) (by rfl) ?_
              try simp only [Act.put, List.setIfInBounds_toArray, List.set_cons_zero, List.set_cons_succ]
              (try rw [dyr])
              -- 23 Op.load 3 (Operand.tmp 52)
              refine wpMono_skip' 23 rfl (by kernel_rfl) (by kernel_rfl) (by kernel_rfl) (fun _ _ _ h => h) (by rfl) ?_
              try simp only [Act.put, List.setIfInBounds_toArray, List.set_cons_zero, List.set_cons_succ]
              (try rw [dyr])
              -- 24 Op.binOp BinOp.lss 3 (Operand.tmp 45) (Operand.tmp 53) 3
              refine wpMono_skip' 24 rfl (by kernel_rfl) (by kernel_rfl) (by kernel_rfl) (fun _ _ _ h => h) (by rfl) ?_
              try simp only [Act.put, List.setIfInBounds_toArray, List.set_cons_zero, List.set_cons_succ]
              (try rw [dyr])
              -- 25 Op.pick (Operand.tmp 43) (Operand.const (Value.bool true)) (Operand.tmp 54)
              refine wpMono_skip' 25 rfl (by kernel_rfl) (by kernel_rfl) (by kernel_rfl) (fun _ _ _ h => h) (by rfl) ?_
              try simp only [Act.put, List.setIfInBounds_toArray, List.set_cons_zero, List.set_cons_succ]
              (try rw [dyr])
              -- 26 Op.pick (Operand.tmp 40) (Operand.tmp 55) (Operand.const (Value.bool false))
              refine wpMono_take' 26 (v := ?_) rfl (by kernel_rfl) (by kernel_rfl) (by kernel_rfl) (fun _ _ _ h => h) (by rfl) ?_ ?_
              rotate_left
              · (intro W hSw; (first | (have hbx := (HBX.out.drew).keeps (X := nobody) hSw (fun h => h); have q0 : W.cell? ⟨wr.heap.size, 0, none⟩ = some (.int .i64 y.r) := hbx.cell 0; have q1 : W.cell? ⟨wr.heap.size, 1, none⟩ = some (.int .i64 y.n) := hbx.cell 1; have ql := hbx.lt; have hg := (HG9.out.drew).keeps (X := nobody) hSw (fun h => h); have q2 : W.cell? ⟨g, 2, none⟩ = some (.slice (some ⟨b, 0, none⟩) L.length c3) := hg.cell 2; have gl := hg.lt; skip) | skip)
                 go_simp; first | done | rfl)
              try simp only [Act.put, List.setIfInBounds_toArray, List.set_cons_zero, List.set_cons_succ]
              (try rw [dyr])
              refine wpMono_done (by kernel_rfl) ?_ _
              go_wp2_with fail
              go_roundw
              case rel => exact ⟨k + 1, _, by omega, by go_num, rfl, HBE2.out, HB9.out.drew⟩
              case measure => (simp [intOf]; try omega)
          · obtain rfl : k = L.length := by omega
            rcases hbe.cases with rfl | ⟨q, hq, rfl⟩
            · have HE2 := Lib.hid (HST.out.ends hbe)
              have HR2 := Lib.hid (own_below HROW.out hbr)
              have HBW := Lib.hid hbw
              clear hbe hbr hbw
              go_wp2_with fail
              go_roundw
              case rel => exact ⟨r + 1, out, by omega, by omega, by go_num, HE2.out, HR2.out, HBW.out⟩
              case measure => simp [intOf]; omega
            · obtain ⟨b, off, rfl, hbl⟩ := HRD.out.at_some (by omega)
              obtain rfl : off = 0 := by
                rcases HF.out.row.2 with ⟨e, _⟩ | ⟨g', cap', cur, e, _⟩
                · cases e
                · injection e with e
                  injection e with e
                  injection e
              have hE : ∀ p v, (L.getD q wrZ).cells[p]? = some v → w.cell? ⟨b, q * 10 + p, none⟩ = some v := fun p v hp => by
                have hp2 : p < 10 := by
                  have := (List.getElem?_eq_some_iff.1 hp).1
                  rwa [Wr.len] at this
                have h5 := Reads.thing Wr.cells Wr.len HRD.out (k := q) (x := L.getD q wrZ) (by omega) (by rw [List.getD_eq_getElem?_getD, List.getElem?_eq_getElem hq]; rfl) p hp2
                rw [Nat.zero_add] at h5
                rw [h5, hp]
              have hone : (L.getD q wrZ).d.oneCell' = true := by
                obtain ⟨hn, _⟩ := HF.out.num _ (getD_mem hq)
                obtain ⟨_, _, e⟩ := ownsRow_slice hn
                rw [e]; rfl
              obtain ⟨_, hnx, hln⟩ := HST.out.next HD.out hbe
              have hmem : L.getD q wrZ ∈ L := getD_mem hq
              have hol : out.length ≤ L.length := few_of HST.out.1 (fun x hx => ((HST.out.2 x).1 hx).1)
              generalize L.getD q wrZ = y at *
              have HE := Lib.hid (show ∀ p v, y.cells[p]? = some v → wr.cell? ⟨b, q * 10 + p, none⟩ = some v from fun p v hp => by
                rw [hbw.cell (p := ⟨b, q * 10 + p, none⟩) hbl]; exact hE p v hp)
              have HY1 := Lib.hid (show w.cell? ⟨b, q * 10 + 1, none⟩ = some (.int .i64 y.n) from hE 1 _ rfl)
              have HNX := Lib.hid hnx
              have HMEM := Lib.hid hmem
              have HBW := Lib.hid hbw
              have HB2 := Lib.hid (hbw.trans ((below_new wr (.cells y.cells.toArray 35)).mono hsr))
              have HR2 := Lib.hid (own_below (own_below HROW.out hbr) (below_new wr (.cells y.cells.toArray 35)))
              have HR14 := Lib.hid (show Reads (wr.alloc (.cells y.cells.toArray 35)) (wr.heap.size + 1) 10 (some ⟨wr.heap.size, 0, none⟩) 1 y.cells by
                have h9 := reads_blk (size := 10) (n := 1) (Blk.new wr 35 y.cells.toArray) (by simp [Wr.len])
                simpa using h9)
              clear hE hnx hmem hbe hbr hbw
              go_wp2_with (first | ((with_reducible refine wpList_load_at ?_ 35 (.tmp 66) ?_ b (q * 10) y.cells ?_ Try.underlying35 ?_ ?_ HE.out ?_); rfl; rfl; rfl; rfl; (rw [Wr.len]; kernel_rfl)) | ((with_reducible refine wpList_one ?_ (.tmp 67) ?_ y ?_ ?_); rfl; rfl; rfl) | (at_builtin; refine wpList_append_any _ rfl (.tmp 60) (.tmp 68) _ rfl w.heap.size 35 i0 _ 10 120 Try.underlying25 Hi0.out Hz0.out Hz1.out Hz2.out rfl (by decide) (.slice A6 out.length c6) out.length _ rfl HR2.out (wr.heap.size + 1) (some ⟨wr.heap.size, 0, none⟩) 1 1 y.cells rfl HR14.out (oneW y hone) (by unfold maxLen; omega) (by omega) (by simp; omega) ?_; intro v6 w6 ho6 hg6 hv6; have hb6 : Below w.heap.size w w6 := HB2.out.grown hg6 (by simp; omega) (fun i hi => (HR2.out.lt i hi).1); obtain ⟨A7, c7, rfl⟩ := ownsRow_slice ho6; have z26 : w6.cell? ⟨g, 2, none⟩ = some (.slice (some ⟨b, 0, none⟩) L.length c3) := (hb6.cell (p := ⟨g, 2, none⟩) yl).trans y2; have zl6 : g < w6.heap.size := Nat.lt_of_lt_of_le yl hb6.size; have x16 : w6.cell? ⟨b, q * 10 + 1, none⟩ = some (.int .i64 y.n) := (hb6.cell (p := ⟨b, q * 10 + 1, none⟩) hbl).trans HY1.out; have xl6 : b < w6.heap.size := Nat.lt_of_lt_of_le hbl hb6.size; have Ho6 := Lib.hid ho6; have Hb6 := Lib.hid hb6; clear ho6 hg6 hv6 hb6))
              go_roundw
              case rel =>
                refine ⟨y.n, out ++ [y], rfl, HNX.out, ?_, Hb6.out⟩
                have := Ho6.out
                rw [List.length_append, List.flatMap_append]
                simpa using this
              case measure => exact left_lt (a := last) (b := y.n) hln HMEM.out rfl
    · have HR := Lib.hid (show WaitsQ L w (.returned (.slice A6 out.length c6)) wr from ⟨_, out, rfl, hrow, Stands.all HD.out ⟨hst.1, fun x => (hst.2 x).trans ⟨fun h => ⟨h.1, by omega⟩, fun h => ⟨h.1, by omega⟩⟩⟩ (fun x hx => (HLR.out x hx).2), hst.1, hb⟩)
      clear hst hrow hb
      go_wp2
      go_ret
      exact HR.out
end Go.Proofs.Ytedkcpncomgboaa.dep
