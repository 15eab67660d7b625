/- The document's drain: what can be shown is shown, the least region first. -/
import Derived.Test.YtedkcpncomgboaaDrainRI
import Derived.Test.YtedkcpncomgboaaDrain
namespace Go.Proofs.Ytedkcpncomgboaa.dep
open Go Go.RowKit Go.Proofs.Ytedkcpncomgboaa.base Go.Proofs.Ytedkcpncomgboaa.rowe Go.Proofs.Ytedkcpncomgboaa.wire Go.Proofs.Ytedkcpncomgboaa.vec Go.Proofs.Ytedkcpncomgboaa.cmp Go.Proofs.Ytedkcpncomgboaa.with_ Go.Proofs.Ytedkcpncomgboaa.ref Go.Proofs.Ytedkcpncomgboaa.monoj Go.Proofs.Ytedkcpncomgboaa.monok

theorem own_geW {w : World} {base : Nat} {e : TypeId} {size n : Nat} {v : Value} {xs : List Value} (h : w.ownsRow base e size v n xs) {g : Nat} (hg : v.ownBlock = some g) : base ≤ g := (h.lt g hg).1
def DrainRR (R : Nat → Prop) (g : Nat) (rg : Int) (ap : List Int) (L : List Wr) (w : World) (e : Ending) (w' : World) : Prop :=
  ∃ vo a l out R', e = .returned vo ∧ DrainQ w R g rg ap L vo w' a l out R' ∧ ∀ j, j < l.length → readyB a (l.getD j wrZ) = false
set_option maxRecDepth 100000 in
set_option maxHeartbeats 8000000 in
theorem drain_ref (g : Nat) (rg : Int) (R : Nat → Prop) (ap : List Int) (L : List Wr) (va vl : Value) (w : World) (h : RIn w R g rg ap L va vl) :
    Calls Try.prog 48 #[.pointer (some ⟨g, 0, none⟩)] w (DrainRR R g rg ap L w) := by
  have H := Lib.hid h
  clear h
  go_enter Try.func48, Try.ntmps48
  go_wp2_with fail
  have HQ0 := Lib.hid (show DrainQ w R g rg ap L (.slice (some ⟨w.heap.size, 0, none⟩) 0 0) (w.alloc (.cells #[] 35)) ap L [] (fun i => (R i ∨ w.heap.size ≤ i) ∧ i < w.heap.size + 1) from by
    have hbx := below_new w (.cells #[] 35)
    have hf := H.out.below hbx
    refine ⟨.zero, ⟨va, vl, { hf with inG := ⟨.inl hf.inG, ?_⟩, inA := fun i hi => ⟨.inl (hf.inA i hi), ?_⟩, inW := fun i hi => ⟨.inl (hf.inW i hi), ?_⟩, inN := fun x hx i hi => ⟨.inl (hf.inN x hx i hi), ?_⟩, small := fun i hi => by simpa using hi.2 }, fun i hi e => ?_⟩, own_low (ownsRow_new0 w 35 10 #[]) (Nat.zero_le _), (fun x hx => by cases hx), (fun i hi => ?_), .of_below hbx, fun i hi => hi.1⟩
    · have := H.out.small g H.out.inG; omega
    · have := H.out.small i (H.out.inA i hi); omega
    · have := H.out.small i (H.out.inW i hi); omega
    · have := H.out.small i (H.out.inN x hx i hi); omega
    · have h1 := H.out.small i (H.out.inW i e)
      simp [Value.ownBlock] at hi
      omega
    · simp [Value.ownBlock] at hi
      exact ⟨.inr (by omega), by omega⟩)
  go_loopw [3] (fun vo wr => ∃ a l out R', DrainQ w R g rg ap L vo wr a l out R') (fun vo _ => L.length + 1 - slen vo)
  case atStart => exact ⟨_, _, _, _, HQ0.out⟩
  case round =>
    clear HQ0
    obtain ⟨a, l, out, R', hst, ⟨va1, vl1, hf, hap⟩, hrow, hnum, hvo, hk, hs'⟩ := hrel
    have HI := Lib.hid (show DrainQ w R g rg ap L u3 wr a l out R' from ⟨hst, ⟨_, _, hf, hap⟩, hrow, hnum, hvo, hk, hs'⟩)
    have HROW := Lib.hid hrow
    have HNUM := Lib.hid hnum
    have HVO := Lib.hid hvo
    have HK := Lib.hid hk
    have HS' := Lib.hid hs'
    have HST := Lib.hid hst
    have HF := Lib.hid hf
    obtain ⟨A3, c3, rfl, hrd⟩ := hf.reads
    have hlf := hf.wfew
    clear hst hf hap hrow hnum hvo hk hs'
    have HRD0 := Lib.hid hrd
    clear hrd
    obtain ⟨wo, hwo⟩ : ∃ wo : World, wo = wr := ⟨_, rfl⟩
    subst hwo
    go_wp2_with fail
    go_loopw [4, 5] (fun sz sk wi => ∃ (k : Nat) (z : Int), k ≤ l.length ∧ sk = .int .i64 k ∧ sz = .int .i64 z ∧ Best a l k z ∧ Below wo.heap.size wo wi) (fun _ sk _ => l.length - (intOf sk).toNat)
    case atStart => exact ⟨0, -1, by omega, rfl, rfl, .zero, Below.refl _ _⟩
    case round =>
      obtain ⟨k, z, hk, rfl, rfl, hbe, hbr⟩ := hrel
      have hfi := HF.out.below hbr
      have hsr := hbr.size
      have b2 : wr.cell? ⟨g, 2, none⟩ = some (.slice A3 l.length c3) := hfi.blk.cell 2
      have gl := hfi.blk.lt
      by_cases hlt : k < l.length
      · obtain ⟨b, off, rfl, hbl⟩ := (HRD0.out.below hbr).at_some (by omega)
        have hbl : b < wr.heap.size := Nat.lt_of_lt_of_le hbl hsr
        obtain rfl : off = 0 := by
          rcases HF.out.row.2 with ⟨e, _⟩ | ⟨g', cap', cur, e, _⟩
          · cases e
          · injection e with e
            injection e with e
            injection e
        have hE : ∀ j, j < l.length → ∀ q v, (l.getD j wrZ).cells[q]? = some v → wr.cell? ⟨b, j * 10 + q, none⟩ = some v := fun j hj q v hq => by
          have hq2 : q < 10 := by
            have := (List.getElem?_eq_some_iff.1 hq).1
            rwa [Wr.len] at this
          have h5 := Reads.thing Wr.cells Wr.len (HRD0.out.below hbr) (k := j) (x := l.getD j wrZ) (by omega) (by rw [List.getD_eq_getElem?_getD, List.getElem?_eq_getElem hj]; rfl) q hq2
          rw [Nat.zero_add] at h5
          rw [h5, hq]
        obtain ⟨A2, c2, hd, hvy, hz⟩ := hfi.vecs (getD_mem hlt)
        obtain ⟨A, c, hva2, hva⟩ := hfi.vec
        subst hva2
        have HE := Lib.hid (hE k hlt)
        have hap9 := hfi.apb (l.getD k wrZ).r
        have ha16 := hfi.afew
        have HGB := Lib.hid hfi.blk
        have HVA := Lib.hid hva
        have HBE := Lib.hid hbe
        have HEA := Lib.hid hE
        obtain ⟨y, hy⟩ : ∃ y, l.getD k wrZ = y := ⟨_, rfl⟩
        have HY := Lib.hid hy
        rw [hy] at HE hd hvy hz hap9
        have HD := Lib.hid hd
        have HVY := Lib.hid hvy
        have HAP := Lib.hid hap9
        clear hE hd hvy hva hfi hbe hap9 hy
        cases hrd : readyB a y with
        | false =>
          have HBE2 := Lib.hid (HBE.out.pass (by rw [HY.out]; exact hrd))
          have HRD := Lib.hid hrd
          clear hrd
          go_wp2_with fail
          refine wp_region_mono nobody (by kernel_rfl) ?_
          -- 0 Op.move (Operand.tmp 0)
          refine wpMono_take' 0 (v := ?_) rfl (by kernel_rfl) (by kernel_rfl) (by kernel_rfl) (fun _ _ _ h => h) (by rfl) ?_ ?_
          rotate_left
          · (intro W hSw; (first | (have hg := HGB.out.drew.keeps (X := nobody) hSw (fun h => h); have k2 : W.cell? ⟨g, 2, none⟩ = some (.slice (some ⟨b, 0, none⟩) l.length c3) := hg.cell 2; have gl := hg.lt) | (have hg := (HGB.out.drew.below HB1.out HGB.out.lt).keeps (X := nobody) hSw (fun h => h); have k2 : W.cell? ⟨g, 2, none⟩ = some (.slice (some ⟨b, 0, none⟩) l.length c3) := hg.cell 2; have gl := hg.lt; have z0 : W.cell? ⟨b, k * 10, none⟩ = some (.int .i64 y.r) := (hSw.cells b _ (Nat.lt_of_lt_of_le hbl HB1.out.size)).trans ((HB1.out.cell (p := ⟨b, k * 10, none⟩) hbl).trans (HE.out 0 _ rfl)); skip) | skip)
             go_simp; first | done | rfl)
          try simp only [Act.put, List.setIfInBounds_toArray, List.set_cons_zero, List.set_cons_succ]
          (try rw [rfl])
          -- 1 Op.move (Operand.tmp 0)
          refine wpMono_take' 1 (v := ?_) rfl (by kernel_rfl) (by kernel_rfl) (by kernel_rfl) (fun _ _ _ h => h) (by rfl) ?_ ?_
          rotate_left
          · (intro W hSw; (first | (have hg := HGB.out.drew.keeps (X := nobody) hSw (fun h => h); have k2 : W.cell? ⟨g, 2, none⟩ = some (.slice (some ⟨b, 0, none⟩) l.length c3) := hg.cell 2; have gl := hg.lt) | (have hg := (HGB.out.drew.below HB1.out HGB.out.lt).keeps (X := nobody) hSw (fun h => h); have k2 : W.cell? ⟨g, 2, none⟩ = some (.slice (some ⟨b, 0, none⟩) l.length c3) := hg.cell 2; have gl := hg.lt; have z0 : W.cell? ⟨b, k * 10, none⟩ = some (.int .i64 y.r) := (hSw.cells b _ (Nat.lt_of_lt_of_le hbl HB1.out.size)).trans ((HB1.out.cell (p := ⟨b, k * 10, none⟩) hbl).trans (HE.out 0 _ rfl)); skip) | skip)
             go_simp; first | done | rfl)
          try simp only [Act.put, List.setIfInBounds_toArray, List.set_cons_zero, List.set_cons_succ]
          (try rw [rfl])
          -- 2 Op.nilCheck (Operand.tmp 18)
          refine wpMono_take' 2 (v := ?_) rfl (by kernel_rfl) (by kernel_rfl) (by kernel_rfl) (fun _ _ _ h => h) (by rfl) ?_ ?_
          rotate_left
          · (intro W hSw; (first | (have hg := HGB.out.drew.keeps (X := nobody) hSw (fun h => h); have k2 : W.cell? ⟨g, 2, none⟩ = some (.slice (some ⟨b, 0, none⟩) l.length c3) := hg.cell 2; have gl := hg.lt) | (have hg := (HGB.out.drew.below HB1.out HGB.out.lt).keeps (X := nobody) hSw (fun h => h); have k2 : W.cell? ⟨g, 2, none⟩ = some (.slice (some ⟨b, 0, none⟩) l.length c3) := hg.cell 2; have gl := hg.lt; have z0 : W.cell? ⟨b, k * 10, none⟩ = some (.int .i64 y.r) := (hSw.cells b _ (Nat.lt_of_lt_of_le hbl HB1.out.size)).trans ((HB1.out.cell (p := ⟨b, k * 10, none⟩) hbl).trans (HE.out 0 _ rfl)); skip) | skip)
             go_simp; first | done | rfl)
          try simp only [Act.put, List.setIfInBounds_toArray, List.set_cons_zero, List.set_cons_succ]
          (try rw [rfl])
          -- 3 Op.fieldAddr 68 (Operand.tmp 19) 2
          refine wpMono_take' 3 (v := ?_) rfl (by kernel_rfl) (by kernel_rfl) (by kernel_rfl) (fun _ _ _ h => h) (by rfl) ?_ ?_
          rotate_left
          · (intro W hSw; (first | (have hg := HGB.out.drew.keeps (X := nobody) hSw (fun h => h); have k2 : W.cell? ⟨g, 2, none⟩ = some (.slice (some ⟨b, 0, none⟩) l.length c3) := hg.cell 2; have gl := hg.lt) | (have hg := (HGB.out.drew.below HB1.out HGB.out.lt).keeps (X := nobody) hSw (fun h => h); have k2 : W.cell? ⟨g, 2, none⟩ = some (.slice (some ⟨b, 0, none⟩) l.length c3) := hg.cell 2; have gl := hg.lt; have z0 : W.cell? ⟨b, k * 10, none⟩ = some (.int .i64 y.r) := (hSw.cells b _ (Nat.lt_of_lt_of_le hbl HB1.out.size)).trans ((HB1.out.cell (p := ⟨b, k * 10, none⟩) hbl).trans (HE.out 0 _ rfl)); skip) | skip)
             go_simp; first | done | rfl)
          try simp only [Act.put, List.setIfInBounds_toArray, List.set_cons_zero, List.set_cons_succ]
          (try rw [rfl])
          -- 4 Op.load 25 (Operand.tmp 20)
          refine wpMono_take' 4 (v := ?_) rfl (by kernel_rfl) (by kernel_rfl) (by kernel_rfl) (fun _ _ _ h => h) (by rfl) ?_ ?_
          rotate_left
          · (intro W hSw; first | ((refine exec_load 35 (.tmp 23) ?_ b (k * 10) y.cells ?_ Try.underlying35 rfl (by rw [Wr.len]; kernel_rfl) (fun q v hq => (hSw.cells b _ hbl).trans (HE.out q v hq)) <;> rfl)) | ((first | (have hg := HGB.out.drew.keeps (X := nobody) hSw (fun h => h); have k2 : W.cell? ⟨g, 2, none⟩ = some (.slice (some ⟨b, 0, none⟩) l.length c3) := hg.cell 2; have gl := hg.lt) | (have hg := (HGB.out.drew.below HB1.out HGB.out.lt).keeps (X := nobody) hSw (fun h => h); have k2 : W.cell? ⟨g, 2, none⟩ = some (.slice (some ⟨b, 0, none⟩) l.length c3) := hg.cell 2; have gl := hg.lt; have z0 : W.cell? ⟨b, k * 10, none⟩ = some (.int .i64 y.r) := (hSw.cells b _ (Nat.lt_of_lt_of_le hbl HB1.out.size)).trans ((HB1.out.cell (p := ⟨b, k * 10, none⟩) hbl).trans (HE.out 0 _ rfl)); skip) | skip); go_simp; done) | ((first | (have hg := HGB.out.drew.keeps (X := nobody) hSw (fun h => h); have k2 : W.cell? ⟨g, 2, none⟩ = some (.slice (some ⟨b, 0, none⟩) l.length c3) := hg.cell 2; have gl := hg.lt) | (have hg := (HGB.out.drew.below HB1.out HGB.out.lt).keeps (X := nobody) hSw (fun h => h); have k2 : W.cell? ⟨g, 2, none⟩ = some (.slice (some ⟨b, 0, none⟩) l.length c3) := hg.cell 2; have gl := hg.lt; have z0 : W.cell? ⟨b, k * 10, none⟩ = some (.int .i64 y.r) := (hSw.cells b _ (Nat.lt_of_lt_of_le hbl HB1.out.size)).trans ((HB1.out.cell (p := ⟨b, k * 10, none⟩) hbl).trans (HE.out 0 _ rfl)); skip) | skip); go_simp; rfl))
          try simp only [Act.put, List.setIfInBounds_toArray, List.set_cons_zero, List.set_cons_succ]
          (try rw [rfl])
          -- 5 Op.move (Operand.tmp 5)
          refine wpMono_take' 5 (v := ?_) rfl (by kernel_rfl) (by kernel_rfl) (by kernel_rfl) (fun _ _ _ h => h) (by rfl) ?_ ?_
          rotate_left
          · (intro W hSw; (first | (have hg := HGB.out.drew.keeps (X := nobody) hSw (fun h => h); have k2 : W.cell? ⟨g, 2, none⟩ = some (.slice (some ⟨b, 0, none⟩) l.length c3) := hg.cell 2; have gl := hg.lt) | (have hg := (HGB.out.drew.below HB1.out HGB.out.lt).keeps (X := nobody) hSw (fun h => h); have k2 : W.cell? ⟨g, 2, none⟩ = some (.slice (some ⟨b, 0, none⟩) l.length c3) := hg.cell 2; have gl := hg.lt; have z0 : W.cell? ⟨b, k * 10, none⟩ = some (.int .i64 y.r) := (hSw.cells b _ (Nat.lt_of_lt_of_le hbl HB1.out.size)).trans ((HB1.out.cell (p := ⟨b, k * 10, none⟩) hbl).trans (HE.out 0 _ rfl)); skip) | skip)
             go_simp; first | done | rfl)
          try simp only [Act.put, List.setIfInBounds_toArray, List.set_cons_zero, List.set_cons_succ]
          (try rw [rfl])
          -- 6 Op.indexAddr 25 (Operand.tmp 21) (Operand.tmp 22)
          refine wpMono_take' 6 (v := ?_) rfl (by kernel_rfl) (by kernel_rfl) (by kernel_rfl) (fun _ _ _ h => h) (by rfl) ?_ ?_
          rotate_left
          · (intro W hSw; (first | (have hg := HGB.out.drew.keeps (X := nobody) hSw (fun h => h); have k2 : W.cell? ⟨g, 2, none⟩ = some (.slice (some ⟨b, 0, none⟩) l.length c3) := hg.cell 2; have gl := hg.lt) | (have hg := (HGB.out.drew.below HB1.out HGB.out.lt).keeps (X := nobody) hSw (fun h => h); have k2 : W.cell? ⟨g, 2, none⟩ = some (.slice (some ⟨b, 0, none⟩) l.length c3) := hg.cell 2; have gl := hg.lt; have z0 : W.cell? ⟨b, k * 10, none⟩ = some (.int .i64 y.r) := (hSw.cells b _ (Nat.lt_of_lt_of_le hbl HB1.out.size)).trans ((HB1.out.cell (p := ⟨b, k * 10, none⟩) hbl).trans (HE.out 0 _ rfl)); skip) | skip)
             go_simp; first | done | rfl)
          try simp only [Act.put, List.setIfInBounds_toArray, List.set_cons_zero, List.set_cons_succ]
          (try rw [rfl])
          -- 7 Op.load 35 (Operand.tmp 23)
          refine wpMono_take' 7 (v := ?_) rfl (by kernel_rfl) (by kernel_rfl) (by kernel_rfl) (fun _ _ _ h => h) (by rfl) ?_ ?_
          rotate_left
          · (intro W hSw; first | ((refine exec_load 35 (.tmp 23) ?_ b (k * 10) y.cells ?_ Try.underlying35 rfl (by rw [Wr.len]; kernel_rfl) (fun q v hq => (hSw.cells b _ hbl).trans (HE.out q v hq)) <;> rfl)) | ((first | (have hg := HGB.out.drew.keeps (X := nobody) hSw (fun h => h); have k2 : W.cell? ⟨g, 2, none⟩ = some (.slice (some ⟨b, 0, none⟩) l.length c3) := hg.cell 2; have gl := hg.lt) | (have hg := (HGB.out.drew.below HB1.out HGB.out.lt).keeps (X := nobody) hSw (fun h => h); have k2 : W.cell? ⟨g, 2, none⟩ = some (.slice (some ⟨b, 0, none⟩) l.length c3) := hg.cell 2; have gl := hg.lt; have z0 : W.cell? ⟨b, k * 10, none⟩ = some (.int .i64 y.r) := (hSw.cells b _ (Nat.lt_of_lt_of_le hbl HB1.out.size)).trans ((HB1.out.cell (p := ⟨b, k * 10, none⟩) hbl).trans (HE.out 0 _ rfl)); skip) | skip); go_simp; done) | ((first | (have hg := HGB.out.drew.keeps (X := nobody) hSw (fun h => h); have k2 : W.cell? ⟨g, 2, none⟩ = some (.slice (some ⟨b, 0, none⟩) l.length c3) := hg.cell 2; have gl := hg.lt) | (have hg := (HGB.out.drew.below HB1.out HGB.out.lt).keeps (X := nobody) hSw (fun h => h); have k2 : W.cell? ⟨g, 2, none⟩ = some (.slice (some ⟨b, 0, none⟩) l.length c3) := hg.cell 2; have gl := hg.lt; have z0 : W.cell? ⟨b, k * 10, none⟩ = some (.int .i64 y.r) := (hSw.cells b _ (Nat.lt_of_lt_of_le hbl HB1.out.size)).trans ((HB1.out.cell (p := ⟨b, k * 10, none⟩) hbl).trans (HE.out 0 _ rfl)); skip) | skip); go_simp; rfl))
          try simp only [Act.put, List.setIfInBounds_toArray, List.set_cons_zero, List.set_cons_succ]
          (try rw [rfl])
          -- EFFECT 8 Op.call { callee := Callee.value (Operand.func 50), args := #[Operand.tmp 17, Operand.tmp 24], argTypes := #[57, 35] }
          refine wpMono_one' 8 (by kernel_rfl) rfl (by rfl) (fun K hK => ?_)
          go_simp
          refine (ready_ref g rg A a.length c a _ y A2 y.z.length c2 wr.drew HGB.out.drew (show Vec wr.drew wr.drew.heap.size A a.length c a from HVA.out.below (Below.refl _ wr).drew) HD.out (show Vec wr.drew wr.drew.heap.size A2 y.z.length c2 y.z from HVY.out.below (Below.refl _ wr).drew) (by omega) hz HAP.out).mono ?_
          rintro e w1 ⟨rfl, hb1⟩
          rw [HRD.out]
          have HB1 := Lib.hid hb1
          clear hb1
          refine hK.out _ _ ?_ ?_
          · exact .of_below HB1.out
          clear hK K
          try simp only [Act.put, List.setIfInBounds_toArray, List.set_cons_zero, List.set_cons_succ]
          (try rw [rfl])
          -- 9 Op.move (Operand.tmp 25)
          refine wpMono_take' 9 (v := ?_) rfl (by kernel_rfl) (by kernel_rfl) (by kernel_rfl) (fun _ _ _ h => h) (by rfl) ?_ ?_
          rotate_left
          · (intro W hSw; (first | (have hg := HGB.out.drew.keeps (X := nobody) hSw (fun h => h); have k2 : W.cell? ⟨g, 2, none⟩ = some (.slice (some ⟨b, 0, none⟩) l.length c3) := hg.cell 2; have gl := hg.lt) | (have hg := (HGB.out.drew.below HB1.out HGB.out.lt).keeps (X := nobody) hSw (fun h => h); have k2 : W.cell? ⟨g, 2, none⟩ = some (.slice (some ⟨b, 0, none⟩) l.length c3) := hg.cell 2; have gl := hg.lt; have z0 : W.cell? ⟨b, k * 10, none⟩ = some (.int .i64 y.r) := (hSw.cells b _ (Nat.lt_of_lt_of_le hbl HB1.out.size)).trans ((HB1.out.cell (p := ⟨b, k * 10, none⟩) hbl).trans (HE.out 0 _ rfl)); skip) | skip)
             go_simp; first | done | rfl)
          try simp only [Act.put, List.setIfInBounds_toArray, List.set_cons_zero, List.set_cons_succ]
          (try rw [rfl])
          -- 10 Op.move (Operand.tmp 4)
          refine wpMono_skip' 10 rfl (by kernel_rfl) (by kernel_rfl) (by kernel_rfl) (fun _ _ _ h => h) (by rfl) ?_
          try simp only [Act.put, List.setIfInBounds_toArray, List.set_cons_zero, List.set_cons_succ]
          (try rw [rfl])
          -- 11 Op.binOp BinOp.lss 3 (Operand.tmp 27) (Operand.const (Value.int IntKind.i64 0)) 3
          refine wpMono_skip' 11 rfl (by kernel_rfl) (by kernel_rfl) (by kernel_rfl) (fun _ _ _ h => h) (by rfl) ?_
          try simp only [Act.put, List.setIfInBounds_toArray, List.set_cons_zero, List.set_cons_succ]
          (try rw [rfl])
          -- 12 Op.move (Operand.tmp 28)
          refine wpMono_skip' 12 rfl (by kernel_rfl) (by kernel_rfl) (by kernel_rfl) (fun _ _ _ h => h) (by rfl) ?_
          try simp only [Act.put, List.setIfInBounds_toArray, List.set_cons_zero, List.set_cons_succ]
          (try rw [rfl])
          -- 13 Op.move (Operand.tmp 0)
          refine wpMono_skip' 13 rfl (by kernel_rfl) (by kernel_rfl) (by kernel_rfl) (fun _ _ _ h => h) (by rfl) ?_
          try simp only [Act.put, List.setIfInBounds_toArray, List.set_cons_zero, List.set_cons_succ]
          (try rw [rfl])
          -- 14 Op.nilCheck (Operand.tmp 30)
          refine wpMono_skip' 14 rfl (by kernel_rfl) (by kernel_rfl) (by kernel_rfl) (fun _ _ _ h => h) (by rfl) ?_
          try simp only [Act.put, List.setIfInBounds_toArray, List.set_cons_zero, List.set_cons_succ]
          (try rw [rfl])
          -- 15 Op.fieldAddr 68 (Operand.tmp 31) 2
          refine wpMono_skip' 15 rfl (by kernel_rfl) (by kernel_rfl) (by kernel_rfl) (fun _ _ _ h => h) (by rfl) ?_
          try simp only [Act.put, List.setIfInBounds_toArray, List.set_cons_zero, List.set_cons_succ]
          (try rw [rfl])
          -- 16 Op.load 25 (Operand.tmp 32)
          refine wpMono_skip' 16 rfl (by kernel_rfl) (by kernel_rfl) (by kernel_rfl) (fun _ _ _ h => h) (by rfl) ?_
          try simp only [Act.put, List.setIfInBounds_toArray, List.set_cons_zero, List.set_cons_succ]
          (try rw [rfl])
          -- 17 Op.move (Operand.tmp 5)
          refine wpMono_skip' 17 rfl (by kernel_rfl) (by kernel_rfl) (by kernel_rfl) (fun _ _ _ h => h) (by rfl) ?_
          try simp only [Act.put, List.setIfInBounds_toArray, List.set_cons_zero, List.set_cons_succ]
          (try rw [rfl])
          -- 18 Op.indexAddr 25 (Operand.tmp 33) (Operand.tmp 34)
          refine wpMono_skip' 18 rfl (by kernel_rfl) (by kernel_rfl) (by kernel_rfl) (fun _ _ _ h => h) (by rfl) ?_
          try simp only [Act.put, List.setIfInBounds_toArray, List.set_cons_zero, List.set_cons_succ]
          (try rw [rfl])
          -- 19 Op.fieldAddr 35 (Operand.tmp 35) 0
          refine wpMono_skip' 19 rfl (by kernel_rfl) (by kernel_rfl) (by kernel_rfl) (fun _ _ _ h => h) (by rfl) ?_
          try simp only [Act.put, List.setIfInBounds_toArray, List.set_cons_zero, List.set_cons_succ]
          (try rw [rfl])
          -- 20 Op.load 3 (Operand.tmp 36)
          refine wpMono_skip' 20 rfl (by kernel_rfl) (by kernel_rfl) (by kernel_rfl) (fun _ _ _ h => h) (by rfl) ?_
          try simp only [Act.put, List.setIfInBounds_toArray, List.set_cons_zero, List.set_cons_succ]
          (try rw [rfl])
          -- 21 Op.move (Operand.tmp 0)
          refine wpMono_skip' 21 rfl (by kernel_rfl) (by kernel_rfl) (by kernel_rfl) (fun _ _ _ h => h) (by rfl) ?_
          try simp only [Act.put, List.setIfInBounds_toArray, List.set_cons_zero, List.set_cons_succ]
          (try rw [rfl])
          -- 22 Op.nilCheck (Operand.tmp 38)
          refine wpMono_skip' 22 rfl (by kernel_rfl) (by kernel_rfl) (by kernel_rfl) (fun _ _ _ h => h) (by rfl) ?_
          try simp only [Act.put, List.setIfInBounds_toArray, List.set_cons_zero, List.set_cons_succ]
          (try rw [rfl])
          -- 23 Op.fieldAddr 68 (Operand.tmp 39) 2
          refine wpMono_skip' 23 rfl (by kernel_rfl) (by kernel_rfl) (by kernel_rfl) (fun _ _ _ h => h) (by rfl) ?_
          try simp only [Act.put, List.setIfInBounds_toArray, List.set_cons_zero, List.set_cons_succ]
          (try rw [rfl])
          -- 24 Op.load 25 (Operand.tmp 40)
          refine wpMono_skip' 24 rfl (by kernel_rfl) (by kernel_rfl) (by kernel_rfl) (fun _ _ _ h => h) (by rfl) ?_
          try simp only [Act.put, List.setIfInBounds_toArray, List.set_cons_zero, List.set_cons_succ]
          (try rw [rfl])
          -- 25 Op.move (Operand.tmp 4)
          refine wpMono_skip' 25 rfl (by kernel_rfl) (by kernel_rfl) (by kernel_rfl) (fun _ _ _ h => h) (by rfl) ?_
          try simp only [Act.put, List.setIfInBounds_toArray, List.set_cons_zero, List.set_cons_succ]
          (try rw [rfl])
          -- 26 Op.indexAddr 25 (Operand.tmp 41) (Operand.tmp 42)
          refine wpMono_skip' 26 rfl (by kernel_rfl) (by kernel_rfl) (by kernel_rfl) (fun _ _ _ h => h) (by rfl) ?_
          try simp only [Act.put, List.setIfInBounds_toArray, List.set_cons_zero, List.set_cons_succ]
          (try rw [rfl])
          -- 27 Op.fieldAddr 35 (Operand.tmp 43) 0
          refine wpMono_skip' 27 rfl (by kernel_rfl) (by kernel_rfl) (by kernel_rfl) (fun _ _ _ h => h) (by rfl) ?_
          try simp only [Act.put, List.setIfInBounds_toArray, List.set_cons_zero, List.set_cons_succ]
          (try rw [rfl])
          -- 28 Op.load 3 (Operand.tmp 44)
          refine wpMono_skip' 28 rfl (by kernel_rfl) (by kernel_rfl) (by kernel_rfl) (fun _ _ _ h => h) (by rfl) ?_
          try simp only [Act.put, List.setIfInBounds_toArray, List.set_cons_zero, List.set_cons_succ]
          (try rw [rfl])
          -- 29 Op.binOp BinOp.lss 3 (Operand.tmp 37) (Operand.tmp 45) 3
          refine wpMono_skip' 29 rfl (by kernel_rfl) (by kernel_rfl) (by kernel_rfl) (fun _ _ _ h => h) (by rfl) ?_
          try simp only [Act.put, List.setIfInBounds_toArray, List.set_cons_zero, List.set_cons_succ]
          (try rw [rfl])
          -- 30 Op.pick (Operand.tmp 29) (Operand.const (Value.bool true)) (Operand.tmp 46)
          refine wpMono_skip' 30 rfl (by kernel_rfl) (by kernel_rfl) (by kernel_rfl) (fun _ _ _ h => h) (by rfl) ?_
          try simp only [Act.put, List.setIfInBounds_toArray, List.set_cons_zero, List.set_cons_succ]
          (try rw [rfl])
          -- 31 Op.pick (Operand.tmp 26) (Operand.tmp 47) (Operand.const (Value.bool false))
          refine wpMono_take' 31 (v := ?_) rfl (by kernel_rfl) (by kernel_rfl) (by kernel_rfl) (fun _ _ _ h => h) (by rfl) ?_ ?_
          rotate_left
          · (intro W hSw; (first | (have hg := HGB.out.drew.keeps (X := nobody) hSw (fun h => h); have k2 : W.cell? ⟨g, 2, none⟩ = some (.slice (some ⟨b, 0, none⟩) l.length c3) := hg.cell 2; have gl := hg.lt) | (have hg := (HGB.out.drew.below HB1.out HGB.out.lt).keeps (X := nobody) hSw (fun h => h); have k2 : W.cell? ⟨g, 2, none⟩ = some (.slice (some ⟨b, 0, none⟩) l.length c3) := hg.cell 2; have gl := hg.lt; have z0 : W.cell? ⟨b, k * 10, none⟩ = some (.int .i64 y.r) := (hSw.cells b _ (Nat.lt_of_lt_of_le hbl HB1.out.size)).trans ((HB1.out.cell (p := ⟨b, k * 10, none⟩) hbl).trans (HE.out 0 _ rfl)); skip) | skip)
             go_simp; first | done | rfl)
          try simp only [Act.put, List.setIfInBounds_toArray, List.set_cons_zero, List.set_cons_succ]
          (try rw [rfl])
          refine wpMono_done (by kernel_rfl) ?_ _
          have HBN := Lib.hid (below_step hbr (below_ofDrew HB1.out))
          go_wp2_with fail
          go_roundw
          case rel => exact ⟨k + 1, _, by omega, by go_num, rfl, HBE2.out, HBN.out⟩
          case measure => simp [intOf]; omega
        | true =>
          have HRD := Lib.hid hrd
          clear hrd
          rcases HBE.out.cases with rfl | ⟨q, hq, rfl⟩
          · have HBE2 := Lib.hid (HBE.out.first (by rw [HY.out]; exact HRD.out))
            go_wp2_with fail
            refine wp_region_mono nobody (by kernel_rfl) ?_
            -- 0 Op.move (Operand.tmp 0)
            refine wpMono_take' 0 (v := ?_) rfl (by kernel_rfl) (by kernel_rfl) (by kernel_rfl) (fun _ _ _ h => h) (by rfl) ?_ ?_
            rotate_left
            · (intro W hSw; (first | (have hg := HGB.out.drew.keeps (X := nobody) hSw (fun h => h); have k2 : W.cell? ⟨g, 2, none⟩ = some (.slice (some ⟨b, 0, none⟩) l.length c3) := hg.cell 2; have gl := hg.lt) | (have hg := (HGB.out.drew.below HB1.out HGB.out.lt).keeps (X := nobody) hSw (fun h => h); have k2 : W.cell? ⟨g, 2, none⟩ = some (.slice (some ⟨b, 0, none⟩) l.length c3) := hg.cell 2; have gl := hg.lt; have z0 : W.cell? ⟨b, k * 10, none⟩ = some (.int .i64 y.r) := (hSw.cells b _ (Nat.lt_of_lt_of_le hbl HB1.out.size)).trans ((HB1.out.cell (p := ⟨b, k * 10, none⟩) hbl).trans (HE.out 0 _ rfl)); skip) | skip)
               go_simp; first | done | rfl)
            try simp only [Act.put, List.setIfInBounds_toArray, List.set_cons_zero, List.set_cons_succ]
            (try rw [rfl])
            -- 1 Op.move (Operand.tmp 0)
            refine wpMono_take' 1 (v := ?_) rfl (by kernel_rfl) (by kernel_rfl) (by kernel_rfl) (fun _ _ _ h => h) (by rfl) ?_ ?_
            rotate_left
            · (intro W hSw; (first | (have hg := HGB.out.drew.keeps (X := nobody) hSw (fun h => h); have k2 : W.cell? ⟨g, 2, none⟩ = some (.slice (some ⟨b, 0, none⟩) l.length c3) := hg.cell 2; have gl := hg.lt) | (have hg := (HGB.out.drew.below HB1.out HGB.out.lt).keeps (X := nobody) hSw (fun h => h); have k2 : W.cell? ⟨g, 2, none⟩ = some (.slice (some ⟨b, 0, none⟩) l.length c3) := hg.cell 2; have gl := hg.lt; have z0 : W.cell? ⟨b, k * 10, none⟩ = some (.int .i64 y.r) := (hSw.cells b _ (Nat.lt_of_lt_of_le hbl HB1.out.size)).trans ((HB1.out.cell (p := ⟨b, k * 10, none⟩) hbl).trans (HE.out 0 _ rfl)); skip) | skip)
               go_simp; first | done | rfl)
            try simp only [Act.put, List.setIfInBounds_toArray, List.set_cons_zero, List.set_cons_succ]
            (try rw [rfl])
            -- 2 Op.nilCheck (Operand.tmp 18)
            refine wpMono_take' 2 (v := ?_) rfl (by kernel_rfl) (by kernel_rfl) (by kernel_rfl) (fun _ _ _ h => h) (by rfl) ?_ ?_
            rotate_left
            · (intro W hSw; (first | (have hg := HGB.out.drew.keeps (X := nobody) hSw (fun h => h); have k2 : W.cell? ⟨g, 2, none⟩ = some (.slice (some ⟨b, 0, none⟩) l.length c3) := hg.cell 2; have gl := hg.lt) | (have hg := (HGB.out.drew.below HB1.out HGB.out.lt).keeps (X := nobody) hSw (fun h => h); have k2 : W.cell? ⟨g, 2, none⟩ = some (.slice (some ⟨b, 0, none⟩) l.length c3) := hg.cell 2; have gl := hg.lt; have z0 : W.cell? ⟨b, k * 10, none⟩ = some (.int .i64 y.r) := (hSw.cells b _ (Nat.lt_of_lt_of_le hbl HB1.out.size)).trans ((HB1.out.cell (p := ⟨b, k * 10, none⟩) hbl).trans (HE.out 0 _ rfl)); skip) | skip)
               go_simp; first | done | rfl)
            try simp only [Act.put, List.setIfInBounds_toArray, List.set_cons_zero, List.set_cons_succ]
            (try rw [rfl])
            -- 3 Op.fieldAddr 68 (Operand.tmp 19) 2
            refine wpMono_take' 3 (v := ?_) rfl (by kernel_rfl) (by kernel_rfl) (by kernel_rfl) (fun _ _ _ h => h) (by rfl) ?_ ?_
            rotate_left
            · (intro W hSw; (first | (have hg := HGB.out.drew.keeps (X := nobody) hSw (fun h => h); have k2 : W.cell? ⟨g, 2, none⟩ = some (.slice (some ⟨b, 0, none⟩) l.length c3) := hg.cell 2; have gl := hg.lt) | (have hg := (HGB.out.drew.below HB1.out HGB.out.lt).keeps (X := nobody) hSw (fun h => h); have k2 : W.cell? ⟨g, 2, none⟩ = some (.slice (some ⟨b, 0, none⟩) l.length c3) := hg.cell 2; have gl := hg.lt; have z0 : W.cell? ⟨b, k * 10, none⟩ = some (.int .i64 y.r) := (hSw.cells b _ (Nat.lt_of_lt_of_le hbl HB1.out.size)).trans ((HB1.out.cell (p := ⟨b, k * 10, none⟩) hbl).trans (HE.out 0 _ rfl)); skip) | skip)
               go_simp; first | done | rfl)
            try simp only [Act.put, List.setIfInBounds_toArray, List.set_cons_zero, List.set_cons_succ]
            (try rw [rfl])
            -- 4 Op.load 25 (Operand.tmp 20)
            refine wpMono_take' 4 (v := ?_) rfl (by kernel_rfl) (by kernel_rfl) (by kernel_rfl) (fun _ _ _ h => h) (by rfl) ?_ ?_
            rotate_left
            · (intro W hSw; first | ((refine exec_load 35 (.tmp 23) ?_ b (k * 10) y.cells ?_ Try.underlying35 rfl (by rw [Wr.len]; kernel_rfl) (fun q v hq => (hSw.cells b _ hbl).trans (HE.out q v hq)) <;> rfl)) | ((first | (have hg := HGB.out.drew.keeps (X := nobody) hSw (fun h => h); have k2 : W.cell? ⟨g, 2, none⟩ = some (.slice (some ⟨b, 0, none⟩) l.length c3) := hg.cell 2; have gl := hg.lt) | (have hg := (HGB.out.drew.below HB1.out HGB.out.lt).keeps (X := nobody) hSw (fun h => h); have k2 : W.cell? ⟨g, 2, none⟩ = some (.slice (some ⟨b, 0, none⟩) l.length c3) := hg.cell 2; have gl := hg.lt; have z0 : W.cell? ⟨b, k * 10, none⟩ = some (.int .i64 y.r) := (hSw.cells b _ (Nat.lt_of_lt_of_le hbl HB1.out.size)).trans ((HB1.out.cell (p := ⟨b, k * 10, none⟩) hbl).trans (HE.out 0 _ rfl)); skip) | skip); go_simp; done) | ((first | (have hg := HGB.out.drew.keeps (X := nobody) hSw (fun h => h); have k2 : W.cell? ⟨g, 2, none⟩ = some (.slice (some ⟨b, 0, none⟩) l.length c3) := hg.cell 2; have gl := hg.lt) | (have hg := (HGB.out.drew.below HB1.out HGB.out.lt).keeps (X := nobody) hSw (fun h => h); have k2 : W.cell? ⟨g, 2, none⟩ = some (.slice (some ⟨b, 0, none⟩) l.length c3) := hg.cell 2; have gl := hg.lt; have z0 : W.cell? ⟨b, k * 10, none⟩ = some (.int .i64 y.r) := (hSw.cells b _ (Nat.lt_of_lt_of_le hbl HB1.out.size)).trans ((HB1.out.cell (p := ⟨b, k * 10, none⟩) hbl).trans (HE.out 0 _ rfl)); skip) | skip); go_simp; rfl))
            try simp only [Act.put, List.setIfInBounds_toArray, List.set_cons_zero, List.set_cons_succ]
            (try rw [rfl])
            -- 5 Op.move (Operand.tmp 5)
            refine wpMono_take' 5 (v := ?_) rfl (by kernel_rfl) (by kernel_rfl) (by kernel_rfl) (fun _ _ _ h => h) (by rfl) ?_ ?_
            rotate_left
            · (intro W hSw; (first | (have hg := HGB.out.drew.keeps (X := nobody) hSw (fun h => h); have k2 : W.cell? ⟨g, 2, none⟩ = some (.slice (some ⟨b, 0, none⟩) l.length c3) := hg.cell 2; have gl := hg.lt) | (have hg := (HGB.out.drew.below HB1.out HGB.out.lt).keeps (X := nobody) hSw (fun h => h); have k2 : W.cell? ⟨g, 2, none⟩ = some (.slice (some ⟨b, 0, none⟩) l.length c3) := hg.cell 2; have gl := hg.lt; have z0 : W.cell? ⟨b, k * 10, none⟩ = some (.int .i64 y.r) := (hSw.cells b _ (Nat.lt_of_lt_of_le hbl HB1.out.size)).trans ((HB1.out.cell (p := ⟨b, k * 10, none⟩) hbl).trans (HE.out 0 _ rfl)); skip) | skip)
               go_simp; first | done | rfl)
            try simp only [Act.put, List.setIfInBounds_toArray, List.set_cons_zero, List.set_cons_succ]
            (try rw [rfl])
            -- 6 Op.indexAddr 25 (Operand.tmp 21) (Operand.tmp 22)
            refine wpMono_take' 6 (v := ?_) rfl (by kernel_rfl) (by kernel_rfl) (by kernel_rfl) (fun _ _ _ h => h) (by rfl) ?_ ?_
            rotate_left
            · (intro W hSw; (first | (have hg := HGB.out.drew.keeps (X := nobody) hSw (fun h => h); have k2 : W.cell? ⟨g, 2, none⟩ = some (.slice (some ⟨b, 0, none⟩) l.length c3) := hg.cell 2; have gl := hg.lt) | (have hg := (HGB.out.drew.below HB1.out HGB.out.lt).keeps (X := nobody) hSw (fun h => h); have k2 : W.cell? ⟨g, 2, none⟩ = some (.slice (some ⟨b, 0, none⟩) l.length c3) := hg.cell 2; have gl := hg.lt; have z0 : W.cell? ⟨b, k * 10, none⟩ = some (.int .i64 y.r) := (hSw.cells b _ (Nat.lt_of_lt_of_le hbl HB1.out.size)).trans ((HB1.out.cell (p := ⟨b, k * 10, none⟩) hbl).trans (HE.out 0 _ rfl)); skip) | skip)
               go_simp; first | done | rfl)
            try simp only [Act.put, List.setIfInBounds_toArray, List.set_cons_zero, List.set_cons_succ]
            (try rw [rfl])
            -- 7 Op.load 35 (Operand.tmp 23)
            refine wpMono_take' 7 (v := ?_) rfl (by kernel_rfl) (by kernel_rfl) (by kernel_rfl) (fun _ _ _ h => h) (by rfl) ?_ ?_
            rotate_left
            · (intro W hSw; first | ((refine exec_load 35 (.tmp 23) ?_ b (k * 10) y.cells ?_ Try.underlying35 rfl (by rw [Wr.len]; kernel_rfl) (fun q v hq => (hSw.cells b _ hbl).trans (HE.out q v hq)) <;> rfl)) | ((first | (have hg := HGB.out.drew.keeps (X := nobody) hSw (fun h => h); have k2 : W.cell? ⟨g, 2, none⟩ = some (.slice (some ⟨b, 0, none⟩) l.length c3) := hg.cell 2; have gl := hg.lt) | (have hg := (HGB.out.drew.below HB1.out HGB.out.lt).keeps (X := nobody) hSw (fun h => h); have k2 : W.cell? ⟨g, 2, none⟩ = some (.slice (some ⟨b, 0, none⟩) l.length c3) := hg.cell 2; have gl := hg.lt; have z0 : W.cell? ⟨b, k * 10, none⟩ = some (.int .i64 y.r) := (hSw.cells b _ (Nat.lt_of_lt_of_le hbl HB1.out.size)).trans ((HB1.out.cell (p := ⟨b, k * 10, none⟩) hbl).trans (HE.out 0 _ rfl)); skip) | skip); go_simp; done) | ((first | (have hg := HGB.out.drew.keeps (X := nobody) hSw (fun h => h); have k2 : W.cell? ⟨g, 2, none⟩ = some (.slice (some ⟨b, 0, none⟩) l.length c3) := hg.cell 2; have gl := hg.lt) | (have hg := (HGB.out.drew.below HB1.out HGB.out.lt).keeps (X := nobody) hSw (fun h => h); have k2 : W.cell? ⟨g, 2, none⟩ = some (.slice (some ⟨b, 0, none⟩) l.length c3) := hg.cell 2; have gl := hg.lt; have z0 : W.cell? ⟨b, k * 10, none⟩ = some (.int .i64 y.r) := (hSw.cells b _ (Nat.lt_of_lt_of_le hbl HB1.out.size)).trans ((HB1.out.cell (p := ⟨b, k * 10, none⟩) hbl).trans (HE.out 0 _ rfl)); skip) | skip); go_simp; rfl))
            try simp only [Act.put, List.setIfInBounds_toArray, List.set_cons_zero, List.set_cons_succ]
            (try rw [rfl])
            -- EFFECT 8 Op.call { callee := Callee.value (Operand.func 50), args := #[Operand.tmp 17, Operand.tmp 24], argTypes := #[57, 35] }
            refine wpMono_one' 8 (by kernel_rfl) rfl (by rfl) (fun K hK => ?_)
            go_simp
            refine (ready_ref g rg A a.length c a _ y A2 y.z.length c2 wr.drew HGB.out.drew (show Vec wr.drew wr.drew.heap.size A a.length c a from HVA.out.below (Below.refl _ wr).drew) HD.out (show Vec wr.drew wr.drew.heap.size A2 y.z.length c2 y.z from HVY.out.below (Below.refl _ wr).drew) (by omega) hz HAP.out).mono ?_
            rintro e w1 ⟨rfl, hb1⟩
            rw [HRD.out]
            have HB1 := Lib.hid hb1
            clear hb1
            refine hK.out _ _ ?_ ?_
            · exact .of_below HB1.out
            clear hK K
            try simp only [Act.put, List.setIfInBounds_toArray, List.set_cons_zero, List.set_cons_succ]
            (try rw [rfl])
            -- 9 Op.move (Operand.tmp 25)
            refine wpMono_take' 9 (v := ?_) rfl (by kernel_rfl) (by kernel_rfl) (by kernel_rfl) (fun _ _ _ h => h) (by rfl) ?_ ?_
            rotate_left
            · (intro W hSw; (first | (have hg := HGB.out.drew.keeps (X := nobody) hSw (fun h => h); have k2 : W.cell? ⟨g, 2, none⟩ = some (.slice (some ⟨b, 0, none⟩) l.length c3) := hg.cell 2; have gl := hg.lt) | (have hg := (HGB.out.drew.below HB1.out HGB.out.lt).keeps (X := nobody) hSw (fun h => h); have k2 : W.cell? ⟨g, 2, none⟩ = some (.slice (some ⟨b, 0, none⟩) l.length c3) := hg.cell 2; have gl := hg.lt; have z0 : W.cell? ⟨b, k * 10, none⟩ = some (.int .i64 y.r) := (hSw.cells b _ (Nat.lt_of_lt_of_le hbl HB1.out.size)).trans ((HB1.out.cell (p := ⟨b, k * 10, none⟩) hbl).trans (HE.out 0 _ rfl)); skip) | skip)
               go_simp; first | done | rfl)
            try simp only [Act.put, List.setIfInBounds_toArray, List.set_cons_zero, List.set_cons_succ]
            (try rw [rfl])
            -- 10 Op.move (Operand.tmp 4)
            refine wpMono_take' 10 (v := ?_) rfl (by kernel_rfl) (by kernel_rfl) (by kernel_rfl) (fun _ _ _ h => h) (by rfl) ?_ ?_
            rotate_left
            · (intro W hSw; (first | (have hg := HGB.out.drew.keeps (X := nobody) hSw (fun h => h); have k2 : W.cell? ⟨g, 2, none⟩ = some (.slice (some ⟨b, 0, none⟩) l.length c3) := hg.cell 2; have gl := hg.lt) | (have hg := (HGB.out.drew.below HB1.out HGB.out.lt).keeps (X := nobody) hSw (fun h => h); have k2 : W.cell? ⟨g, 2, none⟩ = some (.slice (some ⟨b, 0, none⟩) l.length c3) := hg.cell 2; have gl := hg.lt; have z0 : W.cell? ⟨b, k * 10, none⟩ = some (.int .i64 y.r) := (hSw.cells b _ (Nat.lt_of_lt_of_le hbl HB1.out.size)).trans ((HB1.out.cell (p := ⟨b, k * 10, none⟩) hbl).trans (HE.out 0 _ rfl)); skip) | skip)
               go_simp; first | done | rfl)
            try simp only [Act.put, List.setIfInBounds_toArray, List.set_cons_zero, List.set_cons_succ]
            (try rw [rfl])
            -- 11 Op.binOp BinOp.lss 3 (Operand.tmp 27) (Operand.const (Value.int IntKind.i64 0)) 3
            refine wpMono_take' 11 (v := ?_) rfl (by kernel_rfl) (by kernel_rfl) (by kernel_rfl) (fun _ _ _ h => h) (by rfl) ?_ ?_
            rotate_left
            · (intro W hSw; (first | (have hg := HGB.out.drew.keeps (X := nobody) hSw (fun h => h); have k2 : W.cell? ⟨g, 2, none⟩ = some (.slice (some ⟨b, 0, none⟩) l.length c3) := hg.cell 2; have gl := hg.lt) | (have hg := (HGB.out.drew.below HB1.out HGB.out.lt).keeps (X := nobody) hSw (fun h => h); have k2 : W.cell? ⟨g, 2, none⟩ = some (.slice (some ⟨b, 0, none⟩) l.length c3) := hg.cell 2; have gl := hg.lt; have z0 : W.cell? ⟨b, k * 10, none⟩ = some (.int .i64 y.r) := (hSw.cells b _ (Nat.lt_of_lt_of_le hbl HB1.out.size)).trans ((HB1.out.cell (p := ⟨b, k * 10, none⟩) hbl).trans (HE.out 0 _ rfl)); skip) | skip)
               go_simp; first | done | rfl)
            try simp only [Act.put, List.setIfInBounds_toArray, List.set_cons_zero, List.set_cons_succ]
            (try rw [rfl])
            -- 12 Op.move (Operand.tmp 28)
            refine wpMono_take' 12 (v := ?_) rfl (by kernel_rfl) (by kernel_rfl) (by kernel_rfl) (fun _ _ _ h => h) (by rfl) ?_ ?_
            rotate_left
            · (intro W hSw; (first | (have hg := HGB.out.drew.keeps (X := nobody) hSw (fun h => h); have k2 : W.cell? ⟨g, 2, none⟩ = some (.slice (some ⟨b, 0, none⟩) l.length c3) := hg.cell 2; have gl := hg.lt) | (have hg := (HGB.out.drew.below HB1.out HGB.out.lt).keeps (X := nobody) hSw (fun h => h); have k2 : W.cell? ⟨g, 2, none⟩ = some (.slice (some ⟨b, 0, none⟩) l.length c3) := hg.cell 2; have gl := hg.lt; have z0 : W.cell? ⟨b, k * 10, none⟩ = some (.int .i64 y.r) := (hSw.cells b _ (Nat.lt_of_lt_of_le hbl HB1.out.size)).trans ((HB1.out.cell (p := ⟨b, k * 10, none⟩) hbl).trans (HE.out 0 _ rfl)); skip) | skip)
               go_simp; first | done | rfl)
            try simp only [Act.put, List.setIfInBounds_toArray, List.set_cons_zero, List.set_cons_succ]
            (try rw [rfl])
            -- 13 Op.move (Operand.tmp 0)
            refine wpMono_skip' 13 rfl (by kernel_rfl) (by kernel_rfl) (by kernel_rfl) (fun _ _ _ h => h) (by rfl) ?_
            try simp only [Act.put, List.setIfInBounds_toArray, List.set_cons_zero, List.set_cons_succ]
            (try rw [rfl])
            -- 14 Op.nilCheck (Operand.tmp 30)
            refine wpMono_skip' 14 rfl (by kernel_rfl) (by kernel_rfl) (by kernel_rfl) (fun _ _ _ h => h) (by rfl) ?_
            try simp only [Act.put, List.setIfInBounds_toArray, List.set_cons_zero, List.set_cons_succ]
            (try rw [rfl])
            -- 15 Op.fieldAddr 68 (Operand.tmp 31) 2
            refine wpMono_skip' 15 rfl (by kernel_rfl) (by kernel_rfl) (by kernel_rfl) (fun _ _ _ h => h) (by rfl) ?_
            try simp only [Act.put, List.setIfInBounds_toArray, List.set_cons_zero, List.set_cons_succ]
            (try rw [rfl])
            -- 16 Op.load 25 (Operand.tmp 32)
            refine wpMono_skip' 16 rfl (by kernel_rfl) (by kernel_rfl) (by kernel_rfl) (fun _ _ _ h => h) (by rfl) ?_
            try simp only [Act.put, List.setIfInBounds_toArray, List.set_cons_zero, List.set_cons_succ]
            (try rw [rfl])
            -- 17 Op.move (Operand.tmp 5)
            refine wpMono_skip' 17 rfl (by kernel_rfl) (by kernel_rfl) (by kernel_rfl) (fun _ _ _ h => h) (by rfl) ?_
            try simp only [Act.put, List.setIfInBounds_toArray, List.set_cons_zero, List.set_cons_succ]
            (try rw [rfl])
            -- 18 Op.indexAddr 25 (Operand.tmp 33) (Operand.tmp 34)
            refine wpMono_skip' 18 rfl (by kernel_rfl) (by kernel_rfl) (by kernel_rfl) (fun _ _ _ h => h) (by rfl) ?_
            try simp only [Act.put, List.setIfInBounds_toArray, List.set_cons_zero, List.set_cons_succ]
            (try rw [rfl])
            -- 19 Op.fieldAddr 35 (Operand.tmp 35) 0
            refine wpMono_skip' 19 rfl (by kernel_rfl) (by kernel_rfl) (by kernel_rfl) (fun _ _ _ h => h) (by rfl) ?_
            try simp only [Act.put, List.setIfInBounds_toArray, List.set_cons_zero, List.set_cons_succ]
            (try rw [rfl])
            -- 20 Op.load 3 (Operand.tmp 36)
            refine wpMono_skip' 20 rfl (by kernel_rfl) (by kernel_rfl) (by kernel_rfl) (fun _ _ _ h => h) (by rfl) ?_
            try simp only [Act.put, List.setIfInBounds_toArray, List.set_cons_zero, List.set_cons_succ]
            (try rw [rfl])
            -- 21 Op.move (Operand.tmp 0)
            refine wpMono_skip' 21 rfl (by kernel_rfl) (by kernel_rfl) (by kernel_rfl) (fun _ _ _ h => h) (by rfl) ?_
            try simp only [Act.put, List.setIfInBounds_toArray, List.set_cons_zero, List.set_cons_succ]
            (try rw [rfl])
            -- 22 Op.nilCheck (Operand.tmp 38)
            refine wpMono_skip' 22 rfl (by kernel_rfl) (by kernel_rfl) (by kernel_rfl) (fun _ _ _ h => h) (by rfl) ?_
            try simp only [Act.put, List.setIfInBounds_toArray, List.set_cons_zero, List.set_cons_succ]
            (try rw [rfl])
            -- 23 Op.fieldAddr 68 (Operand.tmp 39) 2
            refine wpMono_skip' 23 rfl (by kernel_rfl) (by kernel_rfl) (by kernel_rfl) (fun _ _ _ h => h) (by rfl) ?_
            try simp only [Act.put, List.setIfInBounds_toArray, List.set_cons_zero, List.set_cons_succ]
            (try rw [rfl])
            -- 24 Op.load 25 (Operand.tmp 40)
            refine wpMono_skip' 24 rfl (by kernel_rfl) (by kernel_rfl) (by kernel_rfl) (fun _ _ _ h => h) (by rfl) ?_
            try simp only [Act.put, List.setIfInBounds_toArray, List.set_cons_zero, List.set_cons_succ]
            (try rw [rfl])
            -- 25 Op.move (Operand.tmp 4)
            refine wpMono_skip' 25 rfl (by kernel_rfl) (by kernel_rfl) (by kernel_rfl) (fun _ _ _ h => h) (by rfl) ?_
            try simp only [Act.put, List.setIfInBounds_toArray, List.set_cons_zero, List.set_cons_succ]
            (try rw [rfl])
            -- 26 Op.indexAddr 25 (Operand.tmp 41) (Operand.tmp 42)
            refine wpMono_skip' 26 rfl (by kernel_rfl) (by kernel_rfl) (by kernel_rfl) (fun _ _ _ h => h) (by rfl) ?_
            try simp only [Act.put, List.setIfInBounds_toArray, List.set_cons_zero, List.set_cons_succ]
            (try rw [rfl])
            -- 27 Op.fieldAddr 35 (Operand.tmp 43) 0
            refine wpMono_skip' 27 rfl (by kernel_rfl) (by kernel_rfl) (by kernel_rfl) (fun _ _ _ h => h) (by rfl) ?_
            try simp only [Act.put, List.setIfInBounds_toArray, List.set_cons_zero, List.set_cons_succ]
            (try rw [rfl])
            -- 28 Op.load 3 (Operand.tmp 44)
            refine wpMono_skip' 28 rfl (by kernel_rfl) (by kernel_rfl) (by kernel_rfl) (fun _ _ _ h => h) (by rfl) ?_
            try simp only [Act.put, List.setIfInBounds_toArray, List.set_cons_zero, List.set_cons_succ]
            (try rw [rfl])
            -- 29 Op.binOp BinOp.lss 3 (Operand.tmp 37) (Operand.tmp 45) 3
            refine wpMono_skip' 29 rfl (by kernel_rfl) (by kernel_rfl) (by kernel_rfl) (fun _ _ _ h => h) (by rfl) ?_
            try simp only [Act.put, List.setIfInBounds_toArray, List.set_cons_zero, List.set_cons_succ]
            (try rw [rfl])
            -- 30 Op.pick (Operand.tmp 29) (Operand.const (Value.bool true)) (Operand.tmp 46)
            refine wpMono_take' 30 (v := ?_) rfl (by kernel_rfl) (by kernel_rfl) (by kernel_rfl) (fun _ _ _ h => h) (by rfl) ?_ ?_
            rotate_left
            · (intro W hSw; (first | (have hg := HGB.out.drew.keeps (X := nobody) hSw (fun h => h); have k2 : W.cell? ⟨g, 2, none⟩ = some (.slice (some ⟨b, 0, none⟩) l.length c3) := hg.cell 2; have gl := hg.lt) | (have hg := (HGB.out.drew.below HB1.out HGB.out.lt).keeps (X := nobody) hSw (fun h => h); have k2 : W.cell? ⟨g, 2, none⟩ = some (.slice (some ⟨b, 0, none⟩) l.length c3) := hg.cell 2; have gl := hg.lt; have z0 : W.cell? ⟨b, k * 10, none⟩ = some (.int .i64 y.r) := (hSw.cells b _ (Nat.lt_of_lt_of_le hbl HB1.out.size)).trans ((HB1.out.cell (p := ⟨b, k * 10, none⟩) hbl).trans (HE.out 0 _ rfl)); skip) | skip)
               go_simp; first | done | rfl)
            try simp only [Act.put, List.setIfInBounds_toArray, List.set_cons_zero, List.set_cons_succ]
            (try rw [rfl])
            -- 31 Op.pick (Operand.tmp 26) (Operand.tmp 47) (Operand.const (Value.bool false))
            refine wpMono_take' 31 (v := ?_) rfl (by kernel_rfl) (by kernel_rfl) (by kernel_rfl) (fun _ _ _ h => h) (by rfl) ?_ ?_
            rotate_left
            · (intro W hSw; (first | (have hg := HGB.out.drew.keeps (X := nobody) hSw (fun h => h); have k2 : W.cell? ⟨g, 2, none⟩ = some (.slice (some ⟨b, 0, none⟩) l.length c3) := hg.cell 2; have gl := hg.lt) | (have hg := (HGB.out.drew.below HB1.out HGB.out.lt).keeps (X := nobody) hSw (fun h => h); have k2 : W.cell? ⟨g, 2, none⟩ = some (.slice (some ⟨b, 0, none⟩) l.length c3) := hg.cell 2; have gl := hg.lt; have z0 : W.cell? ⟨b, k * 10, none⟩ = some (.int .i64 y.r) := (hSw.cells b _ (Nat.lt_of_lt_of_le hbl HB1.out.size)).trans ((HB1.out.cell (p := ⟨b, k * 10, none⟩) hbl).trans (HE.out 0 _ rfl)); skip) | skip)
               go_simp; first | done | rfl)
            try simp only [Act.put, List.setIfInBounds_toArray, List.set_cons_zero, List.set_cons_succ]
            (try rw [rfl])
            refine wpMono_done (by kernel_rfl) ?_ _
            have HBN := Lib.hid (below_step hbr (below_ofDrew HB1.out))
            go_wp2_with fail
            go_roundw
            case rel => exact ⟨k + 1, _, by omega, by go_num, rfl, HBE2.out, HBN.out⟩
            case measure => simp [intOf]; omega
          · obtain ⟨x, hx⟩ : ∃ x, l.getD q wrZ = x := ⟨_, rfl⟩
            have hql : q < l.length := by omega
            have HX := Lib.hid (show wr.cell? ⟨b, q * 10, none⟩ = some (.int .i64 x.r) from HEA.out q (by omega) 0 _ (by rw [hx]; rfl))
            have dq : decide ((q : Int) < 0) = false := by simp
            by_cases hr : y.r < x.r
            · have HBE2 := Lib.hid (HBE.out.take (by rw [HY.out]; exact HRD.out) (by rw [HY.out, hx]; exact hr))
              have dr : decide (y.r < x.r) = true := by simpa using hr
              clear hx
              go_wp2_with fail
              refine wp_region_mono nobody (by kernel_rfl) ?_
              -- 0 Op.move (Operand.tmp 0)
              refine wpMono_take' 0 (v := ?_) rfl (by kernel_rfl) (by kernel_rfl) (by kernel_rfl) (fun _ _ _ h => h) (by rfl) ?_ ?_
              rotate_left
              · (intro W hSw; (first | (have hg := HGB.out.drew.keeps (X := nobody) hSw (fun h => h); have k2 : W.cell? ⟨g, 2, none⟩ = some (.slice (some ⟨b, 0, none⟩) l.length c3) := hg.cell 2; have gl := hg.lt) | (have hg := (HGB.out.drew.below HB1.out HGB.out.lt).keeps (X := nobody) hSw (fun h => h); have k2 : W.cell? ⟨g, 2, none⟩ = some (.slice (some ⟨b, 0, none⟩) l.length c3) := hg.cell 2; have gl := hg.lt; have z0 : W.cell? ⟨b, k * 10, none⟩ = some (.int .i64 y.r) := (hSw.cells b _ (Nat.lt_of_lt_of_le hbl HB1.out.size)).trans ((HB1.out.cell (p := ⟨b, k * 10, none⟩) hbl).trans (HE.out 0 _ rfl)); have z1 : W.cell? ⟨b, q * 10, none⟩ = some (.int .i64 x.r) := (hSw.cells b _ (Nat.lt_of_lt_of_le hbl HB1.out.size)).trans ((HB1.out.cell (p := ⟨b, q * 10, none⟩) hbl).trans HX.out)) | skip)
                 go_simp; first | done | rfl)
              try simp only [Act.put, List.setIfInBounds_toArray, List.set_cons_zero, List.set_cons_succ]
              (try rw [dq]); (try rw [dr])
              -- 1 Op.move (Operand.tmp 0)
              refine wpMono_take' 1 (v := ?_) rfl (by kernel_rfl) (by kernel_rfl) (by kernel_rfl) (fun _ _ _ h => h) (by rfl) ?_ ?_
              rotate_left
              · (intro W hSw; (first | (have hg := HGB.out.drew.keeps (X := nobody) hSw (fun h => h); have k2 : W.cell? ⟨g, 2, none⟩ = some (.slice (some ⟨b, 0, none⟩) l.length c3) := hg.cell 2; have gl := hg.lt) | (have hg := (HGB.out.drew.below HB1.out HGB.out.lt).keeps (X := nobody) hSw (fun h => h); have k2 : W.cell? ⟨g, 2, none⟩ = some (.slice (some ⟨b, 0, none⟩) l.length c3) := hg.cell 2; have gl := hg.lt; have z0 : W.cell? ⟨b, k * 10, none⟩ = some (.int .i64 y.r) := (hSw.cells b _ (Nat.lt_of_lt_of_le hbl HB1.out.size)).trans ((HB1.out.cell (p := ⟨b, k * 10, none⟩) hbl).trans (HE.out 0 _ rfl)); have z1 : W.cell? ⟨b, q * 10, none⟩ = some (.int .i64 x.r) := (hSw.cells b _ (Nat.lt_of_lt_of_le hbl HB1.out.size)).trans ((HB1.out.cell (p := ⟨b, q * 10, none⟩) hbl).trans HX.out)) | skip)
                 go_simp; first | done | rfl)
              try simp only [Act.put, List.setIfInBounds_toArray, List.set_cons_zero, List.set_cons_succ]
              (try rw [dq]); (try rw [dr])
              -- 2 Op.nilCheck (Operand.tmp 18)
              refine wpMono_take' 2 (v := ?_) rfl (by kernel_rfl) (by kernel_rfl) (by kernel_rfl) (fun _ _ _ h => h) (by rfl) ?_ ?_
              rotate_left
              · (intro W hSw; (first | (have hg := HGB.out.drew.keeps (X := nobody) hSw (fun h => h); have k2 : W.cell? ⟨g, 2, none⟩ = some (.slice (some ⟨b, 0, none⟩) l.length c3) := hg.cell 2; have gl := hg.lt) | (have hg := (HGB.out.drew.below HB1.out HGB.out.lt).keeps (X := nobody) hSw (fun h => h); have k2 : W.cell? ⟨g, 2, none⟩ = some (.slice (some ⟨b, 0, none⟩) l.length c3) := hg.cell 2; have gl := hg.lt; have z0 : W.cell? ⟨b, k * 10, none⟩ = some (.int .i64 y.r) := (hSw.cells b _ (Nat.lt_of_lt_of_le hbl HB1.out.size)).trans ((HB1.out.cell (p := ⟨b, k * 10, none⟩) hbl).trans (HE.out 0 _ rfl)); have z1 : W.cell? ⟨b, q * 10, none⟩ = some (.int .i64 x.r) := (hSw.cells b _ (Nat.lt_of_lt_of_le hbl HB1.out.size)).trans ((HB1.out.cell (p := ⟨b, q * 10, none⟩) hbl).trans HX.out)) | skip)
                 go_simp; first | done | rfl)
              try simp only [Act.put, List.setIfInBounds_toArray, List.set_cons_zero, List.set_cons_succ]
              (try rw [dq]); (try rw [dr])
              -- 3 Op.fieldAddr 68 (Operand.tmp 19) 2
              refine wpMono_take' 3 (v := ?_) rfl (by kernel_rfl) (by kernel_rfl) (by kernel_rfl) (fun _ _ _ h => h) (by rfl) ?_ ?_
              rotate_left
              · (intro W hSw; (first | (have hg := HGB.out.drew.keeps (X := nobody) hSw (fun h => h); have k2 : W.cell? ⟨g, 2, none⟩ = some (.slice (some ⟨b, 0, none⟩) l.length c3) := hg.cell 2; have gl := hg.lt) | (have hg := (HGB.out.drew.below HB1.out HGB.out.lt).keeps (X := nobody) hSw (fun h => h); have k2 : W.cell? ⟨g, 2, none⟩ = some (.slice (some ⟨b, 0, none⟩) l.length c3) := hg.cell 2; have gl := hg.lt; have z0 : W.cell? ⟨b, k * 10, none⟩ = some (.int .i64 y.r) := (hSw.cells b _ (Nat.lt_of_lt_of_le hbl HB1.out.size)).trans ((HB1.out.cell (p := ⟨b, k * 10, none⟩) hbl).trans (HE.out 0 _ rfl)); have z1 : W.cell? ⟨b, q * 10, none⟩ = some (.int .i64 x.r) := (hSw.cells b _ (Nat.lt_of_lt_of_le hbl HB1.out.size)).trans ((HB1.out.cell (p := ⟨b, q * 10, none⟩) hbl).trans HX.out)) | skip)
                 go_simp; first | done | rfl)
              try simp only [Act.put, List.setIfInBounds_toArray, List.set_cons_zero, List.set_cons_succ]
              (try rw [dq]); (try rw [dr])
              -- 4 Op.load 25 (Operand.tmp 20)
              refine wpMono_take' 4 (v := ?_) rfl (by kernel_rfl) (by kernel_rfl) (by kernel_rfl) (fun _ _ _ h => h) (by rfl) ?_ ?_
              rotate_left
              · (intro W hSw; first | ((refine exec_load 35 (.tmp 23) ?_ b (k * 10) y.cells ?_ Try.underlying35 rfl (by rw [Wr.len]; kernel_rfl) (fun q v hq => (hSw.cells b _ hbl).trans (HE.out q v hq)) <;> rfl)) | ((first | (have hg := HGB.out.drew.keeps (X := nobody) hSw (fun h => h); have k2 : W.cell? ⟨g, 2, none⟩ = some (.slice (some ⟨b, 0, none⟩) l.length c3) := hg.cell 2; have gl := hg.lt) | (have hg := (HGB.out.drew.below HB1.out HGB.out.lt).keeps (X := nobody) hSw (fun h => h); have k2 : W.cell? ⟨g, 2, none⟩ = some (.slice (some ⟨b, 0, none⟩) l.length c3) := hg.cell 2; have gl := hg.lt; have z0 : W.cell? ⟨b, k * 10, none⟩ = some (.int .i64 y.r) := (hSw.cells b _ (Nat.lt_of_lt_of_le hbl HB1.out.size)).trans ((HB1.out.cell (p := ⟨b, k * 10, none⟩) hbl).trans (HE.out 0 _ rfl)); have z1 : W.cell? ⟨b, q * 10, none⟩ = some (.int .i64 x.r) := (hSw.cells b _ (Nat.lt_of_lt_of_le hbl HB1.out.size)).trans ((HB1.out.cell (p := ⟨b, q * 10, none⟩) hbl).trans HX.out)) | skip); go_simp; done) | ((first | (have hg := HGB.out.drew.keeps (X := nobody) hSw (fun h => h); have k2 : W.cell? ⟨g, 2, none⟩ = some (.slice (some ⟨b, 0, none⟩) l.length c3) := hg.cell 2; have gl := hg.lt) | (have hg := (HGB.out.drew.below HB1.out HGB.out.lt).keeps (X := nobody) hSw (fun h => h); have k2 : W.cell? ⟨g, 2, none⟩ = some (.slice (some ⟨b, 0, none⟩) l.length c3) := hg.cell 2; have gl := hg.lt; have z0 : W.cell? ⟨b, k * 10, none⟩ = some (.int .i64 y.r) := (hSw.cells b _ (Nat.lt_of_lt_of_le hbl HB1.out.size)).trans ((HB1.out.cell (p := ⟨b, k * 10, none⟩) hbl).trans (HE.out 0 _ rfl)); have z1 : W.cell? ⟨b, q * 10, none⟩ = some (.int .i64 x.r) := (hSw.cells b _ (Nat.lt_of_lt_of_le hbl HB1.out.size)).trans ((HB1.out.cell (p := ⟨b, q * 10, none⟩) hbl).trans HX.out)) | skip); go_simp; rfl))
              try simp only [Act.put, List.setIfInBounds_toArray, List.set_cons_zero, List.set_cons_succ]
              (try rw [dq]); (try rw [dr])
              -- 5 Op.move (Operand.tmp 5)
              refine wpMono_take' 5 (v := ?_) rfl (by kernel_rfl) (by kernel_rfl) (by kernel_rfl) (fun _ _ _ h => h) (by rfl) ?_ ?_
              rotate_left
              · (intro W hSw; (first | (have hg := HGB.out.drew.keeps (X := nobody) hSw (fun h => h); have k2 : W.cell? ⟨g, 2, none⟩ = some (.slice (some ⟨b, 0, none⟩) l.length c3) := hg.cell 2; have gl := hg.lt) | (have hg := (HGB.out.drew.below HB1.out HGB.out.lt).keeps (X := nobody) hSw (fun h => h); have k2 : W.cell? ⟨g, 2, none⟩ = some (.slice (some ⟨b, 0, none⟩) l.length c3) := hg.cell 2; have gl := hg.lt; have z0 : W.cell? ⟨b, k * 10, none⟩ = some (.int .i64 y.r) := (hSw.cells b _ (Nat.lt_of_lt_of_le hbl HB1.out.size)).trans ((HB1.out.cell (p := ⟨b, k * 10, none⟩) hbl).trans (HE.out 0 _ rfl)); have z1 : W.cell? ⟨b, q * 10, none⟩ = some (.int .i64 x.r) := (hSw.cells b _ (Nat.lt_of_lt_of_le hbl HB1.out.size)).trans ((HB1.out.cell (p := ⟨b, q * 10, none⟩) hbl).trans HX.out)) | skip)
                 go_simp; first | done | rfl)
              try simp only [Act.put, List.setIfInBounds_toArray, List.set_cons_zero, List.set_cons_succ]
              (try rw [dq]); (try rw [dr])
              -- 6 Op.indexAddr 25 (Operand.tmp 21) (Operand.tmp 22)
              refine wpMono_take' 6 (v := ?_) rfl (by kernel_rfl) (by kernel_rfl) (by kernel_rfl) (fun _ _ _ h => h) (by rfl) ?_ ?_
              rotate_left
              · (intro W hSw; (first | (have hg := HGB.out.drew.keeps (X := nobody) hSw (fun h => h); have k2 : W.cell? ⟨g, 2, none⟩ = some (.slice (some ⟨b, 0, none⟩) l.length c3) := hg.cell 2; have gl := hg.lt) | (have hg := (HGB.out.drew.below HB1.out HGB.out.lt).keeps (X := nobody) hSw (fun h => h); have k2 : W.cell? ⟨g, 2, none⟩ = some (.slice (some ⟨b, 0, none⟩) l.length c3) := hg.cell 2; have gl := hg.lt; have z0 : W.cell? ⟨b, k * 10, none⟩ = some (.int .i64 y.r) := (hSw.cells b _ (Nat.lt_of_lt_of_le hbl HB1.out.size)).trans ((HB1.out.cell (p := ⟨b, k * 10, none⟩) hbl).trans (HE.out 0 _ rfl)); have z1 : W.cell? ⟨b, q * 10, none⟩ = some (.int .i64 x.r) := (hSw.cells b _ (Nat.lt_of_lt_of_le hbl HB1.out.size)).trans ((HB1.out.cell (p := ⟨b, q * 10, none⟩) hbl).trans HX.out)) | skip)
                 go_simp; first | done | rfl)
              try simp only [Act.put, List.setIfInBounds_toArray, List.set_cons_zero, List.set_cons_succ]
              (try rw [dq]); (try rw [dr])
              -- 7 Op.load 35 (Operand.tmp 23)
              refine wpMono_take' 7 (v := ?_) rfl (by kernel_rfl) (by kernel_rfl) (by kernel_rfl) (fun _ _ _ h => h) (by rfl) ?_ ?_
              rotate_left
              · (intro W hSw; first | ((refine exec_load 35 (.tmp 23) ?_ b (k * 10) y.cells ?_ Try.underlying35 rfl (by rw [Wr.len]; kernel_rfl) (fun q v hq => (hSw.cells b _ hbl).trans (HE.out q v hq)) <;> rfl)) | ((first | (have hg := HGB.out.drew.keeps (X := nobody) hSw (fun h => h); have k2 : W.cell? ⟨g, 2, none⟩ = some (.slice (some ⟨b, 0, none⟩) l.length c3) := hg.cell 2; have gl := hg.lt) | (have hg := (HGB.out.drew.below HB1.out HGB.out.lt).keeps (X := nobody) hSw (fun h => h); have k2 : W.cell? ⟨g, 2, none⟩ = some (.slice (some ⟨b, 0, none⟩) l.length c3) := hg.cell 2; have gl := hg.lt; have z0 : W.cell? ⟨b, k * 10, none⟩ = some (.int .i64 y.r) := (hSw.cells b _ (Nat.lt_of_lt_of_le hbl HB1.out.size)).trans ((HB1.out.cell (p := ⟨b, k * 10, none⟩) hbl).trans (HE.out 0 _ rfl)); have z1 : W.cell? ⟨b, q * 10, none⟩ = some (.int .i64 x.r) := (hSw.cells b _ (Nat.lt_of_lt_of_le hbl HB1.out.size)).trans ((HB1.out.cell (p := ⟨b, q * 10, none⟩) hbl).trans HX.out)) | skip); go_simp; done) | ((first | (have hg := HGB.out.drew.keeps (X := nobody) hSw (fun h => h); have k2 : W.cell? ⟨g, 2, none⟩ = some (.slice (some ⟨b, 0, none⟩) l.length c3) := hg.cell 2; have gl := hg.lt) | (have hg := (HGB.out.drew.below HB1.out HGB.out.lt).keeps (X := nobody) hSw (fun h => h); have k2 : W.cell? ⟨g, 2, none⟩ = some (.slice (some ⟨b, 0, none⟩) l.length c3) := hg.cell 2; have gl := hg.lt; have z0 : W.cell? ⟨b, k * 10, none⟩ = some (.int .i64 y.r) := (hSw.cells b _ (Nat.lt_of_lt_of_le hbl HB1.out.size)).trans ((HB1.out.cell (p := ⟨b, k * 10, none⟩) hbl).trans (HE.out 0 _ rfl)); have z1 : W.cell? ⟨b, q * 10, none⟩ = some (.int .i64 x.r) := (hSw.cells b _ (Nat.lt_of_lt_of_le hbl HB1.out.size)).trans ((HB1.out.cell (p := ⟨b, q * 10, none⟩) hbl).trans HX.out)) | skip); go_simp; rfl))
              try simp only [Act.put, List.setIfInBounds_toArray, List.set_cons_zero, List.set_cons_succ]
              (try rw [dq]); (try rw [dr])
              -- EFFECT 8 Op.call { callee := Callee.value (Operand.func 50), args := #[Operand.tmp 17, Operand.tmp 24], argTypes := #[57, 35] }
              refine wpMono_one' 8 (by kernel_rfl) rfl (by rfl) (fun K hK => ?_)
              go_simp
              refine (ready_ref g rg A a.length c a _ y A2 y.z.length c2 wr.drew HGB.out.drew (show Vec wr.drew wr.drew.heap.size A a.length c a from HVA.out.below (Below.refl _ wr).drew) HD.out (show Vec wr.drew wr.drew.heap.size A2 y.z.length c2 y.z from HVY.out.below (Below.refl _ wr).drew) (by omega) hz HAP.out).mono ?_
              rintro e w1 ⟨rfl, hb1⟩
              rw [HRD.out]
              have HB1 := Lib.hid hb1
              clear hb1
              refine hK.out _ _ ?_ ?_
              · exact .of_below HB1.out
              clear hK K
              try simp only [Act.put, List.setIfInBounds_toArray, List.set_cons_zero, List.set_cons_succ]
              (try rw [dq]); (try rw [dr])
              -- 9 Op.move (Operand.tmp 25)
              refine wpMono_take' 9 (v := ?_) rfl (by kernel_rfl) (by kernel_rfl) (by kernel_rfl) (fun _ _ _ h => h) (by rfl) ?_ ?_
              rotate_left
              · (intro W hSw; (first | (have hg := HGB.out.drew.keeps (X := nobody) hSw (fun h => h); have k2 : W.cell? ⟨g, 2, none⟩ = some (.slice (some ⟨b, 0, none⟩) l.length c3) := hg.cell 2; have gl := hg.lt) | (have hg := (HGB.out.drew.below HB1.out HGB.out.lt).keeps (X := nobody) hSw (fun h => h); have k2 : W.cell? ⟨g, 2, none⟩ = some (.slice (some ⟨b, 0, none⟩) l.length c3) := hg.cell 2; have gl := hg.lt; have z0 : W.cell? ⟨b, k * 10, none⟩ = some (.int .i64 y.r) := (hSw.cells b _ (Nat.lt_of_lt_of_le hbl HB1.out.size)).trans ((HB1.out.cell (p := ⟨b, k * 10, none⟩) hbl).trans (HE.out 0 _ rfl)); have z1 : W.cell? ⟨b, q * 10, none⟩ = some (.int .i64 x.r) := (hSw.cells b _ (Nat.lt_of_lt_of_le hbl HB1.out.size)).trans ((HB1.out.cell (p := ⟨b, q * 10, none⟩) hbl).trans HX.out)) | skip)
                 go_simp; first | done | rfl)
              try simp only [Act.put, List.setIfInBounds_toArray, List.set_cons_zero, List.set_cons_succ]
              (try rw [dq]); (try rw [dr])
              -- 10 Op.move (Operand.tmp 4)
              refine wpMono_take' 10 (v := ?_) rfl (by kernel_rfl) (by kernel_rfl) (by kernel_rfl) (fun _ _ _ h => h) (by rfl) ?_ ?_
              rotate_left
              · (intro W hSw; (first | (have hg := HGB.out.drew.keeps (X := nobody) hSw (fun h => h); have k2 : W.cell? ⟨g, 2, none⟩ = some (.slice (some ⟨b, 0, none⟩) l.length c3) := hg.cell 2; have gl := hg.lt) | (have hg := (HGB.out.drew.below HB1.out HGB.out.lt).keeps (X := nobody) hSw (fun h => h); have k2 : W.cell? ⟨g, 2, none⟩ = some (.slice (some ⟨b, 0, none⟩) l.length c3) := hg.cell 2; have gl := hg.lt; have z0 : W.cell? ⟨b, k * 10, none⟩ = some (.int .i64 y.r) := (hSw.cells b _ (Nat.lt_of_lt_of_le hbl HB1.out.size)).trans ((HB1.out.cell (p := ⟨b, k * 10, none⟩) hbl).trans (HE.out 0 _ rfl)); have z1 : W.cell? ⟨b, q * 10, none⟩ = some (.int .i64 x.r) := (hSw.cells b _ (Nat.lt_of_lt_of_le hbl HB1.out.size)).trans ((HB1.out.cell (p := ⟨b, q * 10, none⟩) hbl).trans HX.out)) | skip)
                 go_simp; first | done | rfl)
              try simp only [Act.put, List.setIfInBounds_toArray, List.set_cons_zero, List.set_cons_succ]
              (try rw [dq]); (try rw [dr])
              -- 11 Op.binOp BinOp.lss 3 (Operand.tmp 27) (Operand.const (Value.int IntKind.i64 0)) 3
              refine wpMono_take' 11 (v := ?_) rfl (by kernel_rfl) (by kernel_rfl) (by kernel_rfl) (fun _ _ _ h => h) (by rfl) ?_ ?_
              rotate_left
              · (intro W hSw; (first | (have hg := HGB.out.drew.keeps (X := nobody) hSw (fun h => h); have k2 : W.cell? ⟨g, 2, none⟩ = some (.slice (some ⟨b, 0, none⟩) l.length c3) := hg.cell 2; have gl := hg.lt) | (have hg := (HGB.out.drew.below HB1.out HGB.out.lt).keeps (X := nobody) hSw (fun h => h); have k2 : W.cell? ⟨g, 2, none⟩ = some (.slice (some ⟨b, 0, none⟩) l.length c3) := hg.cell 2; have gl := hg.lt; have z0 : W.cell? ⟨b, k * 10, none⟩ = some (.int .i64 y.r) := (hSw.cells b _ (Nat.lt_of_lt_of_le hbl HB1.out.size)).trans ((HB1.out.cell (p := ⟨b, k * 10, none⟩) hbl).trans (HE.out 0 _ rfl)); have z1 : W.cell? ⟨b, q * 10, none⟩ = some (.int .i64 x.r) := (hSw.cells b _ (Nat.lt_of_lt_of_le hbl HB1.out.size)).trans ((HB1.out.cell (p := ⟨b, q * 10, none⟩) hbl).trans HX.out)) | skip)
                 go_simp; first | done | rfl)
              try simp only [Act.put, List.setIfInBounds_toArray, List.set_cons_zero, List.set_cons_succ]
              (try rw [dq]); (try rw [dr])
              -- 12 Op.move (Operand.tmp 28)
              refine wpMono_take' 12 (v := ?_) rfl (by kernel_rfl) (by kernel_rfl) (by kernel_rfl) (fun _ _ _ h => h) (by rfl) ?_ ?_
              rotate_left
              · (intro W hSw; (first | (have hg := HGB.out.drew.keeps (X := nobody) hSw (fun h => h); have k2 : W.cell? ⟨g, 2, none⟩ = some (.slice (some ⟨b, 0, none⟩) l.length c3) := hg.cell 2; have gl := hg.lt) | (have hg := (HGB.out.drew.below HB1.out HGB.out.lt).keeps (X := nobody) hSw (fun h => h); have k2 : W.cell? ⟨g, 2, none⟩ = some (.slice (some ⟨b, 0, none⟩) l.length c3) := hg.cell 2; have gl := hg.lt; have z0 : W.cell? ⟨b, k * 10, none⟩ = some (.int .i64 y.r) := (hSw.cells b _ (Nat.lt_of_lt_of_le hbl HB1.out.size)).trans ((HB1.out.cell (p := ⟨b, k * 10, none⟩) hbl).trans (HE.out 0 _ rfl)); have z1 : W.cell? ⟨b, q * 10, none⟩ = some (.int .i64 x.r) := (hSw.cells b _ (Nat.lt_of_lt_of_le hbl HB1.out.size)).trans ((HB1.out.cell (p := ⟨b, q * 10, none⟩) hbl).trans HX.out)) | skip)
                 go_simp; first | done | rfl)
              try simp only [Act.put, List.setIfInBounds_toArray, List.set_cons_zero, List.set_cons_succ]
              (try rw [dq]); (try rw [dr])
              -- 13 Op.move (Operand.tmp 0)
              refine wpMono_take' 13 (v := ?_) rfl (by kernel_rfl) (by kernel_rfl) (by kernel_rfl) (fun _ _ _ h => h) (by rfl) ?_ ?_
              rotate_left
              · (intro W hSw; (first | (have hg := HGB.out.drew.keeps (X := nobody) hSw (fun h => h); have k2 : W.cell? ⟨g, 2, none⟩ = some (.slice (some ⟨b, 0, none⟩) l.length c3) := hg.cell 2; have gl := hg.lt) | (have hg := (HGB.out.drew.below HB1.out HGB.out.lt).keeps (X := nobody) hSw (fun h => h); have k2 : W.cell? ⟨g, 2, none⟩ = some (.slice (some ⟨b, 0, none⟩) l.length c3) := hg.cell 2; have gl := hg.lt; have z0 : W.cell? ⟨b, k * 10, none⟩ = some (.int .i64 y.r) := (hSw.cells b _ (Nat.lt_of_lt_of_le hbl HB1.out.size)).trans ((HB1.out.cell (p := ⟨b, k * 10, none⟩) hbl).trans (HE.out 0 _ rfl)); have z1 : W.cell? ⟨b, q * 10, none⟩ = some (.int .i64 x.r) := (hSw.cells b _ (Nat.lt_of_lt_of_le hbl HB1.out.size)).trans ((HB1.out.cell (p := ⟨b, q * 10, none⟩) hbl).trans HX.out)) | skip)
                 go_simp; first | done | rfl)
              try simp only [Act.put, List.setIfInBounds_toArray, List.set_cons_zero, List.set_cons_succ]
              (try rw [dq]); (try rw [dr])
              -- 14 Op.nilCheck (Operand.tmp 30)
              refine wpMono_take' 14 (v := ?_) rfl (by kernel_rfl) (by kernel_rfl) (by kernel_rfl) (fun _ _ _ h => h) (by rfl) ?_ ?_
              rotate_left
              · (intro W hSw; (first | (have hg := HGB.out.drew.keeps (X := nobody) hSw (fun h => h); have k2 : W.cell? ⟨g, 2, none⟩ = some (.slice (some ⟨b, 0, none⟩) l.length c3) := hg.cell 2; have gl := hg.lt) | (have hg := (HGB.out.drew.below HB1.out HGB.out.lt).keeps (X := nobody) hSw (fun h => h); have k2 : W.cell? ⟨g, 2, none⟩ = some (.slice (some ⟨b, 0, none⟩) l.length c3) := hg.cell 2; have gl := hg.lt; have z0 : W.cell? ⟨b, k * 10, none⟩ = some (.int .i64 y.r) := (hSw.cells b _ (Nat.lt_of_lt_of_le hbl HB1.out.size)).trans ((HB1.out.cell (p := ⟨b, k * 10, none⟩) hbl).trans (HE.out 0 _ rfl)); have z1 : W.cell? ⟨b, q * 10, none⟩ = some (.int .i64 x.r) := (hSw.cells b _ (Nat.lt_of_lt_of_le hbl HB1.out.size)).trans ((HB1.out.cell (p := ⟨b, q * 10, none⟩) hbl).trans HX.out)) | skip)
                 go_simp; first | done | rfl)
              try simp only [Act.put, List.setIfInBounds_toArray, List.set_cons_zero, List.set_cons_succ]
              (try rw [dq]); (try rw [dr])
              -- 15 Op.fieldAddr 68 (Operand.tmp 31) 2
              refine wpMono_take' 15 (v := ?_) rfl (by kernel_rfl) (by kernel_rfl) (by kernel_rfl) (fun _ _ _ h => h) (by rfl) ?_ ?_
              rotate_left
              · (intro W hSw; (first | (have hg := HGB.out.drew.keeps (X := nobody) hSw (fun h => h); have k2 : W.cell? ⟨g, 2, none⟩ = some (.slice (some ⟨b, 0, none⟩) l.length c3) := hg.cell 2; have gl := hg.lt) | (have hg := (HGB.out.drew.below HB1.out HGB.out.lt).keeps (X := nobody) hSw (fun h => h); have k2 : W.cell? ⟨g, 2, none⟩ = some (.slice (some ⟨b, 0, none⟩) l.length c3) := hg.cell 2; have gl := hg.lt; have z0 : W.cell? ⟨b, k * 10, none⟩ = some (.int .i64 y.r) := (hSw.cells b _ (Nat.lt_of_lt_of_le hbl HB1.out.size)).trans ((HB1.out.cell (p := ⟨b, k * 10, none⟩) hbl).trans (HE.out 0 _ rfl)); have z1 : W.cell? ⟨b, q * 10, none⟩ = some (.int .i64 x.r) := (hSw.cells b _ (Nat.lt_of_lt_of_le hbl HB1.out.size)).trans ((HB1.out.cell (p := ⟨b, q * 10, none⟩) hbl).trans HX.out)) | skip)
                 go_simp; first | done | rfl)
              try simp only [Act.put, List.setIfInBounds_toArray, List.set_cons_zero, List.set_cons_succ]
              (try rw [dq]); (try rw [dr])
              -- 16 Op.load 25 (Operand.tmp 32)
              refine wpMono_take' 16 (v := ?_) rfl (by kernel_rfl) (by kernel_rfl) (by kernel_rfl) (fun _ _ _ h => h) (by rfl) ?_ ?_
              rotate_left
              · (intro W hSw; first | ((refine exec_load 35 (.tmp 23) ?_ b (k * 10) y.cells ?_ Try.underlying35 rfl (by rw [Wr.len]; kernel_rfl) (fun q v hq => (hSw.cells b _ hbl).trans (HE.out q v hq)) <;> rfl)) | ((first | (have hg := HGB.out.drew.keeps (X := nobody) hSw (fun h => h); have k2 : W.cell? ⟨g, 2, none⟩ = some (.slice (some ⟨b, 0, none⟩) l.length c3) := hg.cell 2; have gl := hg.lt) | (have hg := (HGB.out.drew.below HB1.out HGB.out.lt).keeps (X := nobody) hSw (fun h => h); have k2 : W.cell? ⟨g, 2, none⟩ = some (.slice (some ⟨b, 0, none⟩) l.length c3) := hg.cell 2; have gl := hg.lt; have z0 : W.cell? ⟨b, k * 10, none⟩ = some (.int .i64 y.r) := (hSw.cells b _ (Nat.lt_of_lt_of_le hbl HB1.out.size)).trans ((HB1.out.cell (p := ⟨b, k * 10, none⟩) hbl).trans (HE.out 0 _ rfl)); have z1 : W.cell? ⟨b, q * 10, none⟩ = some (.int .i64 x.r) := (hSw.cells b _ (Nat.lt_of_lt_of_le hbl HB1.out.size)).trans ((HB1.out.cell (p := ⟨b, q * 10, none⟩) hbl).trans HX.out)) | skip); go_simp; done) | ((first | (have hg := HGB.out.drew.keeps (X := nobody) hSw (fun h => h); have k2 : W.cell? ⟨g, 2, none⟩ = some (.slice (some ⟨b, 0, none⟩) l.length c3) := hg.cell 2; have gl := hg.lt) | (have hg := (HGB.out.drew.below HB1.out HGB.out.lt).keeps (X := nobody) hSw (fun h => h); have k2 : W.cell? ⟨g, 2, none⟩ = some (.slice (some ⟨b, 0, none⟩) l.length c3) := hg.cell 2; have gl := hg.lt; have z0 : W.cell? ⟨b, k * 10, none⟩ = some (.int .i64 y.r) := (hSw.cells b _ (Nat.lt_of_lt_of_le hbl HB1.out.size)).trans ((HB1.out.cell (p := ⟨b, k * 10, none⟩) hbl).trans (HE.out 0 _ rfl)); have z1 : W.cell? ⟨b, q * 10, none⟩ = some (.int .i64 x.r) := (hSw.cells b _ (Nat.lt_of_lt_of_le hbl HB1.out.size)).trans ((HB1.out.cell (p := ⟨b, q * 10, none⟩) hbl).trans HX.out)) | skip); go_simp; rfl))
              try simp only [Act.put, List.setIfInBounds_toArray, List.set_cons_zero, List.set_cons_succ]
              (try rw [dq]); (try rw [dr])
              -- 17 Op.move (Operand.tmp 5)
              refine wpMono_take' 17 (v := ?_) rfl (by kernel_rfl) (by kernel_rfl) (by kernel_rfl) (fun _ _ _ h => h) (by rfl) ?_ ?_
              rotate_left
              · (intro W hSw; (first | (have hg := HGB.out.drew.keeps (X := nobody) hSw (fun h => h); have k2 : W.cell? ⟨g, 2, none⟩ = some (.slice (some ⟨b, 0, none⟩) l.length c3) := hg.cell 2; have gl := hg.lt) | (have hg := (HGB.out.drew.below HB1.out HGB.out.lt).keeps (X := nobody) hSw (fun h => h); have k2 : W.cell? ⟨g, 2, none⟩ = some (.slice (some ⟨b, 0, none⟩) l.length c3) := hg.cell 2; have gl := hg.lt; have z0 : W.cell? ⟨b, k * 10, none⟩ = some (.int .i64 y.r) := (hSw.cells b _ (Nat.lt_of_lt_of_le hbl HB1.out.size)).trans ((HB1.out.cell (p := ⟨b, k * 10, none⟩) hbl).trans (HE.out 0 _ rfl)); have z1 : W.cell? ⟨b, q * 10, none⟩ = some (.int .i64 x.r) := (hSw.cells b _ (Nat.lt_of_lt_of_le hbl HB1.out.size)).trans ((HB1.out.cell (p := ⟨b, q * 10, none⟩) hbl).trans HX.out)) | skip)
                 go_simp; first | done | rfl)
              try simp only [Act.put, List.setIfInBounds_toArray, List.set_cons_zero, List.set_cons_succ]
              (try rw [dq]); (try rw [dr])
              -- 18 Op.indexAddr 25 (Operand.tmp 33) (Operand.tmp 34)
              refine wpMono_take' 18 (v := ?_) rfl (by kernel_rfl) (by kernel_rfl) (by kernel_rfl) (fun _ _ _ h => h) (by rfl) ?_ ?_
              rotate_left
              · (intro W hSw; (first | (have hg := HGB.out.drew.keeps (X := nobody) hSw (fun h => h); have k2 : W.cell? ⟨g, 2, none⟩ = some (.slice (some ⟨b, 0, none⟩) l.length c3) := hg.cell 2; have gl := hg.lt) | (have hg := (HGB.out.drew.below HB1.out HGB.out.lt).keeps (X := nobody) hSw (fun h => h); have k2 : W.cell? ⟨g, 2, none⟩ = some (.slice (some ⟨b, 0, none⟩) l.length c3) := hg.cell 2; have gl := hg.lt; have z0 : W.cell? ⟨b, k * 10, none⟩ = some (.int .i64 y.r) := (hSw.cells b _ (Nat.lt_of_lt_of_le hbl HB1.out.size)).trans ((HB1.out.cell (p := ⟨b, k * 10, none⟩) hbl).trans (HE.out 0 _ rfl)); have z1 : W.cell? ⟨b, q * 10, none⟩ = some (.int .i64 x.r) := (hSw.cells b _ (Nat.lt_of_lt_of_le hbl HB1.out.size)).trans ((HB1.out.cell (p := ⟨b, q * 10, none⟩) hbl).trans HX.out)) | skip)
                 go_simp; first | done | rfl)
              try simp only [Act.put, List.setIfInBounds_toArray, List.set_cons_zero, List.set_cons_succ]
              (try rw [dq]); (try rw [dr])
              -- 19 Op.fieldAddr 35 (Operand.tmp 35) 0
              refine wpMono_take' 19 (v := ?_) rfl (by kernel_rfl) (by kernel_rfl) (by kernel_rfl) (fun _ _ _ h => h) (by rfl) ?_ ?_
              rotate_left
              · (intro W hSw; (first | (have hg := HGB.out.drew.keeps (X := nobody) hSw (fun h => h); have k2 : W.cell? ⟨g, 2, none⟩ = some (.slice (some ⟨b, 0, none⟩) l.length c3) := hg.cell 2; have gl := hg.lt) | (have hg := (HGB.out.drew.below HB1.out HGB.out.lt).keeps (X := nobody) hSw (fun h => h); have k2 : W.cell? ⟨g, 2, none⟩ = some (.slice (some ⟨b, 0, none⟩) l.length c3) := hg.cell 2; have gl := hg.lt; have z0 : W.cell? ⟨b, k * 10, none⟩ = some (.int .i64 y.r) := (hSw.cells b _ (Nat.lt_of_lt_of_le hbl HB1.out.size)).trans ((HB1.out.cell (p := ⟨b, k * 10, none⟩) hbl).trans (HE.out 0 _ rfl)); have z1 : W.cell? ⟨b, q * 10, none⟩ = some (.int .i64 x.r) := (hSw.cells b _ (Nat.lt_of_lt_of_le hbl HB1.out.size)).trans ((HB1.out.cell (p := ⟨b, q * 10, none⟩) hbl).trans HX.out)) | skip)
                 go_simp; first | done | rfl)
              try simp only [Act.put, List.setIfInBounds_toArray, List.set_cons_zero, List.set_cons_succ]
              (try rw [dq]); (try rw [dr])
              -- 20 Op.load 3 (Operand.tmp 36)
              refine wpMono_take' 20 (v := ?_) rfl (by kernel_rfl) (by kernel_rfl) (by kernel_rfl) (fun _ _ _ h => h) (by rfl) ?_ ?_
              rotate_left
              · (intro W hSw; first | ((refine exec_load 35 (.tmp 23) ?_ b (k * 10) y.cells ?_ Try.underlying35 rfl (by rw [Wr.len]; kernel_rfl) (fun q v hq => (hSw.cells b _ hbl).trans (HE.out q v hq)) <;> rfl)) | ((first | (have hg := HGB.out.drew.keeps (X := nobody) hSw (fun h => h); have k2 : W.cell? ⟨g, 2, none⟩ = some (.slice (some ⟨b, 0, none⟩) l.length c3) := hg.cell 2; have gl := hg.lt) | (have hg := (HGB.out.drew.below HB1.out HGB.out.lt).keeps (X := nobody) hSw (fun h => h); have k2 : W.cell? ⟨g, 2, none⟩ = some (.slice (some ⟨b, 0, none⟩) l.length c3) := hg.cell 2; have gl := hg.lt; have z0 : W.cell? ⟨b, k * 10, none⟩ = some (.int .i64 y.r) := (hSw.cells b _ (Nat.lt_of_lt_of_le hbl HB1.out.size)).trans ((HB1.out.cell (p := ⟨b, k * 10, none⟩) hbl).trans (HE.out 0 _ rfl)); have z1 : W.cell? ⟨b, q * 10, none⟩ = some (.int .i64 x.r) := (hSw.cells b _ (Nat.lt_of_lt_of_le hbl HB1.out.size)).trans ((HB1.out.cell (p := ⟨b, q * 10, none⟩) hbl).trans HX.out)) | skip); go_simp; done) | ((first | (have hg := HGB.out.drew.keeps (X := nobody) hSw (fun h => h); have k2 : W.cell? ⟨g, 2, none⟩ = some (.slice (some ⟨b, 0, none⟩) l.length c3) := hg.cell 2; have gl := hg.lt) | (have hg := (HGB.out.drew.below HB1.out HGB.out.lt).keeps (X := nobody) hSw (fun h => h); have k2 : W.cell? ⟨g, 2, none⟩ = some (.slice (some ⟨b, 0, none⟩) l.length c3) := hg.cell 2; have gl := hg.lt; have z0 : W.cell? ⟨b, k * 10, none⟩ = some (.int .i64 y.r) := (hSw.cells b _ (Nat.lt_of_lt_of_le hbl HB1.out.size)).trans ((HB1.out.cell (p := ⟨b, k * 10, none⟩) hbl).trans (HE.out 0 _ rfl)); have z1 : W.cell? ⟨b, q * 10, none⟩ = some (.int .i64 x.r) := (hSw.cells b _ (Nat.lt_of_lt_of_le hbl HB1.out.size)).trans ((HB1.out.cell (p := ⟨b, q * 10, none⟩) hbl).trans HX.out)) | skip); go_simp; rfl))
              try simp only [Act.put, List.setIfInBounds_toArray, List.set_cons_zero, List.set_cons_succ]
              (try rw [dq]); (try rw [dr])
              -- 21 Op.move (Operand.tmp 0)
              refine wpMono_take' 21 (v := ?_) rfl (by kernel_rfl) (by kernel_rfl) (by kernel_rfl) (fun _ _ _ h => h) (by rfl) ?_ ?_
              rotate_left
              · (intro W hSw; (first | (have hg := HGB.out.drew.keeps (X := nobody) hSw (fun h => h); have k2 : W.cell? ⟨g, 2, none⟩ = some (.slice (some ⟨b, 0, none⟩) l.length c3) := hg.cell 2; have gl := hg.lt) | (have hg := (HGB.out.drew.below HB1.out HGB.out.lt).keeps (X := nobody) hSw (fun h => h); have k2 : W.cell? ⟨g, 2, none⟩ = some (.slice (some ⟨b, 0, none⟩) l.length c3) := hg.cell 2; have gl := hg.lt; have z0 : W.cell? ⟨b, k * 10, none⟩ = some (.int .i64 y.r) := (hSw.cells b _ (Nat.lt_of_lt_of_le hbl HB1.out.size)).trans ((HB1.out.cell (p := ⟨b, k * 10, none⟩) hbl).trans (HE.out 0 _ rfl)); have z1 : W.cell? ⟨b, q * 10, none⟩ = some (.int .i64 x.r) := (hSw.cells b _ (Nat.lt_of_lt_of_le hbl HB1.out.size)).trans ((HB1.out.cell (p := ⟨b, q * 10, none⟩) hbl).trans HX.out)) | skip)
                 go_simp; first | done | rfl)
              try simp only [Act.put, List.setIfInBounds_toArray, List.set_cons_zero, List.set_cons_succ]
              (try rw [dq]); (try rw [dr])
              -- 22 Op.nilCheck (Operand.tmp 38)
              refine wpMono_take' 22 (v := ?_) rfl (by kernel_rfl) (by kernel_rfl) (by kernel_rfl) (fun _ _ _ h => h) (by rfl) ?_ ?_
              rotate_left
              · (intro W hSw; (first | (have hg := HGB.out.drew.keeps (X := nobody) hSw (fun h => h); have k2 : W.cell? ⟨g, 2, none⟩ = some (.slice (some ⟨b, 0, none⟩) l.length c3) := hg.cell 2; have gl := hg.lt) | (have hg := (HGB.out.drew.below HB1.out HGB.out.lt).keeps (X := nobody) hSw (fun h => h); have k2 : W.cell? ⟨g, 2, none⟩ = some (.slice (some ⟨b, 0, none⟩) l.length c3) := hg.cell 2; have gl := hg.lt; have z0 : W.cell? ⟨b, k * 10, none⟩ = some (.int .i64 y.r) := (hSw.cells b _ (Nat.lt_of_lt_of_le hbl HB1.out.size)).trans ((HB1.out.cell (p := ⟨b, k * 10, none⟩) hbl).trans (HE.out 0 _ rfl)); have z1 : W.cell? ⟨b, q * 10, none⟩ = some (.int .i64 x.r) := (hSw.cells b _ (Nat.lt_of_lt_of_le hbl HB1.out.size)).trans ((HB1.out.cell (p := ⟨b, q * 10, none⟩) hbl).trans HX.out)) | skip)
                 go_simp; first | done | rfl)
              try simp only [Act.put, List.setIfInBounds_toArray, List.set_cons_zero, List.set_cons_succ]
              (try rw [dq]); (try rw [dr])
              -- 23 Op.fieldAddr 68 (Operand.tmp 39) 2
              refine wpMono_take' 23 (v := ?_) rfl (by kernel_rfl) (by kernel_rfl) (by kernel_rfl) (fun _ _ _ h => h) (by rfl) ?_ ?_
              rotate_left
              · (intro W hSw; (first | (have hg := HGB.out.drew.keeps (X := nobody) hSw (fun h => h); have k2 : W.cell? ⟨g, 2, none⟩ = some (.slice (some ⟨b, 0, none⟩) l.length c3) := hg.cell 2; have gl := hg.lt) | (have hg := (HGB.out.drew.below HB1.out HGB.out.lt).keeps (X := nobody) hSw (fun h => h); have k2 : W.cell? ⟨g, 2, none⟩ = some (.slice (some ⟨b, 0, none⟩) l.length c3) := hg.cell 2; have gl := hg.lt; have z0 : W.cell? ⟨b, k * 10, none⟩ = some (.int .i64 y.r) := (hSw.cells b _ (Nat.lt_of_lt_of_le hbl HB1.out.size)).trans ((HB1.out.cell (p := ⟨b, k * 10, none⟩) hbl).trans (HE.out 0 _ rfl)); have z1 : W.cell? ⟨b, q * 10, none⟩ = some (.int .i64 x.r) := (hSw.cells b _ (Nat.lt_of_lt_of_le hbl HB1.out.size)).trans ((HB1.out.cell (p := ⟨b, q * 10, none⟩) hbl).trans HX.out)) | skip)
                 go_simp; first | done | rfl)
              try simp only [Act.put, List.setIfInBounds_toArray, List.set_cons_zero, List.set_cons_succ]
              (try rw [dq]); (try rw [dr])
              -- 24 Op.load 25 (Operand.tmp 40)
              refine wpMono_take' 24 (v := ?_) rfl (by kernel_rfl) (by kernel_rfl) (by kernel_rfl) (fun _ _ _ h => h) (by rfl) ?_ ?_
              rotate_left
              · (intro W hSw; first | ((refine exec_load 35 (.tmp 23) ?_ b (k * 10) y.cells ?_ Try.underlying35 rfl (by rw [Wr.len]; kernel_rfl) (fun q v hq => (hSw.cells b _ hbl).trans (HE.out q v hq)) <;> rfl)) | ((first | (have hg := HGB.out.drew.keeps (X := nobody) hSw (fun h => h); have k2 : W.cell? ⟨g, 2, none⟩ = some (.slice (some ⟨b, 0, none⟩) l.length c3) := hg.cell 2; have gl := hg.lt) | (have hg := (HGB.out.drew.below HB1.out HGB.out.lt).keeps (X := nobody) hSw (fun h => h); have k2 : W.cell? ⟨g, 2, none⟩ = some (.slice (some ⟨b, 0, none⟩) l.length c3) := hg.cell 2; have gl := hg.lt; have z0 : W.cell? ⟨b, k * 10, none⟩ = some (.int .i64 y.r) := (hSw.cells b _ (Nat.lt_of_lt_of_le hbl HB1.out.size)).trans ((HB1.out.cell (p := ⟨b, k * 10, none⟩) hbl).trans (HE.out 0 _ rfl)); have z1 : W.cell? ⟨b, q * 10, none⟩ = some (.int .i64 x.r) := (hSw.cells b _ (Nat.lt_of_lt_of_le hbl HB1.out.size)).trans ((HB1.out.cell (p := ⟨b, q * 10, none⟩) hbl).trans HX.out)) | skip); go_simp; done) | ((first | (have hg := HGB.out.drew.keeps (X := nobody) hSw (fun h => h); have k2 : W.cell? ⟨g, 2, none⟩ = some (.slice (some ⟨b, 0, none⟩) l.length c3) := hg.cell 2; have gl := hg.lt) | (have hg := (HGB.out.drew.below HB1.out HGB.out.lt).keeps (X := nobody) hSw (fun h => h); have k2 : W.cell? ⟨g, 2, none⟩ = some (.slice (some ⟨b, 0, none⟩) l.length c3) := hg.cell 2; have gl := hg.lt; have z0 : W.cell? ⟨b, k * 10, none⟩ = some (.int .i64 y.r) := (hSw.cells b _ (Nat.lt_of_lt_of_le hbl HB1.out.size)).trans ((HB1.out.cell (p := ⟨b, k * 10, none⟩) hbl).trans (HE.out 0 _ rfl)); have z1 : W.cell? ⟨b, q * 10, none⟩ = some (.int .i64 x.r) := (hSw.cells b _ (Nat.lt_of_lt_of_le hbl HB1.out.size)).trans ((HB1.out.cell (p := ⟨b, q * 10, none⟩) hbl).trans HX.out)) | skip); go_simp; rfl))
              try simp only [Act.put, List.setIfInBounds_toArray, List.set_cons_zero, List.set_cons_succ]
              (try rw [dq]); (try rw [dr])
              -- 25 Op.move (Operand.tmp 4)
              refine wpMono_take' 25 (v := ?_) rfl (by kernel_rfl) (by kernel_rfl) (by kernel_rfl) (fun _ _ _ h => h) (by rfl) ?_ ?_
              rotate_left
              · (intro W hSw; (first | (have hg := HGB.out.drew.keeps (X := nobody) hSw (fun h => h); have k2 : W.cell? ⟨g, 2, none⟩ = some (.slice (some ⟨b, 0, none⟩) l.length c3) := hg.cell 2; have gl := hg.lt) | (have hg := (HGB.out.drew.below HB1.out HGB.out.lt).keeps (X := nobody) hSw (fun h => h); have k2 : W.cell? ⟨g, 2, none⟩ = some (.slice (some ⟨b, 0, none⟩) l.length c3) := hg.cell 2; have gl := hg.lt; have z0 : W.cell? ⟨b, k * 10, none⟩ = some (.int .i64 y.r) := (hSw.cells b _ (Nat.lt_of_lt_of_le hbl HB1.out.size)).trans ((HB1.out.cell (p := ⟨b, k * 10, none⟩) hbl).trans (HE.out 0 _ rfl)); have z1 : W.cell? ⟨b, q * 10, none⟩ = some (.int .i64 x.r) := (hSw.cells b _ (Nat.lt_of_lt_of_le hbl HB1.out.size)).trans ((HB1.out.cell (p := ⟨b, q * 10, none⟩) hbl).trans HX.out)) | skip)
                 go_simp; first | done | rfl)
              try simp only [Act.put, List.setIfInBounds_toArray, List.set_cons_zero, List.set_cons_succ]
              (try rw [dq]); (try rw [dr])
              -- 26 Op.indexAddr 25 (Operand.tmp 41) (Operand.tmp 42)
              refine wpMono_take' 26 (v := ?_) rfl (by kernel_rfl) (by kernel_rfl) (by kernel_rfl) (fun _ _ _ h => h) (by rfl) ?_ ?_
              rotate_left
              · (intro W hSw; (first | (have hg := HGB.out.drew.keeps (X := nobody) hSw (fun h => h); have k2 : W.cell? ⟨g, 2, none⟩ = some (.slice (some ⟨b, 0, none⟩) l.length c3) := hg.cell 2; have gl := hg.lt) | (have hg := (HGB.out.drew.below HB1.out HGB.out.lt).keeps (X := nobody) hSw (fun h => h); have k2 : W.cell? ⟨g, 2, none⟩ = some (.slice (some ⟨b, 0, none⟩) l.length c3) := hg.cell 2; have gl := hg.lt; have z0 : W.cell? ⟨b, k * 10, none⟩ = some (.int .i64 y.r) := (hSw.cells b _ (Nat.lt_of_lt_of_le hbl HB1.out.size)).trans ((HB1.out.cell (p := ⟨b, k * 10, none⟩) hbl).trans (HE.out 0 _ rfl)); have z1 : W.cell? ⟨b, q * 10, none⟩ = some (.int .i64 x.r) := (hSw.cells b _ (Nat.lt_of_lt_of_le hbl HB1.out.size)).trans ((HB1.out.cell (p := ⟨b, q * 10, none⟩) hbl).trans HX.out)) | skip)
                 go_simp; first | done | rfl)
              try simp only [Act.put, List.setIfInBounds_toArray, List.set_cons_zero, List.set_cons_succ]
              (try rw [dq]); (try rw [dr])
              -- 27 Op.fieldAddr 35 (Operand.tmp 43) 0
              refine wpMono_take' 27 (v := ?_) rfl (by kernel_rfl) (by kernel_rfl) (by kernel_rfl) (fun _ _ _ h => h) (by rfl) ?_ ?_
              rotate_left
              · (intro W hSw; (first | (have hg := HGB.out.drew.keeps (X := nobody) hSw (fun h => h); have k2 : W.cell? ⟨g, 2, none⟩ = some (.slice (some ⟨b, 0, none⟩) l.length c3) := hg.cell 2; have gl := hg.lt) | (have hg := (HGB.out.drew.below HB1.out HGB.out.lt).keeps (X := nobody) hSw (fun h => h); have k2 : W.cell? ⟨g, 2, none⟩ = some (.slice (some ⟨b, 0, none⟩) l.length c3) := hg.cell 2; have gl := hg.lt; have z0 : W.cell? ⟨b, k * 10, none⟩ = some (.int .i64 y.r) := (hSw.cells b _ (Nat.lt_of_lt_of_le hbl HB1.out.size)).trans ((HB1.out.cell (p := ⟨b, k * 10, none⟩) hbl).trans (HE.out 0 _ rfl)); have z1 : W.cell? ⟨b, q * 10, none⟩ = some (.int .i64 x.r) := (hSw.cells b _ (Nat.lt_of_lt_of_le hbl HB1.out.size)).trans ((HB1.out.cell (p := ⟨b, q * 10, none⟩) hbl).trans HX.out)) | skip)
                 go_simp; first | done | rfl)
              try simp only [Act.put, List.setIfInBounds_toArray, List.set_cons_zero, List.set_cons_succ]
              (try rw [dq]); (try rw [dr])
              -- 28 Op.load 3 (Operand.tmp 44)
              refine wpMono_take' 28 (v := ?_) rfl (by kernel_rfl) (by kernel_rfl) (by kernel_rfl) (fun _ _ _ h => h) (by rfl) ?_ ?_
              rotate_left
              · (intro W hSw; first | ((refine exec_load 35 (.tmp 23) ?_ b (k * 10) y.cells ?_ Try.underlying35 rfl (by rw [Wr.len]; kernel_rfl) (fun q v hq => (hSw.cells b _ hbl).trans (HE.out q v hq)) <;> rfl)) | ((first | (have hg := HGB.out.drew.keeps (X := nobody) hSw (fun h => h); have k2 : W.cell? ⟨g, 2, none⟩ = some (.slice (some ⟨b, 0, none⟩) l.length c3) := hg.cell 2; have gl := hg.lt) | (have hg := (HGB.out.drew.below HB1.out HGB.out.lt).keeps (X := nobody) hSw (fun h => h); have k2 : W.cell? ⟨g, 2, none⟩ = some (.slice (some ⟨b, 0, none⟩) l.length c3) := hg.cell 2; have gl := hg.lt; have z0 : W.cell? ⟨b, k * 10, none⟩ = some (.int .i64 y.r) := (hSw.cells b _ (Nat.lt_of_lt_of_le hbl HB1.out.size)).trans ((HB1.out.cell (p := ⟨b, k * 10, none⟩) hbl).trans (HE.out 0 _ rfl)); have z1 : W.cell? ⟨b, q * 10, none⟩ = some (.int .i64 x.r) := (hSw.cells b _ (Nat.lt_of_lt_of_le hbl HB1.out.size)).trans ((HB1.out.cell (p := ⟨b, q * 10, none⟩) hbl).trans HX.out)) | skip); go_simp; done) | ((first | (have hg := HGB.out.drew.keeps (X := nobody) hSw (fun h => h); have k2 : W.cell? ⟨g, 2, none⟩ = some (.slice (some ⟨b, 0, none⟩) l.length c3) := hg.cell 2; have gl := hg.lt) | (have hg := (HGB.out.drew.below HB1.out HGB.out.lt).keeps (X := nobody) hSw (fun h => h); have k2 : W.cell? ⟨g, 2, none⟩ = some (.slice (some ⟨b, 0, none⟩) l.length c3) := hg.cell 2; have gl := hg.lt; have z0 : W.cell? ⟨b, k * 10, none⟩ = some (.int .i64 y.r) := (hSw.cells b _ (Nat.lt_of_lt_of_le hbl HB1.out.size)).trans ((HB1.out.cell (p := ⟨b, k * 10, none⟩) hbl).trans (HE.out 0 _ rfl)); have z1 : W.cell? ⟨b, q * 10, none⟩ = some (.int .i64 x.r) := (hSw.cells b _ (Nat.lt_of_lt_of_le hbl HB1.out.size)).trans ((HB1.out.cell (p := ⟨b, q * 10, none⟩) hbl).trans HX.out)) | skip); go_simp; rfl))
              try simp only [Act.put, List.setIfInBounds_toArray, List.set_cons_zero, List.set_cons_succ]
              (try rw [dq]); (try rw [dr])
              -- 29 Op.binOp BinOp.lss 3 (Operand.tmp 37) (Operand.tmp 45) 3
              refine wpMono_take' 29 (v := ?_) rfl (by kernel_rfl) (by kernel_rfl) (by kernel_rfl) (fun _ _ _ h => h) (by rfl) ?_ ?_
              rotate_left
              · (intro W hSw; (first | (have hg := HGB.out.drew.keeps (X := nobody) hSw (fun h => h); have k2 : W.cell? ⟨g, 2, none⟩ = some (.slice (some ⟨b, 0, none⟩) l.length c3) := hg.cell 2; have gl := hg.lt) | (have hg := (HGB.out.drew.below HB1.out HGB.out.lt).keeps (X := nobody) hSw (fun h => h); have k2 : W.cell? ⟨g, 2, none⟩ = some (.slice (some ⟨b, 0, none⟩) l.length c3) := hg.cell 2; have gl := hg.lt; have z0 : W.cell? ⟨b, k * 10, none⟩ = some (.int .i64 y.r) := (hSw.cells b _ (Nat.lt_of_lt_of_le hbl HB1.out.size)).trans ((HB1.out.cell (p := ⟨b, k * 10, none⟩) hbl).trans (HE.out 0 _ rfl)); have z1 : W.cell? ⟨b, q * 10, none⟩ = some (.int .i64 x.r) := (hSw.cells b _ (Nat.lt_of_lt_of_le hbl HB1.out.size)).trans ((HB1.out.cell (p := ⟨b, q * 10, none⟩) hbl).trans HX.out)) | skip)
                 go_simp; first | done | rfl)
              try simp only [Act.put, List.setIfInBounds_toArray, List.set_cons_zero, List.set_cons_succ]
              (try rw [dq]); (try rw [dr])
              -- 30 Op.pick (Operand.tmp 29) (Operand.const (Value.bool true)) (Operand.tmp 46)
              refine wpMono_take' 30 (v := ?_) rfl (by kernel_rfl) (by kernel_rfl) (by kernel_rfl) (fun _ _ _ h => h) (by rfl) ?_ ?_
              rotate_left
              · (intro W hSw; (first | (have hg := HGB.out.drew.keeps (X := nobody) hSw (fun h => h); have k2 : W.cell? ⟨g, 2, none⟩ = some (.slice (some ⟨b, 0, none⟩) l.length c3) := hg.cell 2; have gl := hg.lt) | (have hg := (HGB.out.drew.below HB1.out HGB.out.lt).keeps (X := nobody) hSw (fun h => h); have k2 : W.cell? ⟨g, 2, none⟩ = some (.slice (some ⟨b, 0, none⟩) l.length c3) := hg.cell 2; have gl := hg.lt; have z0 : W.cell? ⟨b, k * 10, none⟩ = some (.int .i64 y.r) := (hSw.cells b _ (Nat.lt_of_lt_of_le hbl HB1.out.size)).trans ((HB1.out.cell (p := ⟨b, k * 10, none⟩) hbl).trans (HE.out 0 _ rfl)); have z1 : W.cell? ⟨b, q * 10, none⟩ = some (.int .i64 x.r) := (hSw.cells b _ (Nat.lt_of_lt_of_le hbl HB1.out.size)).trans ((HB1.out.cell (p := ⟨b, q * 10, none⟩) hbl).trans HX.out)) | skip)
                 go_simp; first | done | rfl)
              try simp only [Act.put, List.setIfInBounds_toArray, List.set_cons_zero, List.set_cons_succ]
              (try rw [dq]); (try rw [dr])
              -- 31 Op.pick (Operand.tmp 26) (Operand.tmp 47) (Operand.const (Value.bool false))
              refine wpMono_take' 31 (v := ?_) rfl (by kernel_rfl) (by kernel_rfl) (by kernel_rfl) (fun _ _ _ h => h) (by rfl) ?_ ?_
              rotate_left
              · (intro W hSw; (first | (have hg := HGB.out.drew.keeps (X := nobody) hSw (fun h => h); have k2 : W.cell? ⟨g, 2, none⟩ = some (.slice (some ⟨b, 0, none⟩) l.length c3) := hg.cell 2; have gl := hg.lt) | (have hg := (HGB.out.drew.below HB1.out HGB.out.lt).keeps (X := nobody) hSw (fun h => h); have k2 : W.cell? ⟨g, 2, none⟩ = some (.slice (some ⟨b, 0, none⟩) l.length c3) := hg.cell 2; have gl := hg.lt; have z0 : W.cell? ⟨b, k * 10, none⟩ = some (.int .i64 y.r) := (hSw.cells b _ (Nat.lt_of_lt_of_le hbl HB1.out.size)).trans ((HB1.out.cell (p := ⟨b, k * 10, none⟩) hbl).trans (HE.out 0 _ rfl)); have z1 : W.cell? ⟨b, q * 10, none⟩ = some (.int .i64 x.r) := (hSw.cells b _ (Nat.lt_of_lt_of_le hbl HB1.out.size)).trans ((HB1.out.cell (p := ⟨b, q * 10, none⟩) hbl).trans HX.out)) | skip)
                 go_simp; first | done | rfl)
              try simp only [Act.put, List.setIfInBounds_toArray, List.set_cons_zero, List.set_cons_succ]
              (try rw [dq]); (try rw [dr])
              refine wpMono_done (by kernel_rfl) ?_ _
              have HBN := Lib.hid (below_step hbr (below_ofDrew HB1.out))
              go_wp2_with fail
              go_roundw
              case rel => exact ⟨k + 1, _, by omega, by go_num, rfl, HBE2.out, HBN.out⟩
              case measure => simp [intOf]; omega
            · have HBE2 := Lib.hid (HBE.out.stay (by rw [HY.out, hx]; exact hr))
              have dr : decide (y.r < x.r) = false := by simpa using hr
              clear hx
              go_wp2_with fail
              refine wp_region_mono nobody (by kernel_rfl) ?_
              -- 0 Op.move (Operand.tmp 0)
              refine wpMono_take' 0 (v := ?_) rfl (by kernel_rfl) (by kernel_rfl) (by kernel_rfl) (fun _ _ _ h => h) (by rfl) ?_ ?_
              rotate_left
              · (intro W hSw; (first | (have hg := HGB.out.drew.keeps (X := nobody) hSw (fun h => h); have k2 : W.cell? ⟨g, 2, none⟩ = some (.slice (some ⟨b, 0, none⟩) l.length c3) := hg.cell 2; have gl := hg.lt) | (have hg := (HGB.out.drew.below HB1.out HGB.out.lt).keeps (X := nobody) hSw (fun h => h); have k2 : W.cell? ⟨g, 2, none⟩ = some (.slice (some ⟨b, 0, none⟩) l.length c3) := hg.cell 2; have gl := hg.lt; have z0 : W.cell? ⟨b, k * 10, none⟩ = some (.int .i64 y.r) := (hSw.cells b _ (Nat.lt_of_lt_of_le hbl HB1.out.size)).trans ((HB1.out.cell (p := ⟨b, k * 10, none⟩) hbl).trans (HE.out 0 _ rfl)); have z1 : W.cell? ⟨b, q * 10, none⟩ = some (.int .i64 x.r) := (hSw.cells b _ (Nat.lt_of_lt_of_le hbl HB1.out.size)).trans ((HB1.out.cell (p := ⟨b, q * 10, none⟩) hbl).trans HX.out)) | skip)
                 go_simp; first | done | rfl)
              try simp only [Act.put, List.setIfInBounds_toArray, List.set_cons_zero, List.set_cons_succ]
              (try rw [dq]); (try rw [dr])
              -- 1 Op.move (Operand.tmp 0)
              refine wpMono_take' 1 (v := ?_) rfl (by kernel_rfl) (by kernel_rfl) (by kernel_rfl) (fun _ _ _ h => h) (by rfl) ?_ ?_
              rotate_left
              · (intro W hSw; (first | (have hg := HGB.out.drew.keeps (X := nobody) hSw (fun h => h); have k2 : W.cell? ⟨g, 2, none⟩ = some (.slice (some ⟨b, 0, none⟩) l.length c3) := hg.cell 2; have gl := hg.lt) | (have hg := (HGB.out.drew.below HB1.out HGB.out.lt).keeps (X := nobody) hSw (fun h => h); have k2 : W.cell? ⟨g, 2, none⟩ = some (.slice (some ⟨b, 0, none⟩) l.length c3) := hg.cell 2; have gl := hg.lt; have z0 : W.cell? ⟨b, k * 10, none⟩ = some (.int .i64 y.r) := (hSw.cells b _ (Nat.lt_of_lt_of_le hbl HB1.out.size)).trans ((HB1.out.cell (p := ⟨b, k * 10, none⟩) hbl).trans (HE.out 0 _ rfl)); have z1 : W.cell? ⟨b, q * 10, none⟩ = some (.int .i64 x.r) := (hSw.cells b _ (Nat.lt_of_lt_of_le hbl HB1.out.size)).trans ((HB1.out.cell (p := ⟨b, q * 10, none⟩) hbl).trans HX.out)) | skip)
                 go_simp; first | done | rfl)
              try simp only [Act.put, List.setIfInBounds_toArray, List.set_cons_zero, List.set_cons_succ]
              (try rw [dq]); (try rw [dr])
              -- 2 Op.nilCheck (Operand.tmp 18)
              refine wpMono_take' 2 (v := ?_) rfl (by kernel_rfl) (by kernel_rfl) (by kernel_rfl) (fun _ _ _ h => h) (by rfl) ?_ ?_
              rotate_left
              · (intro W hSw; (first | (have hg := HGB.out.drew.keeps (X := nobody) hSw (fun h => h); have k2 : W.cell? ⟨g, 2, none⟩ = some (.slice (some ⟨b, 0, none⟩) l.length c3) := hg.cell 2; have gl := hg.lt) | (have hg := (HGB.out.drew.below HB1.out HGB.out.lt).keeps (X := nobody) hSw (fun h => h); have k2 : W.cell? ⟨g, 2, none⟩ = some (.slice (some ⟨b, 0, none⟩) l.length c3) := hg.cell 2; have gl := hg.lt; have z0 : W.cell? ⟨b, k * 10, none⟩ = some (.int .i64 y.r) := (hSw.cells b _ (Nat.lt_of_lt_of_le hbl HB1.out.size)).trans ((HB1.out.cell (p := ⟨b, k * 10, none⟩) hbl).trans (HE.out 0 _ rfl)); have z1 : W.cell? ⟨b, q * 10, none⟩ = some (.int .i64 x.r) := (hSw.cells b _ (Nat.lt_of_lt_of_le hbl HB1.out.size)).trans ((HB1.out.cell (p := ⟨b, q * 10, none⟩) hbl).trans HX.out)) | skip)
                 go_simp; first | done | rfl)
              try simp only [Act.put, List.setIfInBounds_toArray, List.set_cons_zero, List.set_cons_succ]
              (try rw [dq]); (try rw [dr])
              -- 3 Op.fieldAddr 68 (Operand.tmp 19) 2
              refine wpMono_take' 3 (v := ?_) rfl (by kernel_rfl) (by kernel_rfl) (by kernel_rfl) (fun _ _ _ h => h) (by rfl) ?_ ?_
              rotate_left
              · (intro W hSw; (first | (have hg := HGB.out.drew.keeps (X := nobody) hSw (fun h => h); have k2 : W.cell? ⟨g, 2, none⟩ = some (.slice (some ⟨b, 0, none⟩) l.length c3) := hg.cell 2; have gl := hg.lt) | (have hg := (HGB.out.drew.below HB1.out HGB.out.lt).keeps (X := nobody) hSw (fun h => h); have k2 : W.cell? ⟨g, 2, none⟩ = some (.slice (some ⟨b, 0, none⟩) l.length c3) := hg.cell 2; have gl := hg.lt; have z0 : W.cell? ⟨b, k * 10, none⟩ = some (.int .i64 y.r) := (hSw.cells b _ (Nat.lt_of_lt_of_le hbl HB1.out.size)).trans ((HB1.out.cell (p := ⟨b, k * 10, none⟩) hbl).trans (HE.out 0 _ rfl)); have z1 : W.cell? ⟨b, q * 10, none⟩ = some (.int .i64 x.r) := (hSw.cells b _ (Nat.lt_of_lt_of_le hbl HB1.out.size)).trans ((HB1.out.cell (p := ⟨b, q * 10, none⟩) hbl).trans HX.out)) | skip)
                 go_simp; first | done | rfl)
              try simp only [Act.put, List.setIfInBounds_toArray, List.set_cons_zero, List.set_cons_succ]
              (try rw [dq]); (try rw [dr])
              -- 4 Op.load 25 (Operand.tmp 20)
              refine wpMono_take' 4 (v := ?_) rfl (by kernel_rfl) (by kernel_rfl) (by kernel_rfl) (fun _ _ _ h => h) (by rfl) ?_ ?_
              rotate_left
              · (intro W hSw; first | ((refine exec_load 35 (.tmp 23) ?_ b (k * 10) y.cells ?_ Try.underlying35 rfl (by rw [Wr.len]; kernel_rfl) (fun q v hq => (hSw.cells b _ hbl).trans (HE.out q v hq)) <;> rfl)) | ((first | (have hg := HGB.out.drew.keeps (X := nobody) hSw (fun h => h); have k2 : W.cell? ⟨g, 2, none⟩ = some (.slice (some ⟨b, 0, none⟩) l.length c3) := hg.cell 2; have gl := hg.lt) | (have hg := (HGB.out.drew.below HB1.out HGB.out.lt).keeps (X := nobody) hSw (fun h => h); have k2 : W.cell? ⟨g, 2, none⟩ = some (.slice (some ⟨b, 0, none⟩) l.length c3) := hg.cell 2; have gl := hg.lt; have z0 : W.cell? ⟨b, k * 10, none⟩ = some (.int .i64 y.r) := (hSw.cells b _ (Nat.lt_of_lt_of_le hbl HB1.out.size)).trans ((HB1.out.cell (p := ⟨b, k * 10, none⟩) hbl).trans (HE.out 0 _ rfl)); have z1 : W.cell? ⟨b, q * 10, none⟩ = some (.int .i64 x.r) := (hSw.cells b _ (Nat.lt_of_lt_of_le hbl HB1.out.size)).trans ((HB1.out.cell (p := ⟨b, q * 10, none⟩) hbl).trans HX.out)) | skip); go_simp; done) | ((first | (have hg := HGB.out.drew.keeps (X := nobody) hSw (fun h => h); have k2 : W.cell? ⟨g, 2, none⟩ = some (.slice (some ⟨b, 0, none⟩) l.length c3) := hg.cell 2; have gl := hg.lt) | (have hg := (HGB.out.drew.below HB1.out HGB.out.lt).keeps (X := nobody) hSw (fun h => h); have k2 : W.cell? ⟨g, 2, none⟩ = some (.slice (some ⟨b, 0, none⟩) l.length c3) := hg.cell 2; have gl := hg.lt; have z0 : W.cell? ⟨b, k * 10, none⟩ = some (.int .i64 y.r) := (hSw.cells b _ (Nat.lt_of_lt_of_le hbl HB1.out.size)).trans ((HB1.out.cell (p := ⟨b, k * 10, none⟩) hbl).trans (HE.out 0 _ rfl)); have z1 : W.cell? ⟨b, q * 10, none⟩ = some (.int .i64 x.r) := (hSw.cells b _ (Nat.lt_of_lt_of_le hbl HB1.out.size)).trans ((HB1.out.cell (p := ⟨b, q * 10, none⟩) hbl).trans HX.out)) | skip); go_simp; rfl))
              try simp only [Act.put, List.setIfInBounds_toArray, List.set_cons_zero, List.set_cons_succ]
              (try rw [dq]); (try rw [dr])
              -- 5 Op.move (Operand.tmp 5)
              refine wpMono_take' 5 (v := ?_) rfl (by kernel_rfl) (by kernel_rfl) (by kernel_rfl) (fun _ _ _ h => h) (by rfl) ?_ ?_
              rotate_left
              · (intro W hSw; (first | (have hg := HGB.out.drew.keeps (X := nobody) hSw (fun h => h); have k2 : W.cell? ⟨g, 2, none⟩ = some (.slice (some ⟨b, 0, none⟩) l.length c3) := hg.cell 2; have gl := hg.lt) | (have hg := (HGB.out.drew.below HB1.out HGB.out.lt).keeps (X := nobody) hSw (fun h => h); have k2 : W.cell? ⟨g, 2, none⟩ = some (.slice (some ⟨b, 0, none⟩) l.length c3) := hg.cell 2; have gl := hg.lt; have z0 : W.cell? ⟨b, k * 10, none⟩ = some (.int .i64 y.r) := (hSw.cells b _ (Nat.lt_of_lt_of_le hbl HB1.out.size)).trans ((HB1.out.cell (p := ⟨b, k * 10, none⟩) hbl).trans (HE.out 0 _ rfl)); have z1 : W.cell? ⟨b, q * 10, none⟩ = some (.int .i64 x.r) := (hSw.cells b _ (Nat.lt_of_lt_of_le hbl HB1.out.size)).trans ((HB1.out.cell (p := ⟨b, q * 10, none⟩) hbl).trans HX.out)) | skip)
                 go_simp; first | done | rfl)
              try simp only [Act.put, List.setIfInBounds_toArray, List.set_cons_zero, List.set_cons_succ]
              (try rw [dq]); (try rw [dr])
              -- 6 Op.indexAddr 25 (Operand.tmp 21) (Operand.tmp 22)
              refine wpMono_take' 6 (v := ?_) rfl (by kernel_rfl) (by kernel_rfl) (by kernel_rfl) (fun _ _ _ h => h) (by rfl) ?_ ?_
              rotate_left
              · (intro W hSw; (first | (have hg := HGB.out.drew.keeps (X := nobody) hSw (fun h => h); have k2 : W.cell? ⟨g, 2, none⟩ = some (.slice (some ⟨b, 0, none⟩) l.length c3) := hg.cell 2; have gl := hg.lt) | (have hg := (HGB.out.drew.below HB1.out HGB.out.lt).keeps (X := nobody) hSw (fun h => h); have k2 : W.cell? ⟨g, 2, none⟩ = some (.slice (some ⟨b, 0, none⟩) l.length c3) := hg.cell 2; have gl := hg.lt; have z0 : W.cell? ⟨b, k * 10, none⟩ = some (.int .i64 y.r) := (hSw.cells b _ (Nat.lt_of_lt_of_le hbl HB1.out.size)).trans ((HB1.out.cell (p := ⟨b, k * 10, none⟩) hbl).trans (HE.out 0 _ rfl)); have z1 : W.cell? ⟨b, q * 10, none⟩ = some (.int .i64 x.r) := (hSw.cells b _ (Nat.lt_of_lt_of_le hbl HB1.out.size)).trans ((HB1.out.cell (p := ⟨b, q * 10, none⟩) hbl).trans HX.out)) | skip)
                 go_simp; first | done | rfl)
              try simp only [Act.put, List.setIfInBounds_toArray, List.set_cons_zero, List.set_cons_succ]
              (try rw [dq]); (try rw [dr])
              -- 7 Op.load 35 (Operand.tmp 23)
              refine wpMono_take' 7 (v := ?_) rfl (by kernel_rfl) (by kernel_rfl) (by kernel_rfl) (fun _ _ _ h => h) (by rfl) ?_ ?_
              rotate_left
              · (intro W hSw; first | ((refine exec_load 35 (.tmp 23) ?_ b (k * 10) y.cells ?_ Try.underlying35 rfl (by rw [Wr.len]; kernel_rfl) (fun q v hq => (hSw.cells b _ hbl).trans (HE.out q v hq)) <;> rfl)) | ((first | (have hg := HGB.out.drew.keeps (X := nobody) hSw (fun h => h); have k2 : W.cell? ⟨g, 2, none⟩ = some (.slice (some ⟨b, 0, none⟩) l.length c3) := hg.cell 2; have gl := hg.lt) | (have hg := (HGB.out.drew.below HB1.out HGB.out.lt).keeps (X := nobody) hSw (fun h => h); have k2 : W.cell? ⟨g, 2, none⟩ = some (.slice (some ⟨b, 0, none⟩) l.length c3) := hg.cell 2; have gl := hg.lt; have z0 : W.cell? ⟨b, k * 10, none⟩ = some (.int .i64 y.r) := (hSw.cells b _ (Nat.lt_of_lt_of_le hbl HB1.out.size)).trans ((HB1.out.cell (p := ⟨b, k * 10, none⟩) hbl).trans (HE.out 0 _ rfl)); have z1 : W.cell? ⟨b, q * 10, none⟩ = some (.int .i64 x.r) := (hSw.cells b _ (Nat.lt_of_lt_of_le hbl HB1.out.size)).trans ((HB1.out.cell (p := ⟨b, q * 10, none⟩) hbl).trans HX.out)) | skip); go_simp; done) | ((first | (have hg := HGB.out.drew.keeps (X := nobody) hSw (fun h => h); have k2 : W.cell? ⟨g, 2, none⟩ = some (.slice (some ⟨b, 0, none⟩) l.length c3) := hg.cell 2; have gl := hg.lt) | (have hg := (HGB.out.drew.below HB1.out HGB.out.lt).keeps (X := nobody) hSw (fun h => h); have k2 : W.cell? ⟨g, 2, none⟩ = some (.slice (some ⟨b, 0, none⟩) l.length c3) := hg.cell 2; have gl := hg.lt; have z0 : W.cell? ⟨b, k * 10, none⟩ = some (.int .i64 y.r) := (hSw.cells b _ (Nat.lt_of_lt_of_le hbl HB1.out.size)).trans ((HB1.out.cell (p := ⟨b, k * 10, none⟩) hbl).trans (HE.out 0 _ rfl)); have z1 : W.cell? ⟨b, q * 10, none⟩ = some (.int .i64 x.r) := (hSw.cells b _ (Nat.lt_of_lt_of_le hbl HB1.out.size)).trans ((HB1.out.cell (p := ⟨b, q * 10, none⟩) hbl).trans HX.out)) | skip); go_simp; rfl))
              try simp only [Act.put, List.setIfInBounds_toArray, List.set_cons_zero, List.set_cons_succ]
              (try rw [dq]); (try rw [dr])
              -- EFFECT 8 Op.call { callee := Callee.value (Operand.func 50), args := #[Operand.tmp 17, Operand.tmp 24], argTypes := #[57, 35] }
              refine wpMono_one' 8 (by kernel_rfl) rfl (by rfl) (fun K hK => ?_)
              go_simp
              refine (ready_ref g rg A a.length c a _ y A2 y.z.length c2 wr.drew HGB.out.drew (show Vec wr.drew wr.drew.heap.size A a.length c a from HVA.out.below (Below.refl _ wr).drew) HD.out (show Vec wr.drew wr.drew.heap.size A2 y.z.length c2 y.z from HVY.out.below (Below.refl _ wr).drew) (by omega) hz HAP.out).mono ?_
              rintro e w1 ⟨rfl, hb1⟩
              rw [HRD.out]
              have HB1 := Lib.hid hb1
              clear hb1
              refine hK.out _ _ ?_ ?_
              · exact .of_below HB1.out
              clear hK K
              try simp only [Act.put, List.setIfInBounds_toArray, List.set_cons_zero, List.set_cons_succ]
              (try rw [dq]); (try rw [dr])
              -- 9 Op.move (Operand.tmp 25)
              refine wpMono_take' 9 (v := ?_) rfl (by kernel_rfl) (by kernel_rfl) (by kernel_rfl) (fun _ _ _ h => h) (by rfl) ?_ ?_
              rotate_left
              · (intro W hSw; (first | (have hg := HGB.out.drew.keeps (X := nobody) hSw (fun h => h); have k2 : W.cell? ⟨g, 2, none⟩ = some (.slice (some ⟨b, 0, none⟩) l.length c3) := hg.cell 2; have gl := hg.lt) | (have hg := (HGB.out.drew.below HB1.out HGB.out.lt).keeps (X := nobody) hSw (fun h => h); have k2 : W.cell? ⟨g, 2, none⟩ = some (.slice (some ⟨b, 0, none⟩) l.length c3) := hg.cell 2; have gl := hg.lt; have z0 : W.cell? ⟨b, k * 10, none⟩ = some (.int .i64 y.r) := (hSw.cells b _ (Nat.lt_of_lt_of_le hbl HB1.out.size)).trans ((HB1.out.cell (p := ⟨b, k * 10, none⟩) hbl).trans (HE.out 0 _ rfl)); have z1 : W.cell? ⟨b, q * 10, none⟩ = some (.int .i64 x.r) := (hSw.cells b _ (Nat.lt_of_lt_of_le hbl HB1.out.size)).trans ((HB1.out.cell (p := ⟨b, q * 10, none⟩) hbl).trans HX.out)) | skip)
                 go_simp; first | done | rfl)
              try simp only [Act.put, List.setIfInBounds_toArray, List.set_cons_zero, List.set_cons_succ]
              (try rw [dq]); (try rw [dr])
              -- 10 Op.move (Operand.tmp 4)
              refine wpMono_take' 10 (v := ?_) rfl (by kernel_rfl) (by kernel_rfl) (by kernel_rfl) (fun _ _ _ h => h) (by rfl) ?_ ?_
              rotate_left
              · (intro W hSw; (first | (have hg := HGB.out.drew.keeps (X := nobody) hSw (fun h => h); have k2 : W.cell? ⟨g, 2, none⟩ = some (.slice (some ⟨b, 0, none⟩) l.length c3) := hg.cell 2; have gl := hg.lt) | (have hg := (HGB.out.drew.below HB1.out HGB.out.lt).keeps (X := nobody) hSw (fun h => h); have k2 : W.cell? ⟨g, 2, none⟩ = some (.slice (some ⟨b, 0, none⟩) l.length c3) := hg.cell 2; have gl := hg.lt; have z0 : W.cell? ⟨b, k * 10, none⟩ = some (.int .i64 y.r) := (hSw.cells b _ (Nat.lt_of_lt_of_le hbl HB1.out.size)).trans ((HB1.out.cell (p := ⟨b, k * 10, none⟩) hbl).trans (HE.out 0 _ rfl)); have z1 : W.cell? ⟨b, q * 10, none⟩ = some (.int .i64 x.r) := (hSw.cells b _ (Nat.lt_of_lt_of_le hbl HB1.out.size)).trans ((HB1.out.cell (p := ⟨b, q * 10, none⟩) hbl).trans HX.out)) | skip)
                 go_simp; first | done | rfl)
              try simp only [Act.put, List.setIfInBounds_toArray, List.set_cons_zero, List.set_cons_succ]
              (try rw [dq]); (try rw [dr])
              -- 11 Op.binOp BinOp.lss 3 (Operand.tmp 27) (Operand.const (Value.int IntKind.i64 0)) 3
              refine wpMono_take' 11 (v := ?_) rfl (by kernel_rfl) (by kernel_rfl) (by kernel_rfl) (fun _ _ _ h => h) (by rfl) ?_ ?_
              rotate_left
              · (intro W hSw; (first | (have hg := HGB.out.drew.keeps (X := nobody) hSw (fun h => h); have k2 : W.cell? ⟨g, 2, none⟩ = some (.slice (some ⟨b, 0, none⟩) l.length c3) := hg.cell 2; have gl := hg.lt) | (have hg := (HGB.out.drew.below HB1.out HGB.out.lt).keeps (X := nobody) hSw (fun h => h); have k2 : W.cell? ⟨g, 2, none⟩ = some (.slice (some ⟨b, 0, none⟩) l.length c3) := hg.cell 2; have gl := hg.lt; have z0 : W.cell? ⟨b, k * 10, none⟩ = some (.int .i64 y.r) := (hSw.cells b _ (Nat.lt_of_lt_of_le hbl HB1.out.size)).trans ((HB1.out.cell (p := ⟨b, k * 10, none⟩) hbl).trans (HE.out 0 _ rfl)); have z1 : W.cell? ⟨b, q * 10, none⟩ = some (.int .i64 x.r) := (hSw.cells b _ (Nat.lt_of_lt_of_le hbl HB1.out.size)).trans ((HB1.out.cell (p := ⟨b, q * 10, none⟩) hbl).trans HX.out)) | skip)
                 go_simp; first | done | rfl)
              try simp only [Act.put, List.setIfInBounds_toArray, List.set_cons_zero, List.set_cons_succ]
              (try rw [dq]); (try rw [dr])
              -- 12 Op.move (Operand.tmp 28)
              refine wpMono_take' 12 (v := ?_) rfl (by kernel_rfl) (by kernel_rfl) (by kernel_rfl) (fun _ _ _ h => h) (by rfl) ?_ ?_
              rotate_left
              · (intro W hSw; (first | (have hg := HGB.out.drew.keeps (X := nobody) hSw (fun h => h); have k2 : W.cell? ⟨g, 2, none⟩ = some (.slice (some ⟨b, 0, none⟩) l.length c3) := hg.cell 2; have gl := hg.lt) | (have hg := (HGB.out.drew.below HB1.out HGB.out.lt).keeps (X := nobody) hSw (fun h => h); have k2 : W.cell? ⟨g, 2, none⟩ = some (.slice (some ⟨b, 0, none⟩) l.length c3) := hg.cell 2; have gl := hg.lt; have z0 : W.cell? ⟨b, k * 10, none⟩ = some (.int .i64 y.r) := (hSw.cells b _ (Nat.lt_of_lt_of_le hbl HB1.out.size)).trans ((HB1.out.cell (p := ⟨b, k * 10, none⟩) hbl).trans (HE.out 0 _ rfl)); have z1 : W.cell? ⟨b, q * 10, none⟩ = some (.int .i64 x.r) := (hSw.cells b _ (Nat.lt_of_lt_of_le hbl HB1.out.size)).trans ((HB1.out.cell (p := ⟨b, q * 10, none⟩) hbl).trans HX.out)) | skip)
                 go_simp; first | done | rfl)
              try simp only [Act.put, List.setIfInBounds_toArray, List.set_cons_zero, List.set_cons_succ]
              (try rw [dq]); (try rw [dr])
              -- 13 Op.move (Operand.tmp 0)
              refine wpMono_take' 13 (v := ?_) rfl (by kernel_rfl) (by kernel_rfl) (by kernel_rfl) (fun _ _ _ h => h) (by rfl) ?_ ?_
              rotate_left
              · (intro W hSw; (first | (have hg := HGB.out.drew.keeps (X := nobody) hSw (fun h => h); have k2 : W.cell? ⟨g, 2, none⟩ = some (.slice (some ⟨b, 0, none⟩) l.length c3) := hg.cell 2; have gl := hg.lt) | (have hg := (HGB.out.drew.below HB1.out HGB.out.lt).keeps (X := nobody) hSw (fun h => h); have k2 : W.cell? ⟨g, 2, none⟩ = some (.slice (some ⟨b, 0, none⟩) l.length c3) := hg.cell 2; have gl := hg.lt; have z0 : W.cell? ⟨b, k * 10, none⟩ = some (.int .i64 y.r) := (hSw.cells b _ (Nat.lt_of_lt_of_le hbl HB1.out.size)).trans ((HB1.out.cell (p := ⟨b, k * 10, none⟩) hbl).trans (HE.out 0 _ rfl)); have z1 : W.cell? ⟨b, q * 10, none⟩ = some (.int .i64 x.r) := (hSw.cells b _ (Nat.lt_of_lt_of_le hbl HB1.out.size)).trans ((HB1.out.cell (p := ⟨b, q * 10, none⟩) hbl).trans HX.out)) | skip)
                 go_simp; first | done | rfl)
              try simp only [Act.put, List.setIfInBounds_toArray, List.set_cons_zero, List.set_cons_succ]
              (try rw [dq]); (try rw [dr])
              -- 14 Op.nilCheck (Operand.tmp 30)
              refine wpMono_take' 14 (v := ?_) rfl (by kernel_rfl) (by kernel_rfl) (by kernel_rfl) (fun _ _ _ h => h) (by rfl) ?_ ?_
              rotate_left
              · (intro W hSw; (first | (have hg := HGB.out.drew.keeps (X := nobody) hSw (fun h => h); have k2 : W.cell? ⟨g, 2, none⟩ = some (.slice (some ⟨b, 0, none⟩) l.length c3) := hg.cell 2; have gl := hg.lt) | (have hg := (HGB.out.drew.below HB1.out HGB.out.lt).keeps (X := nobody) hSw (fun h => h); have k2 : W.cell? ⟨g, 2, none⟩ = some (.slice (some ⟨b, 0, none⟩) l.length c3) := hg.cell 2; have gl := hg.lt; have z0 : W.cell? ⟨b, k * 10, none⟩ = some (.int .i64 y.r) := (hSw.cells b _ (Nat.lt_of_lt_of_le hbl HB1.out.size)).trans ((HB1.out.cell (p := ⟨b, k * 10, none⟩) hbl).trans (HE.out 0 _ rfl)); have z1 : W.cell? ⟨b, q * 10, none⟩ = some (.int .i64 x.r) := (hSw.cells b _ (Nat.lt_of_lt_of_le hbl HB1.out.size)).trans ((HB1.out.cell (p := ⟨b, q * 10, none⟩) hbl).trans HX.out)) | skip)
                 go_simp; first | done | rfl)
              try simp only [Act.put, List.setIfInBounds_toArray, List.set_cons_zero, List.set_cons_succ]
              (try rw [dq]); (try rw [dr])
              -- 15 Op.fieldAddr 68 (Operand.tmp 31) 2
              refine wpMono_take' 15 (v := ?_) rfl (by kernel_rfl) (by kernel_rfl) (by kernel_rfl) (fun _ _ _ h => h) (by rfl) ?_ ?_
              rotate_left
              · (intro W hSw; (first | (have hg := HGB.out.drew.keeps (X := nobody) hSw (fun h => h); have k2 : W.cell? ⟨g, 2, none⟩ = some (.slice (some ⟨b, 0, none⟩) l.length c3) := hg.cell 2; have gl := hg.lt) | (have hg := (HGB.out.drew.below HB1.out HGB.out.lt).keeps (X := nobody) hSw (fun h => h); have k2 : W.cell? ⟨g, 2, none⟩ = some (.slice (some ⟨b, 0, none⟩) l.length c3) := hg.cell 2; have gl := hg.lt; have z0 : W.cell? ⟨b, k * 10, none⟩ = some (.int .i64 y.r) := (hSw.cells b _ (Nat.lt_of_lt_of_le hbl HB1.out.size)).trans ((HB1.out.cell (p := ⟨b, k * 10, none⟩) hbl).trans (HE.out 0 _ rfl)); have z1 : W.cell? ⟨b, q * 10, none⟩ = some (.int .i64 x.r) := (hSw.cells b _ (Nat.lt_of_lt_of_le hbl HB1.out.size)).trans ((HB1.out.cell (p := ⟨b, q * 10, none⟩) hbl).trans HX.out)) | skip)
                 go_simp; first | done | rfl)
              try simp only [Act.put, List.setIfInBounds_toArray, List.set_cons_zero, List.set_cons_succ]
              (try rw [dq]); (try rw [dr])
              -- 16 Op.load 25 (Operand.tmp 32)
              refine wpMono_take' 16 (v := ?_) rfl (by kernel_rfl) (by kernel_rfl) (by kernel_rfl) (fun _ _ _ h => h) (by rfl) ?_ ?_
              rotate_left
              · (intro W hSw; first | ((refine exec_load 35 (.tmp 23) ?_ b (k * 10) y.cells ?_ Try.underlying35 rfl (by rw [Wr.len]; kernel_rfl) (fun q v hq => (hSw.cells b _ hbl).trans (HE.out q v hq)) <;> rfl)) | ((first | (have hg := HGB.out.drew.keeps (X := nobody) hSw (fun h => h); have k2 : W.cell? ⟨g, 2, none⟩ = some (.slice (some ⟨b, 0, none⟩) l.length c3) := hg.cell 2; have gl := hg.lt) | (have hg := (HGB.out.drew.below HB1.out HGB.out.lt).keeps (X := nobody) hSw (fun h => h); have k2 : W.cell? ⟨g, 2, none⟩ = some (.slice (some ⟨b, 0, none⟩) l.length c3) := hg.cell 2; have gl := hg.lt; have z0 : W.cell? ⟨b, k * 10, none⟩ = some (.int .i64 y.r) := (hSw.cells b _ (Nat.lt_of_lt_of_le hbl HB1.out.size)).trans ((HB1.out.cell (p := ⟨b, k * 10, none⟩) hbl).trans (HE.out 0 _ rfl)); have z1 : W.cell? ⟨b, q * 10, none⟩ = some (.int .i64 x.r) := (hSw.cells b _ (Nat.lt_of_lt_of_le hbl HB1.out.size)).trans ((HB1.out.cell (p := ⟨b, q * 10, none⟩) hbl).trans HX.out)) | skip); go_simp; done) | ((first | (have hg := HGB.out.drew.keeps (X := nobody) hSw (fun h => h); have k2 : W.cell? ⟨g, 2, none⟩ = some (.slice (some ⟨b, 0, none⟩) l.length c3) := hg.cell 2; have gl := hg.lt) | (have hg := (HGB.out.drew.below HB1.out HGB.out.lt).keeps (X := nobody) hSw (fun h => h); have k2 : W.cell? ⟨g, 2, none⟩ = some (.slice (some ⟨b, 0, none⟩) l.length c3) := hg.cell 2; have gl := hg.lt; have z0 : W.cell? ⟨b, k * 10, none⟩ = some (.int .i64 y.r) := (hSw.cells b _ (Nat.lt_of_lt_of_le hbl HB1.out.size)).trans ((HB1.out.cell (p := ⟨b, k * 10, none⟩) hbl).trans (HE.out 0 _ rfl)); have z1 : W.cell? ⟨b, q * 10, none⟩ = some (.int .i64 x.r) := (hSw.cells b _ (Nat.lt_of_lt_of_le hbl HB1.out.size)).trans ((HB1.out.cell (p := ⟨b, q * 10, none⟩) hbl).trans HX.out)) | skip); go_simp; rfl))
              try simp only [Act.put, List.setIfInBounds_toArray, List.set_cons_zero, List.set_cons_succ]
              (try rw [dq]); (try rw [dr])
              -- 17 Op.move (Operand.tmp 5)
              refine wpMono_take' 17 (v := ?_) rfl (by kernel_rfl) (by kernel_rfl) (by kernel_rfl) (fun _ _ _ h => h) (by rfl) ?_ ?_
              rotate_left
              · (intro W hSw; (first | (have hg := HGB.out.drew.keeps (X := nobody) hSw (fun h => h); have k2 : W.cell? ⟨g, 2, none⟩ = some (.slice (some ⟨b, 0, none⟩) l.length c3) := hg.cell 2; have gl := hg.lt) | (have hg := (HGB.out.drew.below HB1.out HGB.out.lt).keeps (X := nobody) hSw (fun h => h); have k2 : W.cell? ⟨g, 2, none⟩ = some (.slice (some ⟨b, 0, none⟩) l.length c3) := hg.cell 2; have gl := hg.lt; have z0 : W.cell? ⟨b, k * 10, none⟩ = some (.int .i64 y.r) := (hSw.cells b _ (Nat.lt_of_lt_of_le hbl HB1.out.size)).trans ((HB1.out.cell (p := ⟨b, k * 10, none⟩) hbl).trans (HE.out 0 _ rfl)); have z1 : W.cell? ⟨b, q * 10, none⟩ = some (.int .i64 x.r) := (hSw.cells b _ (Nat.lt_of_lt_of_le hbl HB1.out.size)).trans ((HB1.out.cell (p := ⟨b, q * 10, none⟩) hbl).trans HX.out)) | skip)
                 go_simp; first | done | rfl)
              try simp only [Act.put, List.setIfInBounds_toArray, List.set_cons_zero, List.set_cons_succ]
              (try rw [dq]); (try rw [dr])
              -- 18 Op.indexAddr 25 (Operand.tmp 33) (Operand.tmp 34)
              refine wpMono_take' 18 (v := ?_) rfl (by kernel_rfl) (by kernel_rfl) (by kernel_rfl) (fun _ _ _ h => h) (by rfl) ?_ ?_
              rotate_left
              · (intro W hSw; (first | (have hg := HGB.out.drew.keeps (X := nobody) hSw (fun h => h); have k2 : W.cell? ⟨g, 2, none⟩ = some (.slice (some ⟨b, 0, none⟩) l.length c3) := hg.cell 2; have gl := hg.lt) | (have hg := (HGB.out.drew.below HB1.out HGB.out.lt).keeps (X := nobody) hSw (fun h => h); have k2 : W.cell? ⟨g, 2, none⟩ = some (.slice (some ⟨b, 0, none⟩) l.length c3) := hg.cell 2; have gl := hg.lt; have z0 : W.cell? ⟨b, k * 10, none⟩ = some (.int .i64 y.r) := (hSw.cells b _ (Nat.lt_of_lt_of_le hbl HB1.out.size)).trans ((HB1.out.cell (p := ⟨b, k * 10, none⟩) hbl).trans (HE.out 0 _ rfl)); have z1 : W.cell? ⟨b, q * 10, none⟩ = some (.int .i64 x.r) := (hSw.cells b _ (Nat.lt_of_lt_of_le hbl HB1.out.size)).trans ((HB1.out.cell (p := ⟨b, q * 10, none⟩) hbl).trans HX.out)) | skip)
                 go_simp; first | done | rfl)
              try simp only [Act.put, List.setIfInBounds_toArray, List.set_cons_zero, List.set_cons_succ]
              (try rw [dq]); (try rw [dr])
              -- 19 Op.fieldAddr 35 (Operand.tmp 35) 0
              refine wpMono_take' 19 (v := ?_) rfl (by kernel_rfl) (by kernel_rfl) (by kernel_rfl) (fun _ _ _ h => h) (by rfl) ?_ ?_
              rotate_left
              · (intro W hSw; (first | (have hg := HGB.out.drew.keeps (X := nobody) hSw (fun h => h); have k2 : W.cell? ⟨g, 2, none⟩ = some (.slice (some ⟨b, 0, none⟩) l.length c3) := hg.cell 2; have gl := hg.lt) | (have hg := (HGB.out.drew.below HB1.out HGB.out.lt).keeps (X := nobody) hSw (fun h => h); have k2 : W.cell? ⟨g, 2, none⟩ = some (.slice (some ⟨b, 0, none⟩) l.length c3) := hg.cell 2; have gl := hg.lt; have z0 : W.cell? ⟨b, k * 10, none⟩ = some (.int .i64 y.r) := (hSw.cells b _ (Nat.lt_of_lt_of_le hbl HB1.out.size)).trans ((HB1.out.cell (p := ⟨b, k * 10, none⟩) hbl).trans (HE.out 0 _ rfl)); have z1 : W.cell? ⟨b, q * 10, none⟩ = some (.int .i64 x.r) := (hSw.cells b _ (Nat.lt_of_lt_of_le hbl HB1.out.size)).trans ((HB1.out.cell (p := ⟨b, q * 10, none⟩) hbl).trans HX.out)) | skip)
                 go_simp; first | done | rfl)
              try simp only [Act.put, List.setIfInBounds_toArray, List.set_cons_zero, List.set_cons_succ]
              (try rw [dq]); (try rw [dr])
              -- 20 Op.load 3 (Operand.tmp 36)
              refine wpMono_take' 20 (v := ?_) rfl (by kernel_rfl) (by kernel_rfl) (by kernel_rfl) (fun _ _ _ h => h) (by rfl) ?_ ?_
              rotate_left
              · (intro W hSw; first | ((refine exec_load 35 (.tmp 23) ?_ b (k * 10) y.cells ?_ Try.underlying35 rfl (by rw [Wr.len]; kernel_rfl) (fun q v hq => (hSw.cells b _ hbl).trans (HE.out q v hq)) <;> rfl)) | ((first | (have hg := HGB.out.drew.keeps (X := nobody) hSw (fun h => h); have k2 : W.cell? ⟨g, 2, none⟩ = some (.slice (some ⟨b, 0, none⟩) l.length c3) := hg.cell 2; have gl := hg.lt) | (have hg := (HGB.out.drew.below HB1.out HGB.out.lt).keeps (X := nobody) hSw (fun h => h); have k2 : W.cell? ⟨g, 2, none⟩ = some (.slice (some ⟨b, 0, none⟩) l.length c3) := hg.cell 2; have gl := hg.lt; have z0 : W.cell? ⟨b, k * 10, none⟩ = some (.int .i64 y.r) := (hSw.cells b _ (Nat.lt_of_lt_of_le hbl HB1.out.size)).trans ((HB1.out.cell (p := ⟨b, k * 10, none⟩) hbl).trans (HE.out 0 _ rfl)); have z1 : W.cell? ⟨b, q * 10, none⟩ = some (.int .i64 x.r) := (hSw.cells b _ (Nat.lt_of_lt_of_le hbl HB1.out.size)).trans ((HB1.out.cell (p := ⟨b, q * 10, none⟩) hbl).trans HX.out)) | skip); go_simp; done) | ((first | (have hg := HGB.out.drew.keeps (X := nobody) hSw (fun h => h); have k2 : W.cell? ⟨g, 2, none⟩ = some (.slice (some ⟨b, 0, none⟩) l.length c3) := hg.cell 2; have gl := hg.lt) | (have hg := (HGB.out.drew.below HB1.out HGB.out.lt).keeps (X := nobody) hSw (fun h => h); have k2 : W.cell? ⟨g, 2, none⟩ = some (.slice (some ⟨b, 0, none⟩) l.length c3) := hg.cell 2; have gl := hg.lt; have z0 : W.cell? ⟨b, k * 10, none⟩ = some (.int .i64 y.r) := (hSw.cells b _ (Nat.lt_of_lt_of_le hbl HB1.out.size)).trans ((HB1.out.cell (p := ⟨b, k * 10, none⟩) hbl).trans (HE.out 0 _ rfl)); have z1 : W.cell? ⟨b, q * 10, none⟩ = some (.int .i64 x.r) := (hSw.cells b _ (Nat.lt_of_lt_of_le hbl HB1.out.size)).trans ((HB1.out.cell (p := ⟨b, q * 10, none⟩) hbl).trans HX.out)) | skip); go_simp; rfl))
              try simp only [Act.put, List.setIfInBounds_toArray, List.set_cons_zero, List.set_cons_succ]
              (try rw [dq]); (try rw [dr])
              -- 21 Op.move (Operand.tmp 0)
              refine wpMono_take' 21 (v := ?_) rfl (by kernel_rfl) (by kernel_rfl) (by kernel_rfl) (fun _ _ _ h => h) (by rfl) ?_ ?_
              rotate_left
              · (intro W hSw; (first | (have hg := HGB.out.drew.keeps (X := nobody) hSw (fun h => h); have k2 : W.cell? ⟨g, 2, none⟩ = some (.slice (some ⟨b, 0, none⟩) l.length c3) := hg.cell 2; have gl := hg.lt) | (have hg := (HGB.out.drew.below HB1.out HGB.out.lt).keeps (X := nobody) hSw (fun h => h); have k2 : W.cell? ⟨g, 2, none⟩ = some (.slice (some ⟨b, 0, none⟩) l.length c3) := hg.cell 2; have gl := hg.lt; have z0 : W.cell? ⟨b, k * 10, none⟩ = some (.int .i64 y.r) := (hSw.cells b _ (Nat.lt_of_lt_of_le hbl HB1.out.size)).trans ((HB1.out.cell (p := ⟨b, k * 10, none⟩) hbl).trans (HE.out 0 _ rfl)); have z1 : W.cell? ⟨b, q * 10, none⟩ = some (.int .i64 x.r) := (hSw.cells b _ (Nat.lt_of_lt_of_le hbl HB1.out.size)).trans ((HB1.out.cell (p := ⟨b, q * 10, none⟩) hbl).trans HX.out)) | skip)
                 go_simp; first | done | rfl)
              try simp only [Act.put, List.setIfInBounds_toArray, List.set_cons_zero, List.set_cons_succ]
              (try rw [dq]); (try rw [dr])
              -- 22 Op.nilCheck (Operand.tmp 38)
              refine wpMono_take' 22 (v := ?_) rfl (by kernel_rfl) (by kernel_rfl) (by kernel_rfl) (fun _ _ _ h => h) (by rfl) ?_ ?_
              rotate_left
              · (intro W hSw; (first | (have hg := HGB.out.drew.keeps (X := nobody) hSw (fun h => h); have k2 : W.cell? ⟨g, 2, none⟩ = some (.slice (some ⟨b, 0, none⟩) l.length c3) := hg.cell 2; have gl := hg.lt) | (have hg := (HGB.out.drew.below HB1.out HGB.out.lt).keeps (X := nobody) hSw (fun h => h); have k2 : W.cell? ⟨g, 2, none⟩ = some (.slice (some ⟨b, 0, none⟩) l.length c3) := hg.cell 2; have gl := hg.lt; have z0 : W.cell? ⟨b, k * 10, none⟩ = some (.int .i64 y.r) := (hSw.cells b _ (Nat.lt_of_lt_of_le hbl HB1.out.size)).trans ((HB1.out.cell (p := ⟨b, k * 10, none⟩) hbl).trans (HE.out 0 _ rfl)); have z1 : W.cell? ⟨b, q * 10, none⟩ = some (.int .i64 x.r) := (hSw.cells b _ (Nat.lt_of_lt_of_le hbl HB1.out.size)).trans ((HB1.out.cell (p := ⟨b, q * 10, none⟩) hbl).trans HX.out)) | skip)
                 go_simp; first | done | rfl)
              try simp only [Act.put, List.setIfInBounds_toArray, List.set_cons_zero, List.set_cons_succ]
              (try rw [dq]); (try rw [dr])
              -- 23 Op.fieldAddr 68 (Operand.tmp 39) 2
              refine wpMono_take' 23 (v := ?_) rfl (by kernel_rfl) (by kernel_rfl) (by kernel_rfl) (fun _ _ _ h => h) (by rfl) ?_ ?_
              rotate_left
              · (intro W hSw; (first | (have hg := HGB.out.drew.keeps (X := nobody) hSw (fun h => h); have k2 : W.cell? ⟨g, 2, none⟩ = some (.slice (some ⟨b, 0, none⟩) l.length c3) := hg.cell 2; have gl := hg.lt) | (have hg := (HGB.out.drew.below HB1.out HGB.out.lt).keeps (X := nobody) hSw (fun h => h); have k2 : W.cell? ⟨g, 2, none⟩ = some (.slice (some ⟨b, 0, none⟩) l.length c3) := hg.cell 2; have gl := hg.lt; have z0 : W.cell? ⟨b, k * 10, none⟩ = some (.int .i64 y.r) := (hSw.cells b _ (Nat.lt_of_lt_of_le hbl HB1.out.size)).trans ((HB1.out.cell (p := ⟨b, k * 10, none⟩) hbl).trans (HE.out 0 _ rfl)); have z1 : W.cell? ⟨b, q * 10, none⟩ = some (.int .i64 x.r) := (hSw.cells b _ (Nat.lt_of_lt_of_le hbl HB1.out.size)).trans ((HB1.out.cell (p := ⟨b, q * 10, none⟩) hbl).trans HX.out)) | skip)
                 go_simp; first | done | rfl)
              try simp only [Act.put, List.setIfInBounds_toArray, List.set_cons_zero, List.set_cons_succ]
              (try rw [dq]); (try rw [dr])
              -- 24 Op.load 25 (Operand.tmp 40)
              refine wpMono_take' 24 (v := ?_) rfl (by kernel_rfl) (by kernel_rfl) (by kernel_rfl) (fun _ _ _ h => h) (by rfl) ?_ ?_
              rotate_left
              · (intro W hSw; first | ((refine exec_load 35 (.tmp 23) ?_ b (k * 10) y.cells ?_ Try.underlying35 rfl (by rw [Wr.len]; kernel_rfl) (fun q v hq => (hSw.cells b _ hbl).trans (HE.out q v hq)) <;> rfl)) | ((first | (have hg := HGB.out.drew.keeps (X := nobody) hSw (fun h => h); have k2 : W.cell? ⟨g, 2, none⟩ = some (.slice (some ⟨b, 0, none⟩) l.length c3) := hg.cell 2; have gl := hg.lt) | (have hg := (HGB.out.drew.below HB1.out HGB.out.lt).keeps (X := nobody) hSw (fun h => h); have k2 : W.cell? ⟨g, 2, none⟩ = some (.slice (some ⟨b, 0, none⟩) l.length c3) := hg.cell 2; have gl := hg.lt; have z0 : W.cell? ⟨b, k * 10, none⟩ = some (.int .i64 y.r) := (hSw.cells b _ (Nat.lt_of_lt_of_le hbl HB1.out.size)).trans ((HB1.out.cell (p := ⟨b, k * 10, none⟩) hbl).trans (HE.out 0 _ rfl)); have z1 : W.cell? ⟨b, q * 10, none⟩ = some (.int .i64 x.r) := (hSw.cells b _ (Nat.lt_of_lt_of_le hbl HB1.out.size)).trans ((HB1.out.cell (p := ⟨b, q * 10, none⟩) hbl).trans HX.out)) | skip); go_simp; done) | ((first | (have hg := HGB.out.drew.keeps (X := nobody) hSw (fun h => h); have k2 : W.cell? ⟨g, 2, none⟩ = some (.slice (some ⟨b, 0, none⟩) l.length c3) := hg.cell 2; have gl := hg.lt) | (have hg := (HGB.out.drew.below HB1.out HGB.out.lt).keeps (X := nobody) hSw (fun h => h); have k2 : W.cell? ⟨g, 2, none⟩ = some (.slice (some ⟨b, 0, none⟩) l.length c3) := hg.cell 2; have gl := hg.lt; have z0 : W.cell? ⟨b, k * 10, none⟩ = some (.int .i64 y.r) := (hSw.cells b _ (Nat.lt_of_lt_of_le hbl HB1.out.size)).trans ((HB1.out.cell (p := ⟨b, k * 10, none⟩) hbl).trans (HE.out 0 _ rfl)); have z1 : W.cell? ⟨b, q * 10, none⟩ = some (.int .i64 x.r) := (hSw.cells b _ (Nat.lt_of_lt_of_le hbl HB1.out.size)).trans ((HB1.out.cell (p := ⟨b, q * 10, none⟩) hbl).trans HX.out)) | skip); go_simp; rfl))
              try simp only [Act.put, List.setIfInBounds_toArray, List.set_cons_zero, List.set_cons_succ]
              (try rw [dq]); (try rw [dr])
              -- 25 Op.move (Operand.tmp 4)
              refine wpMono_take' 25 (v := ?_) rfl (by kernel_rfl) (by kernel_rfl) (by kernel_rfl) (fun _ _ _ h => h) (by rfl) ?_ ?_
              rotate_left
              · (intro W hSw; (first | (have hg := HGB.out.drew.keeps (X := nobody) hSw (fun h => h); have k2 : W.cell? ⟨g, 2, none⟩ = some (.slice (some ⟨b, 0, none⟩) l.length c3) := hg.cell 2; have gl := hg.lt) | (have hg := (HGB.out.drew.below HB1.out HGB.out.lt).keeps (X := nobody) hSw (fun h => h); have k2 : W.cell? ⟨g, 2, none⟩ = some (.slice (some ⟨b, 0, none⟩) l.length c3) := hg.cell 2; have gl := hg.lt; have z0 : W.cell? ⟨b, k * 10, none⟩ = some (.int .i64 y.r) := (hSw.cells b _ (Nat.lt_of_lt_of_le hbl HB1.out.size)).trans ((HB1.out.cell (p := ⟨b, k * 10, none⟩) hbl).trans (HE.out 0 _ rfl)); have z1 : W.cell? ⟨b, q * 10, none⟩ = some (.int .i64 x.r) := (hSw.cells b _ (Nat.lt_of_lt_of_le hbl HB1.out.size)).trans ((HB1.out.cell (p := ⟨b, q * 10, none⟩) hbl).trans HX.out)) | skip)
                 go_simp; first | done | rfl)
              try simp only [Act.put, List.setIfInBounds_toArray, List.set_cons_zero, List.set_cons_succ]
              (try rw [dq]); (try rw [dr])
              -- 26 Op.indexAddr 25 (Operand.tmp 41) (Operand.tmp 42)
              refine wpMono_take' 26 (v := ?_) rfl (by kernel_rfl) (by kernel_rfl) (by kernel_rfl) (fun _ _ _ h => h) (by rfl) ?_ ?_
              rotate_left
              · (intro W hSw; (first | (have hg := HGB.out.drew.keeps (X := nobody) hSw (fun h => h); have k2 : W.cell? ⟨g, 2, none⟩ = some (.slice (some ⟨b, 0, none⟩) l.length c3) := hg.cell 2; have gl := hg.lt) | (have hg := (HGB.out.drew.below HB1.out HGB.out.lt).keeps (X := nobody) hSw (fun h => h); have k2 : W.cell? ⟨g, 2, none⟩ = some (.slice (some ⟨b, 0, none⟩) l.length c3) := hg.cell 2; have gl := hg.lt; have z0 : W.cell? ⟨b, k * 10, none⟩ = some (.int .i64 y.r) := (hSw.cells b _ (Nat.lt_of_lt_of_le hbl HB1.out.size)).trans ((HB1.out.cell (p := ⟨b, k * 10, none⟩) hbl).trans (HE.out 0 _ rfl)); have z1 : W.cell? ⟨b, q * 10, none⟩ = some (.int .i64 x.r) := (hSw.cells b _ (Nat.lt_of_lt_of_le hbl HB1.out.size)).trans ((HB1.out.cell (p := ⟨b, q * 10, none⟩) hbl).trans HX.out)) | skip)
                 go_simp; first | done | rfl)
              try simp only [Act.put, List.setIfInBounds_toArray, List.set_cons_zero, List.set_cons_succ]
              (try rw [dq]); (try rw [dr])
              -- 27 Op.fieldAddr 35 (Operand.tmp 43) 0
              refine wpMono_take' 27 (v := ?_) rfl (by kernel_rfl) (by kernel_rfl) (by kernel_rfl) (fun _ _ _ h => h) (by rfl) ?_ ?_
              rotate_left
              · (intro W hSw; (first | (have hg := HGB.out.drew.keeps (X := nobody) hSw (fun h => h); have k2 : W.cell? ⟨g, 2, none⟩ = some (.slice (some ⟨b, 0, none⟩) l.length c3) := hg.cell 2; have gl := hg.lt) | (have hg := (HGB.out.drew.below HB1.out HGB.out.lt).keeps (X := nobody) hSw (fun h => h); have k2 : W.cell? ⟨g, 2, none⟩ = some (.slice (some ⟨b, 0, none⟩) l.length c3) := hg.cell 2; have gl := hg.lt; have z0 : W.cell? ⟨b, k * 10, none⟩ = some (.int .i64 y.r) := (hSw.cells b _ (Nat.lt_of_lt_of_le hbl HB1.out.size)).trans ((HB1.out.cell (p := ⟨b, k * 10, none⟩) hbl).trans (HE.out 0 _ rfl)); have z1 : W.cell? ⟨b, q * 10, none⟩ = some (.int .i64 x.r) := (hSw.cells b _ (Nat.lt_of_lt_of_le hbl HB1.out.size)).trans ((HB1.out.cell (p := ⟨b, q * 10, none⟩) hbl).trans HX.out)) | skip)
                 go_simp; first | done | rfl)
              try simp only [Act.put, List.setIfInBounds_toArray, List.set_cons_zero, List.set_cons_succ]
              (try rw [dq]); (try rw [dr])
              -- 28 Op.load 3 (Operand.tmp 44)
              refine wpMono_take' 28 (v := ?_) rfl (by kernel_rfl) (by kernel_rfl) (by kernel_rfl) (fun _ _ _ h => h) (by rfl) ?_ ?_
              rotate_left
              · (intro W hSw; first | ((refine exec_load 35 (.tmp 23) ?_ b (k * 10) y.cells ?_ Try.underlying35 rfl (by rw [Wr.len]; kernel_rfl) (fun q v hq => (hSw.cells b _ hbl).trans (HE.out q v hq)) <;> rfl)) | ((first | (have hg := HGB.out.drew.keeps (X := nobody) hSw (fun h => h); have k2 : W.cell? ⟨g, 2, none⟩ = some (.slice (some ⟨b, 0, none⟩) l.length c3) := hg.cell 2; have gl := hg.lt) | (have hg := (HGB.out.drew.below HB1.out HGB.out.lt).keeps (X := nobody) hSw (fun h => h); have k2 : W.cell? ⟨g, 2, none⟩ = some (.slice (some ⟨b, 0, none⟩) l.length c3) := hg.cell 2; have gl := hg.lt; have z0 : W.cell? ⟨b, k * 10, none⟩ = some (.int .i64 y.r) := (hSw.cells b _ (Nat.lt_of_lt_of_le hbl HB1.out.size)).trans ((HB1.out.cell (p := ⟨b, k * 10, none⟩) hbl).trans (HE.out 0 _ rfl)); have z1 : W.cell? ⟨b, q * 10, none⟩ = some (.int .i64 x.r) := (hSw.cells b _ (Nat.lt_of_lt_of_le hbl HB1.out.size)).trans ((HB1.out.cell (p := ⟨b, q * 10, none⟩) hbl).trans HX.out)) | skip); go_simp; done) | ((first | (have hg := HGB.out.drew.keeps (X := nobody) hSw (fun h => h); have k2 : W.cell? ⟨g, 2, none⟩ = some (.slice (some ⟨b, 0, none⟩) l.length c3) := hg.cell 2; have gl := hg.lt) | (have hg := (HGB.out.drew.below HB1.out HGB.out.lt).keeps (X := nobody) hSw (fun h => h); have k2 : W.cell? ⟨g, 2, none⟩ = some (.slice (some ⟨b, 0, none⟩) l.length c3) := hg.cell 2; have gl := hg.lt; have z0 : W.cell? ⟨b, k * 10, none⟩ = some (.int .i64 y.r) := (hSw.cells b _ (Nat.lt_of_lt_of_le hbl HB1.out.size)).trans ((HB1.out.cell (p := ⟨b, k * 10, none⟩) hbl).trans (HE.out 0 _ rfl)); have z1 : W.cell? ⟨b, q * 10, none⟩ = some (.int .i64 x.r) := (hSw.cells b _ (Nat.lt_of_lt_of_le hbl HB1.out.size)).trans ((HB1.out.cell (p := ⟨b, q * 10, none⟩) hbl).trans HX.out)) | skip); go_simp; rfl))
              try simp only [Act.put, List.setIfInBounds_toArray, List.set_cons_zero, List.set_cons_succ]
              (try rw [dq]); (try rw [dr])
              -- 29 Op.binOp BinOp.lss 3 (Operand.tmp 37) (Operand.tmp 45) 3
              refine wpMono_take' 29 (v := ?_) rfl (by kernel_rfl) (by kernel_rfl) (by kernel_rfl) (fun _ _ _ h => h) (by rfl) ?_ ?_
              rotate_left
              · (intro W hSw; (first | (have hg := HGB.out.drew.keeps (X := nobody) hSw (fun h => h); have k2 : W.cell? ⟨g, 2, none⟩ = some (.slice (some ⟨b, 0, none⟩) l.length c3) := hg.cell 2; have gl := hg.lt) | (have hg := (HGB.out.drew.below HB1.out HGB.out.lt).keeps (X := nobody) hSw (fun h => h); have k2 : W.cell? ⟨g, 2, none⟩ = some (.slice (some ⟨b, 0, none⟩) l.length c3) := hg.cell 2; have gl := hg.lt; have z0 : W.cell? ⟨b, k * 10, none⟩ = some (.int .i64 y.r) := (hSw.cells b _ (Nat.lt_of_lt_of_le hbl HB1.out.size)).trans ((HB1.out.cell (p := ⟨b, k * 10, none⟩) hbl).trans (HE.out 0 _ rfl)); have z1 : W.cell? ⟨b, q * 10, none⟩ = some (.int .i64 x.r) := (hSw.cells b _ (Nat.lt_of_lt_of_le hbl HB1.out.size)).trans ((HB1.out.cell (p := ⟨b, q * 10, none⟩) hbl).trans HX.out)) | skip)
                 go_simp; first | done | rfl)
              try simp only [Act.put, List.setIfInBounds_toArray, List.set_cons_zero, List.set_cons_succ]
              (try rw [dq]); (try rw [dr])
              -- 30 Op.pick (Operand.tmp 29) (Operand.const (Value.bool true)) (Operand.tmp 46)
              refine wpMono_take' 30 (v := ?_) rfl (by kernel_rfl) (by kernel_rfl) (by kernel_rfl) (fun _ _ _ h => h) (by rfl) ?_ ?_
              rotate_left
              · (intro W hSw; (first | (have hg := HGB.out.drew.keeps (X := nobody) hSw (fun h => h); have k2 : W.cell? ⟨g, 2, none⟩ = some (.slice (some ⟨b, 0, none⟩) l.length c3) := hg.cell 2; have gl := hg.lt) | (have hg := (HGB.out.drew.below HB1.out HGB.out.lt).keeps (X := nobody) hSw (fun h => h); have k2 : W.cell? ⟨g, 2, none⟩ = some (.slice (some ⟨b, 0, none⟩) l.length c3) := hg.cell 2; have gl := hg.lt; have z0 : W.cell? ⟨b, k * 10, none⟩ = some (.int .i64 y.r) := (hSw.cells b _ (Nat.lt_of_lt_of_le hbl HB1.out.size)).trans ((HB1.out.cell (p := ⟨b, k * 10, none⟩) hbl).trans (HE.out 0 _ rfl)); have z1 : W.cell? ⟨b, q * 10, none⟩ = some (.int .i64 x.r) := (hSw.cells b _ (Nat.lt_of_lt_of_le hbl HB1.out.size)).trans ((HB1.out.cell (p := ⟨b, q * 10, none⟩) hbl).trans HX.out)) | skip)
                 go_simp; first | done | rfl)
              try simp only [Act.put, List.setIfInBounds_toArray, List.set_cons_zero, List.set_cons_succ]
              (try rw [dq]); (try rw [dr])
              -- 31 Op.pick (Operand.tmp 26) (Operand.tmp 47) (Operand.const (Value.bool false))
              refine wpMono_take' 31 (v := ?_) rfl (by kernel_rfl) (by kernel_rfl) (by kernel_rfl) (fun _ _ _ h => h) (by rfl) ?_ ?_
              rotate_left
              · (intro W hSw; (first | (have hg := HGB.out.drew.keeps (X := nobody) hSw (fun h => h); have k2 : W.cell? ⟨g, 2, none⟩ = some (.slice (some ⟨b, 0, none⟩) l.length c3) := hg.cell 2; have gl := hg.lt) | (have hg := (HGB.out.drew.below HB1.out HGB.out.lt).keeps (X := nobody) hSw (fun h => h); have k2 : W.cell? ⟨g, 2, none⟩ = some (.slice (some ⟨b, 0, none⟩) l.length c3) := hg.cell 2; have gl := hg.lt; have z0 : W.cell? ⟨b, k * 10, none⟩ = some (.int .i64 y.r) := (hSw.cells b _ (Nat.lt_of_lt_of_le hbl HB1.out.size)).trans ((HB1.out.cell (p := ⟨b, k * 10, none⟩) hbl).trans (HE.out 0 _ rfl)); have z1 : W.cell? ⟨b, q * 10, none⟩ = some (.int .i64 x.r) := (hSw.cells b _ (Nat.lt_of_lt_of_le hbl HB1.out.size)).trans ((HB1.out.cell (p := ⟨b, q * 10, none⟩) hbl).trans HX.out)) | skip)
                 go_simp; first | done | rfl)
              try simp only [Act.put, List.setIfInBounds_toArray, List.set_cons_zero, List.set_cons_succ]
              (try rw [dq]); (try rw [dr])
              refine wpMono_done (by kernel_rfl) ?_ _
              have HBN := Lib.hid (below_step hbr (below_ofDrew HB1.out))
              go_wp2_with fail
              go_roundw
              case rel => exact ⟨k + 1, _, by omega, by go_num, rfl, HBE2.out, HBN.out⟩
              case measure => simp [intOf]; omega
      · obtain rfl : k = l.length := by omega
        obtain ⟨A6, c6, e6⟩ := ownsRow_slice HROW.out
        subst e6
        rcases hbe with ⟨rfl, hno⟩ | ⟨q, hq, rfl, hqr, hqn⟩
        · have HP := Lib.hid (show DrainRR R g rg ap L w (.returned (.slice A6 out.length c6)) wr from ⟨_, a, l, out, R', rfl, HI.out.below hbr, hno⟩)
          clear hno hfi hbr
          go_wp2_with fail
          go_ret
          exact HP.out
        obtain ⟨b, off, rfl, hbl0⟩ := HRD0.out.at_some (by omega)
        obtain rfl : off = 0 := by
          rcases HF.out.row.2 with ⟨e, _⟩ | ⟨g', cap', cur, e, _⟩
          · cases e
          · injection e with e
            injection e with e
            injection e
        have hmem : l.getD q wrZ ∈ l := getD_mem hq
        have HE := Lib.hid (show ∀ p v, (l.getD q wrZ).cells[p]? = some v → wr.cell? ⟨b, q * 10 + p, none⟩ = some v from fun p v hp => by
          have hp2 : p < 10 := by
            have := (List.getElem?_eq_some_iff.1 hp).1
            rwa [Wr.len] at this
          have h5 := Reads.thing Wr.cells Wr.len (HRD0.out.below hbr) (k := q) (x := l.getD q wrZ) (by omega) (by rw [List.getD_eq_getElem?_getD, List.getElem?_eq_getElem hq]; rfl) p hp2
          rw [Nat.zero_add] at h5
          rw [h5, hp])
        obtain ⟨y, hy⟩ : ∃ y, l.getD q wrZ = y := ⟨_, rfl⟩
        rw [hy] at HE hqr hqn hmem
        have HKR := Lib.hid hqr
        have HKN := Lib.hid hqn
        have HMEM := Lib.hid hmem
        have HY := Lib.hid hy
        have HFI := Lib.hid hfi
        have HBR := Lib.hid hbr
        have HR0 := Lib.hid (HRD0.out.below hbr)
        have hrng := HF.out.rng y hmem
        have HRG := Lib.hid hrng
        have hone : y.d.oneCell' = true := by
          obtain ⟨hn, _⟩ := HF.out.num y hmem
          obtain ⟨_, _, e⟩ := ownsRow_slice hn
          rw [e]; rfl
        have honeL : ∀ u ∈ l.flatMap Wr.cells, u.oneCell' = true := fun u hu => by
          obtain ⟨x, hx, hu⟩ := List.mem_flatMap.1 hu
          obtain ⟨_, _, e⟩ := ownsRow_slice (HF.out.num x hx).1
          exact oneW x (by rw [e]; rfl) u hu
        have HONE := Lib.hid honeL
        clear hqr hqn hmem hy hfi hbr hrng honeL
        go_wp2_with (first | ((with_reducible refine wpList_load_at ?_ 35 (.tmp 58) ?_ b (q * 10) y.cells ?_ Try.underlying35 ?_ ?_ HE.out ?_); rfl; rfl; rfl; rfl; (rw [Wr.len]; kernel_rfl)) | ((with_reducible refine wpList_store_blk ?_ 35 (.tmp 6) (.tmp 59) ?_ wr.heap.size y.cells ?_ ?_ (Blk.new wr 35 #[.int .i64 0, .int .i64 0, .int .i64 0, .int .i64 0, .slice none 0 0, .string ⟨#[]⟩, .string ⟨#[]⟩, .string ⟨#[]⟩, .bool false, .int .i64 0]) ?_ ?_ (oneAll y hone) ?_); rfl; rfl; rfl; rfl; (rw [Wr.len]; kernel_rfl); rfl; intro w9 ho9 hk9 hs9; clear hs9; have HB9 := Lib.hid ((below_new wr _).trans (hk9.below (fun i hi e => absurd hi (by rw [show i = wr.heap.size from e]; omega)) (by simp))); have HO9 := Lib.hid ho9; clear hk9 ho9))
        have HF9 := Lib.hid (HFI.out.below HB9.out)
        have hs9 := HB9.out.size
        have gl9 := HF9.out.blk.lt
        have HNX := Lib.hid (show ¬ w9.heap.size ≤ g by omega)
        have HR9 := Lib.hid (show Reads w9 w9.heap.size 10 (some ⟨b, 0, none⟩) l.length (l.flatMap Wr.cells) from (((HR0.out.more hsr).below HB9.out).more hs9))
        obtain ⟨i0, hi0, hz⟩ := Option.map_eq_some_iff.1 write_info
        simp only [Prod.mk.injEq] at hz
        obtain ⟨hz0, hz1, hz2⟩ := hz
        have Hi0 := Lib.hid hi0
        have Hz0 := Lib.hid hz0
        have Hz1 := Lib.hid hz1
        have Hz2 := Lib.hid hz2
        clear hi0 hz0 hz1 hz2
        have HROW0 := Lib.hid (show (w9.alloc (.cells #[] 35)).drew.ownsRow w9.heap.size 35 10 (.slice (some ⟨w9.heap.size, 0, none⟩) 0 0) 0 [] from own_keeps (ownsRow_new0 w9 35 10 #[]) (X := nobody) Keeps.drew (fun _ _ h => h))
        have HR1 := Lib.hid (show Reads (w9.alloc (.cells #[] 35)).drew w9.heap.size 10 (some ⟨b, 0, none⟩) l.length (l.flatMap Wr.cells) from HR9.out.alloc (Nat.le_refl _) (.cells #[] 35))
        have hel : q + (l.length - (q + 1)) = (l.eraseIdx q).length := by rw [List.length_eraseIdx_of_lt hq]; omega
        have HEL := Lib.hid hel
        clear hel
        have hw1 : IntKind.i64.wrap ((q : Int) + 1) = (q : Int) + 1 := IntWalk.i64_in _ (by omega)
        have hql : (q : Int) + 1 ≤ (l.length : Int) := by omega
        have hqn : q ≤ l.length := by omega
        have hq0 : 0 < l.length := by omega
        have hlc : l.length ≤ c3 := by
          rcases HF.out.row.2 with ⟨e, _⟩ | ⟨g', cap', cur, e, _, _, h3, _⟩
          · cases e
          · injection e with _ _ e
            omega
        have hi1 : (q : Int) ≤ (q : Int) + 1 := by omega
        have hi2 : (q : Int) ≤ (c3 : Int) := by omega
        have hi3 : (l.length : Int) ≤ (c3 : Int) := by omega
        have hi4 : (q : Int) + 1 ≤ (c3 : Int) := by omega
        by_cases hcap : c3 = q + 1
        · subst hcap
          have HRD := Lib.hid (fun (W : World) (h : Reads W w9.heap.size 10 (some ⟨b, 0, none⟩) l.length (l.flatMap Wr.cells)) => (⟨by rw [List.drop_eq_nil_of_le (by omega)]; rfl, fun h0 => absurd h0 (by omega)⟩ : Reads W w9.heap.size 10 (some ⟨b, 0, none⟩) 0 ((l.drop (q + 1)).flatMap Wr.cells)))
          have HEL := Lib.hid (show q + 0 = (l.eraseIdx q).length by rw [List.length_eraseIdx_of_lt hq]; omega)
          refine wp_region_monoK (fun i => w9.heap.size ≤ i) [1, 8, 16] (fun i => i = g) [19] (by kernel_rfl) ?_
          -- 0 Op.move (Operand.tmp 0)
          refine wpMonoK_take' 0 (v := ?_) rfl (by kernel_rfl) (by kernel_rfl) (by kernel_rfl) (fun _ _ _ h => h) (by rfl) ?_ ?_
          rotate_left
          · (intro W hSw; (first | (have hg := HF9.out.blk.drew.keeps (X := fun i => w9.heap.size ≤ i) hSw HNX.out; have k2 : W.cell? ⟨g, 2, none⟩ = some (.slice (some ⟨b, 0, none⟩) l.length _) := hg.cell 2; have gl := hg.lt) | skip)
             go_simp; first | done | rfl)
          try simp only [Act.put, List.setIfInBounds_toArray, List.set_cons_zero, List.set_cons_succ]
          (try rw [hw1])
          -- 2 Op.move (Operand.tmp 0)
          refine wpMonoK_take' 2 (v := ?_) rfl (by kernel_rfl) (by kernel_rfl) (by kernel_rfl) (fun _ _ _ h => h) (by rfl) ?_ ?_
          rotate_left
          · (intro W hSw; (first | (have hg := HF9.out.blk.drew.keeps (X := fun i => w9.heap.size ≤ i) hSw HNX.out; have k2 : W.cell? ⟨g, 2, none⟩ = some (.slice (some ⟨b, 0, none⟩) l.length _) := hg.cell 2; have gl := hg.lt) | skip)
             go_simp; first | done | rfl)
          try simp only [Act.put, List.setIfInBounds_toArray, List.set_cons_zero, List.set_cons_succ]
          (try rw [hw1])
          -- 3 Op.nilCheck (Operand.tmp 62)
          refine wpMonoK_take' 3 (v := ?_) rfl (by kernel_rfl) (by kernel_rfl) (by kernel_rfl) (fun _ _ _ h => h) (by rfl) ?_ ?_
          rotate_left
          · (intro W hSw; (first | (have hg := HF9.out.blk.drew.keeps (X := fun i => w9.heap.size ≤ i) hSw HNX.out; have k2 : W.cell? ⟨g, 2, none⟩ = some (.slice (some ⟨b, 0, none⟩) l.length _) := hg.cell 2; have gl := hg.lt) | skip)
             go_simp; first | done | rfl)
          try simp only [Act.put, List.setIfInBounds_toArray, List.set_cons_zero, List.set_cons_succ]
          (try rw [hw1])
          -- 4 Op.fieldAddr 68 (Operand.tmp 63) 2
          refine wpMonoK_take' 4 (v := ?_) rfl (by kernel_rfl) (by kernel_rfl) (by kernel_rfl) (fun _ _ _ h => h) (by rfl) ?_ ?_
          rotate_left
          · (intro W hSw; (first | (have hg := HF9.out.blk.drew.keeps (X := fun i => w9.heap.size ≤ i) hSw HNX.out; have k2 : W.cell? ⟨g, 2, none⟩ = some (.slice (some ⟨b, 0, none⟩) l.length _) := hg.cell 2; have gl := hg.lt) | skip)
             go_simp; first | done | rfl)
          try simp only [Act.put, List.setIfInBounds_toArray, List.set_cons_zero, List.set_cons_succ]
          (try rw [hw1])
          -- 5 Op.load 25 (Operand.tmp 64)
          refine wpMonoK_read' 5 [7, 8, 16, 17, 18, 19] (v := ?_) rfl (by kernel_rfl) (by kernel_rfl) (by kernel_rfl) (by kernel_rfl) (by rfl) (fun _ _ _ h => h) (by rfl) ?_ ?_
          rotate_left
          · (intro W hSw; (first | (have hg := HF9.out.blk.drew.keeps (X := fun i => w9.heap.size ≤ i) hSw HNX.out; have k2 : W.cell? ⟨g, 2, none⟩ = some (.slice (some ⟨b, 0, none⟩) l.length _) := hg.cell 2; have gl := hg.lt) | skip)
             go_simp; first | done | rfl)
          try simp only [Act.put, List.setIfInBounds_toArray, List.set_cons_zero, List.set_cons_succ]
          (try rw [hw1])
          -- 6 Op.move (Operand.tmp 4)
          refine wpMonoK_take' 6 (v := ?_) rfl (by kernel_rfl) (by kernel_rfl) (by kernel_rfl) (fun _ _ _ h => h) (by rfl) ?_ ?_
          rotate_left
          · (intro W hSw; (first | (have hg := HF9.out.blk.drew.keeps (X := fun i => w9.heap.size ≤ i) hSw HNX.out; have k2 : W.cell? ⟨g, 2, none⟩ = some (.slice (some ⟨b, 0, none⟩) l.length _) := hg.cell 2; have gl := hg.lt) | skip)
             go_simp; first | done | rfl)
          try simp only [Act.put, List.setIfInBounds_toArray, List.set_cons_zero, List.set_cons_succ]
          (try rw [hw1])
          -- 7 Op.slice 25 (Operand.tmp 65) none (some (Operand.tmp 66)) none
          refine wpMonoK_take' 7 (v := ?_) rfl (by kernel_rfl) (by kernel_rfl) (by kernel_rfl) (fun _ _ _ h => h) (by rfl) ?_ ?_
          rotate_left
          · (intro W hSw; (first | (have hg := HF9.out.blk.drew.keeps (X := fun i => w9.heap.size ≤ i) hSw HNX.out; have k2 : W.cell? ⟨g, 2, none⟩ = some (.slice (some ⟨b, 0, none⟩) l.length _) := hg.cell 2; have gl := hg.lt) | skip)
             go_simp; first | done | rfl)
          try simp only [Act.put, List.setIfInBounds_toArray, List.set_cons_zero, List.set_cons_succ]
          (try rw [hw1])
          -- 9 Op.move (Operand.tmp 0)
          refine wpMonoK_take' 9 (v := ?_) rfl (by kernel_rfl) (by kernel_rfl) (by kernel_rfl) (fun _ _ _ h => h) (by rfl) ?_ ?_
          rotate_left
          · (intro W hSw; (first | (have hg := HF9.out.blk.drew.keeps (X := fun i => w9.heap.size ≤ i) hSw HNX.out; have k2 : W.cell? ⟨g, 2, none⟩ = some (.slice (some ⟨b, 0, none⟩) l.length _) := hg.cell 2; have gl := hg.lt) | skip)
             go_simp; first | done | rfl)
          try simp only [Act.put, List.setIfInBounds_toArray, List.set_cons_zero, List.set_cons_succ]
          (try rw [hw1])
          -- 10 Op.nilCheck (Operand.tmp 69)
          refine wpMonoK_take' 10 (v := ?_) rfl (by kernel_rfl) (by kernel_rfl) (by kernel_rfl) (fun _ _ _ h => h) (by rfl) ?_ ?_
          rotate_left
          · (intro W hSw; (first | (have hg := HF9.out.blk.drew.keeps (X := fun i => w9.heap.size ≤ i) hSw HNX.out; have k2 : W.cell? ⟨g, 2, none⟩ = some (.slice (some ⟨b, 0, none⟩) l.length _) := hg.cell 2; have gl := hg.lt) | skip)
             go_simp; first | done | rfl)
          try simp only [Act.put, List.setIfInBounds_toArray, List.set_cons_zero, List.set_cons_succ]
          (try rw [hw1])
          -- 11 Op.fieldAddr 68 (Operand.tmp 70) 2
          refine wpMonoK_take' 11 (v := ?_) rfl (by kernel_rfl) (by kernel_rfl) (by kernel_rfl) (fun _ _ _ h => h) (by rfl) ?_ ?_
          rotate_left
          · (intro W hSw; (first | (have hg := HF9.out.blk.drew.keeps (X := fun i => w9.heap.size ≤ i) hSw HNX.out; have k2 : W.cell? ⟨g, 2, none⟩ = some (.slice (some ⟨b, 0, none⟩) l.length _) := hg.cell 2; have gl := hg.lt) | skip)
             go_simp; first | done | rfl)
          try simp only [Act.put, List.setIfInBounds_toArray, List.set_cons_zero, List.set_cons_succ]
          (try rw [hw1])
          -- 12 Op.load 25 (Operand.tmp 71)
          refine wpMonoK_read' 12 [15, 16, 17, 18, 19] (v := ?_) rfl (by kernel_rfl) (by kernel_rfl) (by kernel_rfl) (by kernel_rfl) (by rfl) (fun _ _ _ h => h) (by rfl) ?_ ?_
          rotate_left
          · (intro W hSw; (first | (have hg := HF9.out.blk.drew.keeps (X := fun i => w9.heap.size ≤ i) hSw HNX.out; have k2 : W.cell? ⟨g, 2, none⟩ = some (.slice (some ⟨b, 0, none⟩) l.length _) := hg.cell 2; have gl := hg.lt) | skip)
             go_simp; first | done | rfl)
          try simp only [Act.put, List.setIfInBounds_toArray, List.set_cons_zero, List.set_cons_succ]
          (try rw [hw1])
          -- 13 Op.move (Operand.tmp 4)
          refine wpMonoK_take' 13 (v := ?_) rfl (by kernel_rfl) (by kernel_rfl) (by kernel_rfl) (fun _ _ _ h => h) (by rfl) ?_ ?_
          rotate_left
          · (intro W hSw; (first | (have hg := HF9.out.blk.drew.keeps (X := fun i => w9.heap.size ≤ i) hSw HNX.out; have k2 : W.cell? ⟨g, 2, none⟩ = some (.slice (some ⟨b, 0, none⟩) l.length _) := hg.cell 2; have gl := hg.lt) | skip)
             go_simp; first | done | rfl)
          try simp only [Act.put, List.setIfInBounds_toArray, List.set_cons_zero, List.set_cons_succ]
          (try rw [hw1])
          -- 14 Op.binOp BinOp.add 3 (Operand.tmp 73) (Operand.const (Value.int IntKind.i64 1)) 3
          refine wpMonoK_take' 14 (v := ?_) rfl (by kernel_rfl) (by kernel_rfl) (by kernel_rfl) (fun _ _ _ h => h) (by rfl) ?_ ?_
          rotate_left
          · (intro W hSw; (first | (have hg := HF9.out.blk.drew.keeps (X := fun i => w9.heap.size ≤ i) hSw HNX.out; have k2 : W.cell? ⟨g, 2, none⟩ = some (.slice (some ⟨b, 0, none⟩) l.length _) := hg.cell 2; have gl := hg.lt) | skip)
             go_simp; first | done | rfl)
          try simp only [Act.put, List.setIfInBounds_toArray, List.set_cons_zero, List.set_cons_succ]
          (try rw [hw1])
          -- 15 Op.slice 25 (Operand.tmp 72) (some (Operand.tmp 74)) none none
          refine wpMonoK_take' 15 (v := ?_) rfl (by kernel_rfl) (by kernel_rfl) (by kernel_rfl) (fun _ _ _ h => h) (by rfl) ?_ ?_
          rotate_left
          · (intro W hSw; (first | (have hg := HF9.out.blk.drew.keeps (X := fun i => w9.heap.size ≤ i) hSw HNX.out; have k2 : W.cell? ⟨g, 2, none⟩ = some (.slice (some ⟨b, 0, none⟩) l.length _) := hg.cell 2; have gl := hg.lt) | skip)
             go_simp; first | done | rfl)
          try simp only [Act.put, List.setIfInBounds_toArray, List.set_cons_zero, List.set_cons_succ]
          (try rw [hw1])
          -- EFFECT 1 Op.buildSlice 25 0 #[]
          refine wpMonoK_one' 1 (by kernel_rfl) rfl (by rfl) (fun K hK => ?_)
          go_simp
          refine hK.out _ _ ?_ ?_
          · exact Go.Proofs.Ytedkcpncomgboaa.monok.stays ⟨rfl, rfl, rfl, by simp, fun i hi _ => Below.heap_alloc w9 _ i hi⟩
          clear hK K
          try simp only [Act.put, List.setIfInBounds_toArray, List.set_cons_zero, List.set_cons_succ]
          (try rw [hw1])
          -- EFFECT 8 Op.call { callee := Callee.builtin Builtin.append, args := #[Operand.tmp 61, Operand.tmp 67], argTypes := #[25, 25] }
          refine wpMonoK_one' 8 (by kernel_rfl) rfl (by rfl) (fun K hK => ?_)
          refine wp_append_any _ (.tmp 61) (.tmp 67) _ (by rfl) w9.heap.size 35 i0 _ 10 120 Try.underlying25 Hi0.out Hz0.out Hz1.out Hz2.out rfl (by omega) (.slice (some ⟨w9.heap.size, 0, none⟩) 0 0) 0 [] (by rfl) HROW0.out _ _ q _ ((l.take q).flatMap Wr.cells) (by rfl) (Reads.takeAt Wr.cells Wr.len (k := q) HR1.out hqn hq0) (fun u hu => HONE.out u (by rw [← flat_take Wr.cells Wr.len] at hu; exact List.mem_of_mem_take hu)) (by unfold maxLen; omega) (by omega) (by simp) fun v81 w81 ho81 hg81 hv81 => ?_
          simp only [Nat.zero_add, List.nil_append] at ho81
          have HO81 := Lib.hid ho81
          have HG81 := Lib.hid hg81
          clear hv81
          refine hK.out _ _ ?_ ?_
          · exact Go.Proofs.Ytedkcpncomgboaa.monok.moved (.grown hg81 (fun g hg => .inl (by simp [Value.ownBlock] at hg; omega))) (by decide)
          clear hK K
          try simp only [Act.put, List.setIfInBounds_toArray, List.set_cons_zero, List.set_cons_succ]
          (try rw [hw1])
          -- EFFECT 16 Op.call { callee := Callee.builtin Builtin.append, args := #[Operand.tmp 68, Operand.tmp 75], argTypes := #[25, 25] }
          refine wpMonoK_one' 16 (by kernel_rfl) rfl (by rfl) (fun K hK => ?_)
          refine wp_append_any _ (.tmp 68) (.tmp 75) _ (by rfl) w9.heap.size 35 i0 _ 10 120 Try.underlying25 Hi0.out Hz0.out Hz1.out Hz2.out rfl (by omega) v81 q _ (by rfl) HO81.out _ _ 0 _ ((l.drop (q + 1)).flatMap Wr.cells) (by rfl) (HRD.out w81 (HR1.out.grown HG81.out (by simp) (by simp [Value.ownBlock]))) (fun u hu => HONE.out u (by rw [← flat_drop Wr.cells Wr.len] at hu; exact List.mem_of_mem_drop hu)) (by unfold maxLen; omega) (by omega) (by have := HG81.out.size; simp at this ⊢; omega) fun v85 w85 ho85 hg85 hv85 => ?_
          rw [← List.flatMap_append, ← List.eraseIdx_eq_take_drop_succ, HEL.out] at ho85
          obtain ⟨A85, c85, rfl⟩ := ownsRow_slice ho85
          have hb85 : Below w9.heap.size w9 w85 := ((((Below.refl w9.heap.size w9).alloc (Nat.le_refl _) (.cells #[] 35)).drew).grown HG81.out (by simp) (by simp [Value.ownBlock])).grown hg85 (by have := HG81.out.size; simp at this ⊢; omega) (fun g hg => own_geW HO81.out hg)
          have HO85 := Lib.hid ho85
          have HB85 := Lib.hid hb85
          have hblk := HF9.out.blk.below hb85 gl9
          have e2 : w85.cell? ⟨g, 2, none⟩ = _ := hblk.cell 2
          have ef := hblk.frozen 2
          have el := hblk.lt
          clear hv85 ho85 hb85 hblk
          refine hK.out _ _ ?_ ?_
          · exact Go.Proofs.Ytedkcpncomgboaa.monok.moved (.grown hg85 (fun g hg => .inl (own_geW HO81.out hg))) (by decide)
          clear hK K
          try simp only [Act.put, List.setIfInBounds_toArray, List.set_cons_zero, List.set_cons_succ]
          (try rw [hw1])
          -- 17 Op.nilCheck (Operand.tmp 60)
          refine wpMonoK_take' 17 (v := ?_) rfl (by kernel_rfl) (by kernel_rfl) (by kernel_rfl) (fun _ _ _ h => h) (by rfl) ?_ ?_
          rotate_left
          · (intro W hSw; (first | (have hg := HF9.out.blk.drew.keeps (X := fun i => w9.heap.size ≤ i) hSw HNX.out; have k2 : W.cell? ⟨g, 2, none⟩ = some (.slice (some ⟨b, 0, none⟩) l.length _) := hg.cell 2; have gl := hg.lt) | skip)
             go_simp; first | done | rfl)
          try simp only [Act.put, List.setIfInBounds_toArray, List.set_cons_zero, List.set_cons_succ]
          (try rw [hw1])
          -- 18 Op.fieldAddr 68 (Operand.tmp 77) 2
          refine wpMonoK_take' 18 (v := ?_) rfl (by kernel_rfl) (by kernel_rfl) (by kernel_rfl) (fun _ _ _ h => h) (by rfl) ?_ ?_
          rotate_left
          · (intro W hSw; (first | (have hg := HF9.out.blk.drew.keeps (X := fun i => w9.heap.size ≤ i) hSw HNX.out; have k2 : W.cell? ⟨g, 2, none⟩ = some (.slice (some ⟨b, 0, none⟩) l.length _) := hg.cell 2; have gl := hg.lt) | skip)
             go_simp; first | done | rfl)
          try simp only [Act.put, List.setIfInBounds_toArray, List.set_cons_zero, List.set_cons_succ]
          (try rw [hw1])
          -- EFFECT 19 Op.store 25 (Operand.tmp 78) (Operand.tmp 76)
          refine wpMonoK_one' 19 (by kernel_rfl) rfl (by rfl) (fun K hK => ?_)
          go_simp
          refine hK.out _ _ ?_ ?_
          · exact Go.Proofs.Ytedkcpncomgboaa.monok.movedL (Keeps.set1 w85 g 2 _) (by decide)
          clear hK K
          try simp only [Act.put]
          refine wpMonoK_done (by kernel_rfl) ?_ _
          have HF11 := Lib.hid (HF9.out.putL (R' := fun i => (R' i ∨ w9.heap.size ≤ i) ∧ i < w85.heap.size) (L' := l.eraseIdx q) (vl' := .slice A85 (l.eraseIdx q).length c85) HB85.out HO85.out (by rw [List.length_eraseIdx_of_lt hq]; omega)
            (fun x hx => ⟨.inl (List.mem_of_mem_eraseIdx hx), HF.out.rng x (List.mem_of_mem_eraseIdx hx)⟩) (fun i hi => ⟨.inl hi, Nat.lt_of_lt_of_le (HF9.out.small i hi) HB85.out.size⟩) (fun i h1 h2 => ⟨.inr h1, h2⟩) (fun i hi => hi.2))
          have HO11 := Lib.hid (show Blk (w85.setCell ⟨g, 2, none⟩ (.slice A85 (l.eraseIdx q).length c85)) wr.heap.size 35 y.cells.toArray from (HO9.out.below HB85.out HO9.out.lt).keeps (Keeps.set1 w85 g 2 _) (fun e => by omega))
          have HK11 := Lib.hid (show Keeps (· = g) wo (w85.setCell ⟨g, 2, none⟩ (.slice A85 (l.eraseIdx q).length c85)) from (((Keeps.of_below HBR.out).trans (.of_below HB9.out)).trans (.of_below HB85.out)).trans (Keeps.set1 w85 g 2 _))
          have HVL := Lib.hid (show ∀ i, (Value.slice A85 (l.eraseIdx q).length c85).ownBlock = some i → wo.heap.size ≤ i from fun i hi => Nat.le_trans (Nat.le_trans hsr hs9) (HO85.out.lt i hi).1)
          have hs11 := HK11.out.size
          clear HRD HO81 HG81 HROW0 HR1 HR9 HE e2 ef el b2 HO9 HO85
          go_wp2_with fail
          generalize w85.setCell ⟨g, 2, none⟩ (.slice A85 (l.eraseIdx q).length c85) = w11 at *
          obtain ⟨A, c, hve, hva11⟩ := HF11.out.vec
          subst hve
          have HVA11 := Lib.hid hva11
          have ha16 := HF11.out.afew
          clear hva11
          refine wp_region_monoJ (fun b => b = g) [12] (by kernel_rfl) ?_
          -- 0 Op.move (Operand.tmp 0)
          refine wpMonoJ_take' 0 (v := ?_) rfl (by kernel_rfl) (by kernel_rfl) (by kernel_rfl) (by rfl) (fun _ _ _ h => h) (by rfl) ?_ ?_
          rotate_left
          · (intro W hSw; (first | (have hoW := HO11.out.drew.keeps (X := fun b => b = g) hSw (by omega); have y0 : W.cell? ⟨wr.heap.size, 0, none⟩ = some (.int .i64 y.r) := hoW.cell 0; have y1 : W.cell? ⟨wr.heap.size, 1, none⟩ = some (.int .i64 y.n) := hoW.cell 1; have yl := hoW.lt) | (have hgW := HF11.out.blk.drew.keeps (X := nobody) hSw (fun h => h); have a1 : W.cell? ⟨g, 1, none⟩ = some (.slice A a.length c) := hgW.cell 1; have al := hgW.lt) | skip)
             go_simp; first | done | rfl)
          try simp only [Act.put, List.setIfInBounds_toArray, List.set_cons_zero, List.set_cons_succ]
          -- 1 Op.move (Operand.tmp 0)
          refine wpMonoJ_take' 1 (v := ?_) rfl (by kernel_rfl) (by kernel_rfl) (by kernel_rfl) (by rfl) (fun _ _ _ h => h) (by rfl) ?_ ?_
          rotate_left
          · (intro W hSw; (first | (have hoW := HO11.out.drew.keeps (X := fun b => b = g) hSw (by omega); have y0 : W.cell? ⟨wr.heap.size, 0, none⟩ = some (.int .i64 y.r) := hoW.cell 0; have y1 : W.cell? ⟨wr.heap.size, 1, none⟩ = some (.int .i64 y.n) := hoW.cell 1; have yl := hoW.lt) | (have hgW := HF11.out.blk.drew.keeps (X := nobody) hSw (fun h => h); have a1 : W.cell? ⟨g, 1, none⟩ = some (.slice A a.length c) := hgW.cell 1; have al := hgW.lt) | skip)
             go_simp; first | done | rfl)
          try simp only [Act.put, List.setIfInBounds_toArray, List.set_cons_zero, List.set_cons_succ]
          -- 2 Op.nilCheck (Operand.tmp 80)
          refine wpMonoJ_take' 2 (v := ?_) rfl (by kernel_rfl) (by kernel_rfl) (by kernel_rfl) (by rfl) (fun _ _ _ h => h) (by rfl) ?_ ?_
          rotate_left
          · (intro W hSw; (first | (have hoW := HO11.out.drew.keeps (X := fun b => b = g) hSw (by omega); have y0 : W.cell? ⟨wr.heap.size, 0, none⟩ = some (.int .i64 y.r) := hoW.cell 0; have y1 : W.cell? ⟨wr.heap.size, 1, none⟩ = some (.int .i64 y.n) := hoW.cell 1; have yl := hoW.lt) | (have hgW := HF11.out.blk.drew.keeps (X := nobody) hSw (fun h => h); have a1 : W.cell? ⟨g, 1, none⟩ = some (.slice A a.length c) := hgW.cell 1; have al := hgW.lt) | skip)
             go_simp; first | done | rfl)
          try simp only [Act.put, List.setIfInBounds_toArray, List.set_cons_zero, List.set_cons_succ]
          -- 3 Op.fieldAddr 68 (Operand.tmp 81) 1
          refine wpMonoJ_take' 3 (v := ?_) rfl (by kernel_rfl) (by kernel_rfl) (by kernel_rfl) (by rfl) (fun _ _ _ h => h) (by rfl) ?_ ?_
          rotate_left
          · (intro W hSw; (first | (have hoW := HO11.out.drew.keeps (X := fun b => b = g) hSw (by omega); have y0 : W.cell? ⟨wr.heap.size, 0, none⟩ = some (.int .i64 y.r) := hoW.cell 0; have y1 : W.cell? ⟨wr.heap.size, 1, none⟩ = some (.int .i64 y.n) := hoW.cell 1; have yl := hoW.lt) | (have hgW := HF11.out.blk.drew.keeps (X := nobody) hSw (fun h => h); have a1 : W.cell? ⟨g, 1, none⟩ = some (.slice A a.length c) := hgW.cell 1; have al := hgW.lt) | skip)
             go_simp; first | done | rfl)
          try simp only [Act.put, List.setIfInBounds_toArray, List.set_cons_zero, List.set_cons_succ]
          -- 4 Op.load 26 (Operand.tmp 82)
          refine wpMonoJ_read' 4 [9, 10, 11, 12] (v := ?_) rfl (by kernel_rfl) (by kernel_rfl) (by kernel_rfl) (by rfl) (by kernel_rfl) (by rfl) (fun _ _ _ h => h) (by rfl) ?_ ?_
          rotate_left
          · (intro W hSw; (first | (have hoW := HO11.out.drew.keeps (X := fun b => b = g) hSw (by omega); have y0 : W.cell? ⟨wr.heap.size, 0, none⟩ = some (.int .i64 y.r) := hoW.cell 0; have y1 : W.cell? ⟨wr.heap.size, 1, none⟩ = some (.int .i64 y.n) := hoW.cell 1; have yl := hoW.lt) | (have hgW := HF11.out.blk.drew.keeps (X := nobody) hSw (fun h => h); have a1 : W.cell? ⟨g, 1, none⟩ = some (.slice A a.length c) := hgW.cell 1; have al := hgW.lt) | skip)
             go_simp; first | done | rfl)
          try simp only [Act.put, List.setIfInBounds_toArray, List.set_cons_zero, List.set_cons_succ]
          -- 5 Op.fieldAddr 35 (Operand.tmp 6) 0
          refine wpMonoJ_take' 5 (v := ?_) rfl (by kernel_rfl) (by kernel_rfl) (by kernel_rfl) (by rfl) (fun _ _ _ h => h) (by rfl) ?_ ?_
          rotate_left
          · (intro W hSw; (first | (have hoW := HO11.out.drew.keeps (X := fun b => b = g) hSw (by omega); have y0 : W.cell? ⟨wr.heap.size, 0, none⟩ = some (.int .i64 y.r) := hoW.cell 0; have y1 : W.cell? ⟨wr.heap.size, 1, none⟩ = some (.int .i64 y.n) := hoW.cell 1; have yl := hoW.lt) | (have hgW := HF11.out.blk.drew.keeps (X := nobody) hSw (fun h => h); have a1 : W.cell? ⟨g, 1, none⟩ = some (.slice A a.length c) := hgW.cell 1; have al := hgW.lt) | skip)
             go_simp; first | done | rfl)
          try simp only [Act.put, List.setIfInBounds_toArray, List.set_cons_zero, List.set_cons_succ]
          -- 6 Op.load 3 (Operand.tmp 84)
          refine wpMonoJ_take' 6 (v := ?_) rfl (by kernel_rfl) (by kernel_rfl) (by kernel_rfl) (by rfl) (fun _ _ _ h => h) (by rfl) ?_ ?_
          rotate_left
          · (intro W hSw; (first | (have hoW := HO11.out.drew.keeps (X := fun b => b = g) hSw (by omega); have y0 : W.cell? ⟨wr.heap.size, 0, none⟩ = some (.int .i64 y.r) := hoW.cell 0; have y1 : W.cell? ⟨wr.heap.size, 1, none⟩ = some (.int .i64 y.n) := hoW.cell 1; have yl := hoW.lt) | (have hgW := HF11.out.blk.drew.keeps (X := nobody) hSw (fun h => h); have a1 : W.cell? ⟨g, 1, none⟩ = some (.slice A a.length c) := hgW.cell 1; have al := hgW.lt) | skip)
             go_simp; first | done | rfl)
          try simp only [Act.put, List.setIfInBounds_toArray, List.set_cons_zero, List.set_cons_succ]
          -- 7 Op.fieldAddr 35 (Operand.tmp 6) 1
          refine wpMonoJ_take' 7 (v := ?_) rfl (by kernel_rfl) (by kernel_rfl) (by kernel_rfl) (by rfl) (fun _ _ _ h => h) (by rfl) ?_ ?_
          rotate_left
          · (intro W hSw; (first | (have hoW := HO11.out.drew.keeps (X := fun b => b = g) hSw (by omega); have y0 : W.cell? ⟨wr.heap.size, 0, none⟩ = some (.int .i64 y.r) := hoW.cell 0; have y1 : W.cell? ⟨wr.heap.size, 1, none⟩ = some (.int .i64 y.n) := hoW.cell 1; have yl := hoW.lt) | (have hgW := HF11.out.blk.drew.keeps (X := nobody) hSw (fun h => h); have a1 : W.cell? ⟨g, 1, none⟩ = some (.slice A a.length c) := hgW.cell 1; have al := hgW.lt) | skip)
             go_simp; first | done | rfl)
          try simp only [Act.put, List.setIfInBounds_toArray, List.set_cons_zero, List.set_cons_succ]
          -- 8 Op.load 3 (Operand.tmp 86)
          refine wpMonoJ_take' 8 (v := ?_) rfl (by kernel_rfl) (by kernel_rfl) (by kernel_rfl) (by rfl) (fun _ _ _ h => h) (by rfl) ?_ ?_
          rotate_left
          · (intro W hSw; (first | (have hoW := HO11.out.drew.keeps (X := fun b => b = g) hSw (by omega); have y0 : W.cell? ⟨wr.heap.size, 0, none⟩ = some (.int .i64 y.r) := hoW.cell 0; have y1 : W.cell? ⟨wr.heap.size, 1, none⟩ = some (.int .i64 y.n) := hoW.cell 1; have yl := hoW.lt) | (have hgW := HF11.out.blk.drew.keeps (X := nobody) hSw (fun h => h); have a1 : W.cell? ⟨g, 1, none⟩ = some (.slice A a.length c) := hgW.cell 1; have al := hgW.lt) | skip)
             go_simp; first | done | rfl)
          try simp only [Act.put, List.setIfInBounds_toArray, List.set_cons_zero, List.set_cons_succ]
          -- EFFECT 9 Op.call { callee := Callee.value (Operand.func 11), args := #[Operand.tmp 83, Operand.tmp 85, Operand.tmp 87], argTypes := #[26, 3, 3] }
          refine wpMonoJ_one' 9 (by kernel_rfl) rfl (by rfl) (fun K hK => ?_)
          go_simp
          refine (with_ref A a.length c a y.r y.n w11.drew (show Vec w11.drew w11.drew.heap.size A a.length c a from HVA11.out.below ((Below.refl _ w11).drew)) (by omega)).mono ?_
          rintro e w12 ⟨va', rfl, hown, hb12⟩
          obtain ⟨A5, c5, rfl⟩ := ownsRow_slice hown
          have hbw12 := below_ofDrew hb12
          have hg12 := HF11.out.blk.below hbw12 HF11.out.blk.lt
          have e1 : w12.cell? ⟨g, 1, none⟩ = some (.slice A a.length c) := hg12.cell 1
          have ef := hg12.frozen 1
          have el := hg12.lt
          have HG12 := Lib.hid hg12
          have HOWN := Lib.hid hown
          have HBW12 := Lib.hid hbw12
          clear hown hbw12 hg12
          refine hK.out _ _ ?_ ?_
          · exact .of_below hb12
          clear hK K
          try simp only [Act.put, List.setIfInBounds_toArray, List.set_cons_zero, List.set_cons_succ]
          -- 10 Op.nilCheck (Operand.tmp 79)
          refine wpMonoJ_take' 10 (v := ?_) rfl (by kernel_rfl) (by kernel_rfl) (by kernel_rfl) (by rfl) (fun _ _ _ h => h) (by rfl) ?_ ?_
          rotate_left
          · (intro W hSw; (first | (have hoW := HO11.out.drew.keeps (X := fun b => b = g) hSw (by omega); have y0 : W.cell? ⟨wr.heap.size, 0, none⟩ = some (.int .i64 y.r) := hoW.cell 0; have y1 : W.cell? ⟨wr.heap.size, 1, none⟩ = some (.int .i64 y.n) := hoW.cell 1; have yl := hoW.lt) | (have hgW := HF11.out.blk.drew.keeps (X := nobody) hSw (fun h => h); have a1 : W.cell? ⟨g, 1, none⟩ = some (.slice A a.length c) := hgW.cell 1; have al := hgW.lt) | skip)
             go_simp; first | done | rfl)
          try simp only [Act.put, List.setIfInBounds_toArray, List.set_cons_zero, List.set_cons_succ]
          -- 11 Op.fieldAddr 68 (Operand.tmp 89) 1
          refine wpMonoJ_take' 11 (v := ?_) rfl (by kernel_rfl) (by kernel_rfl) (by kernel_rfl) (by rfl) (fun _ _ _ h => h) (by rfl) ?_ ?_
          rotate_left
          · (intro W hSw; (first | (have hoW := HO11.out.drew.keeps (X := fun b => b = g) hSw (by omega); have y0 : W.cell? ⟨wr.heap.size, 0, none⟩ = some (.int .i64 y.r) := hoW.cell 0; have y1 : W.cell? ⟨wr.heap.size, 1, none⟩ = some (.int .i64 y.n) := hoW.cell 1; have yl := hoW.lt) | (have hgW := HF11.out.blk.drew.keeps (X := nobody) hSw (fun h => h); have a1 : W.cell? ⟨g, 1, none⟩ = some (.slice A a.length c) := hgW.cell 1; have al := hgW.lt) | skip)
             go_simp; first | done | rfl)
          try simp only [Act.put, List.setIfInBounds_toArray, List.set_cons_zero, List.set_cons_succ]
          -- EFFECT 12 Op.store 26 (Operand.tmp 90) (Operand.tmp 88)
          refine wpMonoJ_one' 12 (by kernel_rfl) rfl (by rfl) (fun K hK => ?_)
          go_simp
          refine hK.out _ _ ?_ ?_
          · exact Go.Proofs.Ytedkcpncomgboaa.monoj.moved (Keeps.set1 w12 g 1 _) (by decide)
          clear hK K
          try simp only [Act.put]
          refine wpMonoJ_done (by kernel_rfl) ?_ _
          have hwl : (withL a y.r y.n).length ≤ 16 := with_len ha16
          have HF12 := Lib.hid (HF11.out.putA (R' := fun i => (((R' i ∨ w9.heap.size ≤ i) ∧ i < w85.heap.size) ∨ w11.heap.size ≤ i) ∧ i < w12.heap.size) (ap' := withL a y.r y.n) (va' := .slice A5 (withL a y.r y.n).length c5) HBW12.out HOWN.out hwl
            (fun r => by rw [atV_with _ _ _ _ HRG.out.1]; split; (have := HRG.out.2; omega); exact HF.out.apb r)
            (fun i hi => ⟨.inl hi, Nat.lt_of_lt_of_le (HF11.out.small i hi) HBW12.out.size⟩) (fun i h1 h2 => ⟨.inr h1, h2⟩) (fun i hi => hi.2))
          have ho13 : Blk (w12.setCell ⟨g, 1, none⟩ (.slice A5 (withL a y.r y.n).length c5)) wr.heap.size 35 y.cells.toArray := (HO11.out.below HBW12.out HO11.out.lt).keeps (Keeps.set1 w12 g 1 _) (fun e => by omega)
          have HO13 := Lib.hid ho13
          have HK13 := Lib.hid (show Keeps (· = g) wo (w12.setCell ⟨g, 1, none⟩ (.slice A5 (withL a y.r y.n).length c5)) from (HK11.out.trans (.of_below HBW12.out)).trans (Keeps.set1 w12 g 1 _))
          have HT := Lib.hid (show ∀ i, ((((R' i ∨ w9.heap.size ≤ i) ∧ i < w85.heap.size) ∨ w11.heap.size ≤ i) ∧ i < w12.heap.size) → R' i ∨ wo.heap.size ≤ i from fun i h => by
            rcases h.1 with ⟨h | h, _⟩ | h
            · exact .inl h
            · exact .inr (by omega)
            · exact .inr (by omega))
          have HA5 := Lib.hid (show ∀ i, (Value.slice A5 (withL a y.r y.n).length c5).ownBlock = some i → wo.heap.size ≤ i from fun i hi => Nat.le_trans hs11 (HOWN.out.lt i hi).1)
          generalize w12.setCell ⟨g, 1, none⟩ (.slice A5 (withL a y.r y.n).length c5) = w13 at *
          clear ho13
          have HQ := Lib.hid (show ∀ q v, y.cells[q]? = some v → w13.cell? ⟨wr.heap.size, 0 + q, none⟩ = some v from fun q v hq => by rw [Nat.zero_add, HO13.out.cell q]; simpa using hq)
          have hgv : (Value.slice A6 out.length c6).ownBlock ≠ some g := own_blk_ne HROW.out HF.out.blk (by decide)
          have HROW13 := Lib.hid (own_keeps HROW.out HK13.out fun i hi e => hgv (by rw [hi, show i = g from e]))
          have HB14 := Lib.hid (below_new w13 (.cells y.cells.toArray 35))
          have HROW14 := Lib.hid (own_keeps HROW13.out (X := nobody) (.of_below HB14.out) (fun _ _ h => h))
          have HR14 := Lib.hid (show Reads (w13.alloc (.cells y.cells.toArray 35)) (w13.heap.size + 1) 10 (some ⟨w13.heap.size, 0, none⟩) 1 y.cells by
            have h9 := reads_blk (size := 10) (n := 1) (Blk.new w13 35 y.cells.toArray) (by simp [Wr.len])
            simpa using h9)
          have HL := Lib.hid (show out.length ≤ 1000 by have h1 := HST.out.ws_len; have h2 := H.out.wfew; omega)
          clear hgv
          go_wp2_with (first | ((with_reducible refine wpList_load_at ?_ 35 (.tmp 6) ?_ wr.heap.size 0 y.cells ?_ Try.underlying35 ?_ ?_ HQ.out ?_); rfl; rfl; rfl; rfl; (rw [Wr.len]; kernel_rfl)) | ((with_reducible refine wpList_one ?_ (.tmp 92) ?_ y ?_ ?_); rfl; rfl; rfl) | (at_builtin; refine wpList_append_any _ rfl (.tmp 91) (.tmp 93) _ rfl 0 35 i0 _ 10 120 Try.underlying25 Hi0.out Hz0.out Hz1.out Hz2.out rfl (by decide) (.slice A6 out.length c6) out.length _ rfl HROW14.out (w13.heap.size + 1) (some ⟨w13.heap.size, 0, none⟩) 1 1 y.cells rfl HR14.out (oneW y hone) (by have := HL.out; unfold maxLen; omega) (by have := HL.out; omega) (Nat.zero_le _) ?_; intro v6 w6 ho6 hg6 hv6; obtain ⟨A7, c7, rfl⟩ := ownsRow_slice ho6; have Ho6 := Lib.hid ho6; have Hg6 := Lib.hid hg6; have Hv6 := Lib.hid hv6; clear ho6 hg6 hv6))
          go_roundw
          case rel =>
            obtain ⟨S3, h3⟩ := DrainQ.next HST.out HF.out HNUM.out HVO.out HROW.out HK.out HS'.out hq HY.out HKR.out HKN.out HK13.out HF12.out HT.out HA5.out HVL.out HB14.out Ho6.out Hg6.out Hv6.out
            exact ⟨_, _, _, S3, h3⟩
          case measure => have := HST.out.ws_len; simp [slen]; omega
        · have HRD := Lib.hid (fun (W : World) (h : Reads W w9.heap.size 10 (some ⟨b, 0, none⟩) l.length (l.flatMap Wr.cells)) => (by
            rcases Nat.eq_or_lt_of_le (show q + 1 ≤ l.length by omega) with e | e
            · exact ⟨by rw [len_flat Wr.cells Wr.len, List.length_drop], fun h0 => absurd h0 (by omega)⟩
            · have := Reads.dropAt Wr.cells Wr.len (k := q + 1) h e
              rwa [Nat.zero_add] at this : Reads W w9.heap.size 10 (some ⟨b, (q + 1) * 10, none⟩) (l.length - (q + 1)) ((l.drop (q + 1)).flatMap Wr.cells)))
          refine wp_region_monoK (fun i => w9.heap.size ≤ i) [1, 8, 16] (fun i => i = g) [19] (by kernel_rfl) ?_
          -- 0 Op.move (Operand.tmp 0)
          refine wpMonoK_take' 0 (v := ?_) rfl (by kernel_rfl) (by kernel_rfl) (by kernel_rfl) (fun _ _ _ h => h) (by rfl) ?_ ?_
          rotate_left
          · (intro W hSw; (first | (have hg := HF9.out.blk.drew.keeps (X := fun i => w9.heap.size ≤ i) hSw HNX.out; have k2 : W.cell? ⟨g, 2, none⟩ = some (.slice (some ⟨b, 0, none⟩) l.length _) := hg.cell 2; have gl := hg.lt) | skip)
             go_simp; first | done | rfl)
          try simp only [Act.put, List.setIfInBounds_toArray, List.set_cons_zero, List.set_cons_succ]
          (try rw [hw1])
          -- 2 Op.move (Operand.tmp 0)
          refine wpMonoK_take' 2 (v := ?_) rfl (by kernel_rfl) (by kernel_rfl) (by kernel_rfl) (fun _ _ _ h => h) (by rfl) ?_ ?_
          rotate_left
          · (intro W hSw; (first | (have hg := HF9.out.blk.drew.keeps (X := fun i => w9.heap.size ≤ i) hSw HNX.out; have k2 : W.cell? ⟨g, 2, none⟩ = some (.slice (some ⟨b, 0, none⟩) l.length _) := hg.cell 2; have gl := hg.lt) | skip)
             go_simp; first | done | rfl)
          try simp only [Act.put, List.setIfInBounds_toArray, List.set_cons_zero, List.set_cons_succ]
          (try rw [hw1])
          -- 3 Op.nilCheck (Operand.tmp 62)
          refine wpMonoK_take' 3 (v := ?_) rfl (by kernel_rfl) (by kernel_rfl) (by kernel_rfl) (fun _ _ _ h => h) (by rfl) ?_ ?_
          rotate_left
          · (intro W hSw; (first | (have hg := HF9.out.blk.drew.keeps (X := fun i => w9.heap.size ≤ i) hSw HNX.out; have k2 : W.cell? ⟨g, 2, none⟩ = some (.slice (some ⟨b, 0, none⟩) l.length _) := hg.cell 2; have gl := hg.lt) | skip)
             go_simp; first | done | rfl)
          try simp only [Act.put, List.setIfInBounds_toArray, List.set_cons_zero, List.set_cons_succ]
          (try rw [hw1])
          -- 4 Op.fieldAddr 68 (Operand.tmp 63) 2
          refine wpMonoK_take' 4 (v := ?_) rfl (by kernel_rfl) (by kernel_rfl) (by kernel_rfl) (fun _ _ _ h => h) (by rfl) ?_ ?_
          rotate_left
          · (intro W hSw; (first | (have hg := HF9.out.blk.drew.keeps (X := fun i => w9.heap.size ≤ i) hSw HNX.out; have k2 : W.cell? ⟨g, 2, none⟩ = some (.slice (some ⟨b, 0, none⟩) l.length _) := hg.cell 2; have gl := hg.lt) | skip)
             go_simp; first | done | rfl)
          try simp only [Act.put, List.setIfInBounds_toArray, List.set_cons_zero, List.set_cons_succ]
          (try rw [hw1])
          -- 5 Op.load 25 (Operand.tmp 64)
          refine wpMonoK_read' 5 [7, 8, 16, 17, 18, 19] (v := ?_) rfl (by kernel_rfl) (by kernel_rfl) (by kernel_rfl) (by kernel_rfl) (by rfl) (fun _ _ _ h => h) (by rfl) ?_ ?_
          rotate_left
          · (intro W hSw; (first | (have hg := HF9.out.blk.drew.keeps (X := fun i => w9.heap.size ≤ i) hSw HNX.out; have k2 : W.cell? ⟨g, 2, none⟩ = some (.slice (some ⟨b, 0, none⟩) l.length _) := hg.cell 2; have gl := hg.lt) | skip)
             go_simp; first | done | rfl)
          try simp only [Act.put, List.setIfInBounds_toArray, List.set_cons_zero, List.set_cons_succ]
          (try rw [hw1])
          -- 6 Op.move (Operand.tmp 4)
          refine wpMonoK_take' 6 (v := ?_) rfl (by kernel_rfl) (by kernel_rfl) (by kernel_rfl) (fun _ _ _ h => h) (by rfl) ?_ ?_
          rotate_left
          · (intro W hSw; (first | (have hg := HF9.out.blk.drew.keeps (X := fun i => w9.heap.size ≤ i) hSw HNX.out; have k2 : W.cell? ⟨g, 2, none⟩ = some (.slice (some ⟨b, 0, none⟩) l.length _) := hg.cell 2; have gl := hg.lt) | skip)
             go_simp; first | done | rfl)
          try simp only [Act.put, List.setIfInBounds_toArray, List.set_cons_zero, List.set_cons_succ]
          (try rw [hw1])
          -- 7 Op.slice 25 (Operand.tmp 65) none (some (Operand.tmp 66)) none
          refine wpMonoK_take' 7 (v := ?_) rfl (by kernel_rfl) (by kernel_rfl) (by kernel_rfl) (fun _ _ _ h => h) (by rfl) ?_ ?_
          rotate_left
          · (intro W hSw; (first | (have hg := HF9.out.blk.drew.keeps (X := fun i => w9.heap.size ≤ i) hSw HNX.out; have k2 : W.cell? ⟨g, 2, none⟩ = some (.slice (some ⟨b, 0, none⟩) l.length _) := hg.cell 2; have gl := hg.lt) | skip)
             go_simp; first | done | rfl)
          try simp only [Act.put, List.setIfInBounds_toArray, List.set_cons_zero, List.set_cons_succ]
          (try rw [hw1])
          -- 9 Op.move (Operand.tmp 0)
          refine wpMonoK_take' 9 (v := ?_) rfl (by kernel_rfl) (by kernel_rfl) (by kernel_rfl) (fun _ _ _ h => h) (by rfl) ?_ ?_
          rotate_left
          · (intro W hSw; (first | (have hg := HF9.out.blk.drew.keeps (X := fun i => w9.heap.size ≤ i) hSw HNX.out; have k2 : W.cell? ⟨g, 2, none⟩ = some (.slice (some ⟨b, 0, none⟩) l.length _) := hg.cell 2; have gl := hg.lt) | skip)
             go_simp; first | done | rfl)
          try simp only [Act.put, List.setIfInBounds_toArray, List.set_cons_zero, List.set_cons_succ]
          (try rw [hw1])
          -- 10 Op.nilCheck (Operand.tmp 69)
          refine wpMonoK_take' 10 (v := ?_) rfl (by kernel_rfl) (by kernel_rfl) (by kernel_rfl) (fun _ _ _ h => h) (by rfl) ?_ ?_
          rotate_left
          · (intro W hSw; (first | (have hg := HF9.out.blk.drew.keeps (X := fun i => w9.heap.size ≤ i) hSw HNX.out; have k2 : W.cell? ⟨g, 2, none⟩ = some (.slice (some ⟨b, 0, none⟩) l.length _) := hg.cell 2; have gl := hg.lt) | skip)
             go_simp; first | done | rfl)
          try simp only [Act.put, List.setIfInBounds_toArray, List.set_cons_zero, List.set_cons_succ]
          (try rw [hw1])
          -- 11 Op.fieldAddr 68 (Operand.tmp 70) 2
          refine wpMonoK_take' 11 (v := ?_) rfl (by kernel_rfl) (by kernel_rfl) (by kernel_rfl) (fun _ _ _ h => h) (by rfl) ?_ ?_
          rotate_left
          · (intro W hSw; (first | (have hg := HF9.out.blk.drew.keeps (X := fun i => w9.heap.size ≤ i) hSw HNX.out; have k2 : W.cell? ⟨g, 2, none⟩ = some (.slice (some ⟨b, 0, none⟩) l.length _) := hg.cell 2; have gl := hg.lt) | skip)
             go_simp; first | done | rfl)
          try simp only [Act.put, List.setIfInBounds_toArray, List.set_cons_zero, List.set_cons_succ]
          (try rw [hw1])
          -- 12 Op.load 25 (Operand.tmp 71)
          refine wpMonoK_read' 12 [15, 16, 17, 18, 19] (v := ?_) rfl (by kernel_rfl) (by kernel_rfl) (by kernel_rfl) (by kernel_rfl) (by rfl) (fun _ _ _ h => h) (by rfl) ?_ ?_
          rotate_left
          · (intro W hSw; (first | (have hg := HF9.out.blk.drew.keeps (X := fun i => w9.heap.size ≤ i) hSw HNX.out; have k2 : W.cell? ⟨g, 2, none⟩ = some (.slice (some ⟨b, 0, none⟩) l.length _) := hg.cell 2; have gl := hg.lt) | skip)
             go_simp; first | done | rfl)
          try simp only [Act.put, List.setIfInBounds_toArray, List.set_cons_zero, List.set_cons_succ]
          (try rw [hw1])
          -- 13 Op.move (Operand.tmp 4)
          refine wpMonoK_take' 13 (v := ?_) rfl (by kernel_rfl) (by kernel_rfl) (by kernel_rfl) (fun _ _ _ h => h) (by rfl) ?_ ?_
          rotate_left
          · (intro W hSw; (first | (have hg := HF9.out.blk.drew.keeps (X := fun i => w9.heap.size ≤ i) hSw HNX.out; have k2 : W.cell? ⟨g, 2, none⟩ = some (.slice (some ⟨b, 0, none⟩) l.length _) := hg.cell 2; have gl := hg.lt) | skip)
             go_simp; first | done | rfl)
          try simp only [Act.put, List.setIfInBounds_toArray, List.set_cons_zero, List.set_cons_succ]
          (try rw [hw1])
          -- 14 Op.binOp BinOp.add 3 (Operand.tmp 73) (Operand.const (Value.int IntKind.i64 1)) 3
          refine wpMonoK_take' 14 (v := ?_) rfl (by kernel_rfl) (by kernel_rfl) (by kernel_rfl) (fun _ _ _ h => h) (by rfl) ?_ ?_
          rotate_left
          · (intro W hSw; (first | (have hg := HF9.out.blk.drew.keeps (X := fun i => w9.heap.size ≤ i) hSw HNX.out; have k2 : W.cell? ⟨g, 2, none⟩ = some (.slice (some ⟨b, 0, none⟩) l.length _) := hg.cell 2; have gl := hg.lt) | skip)
             go_simp; first | done | rfl)
          try simp only [Act.put, List.setIfInBounds_toArray, List.set_cons_zero, List.set_cons_succ]
          (try rw [hw1])
          -- 15 Op.slice 25 (Operand.tmp 72) (some (Operand.tmp 74)) none none
          refine wpMonoK_take' 15 (v := ?_) rfl (by kernel_rfl) (by kernel_rfl) (by kernel_rfl) (fun _ _ _ h => h) (by rfl) ?_ ?_
          rotate_left
          · (intro W hSw; (first | (have hg := HF9.out.blk.drew.keeps (X := fun i => w9.heap.size ≤ i) hSw HNX.out; have k2 : W.cell? ⟨g, 2, none⟩ = some (.slice (some ⟨b, 0, none⟩) l.length _) := hg.cell 2; have gl := hg.lt) | skip)
             go_simp; first | done | rfl)
          try simp only [Act.put, List.setIfInBounds_toArray, List.set_cons_zero, List.set_cons_succ]
          (try rw [hw1])
          -- EFFECT 1 Op.buildSlice 25 0 #[]
          refine wpMonoK_one' 1 (by kernel_rfl) rfl (by rfl) (fun K hK => ?_)
          go_simp
          refine hK.out _ _ ?_ ?_
          · exact Go.Proofs.Ytedkcpncomgboaa.monok.stays ⟨rfl, rfl, rfl, by simp, fun i hi _ => Below.heap_alloc w9 _ i hi⟩
          clear hK K
          try simp only [Act.put, List.setIfInBounds_toArray, List.set_cons_zero, List.set_cons_succ]
          (try rw [hw1])
          -- EFFECT 8 Op.call { callee := Callee.builtin Builtin.append, args := #[Operand.tmp 61, Operand.tmp 67], argTypes := #[25, 25] }
          refine wpMonoK_one' 8 (by kernel_rfl) rfl (by rfl) (fun K hK => ?_)
          refine wp_append_any _ (.tmp 61) (.tmp 67) _ (by rfl) w9.heap.size 35 i0 _ 10 120 Try.underlying25 Hi0.out Hz0.out Hz1.out Hz2.out rfl (by omega) (.slice (some ⟨w9.heap.size, 0, none⟩) 0 0) 0 [] (by rfl) HROW0.out _ _ q _ ((l.take q).flatMap Wr.cells) (by rfl) (Reads.takeAt Wr.cells Wr.len (k := q) HR1.out hqn hq0) (fun u hu => HONE.out u (by rw [← flat_take Wr.cells Wr.len] at hu; exact List.mem_of_mem_take hu)) (by unfold maxLen; omega) (by omega) (by simp) fun v81 w81 ho81 hg81 hv81 => ?_
          simp only [Nat.zero_add, List.nil_append] at ho81
          have HO81 := Lib.hid ho81
          have HG81 := Lib.hid hg81
          clear hv81
          refine hK.out _ _ ?_ ?_
          · exact Go.Proofs.Ytedkcpncomgboaa.monok.moved (.grown hg81 (fun g hg => .inl (by simp [Value.ownBlock] at hg; omega))) (by decide)
          clear hK K
          try simp only [Act.put, List.setIfInBounds_toArray, List.set_cons_zero, List.set_cons_succ]
          (try rw [hw1])
          -- EFFECT 16 Op.call { callee := Callee.builtin Builtin.append, args := #[Operand.tmp 68, Operand.tmp 75], argTypes := #[25, 25] }
          refine wpMonoK_one' 16 (by kernel_rfl) rfl (by rfl) (fun K hK => ?_)
          refine wp_append_any _ (.tmp 68) (.tmp 75) _ (by rfl) w9.heap.size 35 i0 _ 10 120 Try.underlying25 Hi0.out Hz0.out Hz1.out Hz2.out rfl (by omega) v81 q _ (by rfl) HO81.out _ _ (l.length - (q + 1)) _ ((l.drop (q + 1)).flatMap Wr.cells) (by rfl) (HRD.out w81 (HR1.out.grown HG81.out (by simp) (by simp [Value.ownBlock]))) (fun u hu => HONE.out u (by rw [← flat_drop Wr.cells Wr.len] at hu; exact List.mem_of_mem_drop hu)) (by unfold maxLen; omega) (by omega) (by have := HG81.out.size; simp at this ⊢; omega) fun v85 w85 ho85 hg85 hv85 => ?_
          rw [← List.flatMap_append, ← List.eraseIdx_eq_take_drop_succ, HEL.out] at ho85
          obtain ⟨A85, c85, rfl⟩ := ownsRow_slice ho85
          have hb85 : Below w9.heap.size w9 w85 := ((((Below.refl w9.heap.size w9).alloc (Nat.le_refl _) (.cells #[] 35)).drew).grown HG81.out (by simp) (by simp [Value.ownBlock])).grown hg85 (by have := HG81.out.size; simp at this ⊢; omega) (fun g hg => own_geW HO81.out hg)
          have HO85 := Lib.hid ho85
          have HB85 := Lib.hid hb85
          have hblk := HF9.out.blk.below hb85 gl9
          have e2 : w85.cell? ⟨g, 2, none⟩ = _ := hblk.cell 2
          have ef := hblk.frozen 2
          have el := hblk.lt
          clear hv85 ho85 hb85 hblk
          refine hK.out _ _ ?_ ?_
          · exact Go.Proofs.Ytedkcpncomgboaa.monok.moved (.grown hg85 (fun g hg => .inl (own_geW HO81.out hg))) (by decide)
          clear hK K
          try simp only [Act.put, List.setIfInBounds_toArray, List.set_cons_zero, List.set_cons_succ]
          (try rw [hw1])
          -- 17 Op.nilCheck (Operand.tmp 60)
          refine wpMonoK_take' 17 (v := ?_) rfl (by kernel_rfl) (by kernel_rfl) (by kernel_rfl) (fun _ _ _ h => h) (by rfl) ?_ ?_
          rotate_left
          · (intro W hSw; (first | (have hg := HF9.out.blk.drew.keeps (X := fun i => w9.heap.size ≤ i) hSw HNX.out; have k2 : W.cell? ⟨g, 2, none⟩ = some (.slice (some ⟨b, 0, none⟩) l.length _) := hg.cell 2; have gl := hg.lt) | skip)
             go_simp; first | done | rfl)
          try simp only [Act.put, List.setIfInBounds_toArray, List.set_cons_zero, List.set_cons_succ]
          (try rw [hw1])
          -- 18 Op.fieldAddr 68 (Operand.tmp 77) 2
          refine wpMonoK_take' 18 (v := ?_) rfl (by kernel_rfl) (by kernel_rfl) (by kernel_rfl) (fun _ _ _ h => h) (by rfl) ?_ ?_
          rotate_left
          · (intro W hSw; (first | (have hg := HF9.out.blk.drew.keeps (X := fun i => w9.heap.size ≤ i) hSw HNX.out; have k2 : W.cell? ⟨g, 2, none⟩ = some (.slice (some ⟨b, 0, none⟩) l.length _) := hg.cell 2; have gl := hg.lt) | skip)
             go_simp; first | done | rfl)
          try simp only [Act.put, List.setIfInBounds_toArray, List.set_cons_zero, List.set_cons_succ]
          (try rw [hw1])
          -- EFFECT 19 Op.store 25 (Operand.tmp 78) (Operand.tmp 76)
          refine wpMonoK_one' 19 (by kernel_rfl) rfl (by rfl) (fun K hK => ?_)
          go_simp
          refine hK.out _ _ ?_ ?_
          · exact Go.Proofs.Ytedkcpncomgboaa.monok.movedL (Keeps.set1 w85 g 2 _) (by decide)
          clear hK K
          try simp only [Act.put]
          refine wpMonoK_done (by kernel_rfl) ?_ _
          have HF11 := Lib.hid (HF9.out.putL (R' := fun i => (R' i ∨ w9.heap.size ≤ i) ∧ i < w85.heap.size) (L' := l.eraseIdx q) (vl' := .slice A85 (l.eraseIdx q).length c85) HB85.out HO85.out (by rw [List.length_eraseIdx_of_lt hq]; omega)
            (fun x hx => ⟨.inl (List.mem_of_mem_eraseIdx hx), HF.out.rng x (List.mem_of_mem_eraseIdx hx)⟩) (fun i hi => ⟨.inl hi, Nat.lt_of_lt_of_le (HF9.out.small i hi) HB85.out.size⟩) (fun i h1 h2 => ⟨.inr h1, h2⟩) (fun i hi => hi.2))
          have HO11 := Lib.hid (show Blk (w85.setCell ⟨g, 2, none⟩ (.slice A85 (l.eraseIdx q).length c85)) wr.heap.size 35 y.cells.toArray from (HO9.out.below HB85.out HO9.out.lt).keeps (Keeps.set1 w85 g 2 _) (fun e => by omega))
          have HK11 := Lib.hid (show Keeps (· = g) wo (w85.setCell ⟨g, 2, none⟩ (.slice A85 (l.eraseIdx q).length c85)) from (((Keeps.of_below HBR.out).trans (.of_below HB9.out)).trans (.of_below HB85.out)).trans (Keeps.set1 w85 g 2 _))
          have HVL := Lib.hid (show ∀ i, (Value.slice A85 (l.eraseIdx q).length c85).ownBlock = some i → wo.heap.size ≤ i from fun i hi => Nat.le_trans (Nat.le_trans hsr hs9) (HO85.out.lt i hi).1)
          have hs11 := HK11.out.size
          clear HRD HO81 HG81 HROW0 HR1 HR9 HE e2 ef el b2 HO9 HO85
          go_wp2_with fail
          generalize w85.setCell ⟨g, 2, none⟩ (.slice A85 (l.eraseIdx q).length c85) = w11 at *
          obtain ⟨A, c, hve, hva11⟩ := HF11.out.vec
          subst hve
          have HVA11 := Lib.hid hva11
          have ha16 := HF11.out.afew
          clear hva11
          refine wp_region_monoJ (fun b => b = g) [12] (by kernel_rfl) ?_
          -- 0 Op.move (Operand.tmp 0)
          refine wpMonoJ_take' 0 (v := ?_) rfl (by kernel_rfl) (by kernel_rfl) (by kernel_rfl) (by rfl) (fun _ _ _ h => h) (by rfl) ?_ ?_
          rotate_left
          · (intro W hSw; (first | (have hoW := HO11.out.drew.keeps (X := fun b => b = g) hSw (by omega); have y0 : W.cell? ⟨wr.heap.size, 0, none⟩ = some (.int .i64 y.r) := hoW.cell 0; have y1 : W.cell? ⟨wr.heap.size, 1, none⟩ = some (.int .i64 y.n) := hoW.cell 1; have yl := hoW.lt) | (have hgW := HF11.out.blk.drew.keeps (X := nobody) hSw (fun h => h); have a1 : W.cell? ⟨g, 1, none⟩ = some (.slice A a.length c) := hgW.cell 1; have al := hgW.lt) | skip)
             go_simp; first | done | rfl)
          try simp only [Act.put, List.setIfInBounds_toArray, List.set_cons_zero, List.set_cons_succ]
          -- 1 Op.move (Operand.tmp 0)
          refine wpMonoJ_take' 1 (v := ?_) rfl (by kernel_rfl) (by kernel_rfl) (by kernel_rfl) (by rfl) (fun _ _ _ h => h) (by rfl) ?_ ?_
          rotate_left
          · (intro W hSw; (first | (have hoW := HO11.out.drew.keeps (X := fun b => b = g) hSw (by omega); have y0 : W.cell? ⟨wr.heap.size, 0, none⟩ = some (.int .i64 y.r) := hoW.cell 0; have y1 : W.cell? ⟨wr.heap.size, 1, none⟩ = some (.int .i64 y.n) := hoW.cell 1; have yl := hoW.lt) | (have hgW := HF11.out.blk.drew.keeps (X := nobody) hSw (fun h => h); have a1 : W.cell? ⟨g, 1, none⟩ = some (.slice A a.length c) := hgW.cell 1; have al := hgW.lt) | skip)
             go_simp; first | done | rfl)
          try simp only [Act.put, List.setIfInBounds_toArray, List.set_cons_zero, List.set_cons_succ]
          -- 2 Op.nilCheck (Operand.tmp 80)
          refine wpMonoJ_take' 2 (v := ?_) rfl (by kernel_rfl) (by kernel_rfl) (by kernel_rfl) (by rfl) (fun _ _ _ h => h) (by rfl) ?_ ?_
          rotate_left
          · (intro W hSw; (first | (have hoW := HO11.out.drew.keeps (X := fun b => b = g) hSw (by omega); have y0 : W.cell? ⟨wr.heap.size, 0, none⟩ = some (.int .i64 y.r) := hoW.cell 0; have y1 : W.cell? ⟨wr.heap.size, 1, none⟩ = some (.int .i64 y.n) := hoW.cell 1; have yl := hoW.lt) | (have hgW := HF11.out.blk.drew.keeps (X := nobody) hSw (fun h => h); have a1 : W.cell? ⟨g, 1, none⟩ = some (.slice A a.length c) := hgW.cell 1; have al := hgW.lt) | skip)
             go_simp; first | done | rfl)
          try simp only [Act.put, List.setIfInBounds_toArray, List.set_cons_zero, List.set_cons_succ]
          -- 3 Op.fieldAddr 68 (Operand.tmp 81) 1
          refine wpMonoJ_take' 3 (v := ?_) rfl (by kernel_rfl) (by kernel_rfl) (by kernel_rfl) (by rfl) (fun _ _ _ h => h) (by rfl) ?_ ?_
          rotate_left
          · (intro W hSw; (first | (have hoW := HO11.out.drew.keeps (X := fun b => b = g) hSw (by omega); have y0 : W.cell? ⟨wr.heap.size, 0, none⟩ = some (.int .i64 y.r) := hoW.cell 0; have y1 : W.cell? ⟨wr.heap.size, 1, none⟩ = some (.int .i64 y.n) := hoW.cell 1; have yl := hoW.lt) | (have hgW := HF11.out.blk.drew.keeps (X := nobody) hSw (fun h => h); have a1 : W.cell? ⟨g, 1, none⟩ = some (.slice A a.length c) := hgW.cell 1; have al := hgW.lt) | skip)
             go_simp; first | done | rfl)
          try simp only [Act.put, List.setIfInBounds_toArray, List.set_cons_zero, List.set_cons_succ]
          -- 4 Op.load 26 (Operand.tmp 82)
          refine wpMonoJ_read' 4 [9, 10, 11, 12] (v := ?_) rfl (by kernel_rfl) (by kernel_rfl) (by kernel_rfl) (by rfl) (by kernel_rfl) (by rfl) (fun _ _ _ h => h) (by rfl) ?_ ?_
          rotate_left
          · (intro W hSw; (first | (have hoW := HO11.out.drew.keeps (X := fun b => b = g) hSw (by omega); have y0 : W.cell? ⟨wr.heap.size, 0, none⟩ = some (.int .i64 y.r) := hoW.cell 0; have y1 : W.cell? ⟨wr.heap.size, 1, none⟩ = some (.int .i64 y.n) := hoW.cell 1; have yl := hoW.lt) | (have hgW := HF11.out.blk.drew.keeps (X := nobody) hSw (fun h => h); have a1 : W.cell? ⟨g, 1, none⟩ = some (.slice A a.length c) := hgW.cell 1; have al := hgW.lt) | skip)
             go_simp; first | done | rfl)
          try simp only [Act.put, List.setIfInBounds_toArray, List.set_cons_zero, List.set_cons_succ]
          -- 5 Op.fieldAddr 35 (Operand.tmp 6) 0
          refine wpMonoJ_take' 5 (v := ?_) rfl (by kernel_rfl) (by kernel_rfl) (by kernel_rfl) (by rfl) (fun _ _ _ h => h) (by rfl) ?_ ?_
          rotate_left
          · (intro W hSw; (first | (have hoW := HO11.out.drew.keeps (X := fun b => b = g) hSw (by omega); have y0 : W.cell? ⟨wr.heap.size, 0, none⟩ = some (.int .i64 y.r) := hoW.cell 0; have y1 : W.cell? ⟨wr.heap.size, 1, none⟩ = some (.int .i64 y.n) := hoW.cell 1; have yl := hoW.lt) | (have hgW := HF11.out.blk.drew.keeps (X := nobody) hSw (fun h => h); have a1 : W.cell? ⟨g, 1, none⟩ = some (.slice A a.length c) := hgW.cell 1; have al := hgW.lt) | skip)
             go_simp; first | done | rfl)
          try simp only [Act.put, List.setIfInBounds_toArray, List.set_cons_zero, List.set_cons_succ]
          -- 6 Op.load 3 (Operand.tmp 84)
          refine wpMonoJ_take' 6 (v := ?_) rfl (by kernel_rfl) (by kernel_rfl) (by kernel_rfl) (by rfl) (fun _ _ _ h => h) (by rfl) ?_ ?_
          rotate_left
          · (intro W hSw; (first | (have hoW := HO11.out.drew.keeps (X := fun b => b = g) hSw (by omega); have y0 : W.cell? ⟨wr.heap.size, 0, none⟩ = some (.int .i64 y.r) := hoW.cell 0; have y1 : W.cell? ⟨wr.heap.size, 1, none⟩ = some (.int .i64 y.n) := hoW.cell 1; have yl := hoW.lt) | (have hgW := HF11.out.blk.drew.keeps (X := nobody) hSw (fun h => h); have a1 : W.cell? ⟨g, 1, none⟩ = some (.slice A a.length c) := hgW.cell 1; have al := hgW.lt) | skip)
             go_simp; first | done | rfl)
          try simp only [Act.put, List.setIfInBounds_toArray, List.set_cons_zero, List.set_cons_succ]
          -- 7 Op.fieldAddr 35 (Operand.tmp 6) 1
          refine wpMonoJ_take' 7 (v := ?_) rfl (by kernel_rfl) (by kernel_rfl) (by kernel_rfl) (by rfl) (fun _ _ _ h => h) (by rfl) ?_ ?_
          rotate_left
          · (intro W hSw; (first | (have hoW := HO11.out.drew.keeps (X := fun b => b = g) hSw (by omega); have y0 : W.cell? ⟨wr.heap.size, 0, none⟩ = some (.int .i64 y.r) := hoW.cell 0; have y1 : W.cell? ⟨wr.heap.size, 1, none⟩ = some (.int .i64 y.n) := hoW.cell 1; have yl := hoW.lt) | (have hgW := HF11.out.blk.drew.keeps (X := nobody) hSw (fun h => h); have a1 : W.cell? ⟨g, 1, none⟩ = some (.slice A a.length c) := hgW.cell 1; have al := hgW.lt) | skip)
             go_simp; first | done | rfl)
          try simp only [Act.put, List.setIfInBounds_toArray, List.set_cons_zero, List.set_cons_succ]
          -- 8 Op.load 3 (Operand.tmp 86)
          refine wpMonoJ_take' 8 (v := ?_) rfl (by kernel_rfl) (by kernel_rfl) (by kernel_rfl) (by rfl) (fun _ _ _ h => h) (by rfl) ?_ ?_
          rotate_left
          · (intro W hSw; (first | (have hoW := HO11.out.drew.keeps (X := fun b => b = g) hSw (by omega); have y0 : W.cell? ⟨wr.heap.size, 0, none⟩ = some (.int .i64 y.r) := hoW.cell 0; have y1 : W.cell? ⟨wr.heap.size, 1, none⟩ = some (.int .i64 y.n) := hoW.cell 1; have yl := hoW.lt) | (have hgW := HF11.out.blk.drew.keeps (X := nobody) hSw (fun h => h); have a1 : W.cell? ⟨g, 1, none⟩ = some (.slice A a.length c) := hgW.cell 1; have al := hgW.lt) | skip)
             go_simp; first | done | rfl)
          try simp only [Act.put, List.setIfInBounds_toArray, List.set_cons_zero, List.set_cons_succ]
          -- EFFECT 9 Op.call { callee := Callee.value (Operand.func 11), args := #[Operand.tmp 83, Operand.tmp 85, Operand.tmp 87], argTypes := #[26, 3, 3] }
          refine wpMonoJ_one' 9 (by kernel_rfl) rfl (by rfl) (fun K hK => ?_)
          go_simp
          refine (with_ref A a.length c a y.r y.n w11.drew (show Vec w11.drew w11.drew.heap.size A a.length c a from HVA11.out.below ((Below.refl _ w11).drew)) (by omega)).mono ?_
          rintro e w12 ⟨va', rfl, hown, hb12⟩
          obtain ⟨A5, c5, rfl⟩ := ownsRow_slice hown
          have hbw12 := below_ofDrew hb12
          have hg12 := HF11.out.blk.below hbw12 HF11.out.blk.lt
          have e1 : w12.cell? ⟨g, 1, none⟩ = some (.slice A a.length c) := hg12.cell 1
          have ef := hg12.frozen 1
          have el := hg12.lt
          have HG12 := Lib.hid hg12
          have HOWN := Lib.hid hown
          have HBW12 := Lib.hid hbw12
          clear hown hbw12 hg12
          refine hK.out _ _ ?_ ?_
          · exact .of_below hb12
          clear hK K
          try simp only [Act.put, List.setIfInBounds_toArray, List.set_cons_zero, List.set_cons_succ]
          -- 10 Op.nilCheck (Operand.tmp 79)
          refine wpMonoJ_take' 10 (v := ?_) rfl (by kernel_rfl) (by kernel_rfl) (by kernel_rfl) (by rfl) (fun _ _ _ h => h) (by rfl) ?_ ?_
          rotate_left
          · (intro W hSw; (first | (have hoW := HO11.out.drew.keeps (X := fun b => b = g) hSw (by omega); have y0 : W.cell? ⟨wr.heap.size, 0, none⟩ = some (.int .i64 y.r) := hoW.cell 0; have y1 : W.cell? ⟨wr.heap.size, 1, none⟩ = some (.int .i64 y.n) := hoW.cell 1; have yl := hoW.lt) | (have hgW := HF11.out.blk.drew.keeps (X := nobody) hSw (fun h => h); have a1 : W.cell? ⟨g, 1, none⟩ = some (.slice A a.length c) := hgW.cell 1; have al := hgW.lt) | skip)
             go_simp; first | done | rfl)
          try simp only [Act.put, List.setIfInBounds_toArray, List.set_cons_zero, List.set_cons_succ]
          -- 11 Op.fieldAddr 68 (Operand.tmp 89) 1
          refine wpMonoJ_take' 11 (v := ?_) rfl (by kernel_rfl) (by kernel_rfl) (by kernel_rfl) (by rfl) (fun _ _ _ h => h) (by rfl) ?_ ?_
          rotate_left
          · (intro W hSw; (first | (have hoW := HO11.out.drew.keeps (X := fun b => b = g) hSw (by omega); have y0 : W.cell? ⟨wr.heap.size, 0, none⟩ = some (.int .i64 y.r) := hoW.cell 0; have y1 : W.cell? ⟨wr.heap.size, 1, none⟩ = some (.int .i64 y.n) := hoW.cell 1; have yl := hoW.lt) | (have hgW := HF11.out.blk.drew.keeps (X := nobody) hSw (fun h => h); have a1 : W.cell? ⟨g, 1, none⟩ = some (.slice A a.length c) := hgW.cell 1; have al := hgW.lt) | skip)
             go_simp; first | done | rfl)
          try simp only [Act.put, List.setIfInBounds_toArray, List.set_cons_zero, List.set_cons_succ]
          -- EFFECT 12 Op.store 26 (Operand.tmp 90) (Operand.tmp 88)
          refine wpMonoJ_one' 12 (by kernel_rfl) rfl (by rfl) (fun K hK => ?_)
          go_simp
          refine hK.out _ _ ?_ ?_
          · exact Go.Proofs.Ytedkcpncomgboaa.monoj.moved (Keeps.set1 w12 g 1 _) (by decide)
          clear hK K
          try simp only [Act.put]
          refine wpMonoJ_done (by kernel_rfl) ?_ _
          have hwl : (withL a y.r y.n).length ≤ 16 := with_len ha16
          have HF12 := Lib.hid (HF11.out.putA (R' := fun i => (((R' i ∨ w9.heap.size ≤ i) ∧ i < w85.heap.size) ∨ w11.heap.size ≤ i) ∧ i < w12.heap.size) (ap' := withL a y.r y.n) (va' := .slice A5 (withL a y.r y.n).length c5) HBW12.out HOWN.out hwl
            (fun r => by rw [atV_with _ _ _ _ HRG.out.1]; split; (have := HRG.out.2; omega); exact HF.out.apb r)
            (fun i hi => ⟨.inl hi, Nat.lt_of_lt_of_le (HF11.out.small i hi) HBW12.out.size⟩) (fun i h1 h2 => ⟨.inr h1, h2⟩) (fun i hi => hi.2))
          have ho13 : Blk (w12.setCell ⟨g, 1, none⟩ (.slice A5 (withL a y.r y.n).length c5)) wr.heap.size 35 y.cells.toArray := (HO11.out.below HBW12.out HO11.out.lt).keeps (Keeps.set1 w12 g 1 _) (fun e => by omega)
          have HO13 := Lib.hid ho13
          have HK13 := Lib.hid (show Keeps (· = g) wo (w12.setCell ⟨g, 1, none⟩ (.slice A5 (withL a y.r y.n).length c5)) from (HK11.out.trans (.of_below HBW12.out)).trans (Keeps.set1 w12 g 1 _))
          have HT := Lib.hid (show ∀ i, ((((R' i ∨ w9.heap.size ≤ i) ∧ i < w85.heap.size) ∨ w11.heap.size ≤ i) ∧ i < w12.heap.size) → R' i ∨ wo.heap.size ≤ i from fun i h => by
            rcases h.1 with ⟨h | h, _⟩ | h
            · exact .inl h
            · exact .inr (by omega)
            · exact .inr (by omega))
          have HA5 := Lib.hid (show ∀ i, (Value.slice A5 (withL a y.r y.n).length c5).ownBlock = some i → wo.heap.size ≤ i from fun i hi => Nat.le_trans hs11 (HOWN.out.lt i hi).1)
          generalize w12.setCell ⟨g, 1, none⟩ (.slice A5 (withL a y.r y.n).length c5) = w13 at *
          clear ho13
          have HQ := Lib.hid (show ∀ q v, y.cells[q]? = some v → w13.cell? ⟨wr.heap.size, 0 + q, none⟩ = some v from fun q v hq => by rw [Nat.zero_add, HO13.out.cell q]; simpa using hq)
          have hgv : (Value.slice A6 out.length c6).ownBlock ≠ some g := own_blk_ne HROW.out HF.out.blk (by decide)
          have HROW13 := Lib.hid (own_keeps HROW.out HK13.out fun i hi e => hgv (by rw [hi, show i = g from e]))
          have HB14 := Lib.hid (below_new w13 (.cells y.cells.toArray 35))
          have HROW14 := Lib.hid (own_keeps HROW13.out (X := nobody) (.of_below HB14.out) (fun _ _ h => h))
          have HR14 := Lib.hid (show Reads (w13.alloc (.cells y.cells.toArray 35)) (w13.heap.size + 1) 10 (some ⟨w13.heap.size, 0, none⟩) 1 y.cells by
            have h9 := reads_blk (size := 10) (n := 1) (Blk.new w13 35 y.cells.toArray) (by simp [Wr.len])
            simpa using h9)
          have HL := Lib.hid (show out.length ≤ 1000 by have h1 := HST.out.ws_len; have h2 := H.out.wfew; omega)
          clear hgv
          go_wp2_with (first | ((with_reducible refine wpList_load_at ?_ 35 (.tmp 6) ?_ wr.heap.size 0 y.cells ?_ Try.underlying35 ?_ ?_ HQ.out ?_); rfl; rfl; rfl; rfl; (rw [Wr.len]; kernel_rfl)) | ((with_reducible refine wpList_one ?_ (.tmp 92) ?_ y ?_ ?_); rfl; rfl; rfl) | (at_builtin; refine wpList_append_any _ rfl (.tmp 91) (.tmp 93) _ rfl 0 35 i0 _ 10 120 Try.underlying25 Hi0.out Hz0.out Hz1.out Hz2.out rfl (by decide) (.slice A6 out.length c6) out.length _ rfl HROW14.out (w13.heap.size + 1) (some ⟨w13.heap.size, 0, none⟩) 1 1 y.cells rfl HR14.out (oneW y hone) (by have := HL.out; unfold maxLen; omega) (by have := HL.out; omega) (Nat.zero_le _) ?_; intro v6 w6 ho6 hg6 hv6; obtain ⟨A7, c7, rfl⟩ := ownsRow_slice ho6; have Ho6 := Lib.hid ho6; have Hg6 := Lib.hid hg6; have Hv6 := Lib.hid hv6; clear ho6 hg6 hv6))
          go_roundw
          case rel =>
            obtain ⟨S3, h3⟩ := DrainQ.next HST.out HF.out HNUM.out HVO.out HROW.out HK.out HS'.out hq HY.out HKR.out HKN.out HK13.out HF12.out HT.out HA5.out HVL.out HB14.out Ho6.out Hg6.out Hv6.out
            exact ⟨_, _, _, S3, h3⟩
          case measure => have := HST.out.ws_len; simp [slen]; omega
end Go.Proofs.Ytedkcpncomgboaa.dep
